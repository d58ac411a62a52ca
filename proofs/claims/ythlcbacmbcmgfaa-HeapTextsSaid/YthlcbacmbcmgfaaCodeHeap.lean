/-
  Compact code, printed by a program of mine (wip/dev/AbsPrint.lean).
-/
import Derived.Test.YthlcbacmbcmgfaaTypes
set_option linter.unusedVariables false
namespace Go.Proofs.Ythlcbacmbcmgfaa.W
open Go.Abs
noncomputable section

/-! sheaf/heap.New[int] -/
abbrev F_heap_New_int : FuncId := 13
def c_heap_New_int_0 : MC := (.seq (.ops [⟨(some 3), .move (.tmp 0), none⟩,
    ⟨(some 4), .build 86 #[(0, (.tmp 3))], none⟩,
    ⟨(some 5), .box 86 (.tmp 4), none⟩,
    ⟨(some 2), .assign (.tmp 5), none⟩]) .ret)
@[go_sem] theorem c_heap_New_int_0_at (rd : Option Nat) (K : Post3) (t : Fr) (m : Mem) : wpM E 13 6 rd c_heap_New_int_0 K t m = wpM E 13 6 rd (.seq (.ops [⟨(some 3), .move (.tmp 0), none⟩,
    ⟨(some 4), .build 86 #[(0, (.tmp 3))], none⟩,
    ⟨(some 5), .box 86 (.tmp 4), none⟩,
    ⟨(some 2), .assign (.tmp 5), none⟩]) .ret) K t m := rfl

def c_heap_New_int_1 : MC := (.seq (.ops [⟨(some 2), .assign (.const (.pointer none)), none⟩]) c_heap_New_int_0)
@[go_sem] theorem c_heap_New_int_1_at (rd : Option Nat) (K : Post3) (t : Fr) (m : Mem) : wpM E 13 6 rd c_heap_New_int_1 K t m = wpM E 13 6 rd (.seq (.ops [⟨(some 2), .assign (.const (.pointer none)), none⟩]) c_heap_New_int_0) K t m := rfl

@[go_sem] theorem some13 : (E.fn 13).isSome = true := by kernel_rfl
set_option maxRecDepth 100000 in
theorem fn_heap_New_int : FnIs E 13 6 [.tmp 2] c_heap_New_int_1 := ⟨by kernel_rfl, by kernel_rfl⟩

/-! (*sheaf/heap.Heap[int]).Push -/
abbrev F_heap_Heap_int_Push : FuncId := 15
def c_heap_Heap_int_Push_0 : MC := (.cond (.tmp 23) .skip (.exit 0))
@[go_sem] theorem c_heap_Heap_int_Push_0_at (rd : Option Nat) (K : Post3) (t : Fr) (m : Mem) : wpM E 15 74 rd c_heap_Heap_int_Push_0 K t m = wpM E 15 74 rd (.cond (.tmp 23) .skip (.exit 0)) K t m := rfl

def c_heap_Heap_int_Push_1 : MC := (.seq (.ops [⟨(some 22), .move (.tmp 4), none⟩,
    ⟨(some 23), .binOp .gtr 3 (.tmp 22) (.const (.int .i64 0)) 3, none⟩]) c_heap_Heap_int_Push_0)
@[go_sem] theorem c_heap_Heap_int_Push_1_at (rd : Option Nat) (K : Post3) (t : Fr) (m : Mem) : wpM E 15 74 rd c_heap_Heap_int_Push_1 K t m = wpM E 15 74 rd (.seq (.ops [⟨(some 22), .move (.tmp 4), none⟩,
    ⟨(some 23), .binOp .gtr 3 (.tmp 22) (.const (.int .i64 0)) 3, none⟩]) c_heap_Heap_int_Push_0) K t m := rfl

def c_heap_Heap_int_Push_2 : MC := (.cond (.tmp 46) .ret .skip)
@[go_sem] theorem c_heap_Heap_int_Push_2_at (rd : Option Nat) (K : Post3) (t : Fr) (m : Mem) : wpM E 15 74 rd c_heap_Heap_int_Push_2 K t m = wpM E 15 74 rd (.cond (.tmp 46) .ret .skip) K t m := rfl

def c_heap_Heap_int_Push_3 : MC := (.seq (.ops [⟨(some 27), .move (.tmp 0), none⟩,
    ⟨(some 28), .nilCheck (.tmp 27), none⟩,
    ⟨(some 29), .fieldAddr 86 (.tmp 28) 0, none⟩,
    ⟨(some 30), .load 24 (.tmp 29), none⟩,
    ⟨(some 31), .move (.tmp 0), none⟩,
    ⟨(some 32), .nilCheck (.tmp 31), none⟩,
    ⟨(some 33), .fieldAddr 86 (.tmp 32) 1, none⟩,
    ⟨(some 34), .load 25 (.tmp 33), none⟩,
    ⟨(some 35), .move (.tmp 4), none⟩,
    ⟨(some 36), .indexAddr 25 (.tmp 34) (.tmp 35), none⟩,
    ⟨(some 37), .load 3 (.tmp 36), none⟩,
    ⟨(some 38), .move (.tmp 0), none⟩,
    ⟨(some 39), .nilCheck (.tmp 38), none⟩,
    ⟨(some 40), .fieldAddr 86 (.tmp 39) 1, none⟩,
    ⟨(some 41), .load 25 (.tmp 40), none⟩,
    ⟨(some 42), .move (.tmp 5), none⟩,
    ⟨(some 43), .indexAddr 25 (.tmp 41) (.tmp 42), none⟩,
    ⟨(some 44), .load 3 (.tmp 43), none⟩,
    ⟨(some 45), .call ⟨.value (.tmp 30), #[(.tmp 37), (.tmp 44)], #[3, 3]⟩, none⟩,
    ⟨(some 46), .unOp .not 4 (.tmp 45), none⟩]) c_heap_Heap_int_Push_2)
@[go_sem] theorem c_heap_Heap_int_Push_3_at (rd : Option Nat) (K : Post3) (t : Fr) (m : Mem) : wpM E 15 74 rd c_heap_Heap_int_Push_3 K t m = wpM E 15 74 rd (.seq (.ops [⟨(some 27), .move (.tmp 0), none⟩,
    ⟨(some 28), .nilCheck (.tmp 27), none⟩,
    ⟨(some 29), .fieldAddr 86 (.tmp 28) 0, none⟩,
    ⟨(some 30), .load 24 (.tmp 29), none⟩,
    ⟨(some 31), .move (.tmp 0), none⟩,
    ⟨(some 32), .nilCheck (.tmp 31), none⟩,
    ⟨(some 33), .fieldAddr 86 (.tmp 32) 1, none⟩,
    ⟨(some 34), .load 25 (.tmp 33), none⟩,
    ⟨(some 35), .move (.tmp 4), none⟩,
    ⟨(some 36), .indexAddr 25 (.tmp 34) (.tmp 35), none⟩,
    ⟨(some 37), .load 3 (.tmp 36), none⟩,
    ⟨(some 38), .move (.tmp 0), none⟩,
    ⟨(some 39), .nilCheck (.tmp 38), none⟩,
    ⟨(some 40), .fieldAddr 86 (.tmp 39) 1, none⟩,
    ⟨(some 41), .load 25 (.tmp 40), none⟩,
    ⟨(some 42), .move (.tmp 5), none⟩,
    ⟨(some 43), .indexAddr 25 (.tmp 41) (.tmp 42), none⟩,
    ⟨(some 44), .load 3 (.tmp 43), none⟩,
    ⟨(some 45), .call ⟨.value (.tmp 30), #[(.tmp 37), (.tmp 44)], #[3, 3]⟩, none⟩,
    ⟨(some 46), .unOp .not 4 (.tmp 45), none⟩]) c_heap_Heap_int_Push_2) K t m := rfl

def c_heap_Heap_int_Push_4 : MC := (.seq (.ops [⟨(some 47), .move (.tmp 0), none⟩,
    ⟨(some 48), .nilCheck (.tmp 47), none⟩,
    ⟨(some 49), .fieldAddr 86 (.tmp 48) 1, none⟩,
    ⟨(some 50), .load 25 (.tmp 49), none⟩,
    ⟨(some 51), .move (.tmp 4), none⟩,
    ⟨(some 52), .move (.tmp 0), none⟩,
    ⟨(some 53), .nilCheck (.tmp 52), none⟩,
    ⟨(some 54), .fieldAddr 86 (.tmp 53) 1, none⟩,
    ⟨(some 55), .load 25 (.tmp 54), none⟩,
    ⟨(some 56), .move (.tmp 5), none⟩,
    ⟨(some 57), .move (.tmp 0), none⟩,
    ⟨(some 58), .nilCheck (.tmp 57), none⟩,
    ⟨(some 59), .fieldAddr 86 (.tmp 58) 1, none⟩,
    ⟨(some 60), .load 25 (.tmp 59), none⟩,
    ⟨(some 61), .move (.tmp 5), none⟩,
    ⟨(some 62), .indexAddr 25 (.tmp 60) (.tmp 61), none⟩,
    ⟨(some 63), .load 3 (.tmp 62), none⟩,
    ⟨(some 64), .move (.tmp 0), none⟩,
    ⟨(some 65), .nilCheck (.tmp 64), none⟩,
    ⟨(some 66), .fieldAddr 86 (.tmp 65) 1, none⟩,
    ⟨(some 67), .load 25 (.tmp 66), none⟩,
    ⟨(some 68), .move (.tmp 4), none⟩,
    ⟨(some 69), .indexAddr 25 (.tmp 67) (.tmp 68), none⟩,
    ⟨(some 70), .load 3 (.tmp 69), none⟩,
    ⟨(some 71), .indexAddr 25 (.tmp 50) (.tmp 51), none⟩,
    ⟨none, .store 3 (.tmp 71) (.tmp 63), none⟩,
    ⟨(some 72), .indexAddr 25 (.tmp 55) (.tmp 56), none⟩,
    ⟨none, .store 3 (.tmp 72) (.tmp 70), none⟩]) (.ops [⟨(some 73), .move (.tmp 5), none⟩,
    ⟨(some 4), .assign (.tmp 73), none⟩]))
@[go_sem] theorem c_heap_Heap_int_Push_4_at (rd : Option Nat) (K : Post3) (t : Fr) (m : Mem) : wpM E 15 74 rd c_heap_Heap_int_Push_4 K t m = wpM E 15 74 rd (.seq (.ops [⟨(some 47), .move (.tmp 0), none⟩,
    ⟨(some 48), .nilCheck (.tmp 47), none⟩,
    ⟨(some 49), .fieldAddr 86 (.tmp 48) 1, none⟩,
    ⟨(some 50), .load 25 (.tmp 49), none⟩,
    ⟨(some 51), .move (.tmp 4), none⟩,
    ⟨(some 52), .move (.tmp 0), none⟩,
    ⟨(some 53), .nilCheck (.tmp 52), none⟩,
    ⟨(some 54), .fieldAddr 86 (.tmp 53) 1, none⟩,
    ⟨(some 55), .load 25 (.tmp 54), none⟩,
    ⟨(some 56), .move (.tmp 5), none⟩,
    ⟨(some 57), .move (.tmp 0), none⟩,
    ⟨(some 58), .nilCheck (.tmp 57), none⟩,
    ⟨(some 59), .fieldAddr 86 (.tmp 58) 1, none⟩,
    ⟨(some 60), .load 25 (.tmp 59), none⟩,
    ⟨(some 61), .move (.tmp 5), none⟩,
    ⟨(some 62), .indexAddr 25 (.tmp 60) (.tmp 61), none⟩,
    ⟨(some 63), .load 3 (.tmp 62), none⟩,
    ⟨(some 64), .move (.tmp 0), none⟩,
    ⟨(some 65), .nilCheck (.tmp 64), none⟩,
    ⟨(some 66), .fieldAddr 86 (.tmp 65) 1, none⟩,
    ⟨(some 67), .load 25 (.tmp 66), none⟩,
    ⟨(some 68), .move (.tmp 4), none⟩,
    ⟨(some 69), .indexAddr 25 (.tmp 67) (.tmp 68), none⟩,
    ⟨(some 70), .load 3 (.tmp 69), none⟩,
    ⟨(some 71), .indexAddr 25 (.tmp 50) (.tmp 51), none⟩,
    ⟨none, .store 3 (.tmp 71) (.tmp 63), none⟩,
    ⟨(some 72), .indexAddr 25 (.tmp 55) (.tmp 56), none⟩,
    ⟨none, .store 3 (.tmp 72) (.tmp 70), none⟩]) (.ops [⟨(some 73), .move (.tmp 5), none⟩,
    ⟨(some 4), .assign (.tmp 73), none⟩])) K t m := rfl

def c_heap_Heap_int_Push_5 : MC := (.seq c_heap_Heap_int_Push_3 c_heap_Heap_int_Push_4)
@[go_sem] theorem c_heap_Heap_int_Push_5_at (rd : Option Nat) (K : Post3) (t : Fr) (m : Mem) : wpM E 15 74 rd c_heap_Heap_int_Push_5 K t m = wpM E 15 74 rd (.seq c_heap_Heap_int_Push_3 c_heap_Heap_int_Push_4) K t m := rfl

def c_heap_Heap_int_Push_6 : MC := (.seq (.ops [⟨(some 24), .move (.tmp 4), none⟩,
    ⟨(some 25), .binOp .sub 3 (.tmp 24) (.const (.int .i64 1)) 3, none⟩,
    ⟨(some 26), .binOp .quo 3 (.tmp 25) (.const (.int .i64 2)) 3, none⟩,
    ⟨(some 5), .assign (.tmp 26), none⟩]) c_heap_Heap_int_Push_5)
@[go_sem] theorem c_heap_Heap_int_Push_6_at (rd : Option Nat) (K : Post3) (t : Fr) (m : Mem) : wpM E 15 74 rd c_heap_Heap_int_Push_6 K t m = wpM E 15 74 rd (.seq (.ops [⟨(some 24), .move (.tmp 4), none⟩,
    ⟨(some 25), .binOp .sub 3 (.tmp 24) (.const (.int .i64 1)) 3, none⟩,
    ⟨(some 26), .binOp .quo 3 (.tmp 25) (.const (.int .i64 2)) 3, none⟩,
    ⟨(some 5), .assign (.tmp 26), none⟩]) c_heap_Heap_int_Push_5) K t m := rfl

def c_heap_Heap_int_Push_7 : MC := (.block 1 c_heap_Heap_int_Push_6)
@[go_sem] theorem c_heap_Heap_int_Push_7_at (rd : Option Nat) (K : Post3) (t : Fr) (m : Mem) : wpM E 15 74 rd c_heap_Heap_int_Push_7 K t m = wpM E 15 74 rd (.block 1 c_heap_Heap_int_Push_6) K t m := rfl

def c_heap_Heap_int_Push_8 : MC := (.seq c_heap_Heap_int_Push_1 c_heap_Heap_int_Push_7)
@[go_sem] theorem c_heap_Heap_int_Push_8_at (rd : Option Nat) (K : Post3) (t : Fr) (m : Mem) : wpM E 15 74 rd c_heap_Heap_int_Push_8 K t m = wpM E 15 74 rd (.seq c_heap_Heap_int_Push_1 c_heap_Heap_int_Push_7) K t m := rfl

def c_heap_Heap_int_Push_9 : MC := (.loop c_heap_Heap_int_Push_8)
theorem c_heap_Heap_int_Push_9_at (rd : Option Nat) (K : Post3) (t : Fr) (m : Mem) : wpM E 15 74 rd c_heap_Heap_int_Push_9 K t m = wpM E 15 74 rd (.loop c_heap_Heap_int_Push_8) K t m := rfl

def c_heap_Heap_int_Push_10 : MC := (.block 0 c_heap_Heap_int_Push_9)
theorem c_heap_Heap_int_Push_10_at (rd : Option Nat) (K : Post3) (t : Fr) (m : Mem) : wpM E 15 74 rd c_heap_Heap_int_Push_10 K t m = wpM E 15 74 rd (.block 0 c_heap_Heap_int_Push_9) K t m := rfl

def c_heap_Heap_int_Push_11 : MC := (.seq (.ops [⟨(some 16), .move (.tmp 0), none⟩,
    ⟨(some 17), .nilCheck (.tmp 16), none⟩,
    ⟨(some 18), .fieldAddr 86 (.tmp 17) 1, none⟩,
    ⟨(some 19), .load 25 (.tmp 18), none⟩,
    ⟨(some 20), .call ⟨.builtin .len, #[(.tmp 19)], #[25]⟩, none⟩,
    ⟨(some 21), .binOp .sub 3 (.tmp 20) (.const (.int .i64 1)) 3, none⟩,
    ⟨(some 4), .assign (.tmp 21), none⟩]) c_heap_Heap_int_Push_10)
@[go_sem] theorem c_heap_Heap_int_Push_11_at (rd : Option Nat) (K : Post3) (t : Fr) (m : Mem) : wpM E 15 74 rd c_heap_Heap_int_Push_11 K t m = wpM E 15 74 rd (.seq (.ops [⟨(some 16), .move (.tmp 0), none⟩,
    ⟨(some 17), .nilCheck (.tmp 16), none⟩,
    ⟨(some 18), .fieldAddr 86 (.tmp 17) 1, none⟩,
    ⟨(some 19), .load 25 (.tmp 18), none⟩,
    ⟨(some 20), .call ⟨.builtin .len, #[(.tmp 19)], #[25]⟩, none⟩,
    ⟨(some 21), .binOp .sub 3 (.tmp 20) (.const (.int .i64 1)) 3, none⟩,
    ⟨(some 4), .assign (.tmp 21), none⟩]) c_heap_Heap_int_Push_10) K t m := rfl

def c_heap_Heap_int_Push_12 : MC := (.seq (.ops [⟨(some 6), .move (.tmp 0), none⟩,
    ⟨(some 7), .move (.tmp 0), none⟩,
    ⟨(some 8), .nilCheck (.tmp 7), none⟩,
    ⟨(some 9), .fieldAddr 86 (.tmp 8) 1, none⟩,
    ⟨(some 10), .load 25 (.tmp 9), none⟩,
    ⟨(some 11), .move (.tmp 1), none⟩,
    ⟨(some 12), .buildSlice 25 1 #[(0, (.tmp 11))], none⟩,
    ⟨(some 13), .call ⟨.builtin .append, #[(.tmp 10), (.tmp 12)], #[25, 25]⟩, none⟩,
    ⟨(some 14), .nilCheck (.tmp 6), none⟩,
    ⟨(some 15), .fieldAddr 86 (.tmp 14) 1, none⟩,
    ⟨none, .store 25 (.tmp 15) (.tmp 13), none⟩]) c_heap_Heap_int_Push_11)
@[go_sem] theorem c_heap_Heap_int_Push_12_at (rd : Option Nat) (K : Post3) (t : Fr) (m : Mem) : wpM E 15 74 rd c_heap_Heap_int_Push_12 K t m = wpM E 15 74 rd (.seq (.ops [⟨(some 6), .move (.tmp 0), none⟩,
    ⟨(some 7), .move (.tmp 0), none⟩,
    ⟨(some 8), .nilCheck (.tmp 7), none⟩,
    ⟨(some 9), .fieldAddr 86 (.tmp 8) 1, none⟩,
    ⟨(some 10), .load 25 (.tmp 9), none⟩,
    ⟨(some 11), .move (.tmp 1), none⟩,
    ⟨(some 12), .buildSlice 25 1 #[(0, (.tmp 11))], none⟩,
    ⟨(some 13), .call ⟨.builtin .append, #[(.tmp 10), (.tmp 12)], #[25, 25]⟩, none⟩,
    ⟨(some 14), .nilCheck (.tmp 6), none⟩,
    ⟨(some 15), .fieldAddr 86 (.tmp 14) 1, none⟩,
    ⟨none, .store 25 (.tmp 15) (.tmp 13), none⟩]) c_heap_Heap_int_Push_11) K t m := rfl

@[go_sem] theorem some15 : (E.fn 15).isSome = true := by kernel_rfl
set_option maxRecDepth 100000 in
theorem fn_heap_Heap_int_Push : FnIs E 15 74 [] c_heap_Heap_int_Push_12 := ⟨by kernel_rfl, by kernel_rfl⟩

/-! (*sheaf/heap.Heap[int]).Pop -/
abbrev F_heap_Heap_int_Pop : FuncId := 16
def c_heap_Heap_int_Pop_0 : MC := (.seq (.ops [⟨(some 15), .move (.tmp 4), none⟩,
    ⟨(some 2), .assign (.tmp 15), none⟩,
    ⟨(some 3), .assign (.const (.bool false)), none⟩]) .ret)
@[go_sem] theorem c_heap_Heap_int_Pop_0_at (rd : Option Nat) (K : Post3) (t : Fr) (m : Mem) : wpM E 16 53 rd c_heap_Heap_int_Pop_0 K t m = wpM E 16 53 rd (.seq (.ops [⟨(some 15), .move (.tmp 4), none⟩,
    ⟨(some 2), .assign (.tmp 15), none⟩,
    ⟨(some 3), .assign (.const (.bool false)), none⟩]) .ret) K t m := rfl

def c_heap_Heap_int_Pop_1 : MC := (.cond (.tmp 14) c_heap_Heap_int_Pop_0 .skip)
@[go_sem] theorem c_heap_Heap_int_Pop_1_at (rd : Option Nat) (K : Post3) (t : Fr) (m : Mem) : wpM E 16 53 rd c_heap_Heap_int_Pop_1 K t m = wpM E 16 53 rd (.cond (.tmp 14) c_heap_Heap_int_Pop_0 .skip) K t m := rfl

def c_heap_Heap_int_Pop_2 : MC := (.seq (.ops [⟨(some 13), .move (.tmp 5), none⟩,
    ⟨(some 14), .unOp .not 4 (.tmp 13), none⟩]) c_heap_Heap_int_Pop_1)
@[go_sem] theorem c_heap_Heap_int_Pop_2_at (rd : Option Nat) (K : Post3) (t : Fr) (m : Mem) : wpM E 16 53 rd c_heap_Heap_int_Pop_2 K t m = wpM E 16 53 rd (.seq (.ops [⟨(some 13), .move (.tmp 5), none⟩,
    ⟨(some 14), .unOp .not 4 (.tmp 13), none⟩]) c_heap_Heap_int_Pop_1) K t m := rfl

def c_heap_Heap_int_Pop_3 : MC := (.seq (.ops [⟨(some 52), .move (.tmp 4), none⟩,
    ⟨(some 2), .assign (.tmp 52), none⟩,
    ⟨(some 3), .assign (.const (.bool true)), none⟩]) .ret)
@[go_sem] theorem c_heap_Heap_int_Pop_3_at (rd : Option Nat) (K : Post3) (t : Fr) (m : Mem) : wpM E 16 53 rd c_heap_Heap_int_Pop_3 K t m = wpM E 16 53 rd (.seq (.ops [⟨(some 52), .move (.tmp 4), none⟩,
    ⟨(some 2), .assign (.tmp 52), none⟩,
    ⟨(some 3), .assign (.const (.bool true)), none⟩]) .ret) K t m := rfl

def c_heap_Heap_int_Pop_4 : MC := (.seq (.ops [⟨(some 50), .move (.tmp 0), none⟩,
    ⟨(some 51), .call ⟨.value (.func 41), #[(.tmp 50)], #[22]⟩, none⟩]) c_heap_Heap_int_Pop_3)
@[go_sem] theorem c_heap_Heap_int_Pop_4_at (rd : Option Nat) (K : Post3) (t : Fr) (m : Mem) : wpM E 16 53 rd c_heap_Heap_int_Pop_4 K t m = wpM E 16 53 rd (.seq (.ops [⟨(some 50), .move (.tmp 0), none⟩,
    ⟨(some 51), .call ⟨.value (.func 41), #[(.tmp 50)], #[22]⟩, none⟩]) c_heap_Heap_int_Pop_3) K t m := rfl

def c_heap_Heap_int_Pop_5 : MC := (.seq (.ops [⟨(some 41), .move (.tmp 0), none⟩,
    ⟨(some 42), .move (.tmp 0), none⟩,
    ⟨(some 43), .nilCheck (.tmp 42), none⟩,
    ⟨(some 44), .fieldAddr 86 (.tmp 43) 1, none⟩,
    ⟨(some 45), .load 25 (.tmp 44), none⟩,
    ⟨(some 46), .move (.tmp 6), none⟩,
    ⟨(some 47), .slice 25 (.tmp 45) none (some (.tmp 46)) none, none⟩,
    ⟨(some 48), .nilCheck (.tmp 41), none⟩,
    ⟨(some 49), .fieldAddr 86 (.tmp 48) 1, none⟩,
    ⟨none, .store 25 (.tmp 49) (.tmp 47), none⟩]) c_heap_Heap_int_Pop_4)
@[go_sem] theorem c_heap_Heap_int_Pop_5_at (rd : Option Nat) (K : Post3) (t : Fr) (m : Mem) : wpM E 16 53 rd c_heap_Heap_int_Pop_5 K t m = wpM E 16 53 rd (.seq (.ops [⟨(some 41), .move (.tmp 0), none⟩,
    ⟨(some 42), .move (.tmp 0), none⟩,
    ⟨(some 43), .nilCheck (.tmp 42), none⟩,
    ⟨(some 44), .fieldAddr 86 (.tmp 43) 1, none⟩,
    ⟨(some 45), .load 25 (.tmp 44), none⟩,
    ⟨(some 46), .move (.tmp 6), none⟩,
    ⟨(some 47), .slice 25 (.tmp 45) none (some (.tmp 46)) none, none⟩,
    ⟨(some 48), .nilCheck (.tmp 41), none⟩,
    ⟨(some 49), .fieldAddr 86 (.tmp 48) 1, none⟩,
    ⟨none, .store 25 (.tmp 49) (.tmp 47), none⟩]) c_heap_Heap_int_Pop_4) K t m := rfl

def c_heap_Heap_int_Pop_6 : MC := (.seq (.ops [⟨(some 22), .move (.tmp 0), none⟩,
    ⟨(some 23), .nilCheck (.tmp 22), none⟩,
    ⟨(some 24), .fieldAddr 86 (.tmp 23) 1, none⟩,
    ⟨(some 25), .load 25 (.tmp 24), none⟩,
    ⟨(some 26), .move (.tmp 0), none⟩,
    ⟨(some 27), .nilCheck (.tmp 26), none⟩,
    ⟨(some 28), .fieldAddr 86 (.tmp 27) 1, none⟩,
    ⟨(some 29), .load 25 (.tmp 28), none⟩,
    ⟨(some 30), .move (.tmp 6), none⟩,
    ⟨(some 31), .move (.tmp 0), none⟩,
    ⟨(some 32), .nilCheck (.tmp 31), none⟩,
    ⟨(some 33), .fieldAddr 86 (.tmp 32) 1, none⟩,
    ⟨(some 34), .load 25 (.tmp 33), none⟩,
    ⟨(some 35), .move (.tmp 6), none⟩,
    ⟨(some 36), .indexAddr 25 (.tmp 34) (.tmp 35), none⟩,
    ⟨(some 37), .load 3 (.tmp 36), none⟩,
    ⟨(some 38), .move (.tmp 7), none⟩,
    ⟨(some 39), .indexAddr 25 (.tmp 25) (.const (.int .i64 0)), none⟩,
    ⟨none, .store 3 (.tmp 39) (.tmp 37), none⟩,
    ⟨(some 40), .indexAddr 25 (.tmp 29) (.tmp 30), none⟩,
    ⟨none, .store 3 (.tmp 40) (.tmp 38), none⟩]) c_heap_Heap_int_Pop_5)
@[go_sem] theorem c_heap_Heap_int_Pop_6_at (rd : Option Nat) (K : Post3) (t : Fr) (m : Mem) : wpM E 16 53 rd c_heap_Heap_int_Pop_6 K t m = wpM E 16 53 rd (.seq (.ops [⟨(some 22), .move (.tmp 0), none⟩,
    ⟨(some 23), .nilCheck (.tmp 22), none⟩,
    ⟨(some 24), .fieldAddr 86 (.tmp 23) 1, none⟩,
    ⟨(some 25), .load 25 (.tmp 24), none⟩,
    ⟨(some 26), .move (.tmp 0), none⟩,
    ⟨(some 27), .nilCheck (.tmp 26), none⟩,
    ⟨(some 28), .fieldAddr 86 (.tmp 27) 1, none⟩,
    ⟨(some 29), .load 25 (.tmp 28), none⟩,
    ⟨(some 30), .move (.tmp 6), none⟩,
    ⟨(some 31), .move (.tmp 0), none⟩,
    ⟨(some 32), .nilCheck (.tmp 31), none⟩,
    ⟨(some 33), .fieldAddr 86 (.tmp 32) 1, none⟩,
    ⟨(some 34), .load 25 (.tmp 33), none⟩,
    ⟨(some 35), .move (.tmp 6), none⟩,
    ⟨(some 36), .indexAddr 25 (.tmp 34) (.tmp 35), none⟩,
    ⟨(some 37), .load 3 (.tmp 36), none⟩,
    ⟨(some 38), .move (.tmp 7), none⟩,
    ⟨(some 39), .indexAddr 25 (.tmp 25) (.const (.int .i64 0)), none⟩,
    ⟨none, .store 3 (.tmp 39) (.tmp 37), none⟩,
    ⟨(some 40), .indexAddr 25 (.tmp 29) (.tmp 30), none⟩,
    ⟨none, .store 3 (.tmp 40) (.tmp 38), none⟩]) c_heap_Heap_int_Pop_5) K t m := rfl

def c_heap_Heap_int_Pop_7 : MC := (.seq (.ops [⟨(some 7), .assign (.const (.int .i64 0)), none⟩]) c_heap_Heap_int_Pop_6)
@[go_sem] theorem c_heap_Heap_int_Pop_7_at (rd : Option Nat) (K : Post3) (t : Fr) (m : Mem) : wpM E 16 53 rd c_heap_Heap_int_Pop_7 K t m = wpM E 16 53 rd (.seq (.ops [⟨(some 7), .assign (.const (.int .i64 0)), none⟩]) c_heap_Heap_int_Pop_6) K t m := rfl

def c_heap_Heap_int_Pop_8 : MC := (.seq (.ops [⟨(some 16), .move (.tmp 0), none⟩,
    ⟨(some 17), .nilCheck (.tmp 16), none⟩,
    ⟨(some 18), .fieldAddr 86 (.tmp 17) 1, none⟩,
    ⟨(some 19), .load 25 (.tmp 18), none⟩,
    ⟨(some 20), .call ⟨.builtin .len, #[(.tmp 19)], #[25]⟩, none⟩,
    ⟨(some 21), .binOp .sub 3 (.tmp 20) (.const (.int .i64 1)) 3, none⟩,
    ⟨(some 6), .assign (.tmp 21), none⟩]) c_heap_Heap_int_Pop_7)
@[go_sem] theorem c_heap_Heap_int_Pop_8_at (rd : Option Nat) (K : Post3) (t : Fr) (m : Mem) : wpM E 16 53 rd c_heap_Heap_int_Pop_8 K t m = wpM E 16 53 rd (.seq (.ops [⟨(some 16), .move (.tmp 0), none⟩,
    ⟨(some 17), .nilCheck (.tmp 16), none⟩,
    ⟨(some 18), .fieldAddr 86 (.tmp 17) 1, none⟩,
    ⟨(some 19), .load 25 (.tmp 18), none⟩,
    ⟨(some 20), .call ⟨.builtin .len, #[(.tmp 19)], #[25]⟩, none⟩,
    ⟨(some 21), .binOp .sub 3 (.tmp 20) (.const (.int .i64 1)) 3, none⟩,
    ⟨(some 6), .assign (.tmp 21), none⟩]) c_heap_Heap_int_Pop_7) K t m := rfl

def c_heap_Heap_int_Pop_9 : MC := (.seq c_heap_Heap_int_Pop_2 c_heap_Heap_int_Pop_8)
@[go_sem] theorem c_heap_Heap_int_Pop_9_at (rd : Option Nat) (K : Post3) (t : Fr) (m : Mem) : wpM E 16 53 rd c_heap_Heap_int_Pop_9 K t m = wpM E 16 53 rd (.seq c_heap_Heap_int_Pop_2 c_heap_Heap_int_Pop_8) K t m := rfl

def c_heap_Heap_int_Pop_10 : MC := (.seq (.ops [⟨(some 9), .move (.tmp 0), none⟩,
    ⟨(some 10), .call ⟨.value (.func 19), #[(.tmp 9)], #[22]⟩, none⟩,
    ⟨(some 8), .move (.tmp 10), none⟩,
    ⟨(some 11), .extract (.tmp 8) 0, none⟩,
    ⟨(some 12), .extract (.tmp 8) 1, none⟩,
    ⟨(some 4), .assign (.tmp 11), none⟩,
    ⟨(some 5), .assign (.tmp 12), none⟩]) c_heap_Heap_int_Pop_9)
@[go_sem] theorem c_heap_Heap_int_Pop_10_at (rd : Option Nat) (K : Post3) (t : Fr) (m : Mem) : wpM E 16 53 rd c_heap_Heap_int_Pop_10 K t m = wpM E 16 53 rd (.seq (.ops [⟨(some 9), .move (.tmp 0), none⟩,
    ⟨(some 10), .call ⟨.value (.func 19), #[(.tmp 9)], #[22]⟩, none⟩,
    ⟨(some 8), .move (.tmp 10), none⟩,
    ⟨(some 11), .extract (.tmp 8) 0, none⟩,
    ⟨(some 12), .extract (.tmp 8) 1, none⟩,
    ⟨(some 4), .assign (.tmp 11), none⟩,
    ⟨(some 5), .assign (.tmp 12), none⟩]) c_heap_Heap_int_Pop_9) K t m := rfl

def c_heap_Heap_int_Pop_11 : MC := (.seq (.ops [⟨(some 2), .assign (.const (.int .i64 0)), none⟩,
    ⟨(some 3), .assign (.const (.bool false)), none⟩]) c_heap_Heap_int_Pop_10)
@[go_sem] theorem c_heap_Heap_int_Pop_11_at (rd : Option Nat) (K : Post3) (t : Fr) (m : Mem) : wpM E 16 53 rd c_heap_Heap_int_Pop_11 K t m = wpM E 16 53 rd (.seq (.ops [⟨(some 2), .assign (.const (.int .i64 0)), none⟩,
    ⟨(some 3), .assign (.const (.bool false)), none⟩]) c_heap_Heap_int_Pop_10) K t m := rfl

@[go_sem] theorem some16 : (E.fn 16).isSome = true := by kernel_rfl
set_option maxRecDepth 100000 in
theorem fn_heap_Heap_int_Pop : FnIs E 16 53 [.tmp 2, .tmp 3] c_heap_Heap_int_Pop_11 := ⟨by kernel_rfl, by kernel_rfl⟩

/-! (*sheaf/heap.Heap[int]).Len -/
abbrev F_heap_Heap_int_Len : FuncId := 18
def c_heap_Heap_int_Len_0 : MC := (.seq (.ops [⟨(some 3), .move (.tmp 0), none⟩,
    ⟨(some 4), .nilCheck (.tmp 3), none⟩,
    ⟨(some 5), .fieldAddr 86 (.tmp 4) 1, none⟩,
    ⟨(some 6), .load 25 (.tmp 5), none⟩,
    ⟨(some 7), .call ⟨.builtin .len, #[(.tmp 6)], #[25]⟩, none⟩,
    ⟨(some 2), .assign (.tmp 7), none⟩]) .ret)
@[go_sem] theorem c_heap_Heap_int_Len_0_at (rd : Option Nat) (K : Post3) (t : Fr) (m : Mem) : wpM E 18 8 rd c_heap_Heap_int_Len_0 K t m = wpM E 18 8 rd (.seq (.ops [⟨(some 3), .move (.tmp 0), none⟩,
    ⟨(some 4), .nilCheck (.tmp 3), none⟩,
    ⟨(some 5), .fieldAddr 86 (.tmp 4) 1, none⟩,
    ⟨(some 6), .load 25 (.tmp 5), none⟩,
    ⟨(some 7), .call ⟨.builtin .len, #[(.tmp 6)], #[25]⟩, none⟩,
    ⟨(some 2), .assign (.tmp 7), none⟩]) .ret) K t m := rfl

def c_heap_Heap_int_Len_1 : MC := (.seq (.ops [⟨(some 2), .assign (.const (.int .i64 0)), none⟩]) c_heap_Heap_int_Len_0)
@[go_sem] theorem c_heap_Heap_int_Len_1_at (rd : Option Nat) (K : Post3) (t : Fr) (m : Mem) : wpM E 18 8 rd c_heap_Heap_int_Len_1 K t m = wpM E 18 8 rd (.seq (.ops [⟨(some 2), .assign (.const (.int .i64 0)), none⟩]) c_heap_Heap_int_Len_0) K t m := rfl

@[go_sem] theorem some18 : (E.fn 18).isSome = true := by kernel_rfl
set_option maxRecDepth 100000 in
theorem fn_heap_Heap_int_Len : FnIs E 18 8 [.tmp 2] c_heap_Heap_int_Len_1 := ⟨by kernel_rfl, by kernel_rfl⟩

/-! (*sheaf/heap.Heap[int]).Top -/
abbrev F_heap_Heap_int_Top : FuncId := 19
def c_heap_Heap_int_Top_0 : MC := (.seq (.ops [⟨(some 11), .move (.tmp 4), none⟩,
    ⟨(some 2), .assign (.tmp 11), none⟩,
    ⟨(some 3), .assign (.const (.bool false)), none⟩]) .ret)
@[go_sem] theorem c_heap_Heap_int_Top_0_at (rd : Option Nat) (K : Post3) (t : Fr) (m : Mem) : wpM E 19 18 rd c_heap_Heap_int_Top_0 K t m = wpM E 19 18 rd (.seq (.ops [⟨(some 11), .move (.tmp 4), none⟩,
    ⟨(some 2), .assign (.tmp 11), none⟩,
    ⟨(some 3), .assign (.const (.bool false)), none⟩]) .ret) K t m := rfl

def c_heap_Heap_int_Top_1 : MC := (.seq (.ops [⟨(some 4), .assign (.const (.int .i64 0)), none⟩]) c_heap_Heap_int_Top_0)
@[go_sem] theorem c_heap_Heap_int_Top_1_at (rd : Option Nat) (K : Post3) (t : Fr) (m : Mem) : wpM E 19 18 rd c_heap_Heap_int_Top_1 K t m = wpM E 19 18 rd (.seq (.ops [⟨(some 4), .assign (.const (.int .i64 0)), none⟩]) c_heap_Heap_int_Top_0) K t m := rfl

def c_heap_Heap_int_Top_2 : MC := (.cond (.tmp 10) c_heap_Heap_int_Top_1 .skip)
@[go_sem] theorem c_heap_Heap_int_Top_2_at (rd : Option Nat) (K : Post3) (t : Fr) (m : Mem) : wpM E 19 18 rd c_heap_Heap_int_Top_2 K t m = wpM E 19 18 rd (.cond (.tmp 10) c_heap_Heap_int_Top_1 .skip) K t m := rfl

def c_heap_Heap_int_Top_3 : MC := (.seq (.ops [⟨(some 5), .move (.tmp 0), none⟩,
    ⟨(some 6), .nilCheck (.tmp 5), none⟩,
    ⟨(some 7), .fieldAddr 86 (.tmp 6) 1, none⟩,
    ⟨(some 8), .load 25 (.tmp 7), none⟩,
    ⟨(some 9), .call ⟨.builtin .len, #[(.tmp 8)], #[25]⟩, none⟩,
    ⟨(some 10), .binOp .eql 3 (.tmp 9) (.const (.int .i64 0)) 3, none⟩]) c_heap_Heap_int_Top_2)
@[go_sem] theorem c_heap_Heap_int_Top_3_at (rd : Option Nat) (K : Post3) (t : Fr) (m : Mem) : wpM E 19 18 rd c_heap_Heap_int_Top_3 K t m = wpM E 19 18 rd (.seq (.ops [⟨(some 5), .move (.tmp 0), none⟩,
    ⟨(some 6), .nilCheck (.tmp 5), none⟩,
    ⟨(some 7), .fieldAddr 86 (.tmp 6) 1, none⟩,
    ⟨(some 8), .load 25 (.tmp 7), none⟩,
    ⟨(some 9), .call ⟨.builtin .len, #[(.tmp 8)], #[25]⟩, none⟩,
    ⟨(some 10), .binOp .eql 3 (.tmp 9) (.const (.int .i64 0)) 3, none⟩]) c_heap_Heap_int_Top_2) K t m := rfl

def c_heap_Heap_int_Top_4 : MC := (.seq (.ops [⟨(some 12), .move (.tmp 0), none⟩,
    ⟨(some 13), .nilCheck (.tmp 12), none⟩,
    ⟨(some 14), .fieldAddr 86 (.tmp 13) 1, none⟩,
    ⟨(some 15), .load 25 (.tmp 14), none⟩,
    ⟨(some 16), .indexAddr 25 (.tmp 15) (.const (.int .i64 0)), none⟩,
    ⟨(some 17), .load 3 (.tmp 16), none⟩,
    ⟨(some 2), .assign (.tmp 17), none⟩,
    ⟨(some 3), .assign (.const (.bool true)), none⟩]) .ret)
@[go_sem] theorem c_heap_Heap_int_Top_4_at (rd : Option Nat) (K : Post3) (t : Fr) (m : Mem) : wpM E 19 18 rd c_heap_Heap_int_Top_4 K t m = wpM E 19 18 rd (.seq (.ops [⟨(some 12), .move (.tmp 0), none⟩,
    ⟨(some 13), .nilCheck (.tmp 12), none⟩,
    ⟨(some 14), .fieldAddr 86 (.tmp 13) 1, none⟩,
    ⟨(some 15), .load 25 (.tmp 14), none⟩,
    ⟨(some 16), .indexAddr 25 (.tmp 15) (.const (.int .i64 0)), none⟩,
    ⟨(some 17), .load 3 (.tmp 16), none⟩,
    ⟨(some 2), .assign (.tmp 17), none⟩,
    ⟨(some 3), .assign (.const (.bool true)), none⟩]) .ret) K t m := rfl

def c_heap_Heap_int_Top_5 : MC := (.seq c_heap_Heap_int_Top_3 c_heap_Heap_int_Top_4)
@[go_sem] theorem c_heap_Heap_int_Top_5_at (rd : Option Nat) (K : Post3) (t : Fr) (m : Mem) : wpM E 19 18 rd c_heap_Heap_int_Top_5 K t m = wpM E 19 18 rd (.seq c_heap_Heap_int_Top_3 c_heap_Heap_int_Top_4) K t m := rfl

def c_heap_Heap_int_Top_6 : MC := (.seq (.ops [⟨(some 2), .assign (.const (.int .i64 0)), none⟩,
    ⟨(some 3), .assign (.const (.bool false)), none⟩]) c_heap_Heap_int_Top_5)
@[go_sem] theorem c_heap_Heap_int_Top_6_at (rd : Option Nat) (K : Post3) (t : Fr) (m : Mem) : wpM E 19 18 rd c_heap_Heap_int_Top_6 K t m = wpM E 19 18 rd (.seq (.ops [⟨(some 2), .assign (.const (.int .i64 0)), none⟩,
    ⟨(some 3), .assign (.const (.bool false)), none⟩]) c_heap_Heap_int_Top_5) K t m := rfl

@[go_sem] theorem some19 : (E.fn 19).isSome = true := by kernel_rfl
set_option maxRecDepth 100000 in
theorem fn_heap_Heap_int_Top : FnIs E 19 18 [.tmp 2, .tmp 3] c_heap_Heap_int_Top_6 := ⟨by kernel_rfl, by kernel_rfl⟩

/-! sheaf/heap.New[sheaf/sheaflaw8.pair] -/
abbrev F_heap_New_sheaflaw8_pair : FuncId := 20
def c_heap_New_sheaflaw8_pair_0 : MC := (.seq (.ops [⟨(some 3), .move (.tmp 0), none⟩,
    ⟨(some 4), .build 89 #[(0, (.tmp 3))], none⟩,
    ⟨(some 5), .box 89 (.tmp 4), none⟩,
    ⟨(some 2), .assign (.tmp 5), none⟩]) .ret)
@[go_sem] theorem c_heap_New_sheaflaw8_pair_0_at (rd : Option Nat) (K : Post3) (t : Fr) (m : Mem) : wpM E 20 6 rd c_heap_New_sheaflaw8_pair_0 K t m = wpM E 20 6 rd (.seq (.ops [⟨(some 3), .move (.tmp 0), none⟩,
    ⟨(some 4), .build 89 #[(0, (.tmp 3))], none⟩,
    ⟨(some 5), .box 89 (.tmp 4), none⟩,
    ⟨(some 2), .assign (.tmp 5), none⟩]) .ret) K t m := rfl

def c_heap_New_sheaflaw8_pair_1 : MC := (.seq (.ops [⟨(some 2), .assign (.const (.pointer none)), none⟩]) c_heap_New_sheaflaw8_pair_0)
@[go_sem] theorem c_heap_New_sheaflaw8_pair_1_at (rd : Option Nat) (K : Post3) (t : Fr) (m : Mem) : wpM E 20 6 rd c_heap_New_sheaflaw8_pair_1 K t m = wpM E 20 6 rd (.seq (.ops [⟨(some 2), .assign (.const (.pointer none)), none⟩]) c_heap_New_sheaflaw8_pair_0) K t m := rfl

@[go_sem] theorem some20 : (E.fn 20).isSome = true := by kernel_rfl
set_option maxRecDepth 100000 in
theorem fn_heap_New_sheaflaw8_pair : FnIs E 20 6 [.tmp 2] c_heap_New_sheaflaw8_pair_1 := ⟨by kernel_rfl, by kernel_rfl⟩

/-! (*sheaf/heap.Heap[sheaf/sheaflaw8.pair]).Push -/
abbrev F_heap_Heap_sheaflaw8_pair_Push : FuncId := 22
def c_heap_Heap_sheaflaw8_pair_Push_0 : MC := (.cond (.tmp 23) .skip (.exit 0))
@[go_sem] theorem c_heap_Heap_sheaflaw8_pair_Push_0_at (rd : Option Nat) (K : Post3) (t : Fr) (m : Mem) : wpM E 22 74 rd c_heap_Heap_sheaflaw8_pair_Push_0 K t m = wpM E 22 74 rd (.cond (.tmp 23) .skip (.exit 0)) K t m := rfl

def c_heap_Heap_sheaflaw8_pair_Push_1 : MC := (.seq (.ops [⟨(some 22), .move (.tmp 4), none⟩,
    ⟨(some 23), .binOp .gtr 3 (.tmp 22) (.const (.int .i64 0)) 3, none⟩]) c_heap_Heap_sheaflaw8_pair_Push_0)
@[go_sem] theorem c_heap_Heap_sheaflaw8_pair_Push_1_at (rd : Option Nat) (K : Post3) (t : Fr) (m : Mem) : wpM E 22 74 rd c_heap_Heap_sheaflaw8_pair_Push_1 K t m = wpM E 22 74 rd (.seq (.ops [⟨(some 22), .move (.tmp 4), none⟩,
    ⟨(some 23), .binOp .gtr 3 (.tmp 22) (.const (.int .i64 0)) 3, none⟩]) c_heap_Heap_sheaflaw8_pair_Push_0) K t m := rfl

def c_heap_Heap_sheaflaw8_pair_Push_2 : MC := (.cond (.tmp 46) .ret .skip)
@[go_sem] theorem c_heap_Heap_sheaflaw8_pair_Push_2_at (rd : Option Nat) (K : Post3) (t : Fr) (m : Mem) : wpM E 22 74 rd c_heap_Heap_sheaflaw8_pair_Push_2 K t m = wpM E 22 74 rd (.cond (.tmp 46) .ret .skip) K t m := rfl

def c_heap_Heap_sheaflaw8_pair_Push_3 : MC := (.seq (.ops [⟨(some 27), .move (.tmp 0), none⟩,
    ⟨(some 28), .nilCheck (.tmp 27), none⟩,
    ⟨(some 29), .fieldAddr 89 (.tmp 28) 0, none⟩,
    ⟨(some 30), .load 40 (.tmp 29), none⟩,
    ⟨(some 31), .move (.tmp 0), none⟩,
    ⟨(some 32), .nilCheck (.tmp 31), none⟩,
    ⟨(some 33), .fieldAddr 89 (.tmp 32) 1, none⟩,
    ⟨(some 34), .load 87 (.tmp 33), none⟩,
    ⟨(some 35), .move (.tmp 4), none⟩,
    ⟨(some 36), .indexAddr 87 (.tmp 34) (.tmp 35), none⟩,
    ⟨(some 37), .load 39 (.tmp 36), none⟩,
    ⟨(some 38), .move (.tmp 0), none⟩,
    ⟨(some 39), .nilCheck (.tmp 38), none⟩,
    ⟨(some 40), .fieldAddr 89 (.tmp 39) 1, none⟩,
    ⟨(some 41), .load 87 (.tmp 40), none⟩,
    ⟨(some 42), .move (.tmp 5), none⟩,
    ⟨(some 43), .indexAddr 87 (.tmp 41) (.tmp 42), none⟩,
    ⟨(some 44), .load 39 (.tmp 43), none⟩,
    ⟨(some 45), .call ⟨.value (.tmp 30), #[(.tmp 37), (.tmp 44)], #[39, 39]⟩, none⟩,
    ⟨(some 46), .unOp .not 4 (.tmp 45), none⟩]) c_heap_Heap_sheaflaw8_pair_Push_2)
@[go_sem] theorem c_heap_Heap_sheaflaw8_pair_Push_3_at (rd : Option Nat) (K : Post3) (t : Fr) (m : Mem) : wpM E 22 74 rd c_heap_Heap_sheaflaw8_pair_Push_3 K t m = wpM E 22 74 rd (.seq (.ops [⟨(some 27), .move (.tmp 0), none⟩,
    ⟨(some 28), .nilCheck (.tmp 27), none⟩,
    ⟨(some 29), .fieldAddr 89 (.tmp 28) 0, none⟩,
    ⟨(some 30), .load 40 (.tmp 29), none⟩,
    ⟨(some 31), .move (.tmp 0), none⟩,
    ⟨(some 32), .nilCheck (.tmp 31), none⟩,
    ⟨(some 33), .fieldAddr 89 (.tmp 32) 1, none⟩,
    ⟨(some 34), .load 87 (.tmp 33), none⟩,
    ⟨(some 35), .move (.tmp 4), none⟩,
    ⟨(some 36), .indexAddr 87 (.tmp 34) (.tmp 35), none⟩,
    ⟨(some 37), .load 39 (.tmp 36), none⟩,
    ⟨(some 38), .move (.tmp 0), none⟩,
    ⟨(some 39), .nilCheck (.tmp 38), none⟩,
    ⟨(some 40), .fieldAddr 89 (.tmp 39) 1, none⟩,
    ⟨(some 41), .load 87 (.tmp 40), none⟩,
    ⟨(some 42), .move (.tmp 5), none⟩,
    ⟨(some 43), .indexAddr 87 (.tmp 41) (.tmp 42), none⟩,
    ⟨(some 44), .load 39 (.tmp 43), none⟩,
    ⟨(some 45), .call ⟨.value (.tmp 30), #[(.tmp 37), (.tmp 44)], #[39, 39]⟩, none⟩,
    ⟨(some 46), .unOp .not 4 (.tmp 45), none⟩]) c_heap_Heap_sheaflaw8_pair_Push_2) K t m := rfl

def c_heap_Heap_sheaflaw8_pair_Push_4 : MC := (.seq (.ops [⟨(some 47), .move (.tmp 0), none⟩,
    ⟨(some 48), .nilCheck (.tmp 47), none⟩,
    ⟨(some 49), .fieldAddr 89 (.tmp 48) 1, none⟩,
    ⟨(some 50), .load 87 (.tmp 49), none⟩,
    ⟨(some 51), .move (.tmp 4), none⟩,
    ⟨(some 52), .move (.tmp 0), none⟩,
    ⟨(some 53), .nilCheck (.tmp 52), none⟩,
    ⟨(some 54), .fieldAddr 89 (.tmp 53) 1, none⟩,
    ⟨(some 55), .load 87 (.tmp 54), none⟩,
    ⟨(some 56), .move (.tmp 5), none⟩,
    ⟨(some 57), .move (.tmp 0), none⟩,
    ⟨(some 58), .nilCheck (.tmp 57), none⟩,
    ⟨(some 59), .fieldAddr 89 (.tmp 58) 1, none⟩,
    ⟨(some 60), .load 87 (.tmp 59), none⟩,
    ⟨(some 61), .move (.tmp 5), none⟩,
    ⟨(some 62), .indexAddr 87 (.tmp 60) (.tmp 61), none⟩,
    ⟨(some 63), .load 39 (.tmp 62), none⟩,
    ⟨(some 64), .move (.tmp 0), none⟩,
    ⟨(some 65), .nilCheck (.tmp 64), none⟩,
    ⟨(some 66), .fieldAddr 89 (.tmp 65) 1, none⟩,
    ⟨(some 67), .load 87 (.tmp 66), none⟩,
    ⟨(some 68), .move (.tmp 4), none⟩,
    ⟨(some 69), .indexAddr 87 (.tmp 67) (.tmp 68), none⟩,
    ⟨(some 70), .load 39 (.tmp 69), none⟩,
    ⟨(some 71), .indexAddr 87 (.tmp 50) (.tmp 51), none⟩,
    ⟨none, .store 39 (.tmp 71) (.tmp 63), none⟩,
    ⟨(some 72), .indexAddr 87 (.tmp 55) (.tmp 56), none⟩,
    ⟨none, .store 39 (.tmp 72) (.tmp 70), none⟩]) (.ops [⟨(some 73), .move (.tmp 5), none⟩,
    ⟨(some 4), .assign (.tmp 73), none⟩]))
@[go_sem] theorem c_heap_Heap_sheaflaw8_pair_Push_4_at (rd : Option Nat) (K : Post3) (t : Fr) (m : Mem) : wpM E 22 74 rd c_heap_Heap_sheaflaw8_pair_Push_4 K t m = wpM E 22 74 rd (.seq (.ops [⟨(some 47), .move (.tmp 0), none⟩,
    ⟨(some 48), .nilCheck (.tmp 47), none⟩,
    ⟨(some 49), .fieldAddr 89 (.tmp 48) 1, none⟩,
    ⟨(some 50), .load 87 (.tmp 49), none⟩,
    ⟨(some 51), .move (.tmp 4), none⟩,
    ⟨(some 52), .move (.tmp 0), none⟩,
    ⟨(some 53), .nilCheck (.tmp 52), none⟩,
    ⟨(some 54), .fieldAddr 89 (.tmp 53) 1, none⟩,
    ⟨(some 55), .load 87 (.tmp 54), none⟩,
    ⟨(some 56), .move (.tmp 5), none⟩,
    ⟨(some 57), .move (.tmp 0), none⟩,
    ⟨(some 58), .nilCheck (.tmp 57), none⟩,
    ⟨(some 59), .fieldAddr 89 (.tmp 58) 1, none⟩,
    ⟨(some 60), .load 87 (.tmp 59), none⟩,
    ⟨(some 61), .move (.tmp 5), none⟩,
    ⟨(some 62), .indexAddr 87 (.tmp 60) (.tmp 61), none⟩,
    ⟨(some 63), .load 39 (.tmp 62), none⟩,
    ⟨(some 64), .move (.tmp 0), none⟩,
    ⟨(some 65), .nilCheck (.tmp 64), none⟩,
    ⟨(some 66), .fieldAddr 89 (.tmp 65) 1, none⟩,
    ⟨(some 67), .load 87 (.tmp 66), none⟩,
    ⟨(some 68), .move (.tmp 4), none⟩,
    ⟨(some 69), .indexAddr 87 (.tmp 67) (.tmp 68), none⟩,
    ⟨(some 70), .load 39 (.tmp 69), none⟩,
    ⟨(some 71), .indexAddr 87 (.tmp 50) (.tmp 51), none⟩,
    ⟨none, .store 39 (.tmp 71) (.tmp 63), none⟩,
    ⟨(some 72), .indexAddr 87 (.tmp 55) (.tmp 56), none⟩,
    ⟨none, .store 39 (.tmp 72) (.tmp 70), none⟩]) (.ops [⟨(some 73), .move (.tmp 5), none⟩,
    ⟨(some 4), .assign (.tmp 73), none⟩])) K t m := rfl

def c_heap_Heap_sheaflaw8_pair_Push_5 : MC := (.seq c_heap_Heap_sheaflaw8_pair_Push_3 c_heap_Heap_sheaflaw8_pair_Push_4)
@[go_sem] theorem c_heap_Heap_sheaflaw8_pair_Push_5_at (rd : Option Nat) (K : Post3) (t : Fr) (m : Mem) : wpM E 22 74 rd c_heap_Heap_sheaflaw8_pair_Push_5 K t m = wpM E 22 74 rd (.seq c_heap_Heap_sheaflaw8_pair_Push_3 c_heap_Heap_sheaflaw8_pair_Push_4) K t m := rfl

def c_heap_Heap_sheaflaw8_pair_Push_6 : MC := (.seq (.ops [⟨(some 24), .move (.tmp 4), none⟩,
    ⟨(some 25), .binOp .sub 3 (.tmp 24) (.const (.int .i64 1)) 3, none⟩,
    ⟨(some 26), .binOp .quo 3 (.tmp 25) (.const (.int .i64 2)) 3, none⟩,
    ⟨(some 5), .assign (.tmp 26), none⟩]) c_heap_Heap_sheaflaw8_pair_Push_5)
@[go_sem] theorem c_heap_Heap_sheaflaw8_pair_Push_6_at (rd : Option Nat) (K : Post3) (t : Fr) (m : Mem) : wpM E 22 74 rd c_heap_Heap_sheaflaw8_pair_Push_6 K t m = wpM E 22 74 rd (.seq (.ops [⟨(some 24), .move (.tmp 4), none⟩,
    ⟨(some 25), .binOp .sub 3 (.tmp 24) (.const (.int .i64 1)) 3, none⟩,
    ⟨(some 26), .binOp .quo 3 (.tmp 25) (.const (.int .i64 2)) 3, none⟩,
    ⟨(some 5), .assign (.tmp 26), none⟩]) c_heap_Heap_sheaflaw8_pair_Push_5) K t m := rfl

def c_heap_Heap_sheaflaw8_pair_Push_7 : MC := (.block 1 c_heap_Heap_sheaflaw8_pair_Push_6)
@[go_sem] theorem c_heap_Heap_sheaflaw8_pair_Push_7_at (rd : Option Nat) (K : Post3) (t : Fr) (m : Mem) : wpM E 22 74 rd c_heap_Heap_sheaflaw8_pair_Push_7 K t m = wpM E 22 74 rd (.block 1 c_heap_Heap_sheaflaw8_pair_Push_6) K t m := rfl

def c_heap_Heap_sheaflaw8_pair_Push_8 : MC := (.seq c_heap_Heap_sheaflaw8_pair_Push_1 c_heap_Heap_sheaflaw8_pair_Push_7)
@[go_sem] theorem c_heap_Heap_sheaflaw8_pair_Push_8_at (rd : Option Nat) (K : Post3) (t : Fr) (m : Mem) : wpM E 22 74 rd c_heap_Heap_sheaflaw8_pair_Push_8 K t m = wpM E 22 74 rd (.seq c_heap_Heap_sheaflaw8_pair_Push_1 c_heap_Heap_sheaflaw8_pair_Push_7) K t m := rfl

def c_heap_Heap_sheaflaw8_pair_Push_9 : MC := (.loop c_heap_Heap_sheaflaw8_pair_Push_8)
theorem c_heap_Heap_sheaflaw8_pair_Push_9_at (rd : Option Nat) (K : Post3) (t : Fr) (m : Mem) : wpM E 22 74 rd c_heap_Heap_sheaflaw8_pair_Push_9 K t m = wpM E 22 74 rd (.loop c_heap_Heap_sheaflaw8_pair_Push_8) K t m := rfl

def c_heap_Heap_sheaflaw8_pair_Push_10 : MC := (.block 0 c_heap_Heap_sheaflaw8_pair_Push_9)
theorem c_heap_Heap_sheaflaw8_pair_Push_10_at (rd : Option Nat) (K : Post3) (t : Fr) (m : Mem) : wpM E 22 74 rd c_heap_Heap_sheaflaw8_pair_Push_10 K t m = wpM E 22 74 rd (.block 0 c_heap_Heap_sheaflaw8_pair_Push_9) K t m := rfl

def c_heap_Heap_sheaflaw8_pair_Push_11 : MC := (.seq (.ops [⟨(some 16), .move (.tmp 0), none⟩,
    ⟨(some 17), .nilCheck (.tmp 16), none⟩,
    ⟨(some 18), .fieldAddr 89 (.tmp 17) 1, none⟩,
    ⟨(some 19), .load 87 (.tmp 18), none⟩,
    ⟨(some 20), .call ⟨.builtin .len, #[(.tmp 19)], #[87]⟩, none⟩,
    ⟨(some 21), .binOp .sub 3 (.tmp 20) (.const (.int .i64 1)) 3, none⟩,
    ⟨(some 4), .assign (.tmp 21), none⟩]) c_heap_Heap_sheaflaw8_pair_Push_10)
@[go_sem] theorem c_heap_Heap_sheaflaw8_pair_Push_11_at (rd : Option Nat) (K : Post3) (t : Fr) (m : Mem) : wpM E 22 74 rd c_heap_Heap_sheaflaw8_pair_Push_11 K t m = wpM E 22 74 rd (.seq (.ops [⟨(some 16), .move (.tmp 0), none⟩,
    ⟨(some 17), .nilCheck (.tmp 16), none⟩,
    ⟨(some 18), .fieldAddr 89 (.tmp 17) 1, none⟩,
    ⟨(some 19), .load 87 (.tmp 18), none⟩,
    ⟨(some 20), .call ⟨.builtin .len, #[(.tmp 19)], #[87]⟩, none⟩,
    ⟨(some 21), .binOp .sub 3 (.tmp 20) (.const (.int .i64 1)) 3, none⟩,
    ⟨(some 4), .assign (.tmp 21), none⟩]) c_heap_Heap_sheaflaw8_pair_Push_10) K t m := rfl

def c_heap_Heap_sheaflaw8_pair_Push_12 : MC := (.seq (.ops [⟨(some 6), .move (.tmp 0), none⟩,
    ⟨(some 7), .move (.tmp 0), none⟩,
    ⟨(some 8), .nilCheck (.tmp 7), none⟩,
    ⟨(some 9), .fieldAddr 89 (.tmp 8) 1, none⟩,
    ⟨(some 10), .load 87 (.tmp 9), none⟩,
    ⟨(some 11), .load 39 (.tmp 3), none⟩,
    ⟨(some 12), .buildSlice 87 1 #[(0, (.tmp 11))], none⟩,
    ⟨(some 13), .call ⟨.builtin .append, #[(.tmp 10), (.tmp 12)], #[87, 87]⟩, none⟩,
    ⟨(some 14), .nilCheck (.tmp 6), none⟩,
    ⟨(some 15), .fieldAddr 89 (.tmp 14) 1, none⟩,
    ⟨none, .store 87 (.tmp 15) (.tmp 13), none⟩]) c_heap_Heap_sheaflaw8_pair_Push_11)
@[go_sem] theorem c_heap_Heap_sheaflaw8_pair_Push_12_at (rd : Option Nat) (K : Post3) (t : Fr) (m : Mem) : wpM E 22 74 rd c_heap_Heap_sheaflaw8_pair_Push_12 K t m = wpM E 22 74 rd (.seq (.ops [⟨(some 6), .move (.tmp 0), none⟩,
    ⟨(some 7), .move (.tmp 0), none⟩,
    ⟨(some 8), .nilCheck (.tmp 7), none⟩,
    ⟨(some 9), .fieldAddr 89 (.tmp 8) 1, none⟩,
    ⟨(some 10), .load 87 (.tmp 9), none⟩,
    ⟨(some 11), .load 39 (.tmp 3), none⟩,
    ⟨(some 12), .buildSlice 87 1 #[(0, (.tmp 11))], none⟩,
    ⟨(some 13), .call ⟨.builtin .append, #[(.tmp 10), (.tmp 12)], #[87, 87]⟩, none⟩,
    ⟨(some 14), .nilCheck (.tmp 6), none⟩,
    ⟨(some 15), .fieldAddr 89 (.tmp 14) 1, none⟩,
    ⟨none, .store 87 (.tmp 15) (.tmp 13), none⟩]) c_heap_Heap_sheaflaw8_pair_Push_11) K t m := rfl

def c_heap_Heap_sheaflaw8_pair_Push_13 : MC := (.seq (.ops [⟨(some 3), .box 39 (.tmp 1), none⟩]) c_heap_Heap_sheaflaw8_pair_Push_12)
@[go_sem] theorem c_heap_Heap_sheaflaw8_pair_Push_13_at (rd : Option Nat) (K : Post3) (t : Fr) (m : Mem) : wpM E 22 74 rd c_heap_Heap_sheaflaw8_pair_Push_13 K t m = wpM E 22 74 rd (.seq (.ops [⟨(some 3), .box 39 (.tmp 1), none⟩]) c_heap_Heap_sheaflaw8_pair_Push_12) K t m := rfl

@[go_sem] theorem some22 : (E.fn 22).isSome = true := by kernel_rfl
set_option maxRecDepth 100000 in
theorem fn_heap_Heap_sheaflaw8_pair_Push : FnIs E 22 74 [] c_heap_Heap_sheaflaw8_pair_Push_13 := ⟨by kernel_rfl, by kernel_rfl⟩

/-! (*sheaf/heap.Heap[sheaf/sheaflaw8.pair]).Pop -/
abbrev F_heap_Heap_sheaflaw8_pair_Pop : FuncId := 23
def c_heap_Heap_sheaflaw8_pair_Pop_0 : MC := (.seq (.ops [⟨(some 15), .load 39 (.tmp 4), none⟩,
    ⟨none, .store 39 (.tmp 2) (.tmp 15), none⟩,
    ⟨(some 3), .assign (.const (.bool false)), none⟩]) .ret)
@[go_sem] theorem c_heap_Heap_sheaflaw8_pair_Pop_0_at (rd : Option Nat) (K : Post3) (t : Fr) (m : Mem) : wpM E 23 53 rd c_heap_Heap_sheaflaw8_pair_Pop_0 K t m = wpM E 23 53 rd (.seq (.ops [⟨(some 15), .load 39 (.tmp 4), none⟩,
    ⟨none, .store 39 (.tmp 2) (.tmp 15), none⟩,
    ⟨(some 3), .assign (.const (.bool false)), none⟩]) .ret) K t m := rfl

def c_heap_Heap_sheaflaw8_pair_Pop_1 : MC := (.cond (.tmp 14) c_heap_Heap_sheaflaw8_pair_Pop_0 .skip)
@[go_sem] theorem c_heap_Heap_sheaflaw8_pair_Pop_1_at (rd : Option Nat) (K : Post3) (t : Fr) (m : Mem) : wpM E 23 53 rd c_heap_Heap_sheaflaw8_pair_Pop_1 K t m = wpM E 23 53 rd (.cond (.tmp 14) c_heap_Heap_sheaflaw8_pair_Pop_0 .skip) K t m := rfl

def c_heap_Heap_sheaflaw8_pair_Pop_2 : MC := (.seq (.ops [⟨(some 13), .move (.tmp 5), none⟩,
    ⟨(some 14), .unOp .not 4 (.tmp 13), none⟩]) c_heap_Heap_sheaflaw8_pair_Pop_1)
@[go_sem] theorem c_heap_Heap_sheaflaw8_pair_Pop_2_at (rd : Option Nat) (K : Post3) (t : Fr) (m : Mem) : wpM E 23 53 rd c_heap_Heap_sheaflaw8_pair_Pop_2 K t m = wpM E 23 53 rd (.seq (.ops [⟨(some 13), .move (.tmp 5), none⟩,
    ⟨(some 14), .unOp .not 4 (.tmp 13), none⟩]) c_heap_Heap_sheaflaw8_pair_Pop_1) K t m := rfl

def c_heap_Heap_sheaflaw8_pair_Pop_3 : MC := (.seq (.ops [⟨(some 52), .load 39 (.tmp 4), none⟩,
    ⟨none, .store 39 (.tmp 2) (.tmp 52), none⟩,
    ⟨(some 3), .assign (.const (.bool true)), none⟩]) .ret)
@[go_sem] theorem c_heap_Heap_sheaflaw8_pair_Pop_3_at (rd : Option Nat) (K : Post3) (t : Fr) (m : Mem) : wpM E 23 53 rd c_heap_Heap_sheaflaw8_pair_Pop_3 K t m = wpM E 23 53 rd (.seq (.ops [⟨(some 52), .load 39 (.tmp 4), none⟩,
    ⟨none, .store 39 (.tmp 2) (.tmp 52), none⟩,
    ⟨(some 3), .assign (.const (.bool true)), none⟩]) .ret) K t m := rfl

def c_heap_Heap_sheaflaw8_pair_Pop_4 : MC := (.seq (.ops [⟨(some 50), .move (.tmp 0), none⟩,
    ⟨(some 51), .call ⟨.value (.func 43), #[(.tmp 50)], #[36]⟩, none⟩]) c_heap_Heap_sheaflaw8_pair_Pop_3)
@[go_sem] theorem c_heap_Heap_sheaflaw8_pair_Pop_4_at (rd : Option Nat) (K : Post3) (t : Fr) (m : Mem) : wpM E 23 53 rd c_heap_Heap_sheaflaw8_pair_Pop_4 K t m = wpM E 23 53 rd (.seq (.ops [⟨(some 50), .move (.tmp 0), none⟩,
    ⟨(some 51), .call ⟨.value (.func 43), #[(.tmp 50)], #[36]⟩, none⟩]) c_heap_Heap_sheaflaw8_pair_Pop_3) K t m := rfl

def c_heap_Heap_sheaflaw8_pair_Pop_5 : MC := (.seq (.ops [⟨(some 41), .move (.tmp 0), none⟩,
    ⟨(some 42), .move (.tmp 0), none⟩,
    ⟨(some 43), .nilCheck (.tmp 42), none⟩,
    ⟨(some 44), .fieldAddr 89 (.tmp 43) 1, none⟩,
    ⟨(some 45), .load 87 (.tmp 44), none⟩,
    ⟨(some 46), .move (.tmp 6), none⟩,
    ⟨(some 47), .slice 87 (.tmp 45) none (some (.tmp 46)) none, none⟩,
    ⟨(some 48), .nilCheck (.tmp 41), none⟩,
    ⟨(some 49), .fieldAddr 89 (.tmp 48) 1, none⟩,
    ⟨none, .store 87 (.tmp 49) (.tmp 47), none⟩]) c_heap_Heap_sheaflaw8_pair_Pop_4)
@[go_sem] theorem c_heap_Heap_sheaflaw8_pair_Pop_5_at (rd : Option Nat) (K : Post3) (t : Fr) (m : Mem) : wpM E 23 53 rd c_heap_Heap_sheaflaw8_pair_Pop_5 K t m = wpM E 23 53 rd (.seq (.ops [⟨(some 41), .move (.tmp 0), none⟩,
    ⟨(some 42), .move (.tmp 0), none⟩,
    ⟨(some 43), .nilCheck (.tmp 42), none⟩,
    ⟨(some 44), .fieldAddr 89 (.tmp 43) 1, none⟩,
    ⟨(some 45), .load 87 (.tmp 44), none⟩,
    ⟨(some 46), .move (.tmp 6), none⟩,
    ⟨(some 47), .slice 87 (.tmp 45) none (some (.tmp 46)) none, none⟩,
    ⟨(some 48), .nilCheck (.tmp 41), none⟩,
    ⟨(some 49), .fieldAddr 89 (.tmp 48) 1, none⟩,
    ⟨none, .store 87 (.tmp 49) (.tmp 47), none⟩]) c_heap_Heap_sheaflaw8_pair_Pop_4) K t m := rfl

def c_heap_Heap_sheaflaw8_pair_Pop_6 : MC := (.seq (.draw [(0, [], ⟨(some 22), .move (.tmp 0), none⟩),
    (1, [], ⟨(some 23), .nilCheck (.tmp 22), none⟩),
    (2, [], ⟨(some 24), .fieldAddr 89 (.tmp 23) 1, none⟩),
    (3, [], ⟨(some 25), .load 87 (.tmp 24), none⟩),
    (4, [], ⟨(some 26), .move (.tmp 0), none⟩),
    (5, [], ⟨(some 27), .nilCheck (.tmp 26), none⟩),
    (6, [], ⟨(some 28), .fieldAddr 89 (.tmp 27) 1, none⟩),
    (7, [], ⟨(some 29), .load 87 (.tmp 28), none⟩),
    (8, [], ⟨(some 30), .move (.tmp 6), none⟩),
    (9, [], ⟨(some 31), .move (.tmp 0), none⟩),
    (10, [], ⟨(some 32), .nilCheck (.tmp 31), none⟩),
    (11, [], ⟨(some 33), .fieldAddr 89 (.tmp 32) 1, none⟩),
    (12, [], ⟨(some 34), .load 87 (.tmp 33), none⟩),
    (13, [], ⟨(some 35), .move (.tmp 6), none⟩),
    (14, [], ⟨(some 36), .indexAddr 87 (.tmp 34) (.tmp 35), none⟩),
    (15, [], ⟨(some 37), .load 39 (.tmp 36), none⟩),
    (16, [], ⟨(some 38), .load 39 (.tmp 7), none⟩),
    (17, [], ⟨(some 39), .indexAddr 87 (.tmp 25) (.const (.int .i64 0)), none⟩),
    (18, [16], ⟨none, .store 39 (.tmp 39) (.tmp 37), none⟩),
    (19, [], ⟨(some 40), .indexAddr 87 (.tmp 29) (.tmp 30), none⟩),
    (20, [], ⟨none, .store 39 (.tmp 40) (.tmp 38), none⟩)]) c_heap_Heap_sheaflaw8_pair_Pop_5)
@[go_sem] theorem c_heap_Heap_sheaflaw8_pair_Pop_6_at (rd : Option Nat) (K : Post3) (t : Fr) (m : Mem) : wpM E 23 53 rd c_heap_Heap_sheaflaw8_pair_Pop_6 K t m = wpM E 23 53 rd (.seq (.draw [(0, [], ⟨(some 22), .move (.tmp 0), none⟩),
    (1, [], ⟨(some 23), .nilCheck (.tmp 22), none⟩),
    (2, [], ⟨(some 24), .fieldAddr 89 (.tmp 23) 1, none⟩),
    (3, [], ⟨(some 25), .load 87 (.tmp 24), none⟩),
    (4, [], ⟨(some 26), .move (.tmp 0), none⟩),
    (5, [], ⟨(some 27), .nilCheck (.tmp 26), none⟩),
    (6, [], ⟨(some 28), .fieldAddr 89 (.tmp 27) 1, none⟩),
    (7, [], ⟨(some 29), .load 87 (.tmp 28), none⟩),
    (8, [], ⟨(some 30), .move (.tmp 6), none⟩),
    (9, [], ⟨(some 31), .move (.tmp 0), none⟩),
    (10, [], ⟨(some 32), .nilCheck (.tmp 31), none⟩),
    (11, [], ⟨(some 33), .fieldAddr 89 (.tmp 32) 1, none⟩),
    (12, [], ⟨(some 34), .load 87 (.tmp 33), none⟩),
    (13, [], ⟨(some 35), .move (.tmp 6), none⟩),
    (14, [], ⟨(some 36), .indexAddr 87 (.tmp 34) (.tmp 35), none⟩),
    (15, [], ⟨(some 37), .load 39 (.tmp 36), none⟩),
    (16, [], ⟨(some 38), .load 39 (.tmp 7), none⟩),
    (17, [], ⟨(some 39), .indexAddr 87 (.tmp 25) (.const (.int .i64 0)), none⟩),
    (18, [16], ⟨none, .store 39 (.tmp 39) (.tmp 37), none⟩),
    (19, [], ⟨(some 40), .indexAddr 87 (.tmp 29) (.tmp 30), none⟩),
    (20, [], ⟨none, .store 39 (.tmp 40) (.tmp 38), none⟩)]) c_heap_Heap_sheaflaw8_pair_Pop_5) K t m := rfl

def c_heap_Heap_sheaflaw8_pair_Pop_7 : MC := (.seq (.ops [⟨(some 7), .alloc 39, none⟩]) c_heap_Heap_sheaflaw8_pair_Pop_6)
@[go_sem] theorem c_heap_Heap_sheaflaw8_pair_Pop_7_at (rd : Option Nat) (K : Post3) (t : Fr) (m : Mem) : wpM E 23 53 rd c_heap_Heap_sheaflaw8_pair_Pop_7 K t m = wpM E 23 53 rd (.seq (.ops [⟨(some 7), .alloc 39, none⟩]) c_heap_Heap_sheaflaw8_pair_Pop_6) K t m := rfl

def c_heap_Heap_sheaflaw8_pair_Pop_8 : MC := (.seq (.ops [⟨(some 16), .move (.tmp 0), none⟩,
    ⟨(some 17), .nilCheck (.tmp 16), none⟩,
    ⟨(some 18), .fieldAddr 89 (.tmp 17) 1, none⟩,
    ⟨(some 19), .load 87 (.tmp 18), none⟩,
    ⟨(some 20), .call ⟨.builtin .len, #[(.tmp 19)], #[87]⟩, none⟩,
    ⟨(some 21), .binOp .sub 3 (.tmp 20) (.const (.int .i64 1)) 3, none⟩,
    ⟨(some 6), .assign (.tmp 21), none⟩]) c_heap_Heap_sheaflaw8_pair_Pop_7)
@[go_sem] theorem c_heap_Heap_sheaflaw8_pair_Pop_8_at (rd : Option Nat) (K : Post3) (t : Fr) (m : Mem) : wpM E 23 53 rd c_heap_Heap_sheaflaw8_pair_Pop_8 K t m = wpM E 23 53 rd (.seq (.ops [⟨(some 16), .move (.tmp 0), none⟩,
    ⟨(some 17), .nilCheck (.tmp 16), none⟩,
    ⟨(some 18), .fieldAddr 89 (.tmp 17) 1, none⟩,
    ⟨(some 19), .load 87 (.tmp 18), none⟩,
    ⟨(some 20), .call ⟨.builtin .len, #[(.tmp 19)], #[87]⟩, none⟩,
    ⟨(some 21), .binOp .sub 3 (.tmp 20) (.const (.int .i64 1)) 3, none⟩,
    ⟨(some 6), .assign (.tmp 21), none⟩]) c_heap_Heap_sheaflaw8_pair_Pop_7) K t m := rfl

def c_heap_Heap_sheaflaw8_pair_Pop_9 : MC := (.seq c_heap_Heap_sheaflaw8_pair_Pop_2 c_heap_Heap_sheaflaw8_pair_Pop_8)
@[go_sem] theorem c_heap_Heap_sheaflaw8_pair_Pop_9_at (rd : Option Nat) (K : Post3) (t : Fr) (m : Mem) : wpM E 23 53 rd c_heap_Heap_sheaflaw8_pair_Pop_9 K t m = wpM E 23 53 rd (.seq c_heap_Heap_sheaflaw8_pair_Pop_2 c_heap_Heap_sheaflaw8_pair_Pop_8) K t m := rfl

def c_heap_Heap_sheaflaw8_pair_Pop_10 : MC := (.seq (.ops [⟨(some 9), .move (.tmp 0), none⟩,
    ⟨(some 10), .call ⟨.value (.func 42), #[(.tmp 9)], #[36]⟩, none⟩,
    ⟨(some 8), .move (.tmp 10), none⟩,
    ⟨(some 11), .extract (.tmp 8) 0, none⟩,
    ⟨(some 12), .extract (.tmp 8) 1, none⟩,
    ⟨(some 4), .alloc 39, none⟩,
    ⟨none, .store 39 (.tmp 4) (.tmp 11), none⟩,
    ⟨(some 5), .assign (.tmp 12), none⟩]) c_heap_Heap_sheaflaw8_pair_Pop_9)
@[go_sem] theorem c_heap_Heap_sheaflaw8_pair_Pop_10_at (rd : Option Nat) (K : Post3) (t : Fr) (m : Mem) : wpM E 23 53 rd c_heap_Heap_sheaflaw8_pair_Pop_10 K t m = wpM E 23 53 rd (.seq (.ops [⟨(some 9), .move (.tmp 0), none⟩,
    ⟨(some 10), .call ⟨.value (.func 42), #[(.tmp 9)], #[36]⟩, none⟩,
    ⟨(some 8), .move (.tmp 10), none⟩,
    ⟨(some 11), .extract (.tmp 8) 0, none⟩,
    ⟨(some 12), .extract (.tmp 8) 1, none⟩,
    ⟨(some 4), .alloc 39, none⟩,
    ⟨none, .store 39 (.tmp 4) (.tmp 11), none⟩,
    ⟨(some 5), .assign (.tmp 12), none⟩]) c_heap_Heap_sheaflaw8_pair_Pop_9) K t m := rfl

def c_heap_Heap_sheaflaw8_pair_Pop_11 : MC := (.seq (.ops [⟨(some 2), .alloc 39, none⟩,
    ⟨(some 3), .assign (.const (.bool false)), none⟩]) c_heap_Heap_sheaflaw8_pair_Pop_10)
@[go_sem] theorem c_heap_Heap_sheaflaw8_pair_Pop_11_at (rd : Option Nat) (K : Post3) (t : Fr) (m : Mem) : wpM E 23 53 rd c_heap_Heap_sheaflaw8_pair_Pop_11 K t m = wpM E 23 53 rd (.seq (.ops [⟨(some 2), .alloc 39, none⟩,
    ⟨(some 3), .assign (.const (.bool false)), none⟩]) c_heap_Heap_sheaflaw8_pair_Pop_10) K t m := rfl

@[go_sem] theorem some23 : (E.fn 23).isSome = true := by kernel_rfl
set_option maxRecDepth 100000 in
theorem fn_heap_Heap_sheaflaw8_pair_Pop : FnIs E 23 53 [.cell 2 39, .tmp 3] c_heap_Heap_sheaflaw8_pair_Pop_11 := ⟨by kernel_rfl, by kernel_rfl⟩

/-! sheaf/heap.New[string] -/
abbrev F_heap_New_string : FuncId := 24
def c_heap_New_string_0 : MC := (.seq (.ops [⟨(some 3), .move (.tmp 0), none⟩,
    ⟨(some 4), .build 91 #[(0, (.tmp 3))], none⟩,
    ⟨(some 5), .box 91 (.tmp 4), none⟩,
    ⟨(some 2), .assign (.tmp 5), none⟩]) .ret)
@[go_sem] theorem c_heap_New_string_0_at (rd : Option Nat) (K : Post3) (t : Fr) (m : Mem) : wpM E 24 6 rd c_heap_New_string_0 K t m = wpM E 24 6 rd (.seq (.ops [⟨(some 3), .move (.tmp 0), none⟩,
    ⟨(some 4), .build 91 #[(0, (.tmp 3))], none⟩,
    ⟨(some 5), .box 91 (.tmp 4), none⟩,
    ⟨(some 2), .assign (.tmp 5), none⟩]) .ret) K t m := rfl

def c_heap_New_string_1 : MC := (.seq (.ops [⟨(some 2), .assign (.const (.pointer none)), none⟩]) c_heap_New_string_0)
@[go_sem] theorem c_heap_New_string_1_at (rd : Option Nat) (K : Post3) (t : Fr) (m : Mem) : wpM E 24 6 rd c_heap_New_string_1 K t m = wpM E 24 6 rd (.seq (.ops [⟨(some 2), .assign (.const (.pointer none)), none⟩]) c_heap_New_string_0) K t m := rfl

@[go_sem] theorem some24 : (E.fn 24).isSome = true := by kernel_rfl
set_option maxRecDepth 100000 in
theorem fn_heap_New_string : FnIs E 24 6 [.tmp 2] c_heap_New_string_1 := ⟨by kernel_rfl, by kernel_rfl⟩

/-! (*sheaf/heap.Heap[string]).Push -/
abbrev F_heap_Heap_string_Push : FuncId := 26
def c_heap_Heap_string_Push_0 : MC := (.cond (.tmp 23) .skip (.exit 0))
@[go_sem] theorem c_heap_Heap_string_Push_0_at (rd : Option Nat) (K : Post3) (t : Fr) (m : Mem) : wpM E 26 74 rd c_heap_Heap_string_Push_0 K t m = wpM E 26 74 rd (.cond (.tmp 23) .skip (.exit 0)) K t m := rfl

def c_heap_Heap_string_Push_1 : MC := (.seq (.ops [⟨(some 22), .move (.tmp 4), none⟩,
    ⟨(some 23), .binOp .gtr 3 (.tmp 22) (.const (.int .i64 0)) 3, none⟩]) c_heap_Heap_string_Push_0)
@[go_sem] theorem c_heap_Heap_string_Push_1_at (rd : Option Nat) (K : Post3) (t : Fr) (m : Mem) : wpM E 26 74 rd c_heap_Heap_string_Push_1 K t m = wpM E 26 74 rd (.seq (.ops [⟨(some 22), .move (.tmp 4), none⟩,
    ⟨(some 23), .binOp .gtr 3 (.tmp 22) (.const (.int .i64 0)) 3, none⟩]) c_heap_Heap_string_Push_0) K t m := rfl

def c_heap_Heap_string_Push_2 : MC := (.cond (.tmp 46) .ret .skip)
@[go_sem] theorem c_heap_Heap_string_Push_2_at (rd : Option Nat) (K : Post3) (t : Fr) (m : Mem) : wpM E 26 74 rd c_heap_Heap_string_Push_2 K t m = wpM E 26 74 rd (.cond (.tmp 46) .ret .skip) K t m := rfl

def c_heap_Heap_string_Push_3 : MC := (.seq (.ops [⟨(some 27), .move (.tmp 0), none⟩,
    ⟨(some 28), .nilCheck (.tmp 27), none⟩,
    ⟨(some 29), .fieldAddr 91 (.tmp 28) 0, none⟩,
    ⟨(some 30), .load 49 (.tmp 29), none⟩,
    ⟨(some 31), .move (.tmp 0), none⟩,
    ⟨(some 32), .nilCheck (.tmp 31), none⟩,
    ⟨(some 33), .fieldAddr 91 (.tmp 32) 1, none⟩,
    ⟨(some 34), .load 46 (.tmp 33), none⟩,
    ⟨(some 35), .move (.tmp 4), none⟩,
    ⟨(some 36), .indexAddr 46 (.tmp 34) (.tmp 35), none⟩,
    ⟨(some 37), .load 9 (.tmp 36), none⟩,
    ⟨(some 38), .move (.tmp 0), none⟩,
    ⟨(some 39), .nilCheck (.tmp 38), none⟩,
    ⟨(some 40), .fieldAddr 91 (.tmp 39) 1, none⟩,
    ⟨(some 41), .load 46 (.tmp 40), none⟩,
    ⟨(some 42), .move (.tmp 5), none⟩,
    ⟨(some 43), .indexAddr 46 (.tmp 41) (.tmp 42), none⟩,
    ⟨(some 44), .load 9 (.tmp 43), none⟩,
    ⟨(some 45), .call ⟨.value (.tmp 30), #[(.tmp 37), (.tmp 44)], #[9, 9]⟩, none⟩,
    ⟨(some 46), .unOp .not 4 (.tmp 45), none⟩]) c_heap_Heap_string_Push_2)
@[go_sem] theorem c_heap_Heap_string_Push_3_at (rd : Option Nat) (K : Post3) (t : Fr) (m : Mem) : wpM E 26 74 rd c_heap_Heap_string_Push_3 K t m = wpM E 26 74 rd (.seq (.ops [⟨(some 27), .move (.tmp 0), none⟩,
    ⟨(some 28), .nilCheck (.tmp 27), none⟩,
    ⟨(some 29), .fieldAddr 91 (.tmp 28) 0, none⟩,
    ⟨(some 30), .load 49 (.tmp 29), none⟩,
    ⟨(some 31), .move (.tmp 0), none⟩,
    ⟨(some 32), .nilCheck (.tmp 31), none⟩,
    ⟨(some 33), .fieldAddr 91 (.tmp 32) 1, none⟩,
    ⟨(some 34), .load 46 (.tmp 33), none⟩,
    ⟨(some 35), .move (.tmp 4), none⟩,
    ⟨(some 36), .indexAddr 46 (.tmp 34) (.tmp 35), none⟩,
    ⟨(some 37), .load 9 (.tmp 36), none⟩,
    ⟨(some 38), .move (.tmp 0), none⟩,
    ⟨(some 39), .nilCheck (.tmp 38), none⟩,
    ⟨(some 40), .fieldAddr 91 (.tmp 39) 1, none⟩,
    ⟨(some 41), .load 46 (.tmp 40), none⟩,
    ⟨(some 42), .move (.tmp 5), none⟩,
    ⟨(some 43), .indexAddr 46 (.tmp 41) (.tmp 42), none⟩,
    ⟨(some 44), .load 9 (.tmp 43), none⟩,
    ⟨(some 45), .call ⟨.value (.tmp 30), #[(.tmp 37), (.tmp 44)], #[9, 9]⟩, none⟩,
    ⟨(some 46), .unOp .not 4 (.tmp 45), none⟩]) c_heap_Heap_string_Push_2) K t m := rfl

def c_heap_Heap_string_Push_4 : MC := (.seq (.ops [⟨(some 47), .move (.tmp 0), none⟩,
    ⟨(some 48), .nilCheck (.tmp 47), none⟩,
    ⟨(some 49), .fieldAddr 91 (.tmp 48) 1, none⟩,
    ⟨(some 50), .load 46 (.tmp 49), none⟩,
    ⟨(some 51), .move (.tmp 4), none⟩,
    ⟨(some 52), .move (.tmp 0), none⟩,
    ⟨(some 53), .nilCheck (.tmp 52), none⟩,
    ⟨(some 54), .fieldAddr 91 (.tmp 53) 1, none⟩,
    ⟨(some 55), .load 46 (.tmp 54), none⟩,
    ⟨(some 56), .move (.tmp 5), none⟩,
    ⟨(some 57), .move (.tmp 0), none⟩,
    ⟨(some 58), .nilCheck (.tmp 57), none⟩,
    ⟨(some 59), .fieldAddr 91 (.tmp 58) 1, none⟩,
    ⟨(some 60), .load 46 (.tmp 59), none⟩,
    ⟨(some 61), .move (.tmp 5), none⟩,
    ⟨(some 62), .indexAddr 46 (.tmp 60) (.tmp 61), none⟩,
    ⟨(some 63), .load 9 (.tmp 62), none⟩,
    ⟨(some 64), .move (.tmp 0), none⟩,
    ⟨(some 65), .nilCheck (.tmp 64), none⟩,
    ⟨(some 66), .fieldAddr 91 (.tmp 65) 1, none⟩,
    ⟨(some 67), .load 46 (.tmp 66), none⟩,
    ⟨(some 68), .move (.tmp 4), none⟩,
    ⟨(some 69), .indexAddr 46 (.tmp 67) (.tmp 68), none⟩,
    ⟨(some 70), .load 9 (.tmp 69), none⟩,
    ⟨(some 71), .indexAddr 46 (.tmp 50) (.tmp 51), none⟩,
    ⟨none, .store 9 (.tmp 71) (.tmp 63), none⟩,
    ⟨(some 72), .indexAddr 46 (.tmp 55) (.tmp 56), none⟩,
    ⟨none, .store 9 (.tmp 72) (.tmp 70), none⟩]) (.ops [⟨(some 73), .move (.tmp 5), none⟩,
    ⟨(some 4), .assign (.tmp 73), none⟩]))
@[go_sem] theorem c_heap_Heap_string_Push_4_at (rd : Option Nat) (K : Post3) (t : Fr) (m : Mem) : wpM E 26 74 rd c_heap_Heap_string_Push_4 K t m = wpM E 26 74 rd (.seq (.ops [⟨(some 47), .move (.tmp 0), none⟩,
    ⟨(some 48), .nilCheck (.tmp 47), none⟩,
    ⟨(some 49), .fieldAddr 91 (.tmp 48) 1, none⟩,
    ⟨(some 50), .load 46 (.tmp 49), none⟩,
    ⟨(some 51), .move (.tmp 4), none⟩,
    ⟨(some 52), .move (.tmp 0), none⟩,
    ⟨(some 53), .nilCheck (.tmp 52), none⟩,
    ⟨(some 54), .fieldAddr 91 (.tmp 53) 1, none⟩,
    ⟨(some 55), .load 46 (.tmp 54), none⟩,
    ⟨(some 56), .move (.tmp 5), none⟩,
    ⟨(some 57), .move (.tmp 0), none⟩,
    ⟨(some 58), .nilCheck (.tmp 57), none⟩,
    ⟨(some 59), .fieldAddr 91 (.tmp 58) 1, none⟩,
    ⟨(some 60), .load 46 (.tmp 59), none⟩,
    ⟨(some 61), .move (.tmp 5), none⟩,
    ⟨(some 62), .indexAddr 46 (.tmp 60) (.tmp 61), none⟩,
    ⟨(some 63), .load 9 (.tmp 62), none⟩,
    ⟨(some 64), .move (.tmp 0), none⟩,
    ⟨(some 65), .nilCheck (.tmp 64), none⟩,
    ⟨(some 66), .fieldAddr 91 (.tmp 65) 1, none⟩,
    ⟨(some 67), .load 46 (.tmp 66), none⟩,
    ⟨(some 68), .move (.tmp 4), none⟩,
    ⟨(some 69), .indexAddr 46 (.tmp 67) (.tmp 68), none⟩,
    ⟨(some 70), .load 9 (.tmp 69), none⟩,
    ⟨(some 71), .indexAddr 46 (.tmp 50) (.tmp 51), none⟩,
    ⟨none, .store 9 (.tmp 71) (.tmp 63), none⟩,
    ⟨(some 72), .indexAddr 46 (.tmp 55) (.tmp 56), none⟩,
    ⟨none, .store 9 (.tmp 72) (.tmp 70), none⟩]) (.ops [⟨(some 73), .move (.tmp 5), none⟩,
    ⟨(some 4), .assign (.tmp 73), none⟩])) K t m := rfl

def c_heap_Heap_string_Push_5 : MC := (.seq c_heap_Heap_string_Push_3 c_heap_Heap_string_Push_4)
@[go_sem] theorem c_heap_Heap_string_Push_5_at (rd : Option Nat) (K : Post3) (t : Fr) (m : Mem) : wpM E 26 74 rd c_heap_Heap_string_Push_5 K t m = wpM E 26 74 rd (.seq c_heap_Heap_string_Push_3 c_heap_Heap_string_Push_4) K t m := rfl

def c_heap_Heap_string_Push_6 : MC := (.seq (.ops [⟨(some 24), .move (.tmp 4), none⟩,
    ⟨(some 25), .binOp .sub 3 (.tmp 24) (.const (.int .i64 1)) 3, none⟩,
    ⟨(some 26), .binOp .quo 3 (.tmp 25) (.const (.int .i64 2)) 3, none⟩,
    ⟨(some 5), .assign (.tmp 26), none⟩]) c_heap_Heap_string_Push_5)
@[go_sem] theorem c_heap_Heap_string_Push_6_at (rd : Option Nat) (K : Post3) (t : Fr) (m : Mem) : wpM E 26 74 rd c_heap_Heap_string_Push_6 K t m = wpM E 26 74 rd (.seq (.ops [⟨(some 24), .move (.tmp 4), none⟩,
    ⟨(some 25), .binOp .sub 3 (.tmp 24) (.const (.int .i64 1)) 3, none⟩,
    ⟨(some 26), .binOp .quo 3 (.tmp 25) (.const (.int .i64 2)) 3, none⟩,
    ⟨(some 5), .assign (.tmp 26), none⟩]) c_heap_Heap_string_Push_5) K t m := rfl

def c_heap_Heap_string_Push_7 : MC := (.block 1 c_heap_Heap_string_Push_6)
@[go_sem] theorem c_heap_Heap_string_Push_7_at (rd : Option Nat) (K : Post3) (t : Fr) (m : Mem) : wpM E 26 74 rd c_heap_Heap_string_Push_7 K t m = wpM E 26 74 rd (.block 1 c_heap_Heap_string_Push_6) K t m := rfl

def c_heap_Heap_string_Push_8 : MC := (.seq c_heap_Heap_string_Push_1 c_heap_Heap_string_Push_7)
@[go_sem] theorem c_heap_Heap_string_Push_8_at (rd : Option Nat) (K : Post3) (t : Fr) (m : Mem) : wpM E 26 74 rd c_heap_Heap_string_Push_8 K t m = wpM E 26 74 rd (.seq c_heap_Heap_string_Push_1 c_heap_Heap_string_Push_7) K t m := rfl

def c_heap_Heap_string_Push_9 : MC := (.loop c_heap_Heap_string_Push_8)
theorem c_heap_Heap_string_Push_9_at (rd : Option Nat) (K : Post3) (t : Fr) (m : Mem) : wpM E 26 74 rd c_heap_Heap_string_Push_9 K t m = wpM E 26 74 rd (.loop c_heap_Heap_string_Push_8) K t m := rfl

def c_heap_Heap_string_Push_10 : MC := (.block 0 c_heap_Heap_string_Push_9)
theorem c_heap_Heap_string_Push_10_at (rd : Option Nat) (K : Post3) (t : Fr) (m : Mem) : wpM E 26 74 rd c_heap_Heap_string_Push_10 K t m = wpM E 26 74 rd (.block 0 c_heap_Heap_string_Push_9) K t m := rfl

def c_heap_Heap_string_Push_11 : MC := (.seq (.ops [⟨(some 16), .move (.tmp 0), none⟩,
    ⟨(some 17), .nilCheck (.tmp 16), none⟩,
    ⟨(some 18), .fieldAddr 91 (.tmp 17) 1, none⟩,
    ⟨(some 19), .load 46 (.tmp 18), none⟩,
    ⟨(some 20), .call ⟨.builtin .len, #[(.tmp 19)], #[46]⟩, none⟩,
    ⟨(some 21), .binOp .sub 3 (.tmp 20) (.const (.int .i64 1)) 3, none⟩,
    ⟨(some 4), .assign (.tmp 21), none⟩]) c_heap_Heap_string_Push_10)
@[go_sem] theorem c_heap_Heap_string_Push_11_at (rd : Option Nat) (K : Post3) (t : Fr) (m : Mem) : wpM E 26 74 rd c_heap_Heap_string_Push_11 K t m = wpM E 26 74 rd (.seq (.ops [⟨(some 16), .move (.tmp 0), none⟩,
    ⟨(some 17), .nilCheck (.tmp 16), none⟩,
    ⟨(some 18), .fieldAddr 91 (.tmp 17) 1, none⟩,
    ⟨(some 19), .load 46 (.tmp 18), none⟩,
    ⟨(some 20), .call ⟨.builtin .len, #[(.tmp 19)], #[46]⟩, none⟩,
    ⟨(some 21), .binOp .sub 3 (.tmp 20) (.const (.int .i64 1)) 3, none⟩,
    ⟨(some 4), .assign (.tmp 21), none⟩]) c_heap_Heap_string_Push_10) K t m := rfl

def c_heap_Heap_string_Push_12 : MC := (.seq (.ops [⟨(some 6), .move (.tmp 0), none⟩,
    ⟨(some 7), .move (.tmp 0), none⟩,
    ⟨(some 8), .nilCheck (.tmp 7), none⟩,
    ⟨(some 9), .fieldAddr 91 (.tmp 8) 1, none⟩,
    ⟨(some 10), .load 46 (.tmp 9), none⟩,
    ⟨(some 11), .move (.tmp 1), none⟩,
    ⟨(some 12), .buildSlice 46 1 #[(0, (.tmp 11))], none⟩,
    ⟨(some 13), .call ⟨.builtin .append, #[(.tmp 10), (.tmp 12)], #[46, 46]⟩, none⟩,
    ⟨(some 14), .nilCheck (.tmp 6), none⟩,
    ⟨(some 15), .fieldAddr 91 (.tmp 14) 1, none⟩,
    ⟨none, .store 46 (.tmp 15) (.tmp 13), none⟩]) c_heap_Heap_string_Push_11)
@[go_sem] theorem c_heap_Heap_string_Push_12_at (rd : Option Nat) (K : Post3) (t : Fr) (m : Mem) : wpM E 26 74 rd c_heap_Heap_string_Push_12 K t m = wpM E 26 74 rd (.seq (.ops [⟨(some 6), .move (.tmp 0), none⟩,
    ⟨(some 7), .move (.tmp 0), none⟩,
    ⟨(some 8), .nilCheck (.tmp 7), none⟩,
    ⟨(some 9), .fieldAddr 91 (.tmp 8) 1, none⟩,
    ⟨(some 10), .load 46 (.tmp 9), none⟩,
    ⟨(some 11), .move (.tmp 1), none⟩,
    ⟨(some 12), .buildSlice 46 1 #[(0, (.tmp 11))], none⟩,
    ⟨(some 13), .call ⟨.builtin .append, #[(.tmp 10), (.tmp 12)], #[46, 46]⟩, none⟩,
    ⟨(some 14), .nilCheck (.tmp 6), none⟩,
    ⟨(some 15), .fieldAddr 91 (.tmp 14) 1, none⟩,
    ⟨none, .store 46 (.tmp 15) (.tmp 13), none⟩]) c_heap_Heap_string_Push_11) K t m := rfl

@[go_sem] theorem some26 : (E.fn 26).isSome = true := by kernel_rfl
set_option maxRecDepth 100000 in
theorem fn_heap_Heap_string_Push : FnIs E 26 74 [] c_heap_Heap_string_Push_12 := ⟨by kernel_rfl, by kernel_rfl⟩

/-! (*sheaf/heap.Heap[string]).Pop -/
abbrev F_heap_Heap_string_Pop : FuncId := 27
def c_heap_Heap_string_Pop_0 : MC := (.seq (.ops [⟨(some 15), .move (.tmp 4), none⟩,
    ⟨(some 2), .assign (.tmp 15), none⟩,
    ⟨(some 3), .assign (.const (.bool false)), none⟩]) .ret)
@[go_sem] theorem c_heap_Heap_string_Pop_0_at (rd : Option Nat) (K : Post3) (t : Fr) (m : Mem) : wpM E 27 53 rd c_heap_Heap_string_Pop_0 K t m = wpM E 27 53 rd (.seq (.ops [⟨(some 15), .move (.tmp 4), none⟩,
    ⟨(some 2), .assign (.tmp 15), none⟩,
    ⟨(some 3), .assign (.const (.bool false)), none⟩]) .ret) K t m := rfl

def c_heap_Heap_string_Pop_1 : MC := (.cond (.tmp 14) c_heap_Heap_string_Pop_0 .skip)
@[go_sem] theorem c_heap_Heap_string_Pop_1_at (rd : Option Nat) (K : Post3) (t : Fr) (m : Mem) : wpM E 27 53 rd c_heap_Heap_string_Pop_1 K t m = wpM E 27 53 rd (.cond (.tmp 14) c_heap_Heap_string_Pop_0 .skip) K t m := rfl

def c_heap_Heap_string_Pop_2 : MC := (.seq (.ops [⟨(some 13), .move (.tmp 5), none⟩,
    ⟨(some 14), .unOp .not 4 (.tmp 13), none⟩]) c_heap_Heap_string_Pop_1)
@[go_sem] theorem c_heap_Heap_string_Pop_2_at (rd : Option Nat) (K : Post3) (t : Fr) (m : Mem) : wpM E 27 53 rd c_heap_Heap_string_Pop_2 K t m = wpM E 27 53 rd (.seq (.ops [⟨(some 13), .move (.tmp 5), none⟩,
    ⟨(some 14), .unOp .not 4 (.tmp 13), none⟩]) c_heap_Heap_string_Pop_1) K t m := rfl

def c_heap_Heap_string_Pop_3 : MC := (.seq (.ops [⟨(some 52), .move (.tmp 4), none⟩,
    ⟨(some 2), .assign (.tmp 52), none⟩,
    ⟨(some 3), .assign (.const (.bool true)), none⟩]) .ret)
@[go_sem] theorem c_heap_Heap_string_Pop_3_at (rd : Option Nat) (K : Post3) (t : Fr) (m : Mem) : wpM E 27 53 rd c_heap_Heap_string_Pop_3 K t m = wpM E 27 53 rd (.seq (.ops [⟨(some 52), .move (.tmp 4), none⟩,
    ⟨(some 2), .assign (.tmp 52), none⟩,
    ⟨(some 3), .assign (.const (.bool true)), none⟩]) .ret) K t m := rfl

def c_heap_Heap_string_Pop_4 : MC := (.seq (.ops [⟨(some 50), .move (.tmp 0), none⟩,
    ⟨(some 51), .call ⟨.value (.func 45), #[(.tmp 50)], #[47]⟩, none⟩]) c_heap_Heap_string_Pop_3)
@[go_sem] theorem c_heap_Heap_string_Pop_4_at (rd : Option Nat) (K : Post3) (t : Fr) (m : Mem) : wpM E 27 53 rd c_heap_Heap_string_Pop_4 K t m = wpM E 27 53 rd (.seq (.ops [⟨(some 50), .move (.tmp 0), none⟩,
    ⟨(some 51), .call ⟨.value (.func 45), #[(.tmp 50)], #[47]⟩, none⟩]) c_heap_Heap_string_Pop_3) K t m := rfl

def c_heap_Heap_string_Pop_5 : MC := (.seq (.ops [⟨(some 41), .move (.tmp 0), none⟩,
    ⟨(some 42), .move (.tmp 0), none⟩,
    ⟨(some 43), .nilCheck (.tmp 42), none⟩,
    ⟨(some 44), .fieldAddr 91 (.tmp 43) 1, none⟩,
    ⟨(some 45), .load 46 (.tmp 44), none⟩,
    ⟨(some 46), .move (.tmp 6), none⟩,
    ⟨(some 47), .slice 46 (.tmp 45) none (some (.tmp 46)) none, none⟩,
    ⟨(some 48), .nilCheck (.tmp 41), none⟩,
    ⟨(some 49), .fieldAddr 91 (.tmp 48) 1, none⟩,
    ⟨none, .store 46 (.tmp 49) (.tmp 47), none⟩]) c_heap_Heap_string_Pop_4)
@[go_sem] theorem c_heap_Heap_string_Pop_5_at (rd : Option Nat) (K : Post3) (t : Fr) (m : Mem) : wpM E 27 53 rd c_heap_Heap_string_Pop_5 K t m = wpM E 27 53 rd (.seq (.ops [⟨(some 41), .move (.tmp 0), none⟩,
    ⟨(some 42), .move (.tmp 0), none⟩,
    ⟨(some 43), .nilCheck (.tmp 42), none⟩,
    ⟨(some 44), .fieldAddr 91 (.tmp 43) 1, none⟩,
    ⟨(some 45), .load 46 (.tmp 44), none⟩,
    ⟨(some 46), .move (.tmp 6), none⟩,
    ⟨(some 47), .slice 46 (.tmp 45) none (some (.tmp 46)) none, none⟩,
    ⟨(some 48), .nilCheck (.tmp 41), none⟩,
    ⟨(some 49), .fieldAddr 91 (.tmp 48) 1, none⟩,
    ⟨none, .store 46 (.tmp 49) (.tmp 47), none⟩]) c_heap_Heap_string_Pop_4) K t m := rfl

def c_heap_Heap_string_Pop_6 : MC := (.seq (.ops [⟨(some 22), .move (.tmp 0), none⟩,
    ⟨(some 23), .nilCheck (.tmp 22), none⟩,
    ⟨(some 24), .fieldAddr 91 (.tmp 23) 1, none⟩,
    ⟨(some 25), .load 46 (.tmp 24), none⟩,
    ⟨(some 26), .move (.tmp 0), none⟩,
    ⟨(some 27), .nilCheck (.tmp 26), none⟩,
    ⟨(some 28), .fieldAddr 91 (.tmp 27) 1, none⟩,
    ⟨(some 29), .load 46 (.tmp 28), none⟩,
    ⟨(some 30), .move (.tmp 6), none⟩,
    ⟨(some 31), .move (.tmp 0), none⟩,
    ⟨(some 32), .nilCheck (.tmp 31), none⟩,
    ⟨(some 33), .fieldAddr 91 (.tmp 32) 1, none⟩,
    ⟨(some 34), .load 46 (.tmp 33), none⟩,
    ⟨(some 35), .move (.tmp 6), none⟩,
    ⟨(some 36), .indexAddr 46 (.tmp 34) (.tmp 35), none⟩,
    ⟨(some 37), .load 9 (.tmp 36), none⟩,
    ⟨(some 38), .move (.tmp 7), none⟩,
    ⟨(some 39), .indexAddr 46 (.tmp 25) (.const (.int .i64 0)), none⟩,
    ⟨none, .store 9 (.tmp 39) (.tmp 37), none⟩,
    ⟨(some 40), .indexAddr 46 (.tmp 29) (.tmp 30), none⟩,
    ⟨none, .store 9 (.tmp 40) (.tmp 38), none⟩]) c_heap_Heap_string_Pop_5)
@[go_sem] theorem c_heap_Heap_string_Pop_6_at (rd : Option Nat) (K : Post3) (t : Fr) (m : Mem) : wpM E 27 53 rd c_heap_Heap_string_Pop_6 K t m = wpM E 27 53 rd (.seq (.ops [⟨(some 22), .move (.tmp 0), none⟩,
    ⟨(some 23), .nilCheck (.tmp 22), none⟩,
    ⟨(some 24), .fieldAddr 91 (.tmp 23) 1, none⟩,
    ⟨(some 25), .load 46 (.tmp 24), none⟩,
    ⟨(some 26), .move (.tmp 0), none⟩,
    ⟨(some 27), .nilCheck (.tmp 26), none⟩,
    ⟨(some 28), .fieldAddr 91 (.tmp 27) 1, none⟩,
    ⟨(some 29), .load 46 (.tmp 28), none⟩,
    ⟨(some 30), .move (.tmp 6), none⟩,
    ⟨(some 31), .move (.tmp 0), none⟩,
    ⟨(some 32), .nilCheck (.tmp 31), none⟩,
    ⟨(some 33), .fieldAddr 91 (.tmp 32) 1, none⟩,
    ⟨(some 34), .load 46 (.tmp 33), none⟩,
    ⟨(some 35), .move (.tmp 6), none⟩,
    ⟨(some 36), .indexAddr 46 (.tmp 34) (.tmp 35), none⟩,
    ⟨(some 37), .load 9 (.tmp 36), none⟩,
    ⟨(some 38), .move (.tmp 7), none⟩,
    ⟨(some 39), .indexAddr 46 (.tmp 25) (.const (.int .i64 0)), none⟩,
    ⟨none, .store 9 (.tmp 39) (.tmp 37), none⟩,
    ⟨(some 40), .indexAddr 46 (.tmp 29) (.tmp 30), none⟩,
    ⟨none, .store 9 (.tmp 40) (.tmp 38), none⟩]) c_heap_Heap_string_Pop_5) K t m := rfl

def c_heap_Heap_string_Pop_7 : MC := (.seq (.ops [⟨(some 7), .assign (.const (.string ⟨#[]⟩)), none⟩]) c_heap_Heap_string_Pop_6)
@[go_sem] theorem c_heap_Heap_string_Pop_7_at (rd : Option Nat) (K : Post3) (t : Fr) (m : Mem) : wpM E 27 53 rd c_heap_Heap_string_Pop_7 K t m = wpM E 27 53 rd (.seq (.ops [⟨(some 7), .assign (.const (.string ⟨#[]⟩)), none⟩]) c_heap_Heap_string_Pop_6) K t m := rfl

def c_heap_Heap_string_Pop_8 : MC := (.seq (.ops [⟨(some 16), .move (.tmp 0), none⟩,
    ⟨(some 17), .nilCheck (.tmp 16), none⟩,
    ⟨(some 18), .fieldAddr 91 (.tmp 17) 1, none⟩,
    ⟨(some 19), .load 46 (.tmp 18), none⟩,
    ⟨(some 20), .call ⟨.builtin .len, #[(.tmp 19)], #[46]⟩, none⟩,
    ⟨(some 21), .binOp .sub 3 (.tmp 20) (.const (.int .i64 1)) 3, none⟩,
    ⟨(some 6), .assign (.tmp 21), none⟩]) c_heap_Heap_string_Pop_7)
@[go_sem] theorem c_heap_Heap_string_Pop_8_at (rd : Option Nat) (K : Post3) (t : Fr) (m : Mem) : wpM E 27 53 rd c_heap_Heap_string_Pop_8 K t m = wpM E 27 53 rd (.seq (.ops [⟨(some 16), .move (.tmp 0), none⟩,
    ⟨(some 17), .nilCheck (.tmp 16), none⟩,
    ⟨(some 18), .fieldAddr 91 (.tmp 17) 1, none⟩,
    ⟨(some 19), .load 46 (.tmp 18), none⟩,
    ⟨(some 20), .call ⟨.builtin .len, #[(.tmp 19)], #[46]⟩, none⟩,
    ⟨(some 21), .binOp .sub 3 (.tmp 20) (.const (.int .i64 1)) 3, none⟩,
    ⟨(some 6), .assign (.tmp 21), none⟩]) c_heap_Heap_string_Pop_7) K t m := rfl

def c_heap_Heap_string_Pop_9 : MC := (.seq c_heap_Heap_string_Pop_2 c_heap_Heap_string_Pop_8)
@[go_sem] theorem c_heap_Heap_string_Pop_9_at (rd : Option Nat) (K : Post3) (t : Fr) (m : Mem) : wpM E 27 53 rd c_heap_Heap_string_Pop_9 K t m = wpM E 27 53 rd (.seq c_heap_Heap_string_Pop_2 c_heap_Heap_string_Pop_8) K t m := rfl

def c_heap_Heap_string_Pop_10 : MC := (.seq (.ops [⟨(some 9), .move (.tmp 0), none⟩,
    ⟨(some 10), .call ⟨.value (.func 44), #[(.tmp 9)], #[47]⟩, none⟩,
    ⟨(some 8), .move (.tmp 10), none⟩,
    ⟨(some 11), .extract (.tmp 8) 0, none⟩,
    ⟨(some 12), .extract (.tmp 8) 1, none⟩,
    ⟨(some 4), .assign (.tmp 11), none⟩,
    ⟨(some 5), .assign (.tmp 12), none⟩]) c_heap_Heap_string_Pop_9)
@[go_sem] theorem c_heap_Heap_string_Pop_10_at (rd : Option Nat) (K : Post3) (t : Fr) (m : Mem) : wpM E 27 53 rd c_heap_Heap_string_Pop_10 K t m = wpM E 27 53 rd (.seq (.ops [⟨(some 9), .move (.tmp 0), none⟩,
    ⟨(some 10), .call ⟨.value (.func 44), #[(.tmp 9)], #[47]⟩, none⟩,
    ⟨(some 8), .move (.tmp 10), none⟩,
    ⟨(some 11), .extract (.tmp 8) 0, none⟩,
    ⟨(some 12), .extract (.tmp 8) 1, none⟩,
    ⟨(some 4), .assign (.tmp 11), none⟩,
    ⟨(some 5), .assign (.tmp 12), none⟩]) c_heap_Heap_string_Pop_9) K t m := rfl

def c_heap_Heap_string_Pop_11 : MC := (.seq (.ops [⟨(some 2), .assign (.const (.string ⟨#[]⟩)), none⟩,
    ⟨(some 3), .assign (.const (.bool false)), none⟩]) c_heap_Heap_string_Pop_10)
@[go_sem] theorem c_heap_Heap_string_Pop_11_at (rd : Option Nat) (K : Post3) (t : Fr) (m : Mem) : wpM E 27 53 rd c_heap_Heap_string_Pop_11 K t m = wpM E 27 53 rd (.seq (.ops [⟨(some 2), .assign (.const (.string ⟨#[]⟩)), none⟩,
    ⟨(some 3), .assign (.const (.bool false)), none⟩]) c_heap_Heap_string_Pop_10) K t m := rfl

@[go_sem] theorem some27 : (E.fn 27).isSome = true := by kernel_rfl
set_option maxRecDepth 100000 in
theorem fn_heap_Heap_string_Pop : FnIs E 27 53 [.tmp 2, .tmp 3] c_heap_Heap_string_Pop_11 := ⟨by kernel_rfl, by kernel_rfl⟩

/-! (*sheaf/heap.Heap[string]).Len -/
abbrev F_heap_Heap_string_Len : FuncId := 28
def c_heap_Heap_string_Len_0 : MC := (.seq (.ops [⟨(some 3), .move (.tmp 0), none⟩,
    ⟨(some 4), .nilCheck (.tmp 3), none⟩,
    ⟨(some 5), .fieldAddr 91 (.tmp 4) 1, none⟩,
    ⟨(some 6), .load 46 (.tmp 5), none⟩,
    ⟨(some 7), .call ⟨.builtin .len, #[(.tmp 6)], #[46]⟩, none⟩,
    ⟨(some 2), .assign (.tmp 7), none⟩]) .ret)
@[go_sem] theorem c_heap_Heap_string_Len_0_at (rd : Option Nat) (K : Post3) (t : Fr) (m : Mem) : wpM E 28 8 rd c_heap_Heap_string_Len_0 K t m = wpM E 28 8 rd (.seq (.ops [⟨(some 3), .move (.tmp 0), none⟩,
    ⟨(some 4), .nilCheck (.tmp 3), none⟩,
    ⟨(some 5), .fieldAddr 91 (.tmp 4) 1, none⟩,
    ⟨(some 6), .load 46 (.tmp 5), none⟩,
    ⟨(some 7), .call ⟨.builtin .len, #[(.tmp 6)], #[46]⟩, none⟩,
    ⟨(some 2), .assign (.tmp 7), none⟩]) .ret) K t m := rfl

def c_heap_Heap_string_Len_1 : MC := (.seq (.ops [⟨(some 2), .assign (.const (.int .i64 0)), none⟩]) c_heap_Heap_string_Len_0)
@[go_sem] theorem c_heap_Heap_string_Len_1_at (rd : Option Nat) (K : Post3) (t : Fr) (m : Mem) : wpM E 28 8 rd c_heap_Heap_string_Len_1 K t m = wpM E 28 8 rd (.seq (.ops [⟨(some 2), .assign (.const (.int .i64 0)), none⟩]) c_heap_Heap_string_Len_0) K t m := rfl

@[go_sem] theorem some28 : (E.fn 28).isSome = true := by kernel_rfl
set_option maxRecDepth 100000 in
theorem fn_heap_Heap_string_Len : FnIs E 28 8 [.tmp 2] c_heap_Heap_string_Len_1 := ⟨by kernel_rfl, by kernel_rfl⟩

/-! (*sheaf/heap.Heap[int]).sink -/
abbrev F_heap_Heap_int_sink : FuncId := 41
def c_heap_Heap_int_sink_0 : MC := (.cond (.tmp 16) .skip (.exit 2))
@[go_sem] theorem c_heap_Heap_int_sink_0_at (rd : Option Nat) (K : Post3) (t : Fr) (m : Mem) : wpM E 41 79 rd c_heap_Heap_int_sink_0 K t m = wpM E 41 79 rd (.cond (.tmp 16) .skip (.exit 2)) K t m := rfl

def c_heap_Heap_int_sink_1 : MC := (.cond (.tmp 46) (.ops [⟨(some 47), .move (.tmp 5), none⟩,
    ⟨(some 3), .assign (.tmp 47), none⟩]) .skip)
@[go_sem] theorem c_heap_Heap_int_sink_1_at (rd : Option Nat) (K : Post3) (t : Fr) (m : Mem) : wpM E 41 79 rd c_heap_Heap_int_sink_1 K t m = wpM E 41 79 rd (.cond (.tmp 46) (.ops [⟨(some 47), .move (.tmp 5), none⟩,
    ⟨(some 3), .assign (.tmp 47), none⟩]) .skip) K t m := rfl

def c_heap_Heap_int_sink_2 : MC := (.seq (.ops [⟨(some 19), .move (.tmp 5), none⟩,
    ⟨(some 20), .move (.tmp 0), none⟩,
    ⟨(some 21), .nilCheck (.tmp 20), none⟩,
    ⟨(some 22), .fieldAddr 86 (.tmp 21) 1, none⟩,
    ⟨(some 23), .load 25 (.tmp 22), none⟩,
    ⟨(some 24), .call ⟨.builtin .len, #[(.tmp 23)], #[25]⟩, none⟩,
    ⟨(some 25), .binOp .lss 3 (.tmp 19) (.tmp 24) 3, none⟩,
    ⟨(some 26), .move (.tmp 25), none⟩,
    ⟨(some 27), .move (.tmp 0), (some (some 26, true))⟩,
    ⟨(some 28), .nilCheck (.tmp 27), (some (some 26, true))⟩,
    ⟨(some 29), .fieldAddr 86 (.tmp 28) 0, (some (some 26, true))⟩,
    ⟨(some 30), .load 24 (.tmp 29), (some (some 26, true))⟩,
    ⟨(some 31), .move (.tmp 0), (some (some 26, true))⟩,
    ⟨(some 32), .nilCheck (.tmp 31), (some (some 26, true))⟩,
    ⟨(some 33), .fieldAddr 86 (.tmp 32) 1, (some (some 26, true))⟩,
    ⟨(some 34), .load 25 (.tmp 33), (some (some 26, true))⟩,
    ⟨(some 35), .move (.tmp 5), (some (some 26, true))⟩,
    ⟨(some 36), .indexAddr 25 (.tmp 34) (.tmp 35), (some (some 26, true))⟩,
    ⟨(some 37), .load 3 (.tmp 36), (some (some 26, true))⟩,
    ⟨(some 38), .move (.tmp 0), (some (some 26, true))⟩,
    ⟨(some 39), .nilCheck (.tmp 38), (some (some 26, true))⟩,
    ⟨(some 40), .fieldAddr 86 (.tmp 39) 1, (some (some 26, true))⟩,
    ⟨(some 41), .load 25 (.tmp 40), (some (some 26, true))⟩,
    ⟨(some 42), .move (.tmp 3), (some (some 26, true))⟩,
    ⟨(some 43), .indexAddr 25 (.tmp 41) (.tmp 42), (some (some 26, true))⟩,
    ⟨(some 44), .load 3 (.tmp 43), (some (some 26, true))⟩,
    ⟨(some 45), .call ⟨.value (.tmp 30), #[(.tmp 37), (.tmp 44)], #[3, 3]⟩, (some (some 26, true))⟩,
    ⟨(some 46), .pick (.tmp 26) (.tmp 45) (.const (.bool false)), none⟩]) c_heap_Heap_int_sink_1)
@[go_sem] theorem c_heap_Heap_int_sink_2_at (rd : Option Nat) (K : Post3) (t : Fr) (m : Mem) : wpM E 41 79 rd c_heap_Heap_int_sink_2 K t m = wpM E 41 79 rd (.seq (.ops [⟨(some 19), .move (.tmp 5), none⟩,
    ⟨(some 20), .move (.tmp 0), none⟩,
    ⟨(some 21), .nilCheck (.tmp 20), none⟩,
    ⟨(some 22), .fieldAddr 86 (.tmp 21) 1, none⟩,
    ⟨(some 23), .load 25 (.tmp 22), none⟩,
    ⟨(some 24), .call ⟨.builtin .len, #[(.tmp 23)], #[25]⟩, none⟩,
    ⟨(some 25), .binOp .lss 3 (.tmp 19) (.tmp 24) 3, none⟩,
    ⟨(some 26), .move (.tmp 25), none⟩,
    ⟨(some 27), .move (.tmp 0), (some (some 26, true))⟩,
    ⟨(some 28), .nilCheck (.tmp 27), (some (some 26, true))⟩,
    ⟨(some 29), .fieldAddr 86 (.tmp 28) 0, (some (some 26, true))⟩,
    ⟨(some 30), .load 24 (.tmp 29), (some (some 26, true))⟩,
    ⟨(some 31), .move (.tmp 0), (some (some 26, true))⟩,
    ⟨(some 32), .nilCheck (.tmp 31), (some (some 26, true))⟩,
    ⟨(some 33), .fieldAddr 86 (.tmp 32) 1, (some (some 26, true))⟩,
    ⟨(some 34), .load 25 (.tmp 33), (some (some 26, true))⟩,
    ⟨(some 35), .move (.tmp 5), (some (some 26, true))⟩,
    ⟨(some 36), .indexAddr 25 (.tmp 34) (.tmp 35), (some (some 26, true))⟩,
    ⟨(some 37), .load 3 (.tmp 36), (some (some 26, true))⟩,
    ⟨(some 38), .move (.tmp 0), (some (some 26, true))⟩,
    ⟨(some 39), .nilCheck (.tmp 38), (some (some 26, true))⟩,
    ⟨(some 40), .fieldAddr 86 (.tmp 39) 1, (some (some 26, true))⟩,
    ⟨(some 41), .load 25 (.tmp 40), (some (some 26, true))⟩,
    ⟨(some 42), .move (.tmp 3), (some (some 26, true))⟩,
    ⟨(some 43), .indexAddr 25 (.tmp 41) (.tmp 42), (some (some 26, true))⟩,
    ⟨(some 44), .load 3 (.tmp 43), (some (some 26, true))⟩,
    ⟨(some 45), .call ⟨.value (.tmp 30), #[(.tmp 37), (.tmp 44)], #[3, 3]⟩, (some (some 26, true))⟩,
    ⟨(some 46), .pick (.tmp 26) (.tmp 45) (.const (.bool false)), none⟩]) c_heap_Heap_int_sink_1) K t m := rfl

def c_heap_Heap_int_sink_3 : MC := (.seq (.ops [⟨(some 17), .indexAddr 25 (.tmp 13) (.tmp 15), none⟩,
    ⟨(some 18), .load 3 (.tmp 17), none⟩,
    ⟨(some 5), .assign (.tmp 18), none⟩]) c_heap_Heap_int_sink_2)
@[go_sem] theorem c_heap_Heap_int_sink_3_at (rd : Option Nat) (K : Post3) (t : Fr) (m : Mem) : wpM E 41 79 rd c_heap_Heap_int_sink_3 K t m = wpM E 41 79 rd (.seq (.ops [⟨(some 17), .indexAddr 25 (.tmp 13) (.tmp 15), none⟩,
    ⟨(some 18), .load 3 (.tmp 17), none⟩,
    ⟨(some 5), .assign (.tmp 18), none⟩]) c_heap_Heap_int_sink_2) K t m := rfl

def c_heap_Heap_int_sink_4 : MC := (.block 3 c_heap_Heap_int_sink_3)
@[go_sem] theorem c_heap_Heap_int_sink_4_at (rd : Option Nat) (K : Post3) (t : Fr) (m : Mem) : wpM E 41 79 rd c_heap_Heap_int_sink_4 K t m = wpM E 41 79 rd (.block 3 c_heap_Heap_int_sink_3) K t m := rfl

def c_heap_Heap_int_sink_5 : MC := (.seq c_heap_Heap_int_sink_4 (.ops [⟨(some 48), .binOp .add 3 (.tmp 15) (.const (.int .i64 1)) 3, none⟩,
    ⟨(some 15), .move (.tmp 48), none⟩]))
@[go_sem] theorem c_heap_Heap_int_sink_5_at (rd : Option Nat) (K : Post3) (t : Fr) (m : Mem) : wpM E 41 79 rd c_heap_Heap_int_sink_5 K t m = wpM E 41 79 rd (.seq c_heap_Heap_int_sink_4 (.ops [⟨(some 48), .binOp .add 3 (.tmp 15) (.const (.int .i64 1)) 3, none⟩,
    ⟨(some 15), .move (.tmp 48), none⟩])) K t m := rfl

def c_heap_Heap_int_sink_6 : MC := (.seq c_heap_Heap_int_sink_0 c_heap_Heap_int_sink_5)
@[go_sem] theorem c_heap_Heap_int_sink_6_at (rd : Option Nat) (K : Post3) (t : Fr) (m : Mem) : wpM E 41 79 rd c_heap_Heap_int_sink_6 K t m = wpM E 41 79 rd (.seq c_heap_Heap_int_sink_0 c_heap_Heap_int_sink_5) K t m := rfl

def c_heap_Heap_int_sink_7 : MC := (.seq (.ops [⟨(some 16), .binOp .lss 3 (.tmp 15) (.tmp 14) 3, none⟩]) c_heap_Heap_int_sink_6)
@[go_sem] theorem c_heap_Heap_int_sink_7_at (rd : Option Nat) (K : Post3) (t : Fr) (m : Mem) : wpM E 41 79 rd c_heap_Heap_int_sink_7 K t m = wpM E 41 79 rd (.seq (.ops [⟨(some 16), .binOp .lss 3 (.tmp 15) (.tmp 14) 3, none⟩]) c_heap_Heap_int_sink_6) K t m := rfl

def c_heap_Heap_int_sink_8 : MC := (.loop c_heap_Heap_int_sink_7)
theorem c_heap_Heap_int_sink_8_at (rd : Option Nat) (K : Post3) (t : Fr) (m : Mem) : wpM E 41 79 rd c_heap_Heap_int_sink_8 K t m = wpM E 41 79 rd (.loop c_heap_Heap_int_sink_7) K t m := rfl

def c_heap_Heap_int_sink_9 : MC := (.block 2 c_heap_Heap_int_sink_8)
theorem c_heap_Heap_int_sink_9_at (rd : Option Nat) (K : Post3) (t : Fr) (m : Mem) : wpM E 41 79 rd c_heap_Heap_int_sink_9 K t m = wpM E 41 79 rd (.block 2 c_heap_Heap_int_sink_8) K t m := rfl

def c_heap_Heap_int_sink_10 : MC := (.seq (.ops [⟨(some 7), .move (.tmp 2), none⟩,
    ⟨(some 8), .binOp .mul 3 (.const (.int .i64 2)) (.tmp 7) 3, none⟩,
    ⟨(some 9), .binOp .add 3 (.tmp 8) (.const (.int .i64 1)) 3, none⟩,
    ⟨(some 10), .move (.tmp 2), none⟩,
    ⟨(some 11), .binOp .mul 3 (.const (.int .i64 2)) (.tmp 10) 3, none⟩,
    ⟨(some 12), .binOp .add 3 (.tmp 11) (.const (.int .i64 2)) 3, none⟩,
    ⟨(some 13), .buildSlice 25 2 #[(0, (.tmp 9)), (1, (.tmp 12))], none⟩,
    ⟨(some 14), .call ⟨.builtin .len, #[(.tmp 13)], #[25]⟩, none⟩,
    ⟨(some 15), .move (.const (.int .i64 0)), none⟩]) c_heap_Heap_int_sink_9)
@[go_sem] theorem c_heap_Heap_int_sink_10_at (rd : Option Nat) (K : Post3) (t : Fr) (m : Mem) : wpM E 41 79 rd c_heap_Heap_int_sink_10 K t m = wpM E 41 79 rd (.seq (.ops [⟨(some 7), .move (.tmp 2), none⟩,
    ⟨(some 8), .binOp .mul 3 (.const (.int .i64 2)) (.tmp 7) 3, none⟩,
    ⟨(some 9), .binOp .add 3 (.tmp 8) (.const (.int .i64 1)) 3, none⟩,
    ⟨(some 10), .move (.tmp 2), none⟩,
    ⟨(some 11), .binOp .mul 3 (.const (.int .i64 2)) (.tmp 10) 3, none⟩,
    ⟨(some 12), .binOp .add 3 (.tmp 11) (.const (.int .i64 2)) 3, none⟩,
    ⟨(some 13), .buildSlice 25 2 #[(0, (.tmp 9)), (1, (.tmp 12))], none⟩,
    ⟨(some 14), .call ⟨.builtin .len, #[(.tmp 13)], #[25]⟩, none⟩,
    ⟨(some 15), .move (.const (.int .i64 0)), none⟩]) c_heap_Heap_int_sink_9) K t m := rfl

def c_heap_Heap_int_sink_11 : MC := (.cond (.tmp 51) .ret .skip)
@[go_sem] theorem c_heap_Heap_int_sink_11_at (rd : Option Nat) (K : Post3) (t : Fr) (m : Mem) : wpM E 41 79 rd c_heap_Heap_int_sink_11 K t m = wpM E 41 79 rd (.cond (.tmp 51) .ret .skip) K t m := rfl

def c_heap_Heap_int_sink_12 : MC := (.seq (.ops [⟨(some 49), .move (.tmp 3), none⟩,
    ⟨(some 50), .move (.tmp 2), none⟩,
    ⟨(some 51), .binOp .eql 3 (.tmp 49) (.tmp 50) 3, none⟩]) c_heap_Heap_int_sink_11)
@[go_sem] theorem c_heap_Heap_int_sink_12_at (rd : Option Nat) (K : Post3) (t : Fr) (m : Mem) : wpM E 41 79 rd c_heap_Heap_int_sink_12 K t m = wpM E 41 79 rd (.seq (.ops [⟨(some 49), .move (.tmp 3), none⟩,
    ⟨(some 50), .move (.tmp 2), none⟩,
    ⟨(some 51), .binOp .eql 3 (.tmp 49) (.tmp 50) 3, none⟩]) c_heap_Heap_int_sink_11) K t m := rfl

def c_heap_Heap_int_sink_13 : MC := (.seq (.ops [⟨(some 52), .move (.tmp 0), none⟩,
    ⟨(some 53), .nilCheck (.tmp 52), none⟩,
    ⟨(some 54), .fieldAddr 86 (.tmp 53) 1, none⟩,
    ⟨(some 55), .load 25 (.tmp 54), none⟩,
    ⟨(some 56), .move (.tmp 2), none⟩,
    ⟨(some 57), .move (.tmp 0), none⟩,
    ⟨(some 58), .nilCheck (.tmp 57), none⟩,
    ⟨(some 59), .fieldAddr 86 (.tmp 58) 1, none⟩,
    ⟨(some 60), .load 25 (.tmp 59), none⟩,
    ⟨(some 61), .move (.tmp 3), none⟩,
    ⟨(some 62), .move (.tmp 0), none⟩,
    ⟨(some 63), .nilCheck (.tmp 62), none⟩,
    ⟨(some 64), .fieldAddr 86 (.tmp 63) 1, none⟩,
    ⟨(some 65), .load 25 (.tmp 64), none⟩,
    ⟨(some 66), .move (.tmp 3), none⟩,
    ⟨(some 67), .indexAddr 25 (.tmp 65) (.tmp 66), none⟩,
    ⟨(some 68), .load 3 (.tmp 67), none⟩,
    ⟨(some 69), .move (.tmp 0), none⟩,
    ⟨(some 70), .nilCheck (.tmp 69), none⟩,
    ⟨(some 71), .fieldAddr 86 (.tmp 70) 1, none⟩,
    ⟨(some 72), .load 25 (.tmp 71), none⟩,
    ⟨(some 73), .move (.tmp 2), none⟩,
    ⟨(some 74), .indexAddr 25 (.tmp 72) (.tmp 73), none⟩,
    ⟨(some 75), .load 3 (.tmp 74), none⟩,
    ⟨(some 76), .indexAddr 25 (.tmp 55) (.tmp 56), none⟩,
    ⟨none, .store 3 (.tmp 76) (.tmp 68), none⟩,
    ⟨(some 77), .indexAddr 25 (.tmp 60) (.tmp 61), none⟩,
    ⟨none, .store 3 (.tmp 77) (.tmp 75), none⟩]) (.ops [⟨(some 78), .move (.tmp 3), none⟩,
    ⟨(some 2), .assign (.tmp 78), none⟩]))
@[go_sem] theorem c_heap_Heap_int_sink_13_at (rd : Option Nat) (K : Post3) (t : Fr) (m : Mem) : wpM E 41 79 rd c_heap_Heap_int_sink_13 K t m = wpM E 41 79 rd (.seq (.ops [⟨(some 52), .move (.tmp 0), none⟩,
    ⟨(some 53), .nilCheck (.tmp 52), none⟩,
    ⟨(some 54), .fieldAddr 86 (.tmp 53) 1, none⟩,
    ⟨(some 55), .load 25 (.tmp 54), none⟩,
    ⟨(some 56), .move (.tmp 2), none⟩,
    ⟨(some 57), .move (.tmp 0), none⟩,
    ⟨(some 58), .nilCheck (.tmp 57), none⟩,
    ⟨(some 59), .fieldAddr 86 (.tmp 58) 1, none⟩,
    ⟨(some 60), .load 25 (.tmp 59), none⟩,
    ⟨(some 61), .move (.tmp 3), none⟩,
    ⟨(some 62), .move (.tmp 0), none⟩,
    ⟨(some 63), .nilCheck (.tmp 62), none⟩,
    ⟨(some 64), .fieldAddr 86 (.tmp 63) 1, none⟩,
    ⟨(some 65), .load 25 (.tmp 64), none⟩,
    ⟨(some 66), .move (.tmp 3), none⟩,
    ⟨(some 67), .indexAddr 25 (.tmp 65) (.tmp 66), none⟩,
    ⟨(some 68), .load 3 (.tmp 67), none⟩,
    ⟨(some 69), .move (.tmp 0), none⟩,
    ⟨(some 70), .nilCheck (.tmp 69), none⟩,
    ⟨(some 71), .fieldAddr 86 (.tmp 70) 1, none⟩,
    ⟨(some 72), .load 25 (.tmp 71), none⟩,
    ⟨(some 73), .move (.tmp 2), none⟩,
    ⟨(some 74), .indexAddr 25 (.tmp 72) (.tmp 73), none⟩,
    ⟨(some 75), .load 3 (.tmp 74), none⟩,
    ⟨(some 76), .indexAddr 25 (.tmp 55) (.tmp 56), none⟩,
    ⟨none, .store 3 (.tmp 76) (.tmp 68), none⟩,
    ⟨(some 77), .indexAddr 25 (.tmp 60) (.tmp 61), none⟩,
    ⟨none, .store 3 (.tmp 77) (.tmp 75), none⟩]) (.ops [⟨(some 78), .move (.tmp 3), none⟩,
    ⟨(some 2), .assign (.tmp 78), none⟩])) K t m := rfl

def c_heap_Heap_int_sink_14 : MC := (.seq c_heap_Heap_int_sink_12 c_heap_Heap_int_sink_13)
@[go_sem] theorem c_heap_Heap_int_sink_14_at (rd : Option Nat) (K : Post3) (t : Fr) (m : Mem) : wpM E 41 79 rd c_heap_Heap_int_sink_14 K t m = wpM E 41 79 rd (.seq c_heap_Heap_int_sink_12 c_heap_Heap_int_sink_13) K t m := rfl

def c_heap_Heap_int_sink_15 : MC := (.seq c_heap_Heap_int_sink_10 c_heap_Heap_int_sink_14)
@[go_sem] theorem c_heap_Heap_int_sink_15_at (rd : Option Nat) (K : Post3) (t : Fr) (m : Mem) : wpM E 41 79 rd c_heap_Heap_int_sink_15 K t m = wpM E 41 79 rd (.seq c_heap_Heap_int_sink_10 c_heap_Heap_int_sink_14) K t m := rfl

def c_heap_Heap_int_sink_16 : MC := (.seq (.ops [⟨(some 6), .move (.tmp 2), none⟩,
    ⟨(some 3), .assign (.tmp 6), none⟩]) c_heap_Heap_int_sink_15)
@[go_sem] theorem c_heap_Heap_int_sink_16_at (rd : Option Nat) (K : Post3) (t : Fr) (m : Mem) : wpM E 41 79 rd c_heap_Heap_int_sink_16 K t m = wpM E 41 79 rd (.seq (.ops [⟨(some 6), .move (.tmp 2), none⟩,
    ⟨(some 3), .assign (.tmp 6), none⟩]) c_heap_Heap_int_sink_15) K t m := rfl

def c_heap_Heap_int_sink_17 : MC := (.block 1 c_heap_Heap_int_sink_16)
@[go_sem] theorem c_heap_Heap_int_sink_17_at (rd : Option Nat) (K : Post3) (t : Fr) (m : Mem) : wpM E 41 79 rd c_heap_Heap_int_sink_17 K t m = wpM E 41 79 rd (.block 1 c_heap_Heap_int_sink_16) K t m := rfl

def c_heap_Heap_int_sink_18 : MC := (.loop c_heap_Heap_int_sink_17)
theorem c_heap_Heap_int_sink_18_at (rd : Option Nat) (K : Post3) (t : Fr) (m : Mem) : wpM E 41 79 rd c_heap_Heap_int_sink_18 K t m = wpM E 41 79 rd (.loop c_heap_Heap_int_sink_17) K t m := rfl

def c_heap_Heap_int_sink_19 : MC := (.block 0 c_heap_Heap_int_sink_18)
theorem c_heap_Heap_int_sink_19_at (rd : Option Nat) (K : Post3) (t : Fr) (m : Mem) : wpM E 41 79 rd c_heap_Heap_int_sink_19 K t m = wpM E 41 79 rd (.block 0 c_heap_Heap_int_sink_18) K t m := rfl

def c_heap_Heap_int_sink_20 : MC := (.seq (.ops [⟨(some 2), .assign (.const (.int .i64 0)), none⟩]) c_heap_Heap_int_sink_19)
@[go_sem] theorem c_heap_Heap_int_sink_20_at (rd : Option Nat) (K : Post3) (t : Fr) (m : Mem) : wpM E 41 79 rd c_heap_Heap_int_sink_20 K t m = wpM E 41 79 rd (.seq (.ops [⟨(some 2), .assign (.const (.int .i64 0)), none⟩]) c_heap_Heap_int_sink_19) K t m := rfl

@[go_sem] theorem some41 : (E.fn 41).isSome = true := by kernel_rfl
set_option maxRecDepth 100000 in
theorem fn_heap_Heap_int_sink : FnIs E 41 79 [] c_heap_Heap_int_sink_20 := ⟨by kernel_rfl, by kernel_rfl⟩

/-! (*sheaf/heap.Heap[sheaf/sheaflaw8.pair]).Top -/
abbrev F_heap_Heap_sheaflaw8_pair_Top : FuncId := 42
def c_heap_Heap_sheaflaw8_pair_Top_0 : MC := (.seq (.ops [⟨(some 11), .load 39 (.tmp 4), none⟩,
    ⟨none, .store 39 (.tmp 2) (.tmp 11), none⟩,
    ⟨(some 3), .assign (.const (.bool false)), none⟩]) .ret)
@[go_sem] theorem c_heap_Heap_sheaflaw8_pair_Top_0_at (rd : Option Nat) (K : Post3) (t : Fr) (m : Mem) : wpM E 42 18 rd c_heap_Heap_sheaflaw8_pair_Top_0 K t m = wpM E 42 18 rd (.seq (.ops [⟨(some 11), .load 39 (.tmp 4), none⟩,
    ⟨none, .store 39 (.tmp 2) (.tmp 11), none⟩,
    ⟨(some 3), .assign (.const (.bool false)), none⟩]) .ret) K t m := rfl

def c_heap_Heap_sheaflaw8_pair_Top_1 : MC := (.seq (.ops [⟨(some 4), .alloc 39, none⟩]) c_heap_Heap_sheaflaw8_pair_Top_0)
@[go_sem] theorem c_heap_Heap_sheaflaw8_pair_Top_1_at (rd : Option Nat) (K : Post3) (t : Fr) (m : Mem) : wpM E 42 18 rd c_heap_Heap_sheaflaw8_pair_Top_1 K t m = wpM E 42 18 rd (.seq (.ops [⟨(some 4), .alloc 39, none⟩]) c_heap_Heap_sheaflaw8_pair_Top_0) K t m := rfl

def c_heap_Heap_sheaflaw8_pair_Top_2 : MC := (.cond (.tmp 10) c_heap_Heap_sheaflaw8_pair_Top_1 .skip)
@[go_sem] theorem c_heap_Heap_sheaflaw8_pair_Top_2_at (rd : Option Nat) (K : Post3) (t : Fr) (m : Mem) : wpM E 42 18 rd c_heap_Heap_sheaflaw8_pair_Top_2 K t m = wpM E 42 18 rd (.cond (.tmp 10) c_heap_Heap_sheaflaw8_pair_Top_1 .skip) K t m := rfl

def c_heap_Heap_sheaflaw8_pair_Top_3 : MC := (.seq (.ops [⟨(some 5), .move (.tmp 0), none⟩,
    ⟨(some 6), .nilCheck (.tmp 5), none⟩,
    ⟨(some 7), .fieldAddr 89 (.tmp 6) 1, none⟩,
    ⟨(some 8), .load 87 (.tmp 7), none⟩,
    ⟨(some 9), .call ⟨.builtin .len, #[(.tmp 8)], #[87]⟩, none⟩,
    ⟨(some 10), .binOp .eql 3 (.tmp 9) (.const (.int .i64 0)) 3, none⟩]) c_heap_Heap_sheaflaw8_pair_Top_2)
@[go_sem] theorem c_heap_Heap_sheaflaw8_pair_Top_3_at (rd : Option Nat) (K : Post3) (t : Fr) (m : Mem) : wpM E 42 18 rd c_heap_Heap_sheaflaw8_pair_Top_3 K t m = wpM E 42 18 rd (.seq (.ops [⟨(some 5), .move (.tmp 0), none⟩,
    ⟨(some 6), .nilCheck (.tmp 5), none⟩,
    ⟨(some 7), .fieldAddr 89 (.tmp 6) 1, none⟩,
    ⟨(some 8), .load 87 (.tmp 7), none⟩,
    ⟨(some 9), .call ⟨.builtin .len, #[(.tmp 8)], #[87]⟩, none⟩,
    ⟨(some 10), .binOp .eql 3 (.tmp 9) (.const (.int .i64 0)) 3, none⟩]) c_heap_Heap_sheaflaw8_pair_Top_2) K t m := rfl

def c_heap_Heap_sheaflaw8_pair_Top_4 : MC := (.seq (.ops [⟨(some 12), .move (.tmp 0), none⟩,
    ⟨(some 13), .nilCheck (.tmp 12), none⟩,
    ⟨(some 14), .fieldAddr 89 (.tmp 13) 1, none⟩,
    ⟨(some 15), .load 87 (.tmp 14), none⟩,
    ⟨(some 16), .indexAddr 87 (.tmp 15) (.const (.int .i64 0)), none⟩,
    ⟨(some 17), .load 39 (.tmp 16), none⟩,
    ⟨none, .store 39 (.tmp 2) (.tmp 17), none⟩,
    ⟨(some 3), .assign (.const (.bool true)), none⟩]) .ret)
@[go_sem] theorem c_heap_Heap_sheaflaw8_pair_Top_4_at (rd : Option Nat) (K : Post3) (t : Fr) (m : Mem) : wpM E 42 18 rd c_heap_Heap_sheaflaw8_pair_Top_4 K t m = wpM E 42 18 rd (.seq (.ops [⟨(some 12), .move (.tmp 0), none⟩,
    ⟨(some 13), .nilCheck (.tmp 12), none⟩,
    ⟨(some 14), .fieldAddr 89 (.tmp 13) 1, none⟩,
    ⟨(some 15), .load 87 (.tmp 14), none⟩,
    ⟨(some 16), .indexAddr 87 (.tmp 15) (.const (.int .i64 0)), none⟩,
    ⟨(some 17), .load 39 (.tmp 16), none⟩,
    ⟨none, .store 39 (.tmp 2) (.tmp 17), none⟩,
    ⟨(some 3), .assign (.const (.bool true)), none⟩]) .ret) K t m := rfl

def c_heap_Heap_sheaflaw8_pair_Top_5 : MC := (.seq c_heap_Heap_sheaflaw8_pair_Top_3 c_heap_Heap_sheaflaw8_pair_Top_4)
@[go_sem] theorem c_heap_Heap_sheaflaw8_pair_Top_5_at (rd : Option Nat) (K : Post3) (t : Fr) (m : Mem) : wpM E 42 18 rd c_heap_Heap_sheaflaw8_pair_Top_5 K t m = wpM E 42 18 rd (.seq c_heap_Heap_sheaflaw8_pair_Top_3 c_heap_Heap_sheaflaw8_pair_Top_4) K t m := rfl

def c_heap_Heap_sheaflaw8_pair_Top_6 : MC := (.seq (.ops [⟨(some 2), .alloc 39, none⟩,
    ⟨(some 3), .assign (.const (.bool false)), none⟩]) c_heap_Heap_sheaflaw8_pair_Top_5)
@[go_sem] theorem c_heap_Heap_sheaflaw8_pair_Top_6_at (rd : Option Nat) (K : Post3) (t : Fr) (m : Mem) : wpM E 42 18 rd c_heap_Heap_sheaflaw8_pair_Top_6 K t m = wpM E 42 18 rd (.seq (.ops [⟨(some 2), .alloc 39, none⟩,
    ⟨(some 3), .assign (.const (.bool false)), none⟩]) c_heap_Heap_sheaflaw8_pair_Top_5) K t m := rfl

@[go_sem] theorem some42 : (E.fn 42).isSome = true := by kernel_rfl
set_option maxRecDepth 100000 in
theorem fn_heap_Heap_sheaflaw8_pair_Top : FnIs E 42 18 [.cell 2 39, .tmp 3] c_heap_Heap_sheaflaw8_pair_Top_6 := ⟨by kernel_rfl, by kernel_rfl⟩

/-! (*sheaf/heap.Heap[sheaf/sheaflaw8.pair]).sink -/
abbrev F_heap_Heap_sheaflaw8_pair_sink : FuncId := 43
def c_heap_Heap_sheaflaw8_pair_sink_0 : MC := (.cond (.tmp 16) .skip (.exit 2))
@[go_sem] theorem c_heap_Heap_sheaflaw8_pair_sink_0_at (rd : Option Nat) (K : Post3) (t : Fr) (m : Mem) : wpM E 43 79 rd c_heap_Heap_sheaflaw8_pair_sink_0 K t m = wpM E 43 79 rd (.cond (.tmp 16) .skip (.exit 2)) K t m := rfl

def c_heap_Heap_sheaflaw8_pair_sink_1 : MC := (.cond (.tmp 46) (.ops [⟨(some 47), .move (.tmp 5), none⟩,
    ⟨(some 3), .assign (.tmp 47), none⟩]) .skip)
@[go_sem] theorem c_heap_Heap_sheaflaw8_pair_sink_1_at (rd : Option Nat) (K : Post3) (t : Fr) (m : Mem) : wpM E 43 79 rd c_heap_Heap_sheaflaw8_pair_sink_1 K t m = wpM E 43 79 rd (.cond (.tmp 46) (.ops [⟨(some 47), .move (.tmp 5), none⟩,
    ⟨(some 3), .assign (.tmp 47), none⟩]) .skip) K t m := rfl

def c_heap_Heap_sheaflaw8_pair_sink_2 : MC := (.seq (.ops [⟨(some 19), .move (.tmp 5), none⟩,
    ⟨(some 20), .move (.tmp 0), none⟩,
    ⟨(some 21), .nilCheck (.tmp 20), none⟩,
    ⟨(some 22), .fieldAddr 89 (.tmp 21) 1, none⟩,
    ⟨(some 23), .load 87 (.tmp 22), none⟩,
    ⟨(some 24), .call ⟨.builtin .len, #[(.tmp 23)], #[87]⟩, none⟩,
    ⟨(some 25), .binOp .lss 3 (.tmp 19) (.tmp 24) 3, none⟩,
    ⟨(some 26), .move (.tmp 25), none⟩,
    ⟨(some 27), .move (.tmp 0), (some (some 26, true))⟩,
    ⟨(some 28), .nilCheck (.tmp 27), (some (some 26, true))⟩,
    ⟨(some 29), .fieldAddr 89 (.tmp 28) 0, (some (some 26, true))⟩,
    ⟨(some 30), .load 40 (.tmp 29), (some (some 26, true))⟩,
    ⟨(some 31), .move (.tmp 0), (some (some 26, true))⟩,
    ⟨(some 32), .nilCheck (.tmp 31), (some (some 26, true))⟩,
    ⟨(some 33), .fieldAddr 89 (.tmp 32) 1, (some (some 26, true))⟩,
    ⟨(some 34), .load 87 (.tmp 33), (some (some 26, true))⟩,
    ⟨(some 35), .move (.tmp 5), (some (some 26, true))⟩,
    ⟨(some 36), .indexAddr 87 (.tmp 34) (.tmp 35), (some (some 26, true))⟩,
    ⟨(some 37), .load 39 (.tmp 36), (some (some 26, true))⟩,
    ⟨(some 38), .move (.tmp 0), (some (some 26, true))⟩,
    ⟨(some 39), .nilCheck (.tmp 38), (some (some 26, true))⟩,
    ⟨(some 40), .fieldAddr 89 (.tmp 39) 1, (some (some 26, true))⟩,
    ⟨(some 41), .load 87 (.tmp 40), (some (some 26, true))⟩,
    ⟨(some 42), .move (.tmp 3), (some (some 26, true))⟩,
    ⟨(some 43), .indexAddr 87 (.tmp 41) (.tmp 42), (some (some 26, true))⟩,
    ⟨(some 44), .load 39 (.tmp 43), (some (some 26, true))⟩,
    ⟨(some 45), .call ⟨.value (.tmp 30), #[(.tmp 37), (.tmp 44)], #[39, 39]⟩, (some (some 26, true))⟩,
    ⟨(some 46), .pick (.tmp 26) (.tmp 45) (.const (.bool false)), none⟩]) c_heap_Heap_sheaflaw8_pair_sink_1)
@[go_sem] theorem c_heap_Heap_sheaflaw8_pair_sink_2_at (rd : Option Nat) (K : Post3) (t : Fr) (m : Mem) : wpM E 43 79 rd c_heap_Heap_sheaflaw8_pair_sink_2 K t m = wpM E 43 79 rd (.seq (.ops [⟨(some 19), .move (.tmp 5), none⟩,
    ⟨(some 20), .move (.tmp 0), none⟩,
    ⟨(some 21), .nilCheck (.tmp 20), none⟩,
    ⟨(some 22), .fieldAddr 89 (.tmp 21) 1, none⟩,
    ⟨(some 23), .load 87 (.tmp 22), none⟩,
    ⟨(some 24), .call ⟨.builtin .len, #[(.tmp 23)], #[87]⟩, none⟩,
    ⟨(some 25), .binOp .lss 3 (.tmp 19) (.tmp 24) 3, none⟩,
    ⟨(some 26), .move (.tmp 25), none⟩,
    ⟨(some 27), .move (.tmp 0), (some (some 26, true))⟩,
    ⟨(some 28), .nilCheck (.tmp 27), (some (some 26, true))⟩,
    ⟨(some 29), .fieldAddr 89 (.tmp 28) 0, (some (some 26, true))⟩,
    ⟨(some 30), .load 40 (.tmp 29), (some (some 26, true))⟩,
    ⟨(some 31), .move (.tmp 0), (some (some 26, true))⟩,
    ⟨(some 32), .nilCheck (.tmp 31), (some (some 26, true))⟩,
    ⟨(some 33), .fieldAddr 89 (.tmp 32) 1, (some (some 26, true))⟩,
    ⟨(some 34), .load 87 (.tmp 33), (some (some 26, true))⟩,
    ⟨(some 35), .move (.tmp 5), (some (some 26, true))⟩,
    ⟨(some 36), .indexAddr 87 (.tmp 34) (.tmp 35), (some (some 26, true))⟩,
    ⟨(some 37), .load 39 (.tmp 36), (some (some 26, true))⟩,
    ⟨(some 38), .move (.tmp 0), (some (some 26, true))⟩,
    ⟨(some 39), .nilCheck (.tmp 38), (some (some 26, true))⟩,
    ⟨(some 40), .fieldAddr 89 (.tmp 39) 1, (some (some 26, true))⟩,
    ⟨(some 41), .load 87 (.tmp 40), (some (some 26, true))⟩,
    ⟨(some 42), .move (.tmp 3), (some (some 26, true))⟩,
    ⟨(some 43), .indexAddr 87 (.tmp 41) (.tmp 42), (some (some 26, true))⟩,
    ⟨(some 44), .load 39 (.tmp 43), (some (some 26, true))⟩,
    ⟨(some 45), .call ⟨.value (.tmp 30), #[(.tmp 37), (.tmp 44)], #[39, 39]⟩, (some (some 26, true))⟩,
    ⟨(some 46), .pick (.tmp 26) (.tmp 45) (.const (.bool false)), none⟩]) c_heap_Heap_sheaflaw8_pair_sink_1) K t m := rfl

def c_heap_Heap_sheaflaw8_pair_sink_3 : MC := (.seq (.ops [⟨(some 17), .indexAddr 25 (.tmp 13) (.tmp 15), none⟩,
    ⟨(some 18), .load 3 (.tmp 17), none⟩,
    ⟨(some 5), .assign (.tmp 18), none⟩]) c_heap_Heap_sheaflaw8_pair_sink_2)
@[go_sem] theorem c_heap_Heap_sheaflaw8_pair_sink_3_at (rd : Option Nat) (K : Post3) (t : Fr) (m : Mem) : wpM E 43 79 rd c_heap_Heap_sheaflaw8_pair_sink_3 K t m = wpM E 43 79 rd (.seq (.ops [⟨(some 17), .indexAddr 25 (.tmp 13) (.tmp 15), none⟩,
    ⟨(some 18), .load 3 (.tmp 17), none⟩,
    ⟨(some 5), .assign (.tmp 18), none⟩]) c_heap_Heap_sheaflaw8_pair_sink_2) K t m := rfl

def c_heap_Heap_sheaflaw8_pair_sink_4 : MC := (.block 3 c_heap_Heap_sheaflaw8_pair_sink_3)
@[go_sem] theorem c_heap_Heap_sheaflaw8_pair_sink_4_at (rd : Option Nat) (K : Post3) (t : Fr) (m : Mem) : wpM E 43 79 rd c_heap_Heap_sheaflaw8_pair_sink_4 K t m = wpM E 43 79 rd (.block 3 c_heap_Heap_sheaflaw8_pair_sink_3) K t m := rfl

def c_heap_Heap_sheaflaw8_pair_sink_5 : MC := (.seq c_heap_Heap_sheaflaw8_pair_sink_4 (.ops [⟨(some 48), .binOp .add 3 (.tmp 15) (.const (.int .i64 1)) 3, none⟩,
    ⟨(some 15), .move (.tmp 48), none⟩]))
@[go_sem] theorem c_heap_Heap_sheaflaw8_pair_sink_5_at (rd : Option Nat) (K : Post3) (t : Fr) (m : Mem) : wpM E 43 79 rd c_heap_Heap_sheaflaw8_pair_sink_5 K t m = wpM E 43 79 rd (.seq c_heap_Heap_sheaflaw8_pair_sink_4 (.ops [⟨(some 48), .binOp .add 3 (.tmp 15) (.const (.int .i64 1)) 3, none⟩,
    ⟨(some 15), .move (.tmp 48), none⟩])) K t m := rfl

def c_heap_Heap_sheaflaw8_pair_sink_6 : MC := (.seq c_heap_Heap_sheaflaw8_pair_sink_0 c_heap_Heap_sheaflaw8_pair_sink_5)
@[go_sem] theorem c_heap_Heap_sheaflaw8_pair_sink_6_at (rd : Option Nat) (K : Post3) (t : Fr) (m : Mem) : wpM E 43 79 rd c_heap_Heap_sheaflaw8_pair_sink_6 K t m = wpM E 43 79 rd (.seq c_heap_Heap_sheaflaw8_pair_sink_0 c_heap_Heap_sheaflaw8_pair_sink_5) K t m := rfl

def c_heap_Heap_sheaflaw8_pair_sink_7 : MC := (.seq (.ops [⟨(some 16), .binOp .lss 3 (.tmp 15) (.tmp 14) 3, none⟩]) c_heap_Heap_sheaflaw8_pair_sink_6)
@[go_sem] theorem c_heap_Heap_sheaflaw8_pair_sink_7_at (rd : Option Nat) (K : Post3) (t : Fr) (m : Mem) : wpM E 43 79 rd c_heap_Heap_sheaflaw8_pair_sink_7 K t m = wpM E 43 79 rd (.seq (.ops [⟨(some 16), .binOp .lss 3 (.tmp 15) (.tmp 14) 3, none⟩]) c_heap_Heap_sheaflaw8_pair_sink_6) K t m := rfl

def c_heap_Heap_sheaflaw8_pair_sink_8 : MC := (.loop c_heap_Heap_sheaflaw8_pair_sink_7)
theorem c_heap_Heap_sheaflaw8_pair_sink_8_at (rd : Option Nat) (K : Post3) (t : Fr) (m : Mem) : wpM E 43 79 rd c_heap_Heap_sheaflaw8_pair_sink_8 K t m = wpM E 43 79 rd (.loop c_heap_Heap_sheaflaw8_pair_sink_7) K t m := rfl

def c_heap_Heap_sheaflaw8_pair_sink_9 : MC := (.block 2 c_heap_Heap_sheaflaw8_pair_sink_8)
theorem c_heap_Heap_sheaflaw8_pair_sink_9_at (rd : Option Nat) (K : Post3) (t : Fr) (m : Mem) : wpM E 43 79 rd c_heap_Heap_sheaflaw8_pair_sink_9 K t m = wpM E 43 79 rd (.block 2 c_heap_Heap_sheaflaw8_pair_sink_8) K t m := rfl

def c_heap_Heap_sheaflaw8_pair_sink_10 : MC := (.seq (.ops [⟨(some 7), .move (.tmp 2), none⟩,
    ⟨(some 8), .binOp .mul 3 (.const (.int .i64 2)) (.tmp 7) 3, none⟩,
    ⟨(some 9), .binOp .add 3 (.tmp 8) (.const (.int .i64 1)) 3, none⟩,
    ⟨(some 10), .move (.tmp 2), none⟩,
    ⟨(some 11), .binOp .mul 3 (.const (.int .i64 2)) (.tmp 10) 3, none⟩,
    ⟨(some 12), .binOp .add 3 (.tmp 11) (.const (.int .i64 2)) 3, none⟩,
    ⟨(some 13), .buildSlice 25 2 #[(0, (.tmp 9)), (1, (.tmp 12))], none⟩,
    ⟨(some 14), .call ⟨.builtin .len, #[(.tmp 13)], #[25]⟩, none⟩,
    ⟨(some 15), .move (.const (.int .i64 0)), none⟩]) c_heap_Heap_sheaflaw8_pair_sink_9)
@[go_sem] theorem c_heap_Heap_sheaflaw8_pair_sink_10_at (rd : Option Nat) (K : Post3) (t : Fr) (m : Mem) : wpM E 43 79 rd c_heap_Heap_sheaflaw8_pair_sink_10 K t m = wpM E 43 79 rd (.seq (.ops [⟨(some 7), .move (.tmp 2), none⟩,
    ⟨(some 8), .binOp .mul 3 (.const (.int .i64 2)) (.tmp 7) 3, none⟩,
    ⟨(some 9), .binOp .add 3 (.tmp 8) (.const (.int .i64 1)) 3, none⟩,
    ⟨(some 10), .move (.tmp 2), none⟩,
    ⟨(some 11), .binOp .mul 3 (.const (.int .i64 2)) (.tmp 10) 3, none⟩,
    ⟨(some 12), .binOp .add 3 (.tmp 11) (.const (.int .i64 2)) 3, none⟩,
    ⟨(some 13), .buildSlice 25 2 #[(0, (.tmp 9)), (1, (.tmp 12))], none⟩,
    ⟨(some 14), .call ⟨.builtin .len, #[(.tmp 13)], #[25]⟩, none⟩,
    ⟨(some 15), .move (.const (.int .i64 0)), none⟩]) c_heap_Heap_sheaflaw8_pair_sink_9) K t m := rfl

def c_heap_Heap_sheaflaw8_pair_sink_11 : MC := (.cond (.tmp 51) .ret .skip)
@[go_sem] theorem c_heap_Heap_sheaflaw8_pair_sink_11_at (rd : Option Nat) (K : Post3) (t : Fr) (m : Mem) : wpM E 43 79 rd c_heap_Heap_sheaflaw8_pair_sink_11 K t m = wpM E 43 79 rd (.cond (.tmp 51) .ret .skip) K t m := rfl

def c_heap_Heap_sheaflaw8_pair_sink_12 : MC := (.seq (.ops [⟨(some 49), .move (.tmp 3), none⟩,
    ⟨(some 50), .move (.tmp 2), none⟩,
    ⟨(some 51), .binOp .eql 3 (.tmp 49) (.tmp 50) 3, none⟩]) c_heap_Heap_sheaflaw8_pair_sink_11)
@[go_sem] theorem c_heap_Heap_sheaflaw8_pair_sink_12_at (rd : Option Nat) (K : Post3) (t : Fr) (m : Mem) : wpM E 43 79 rd c_heap_Heap_sheaflaw8_pair_sink_12 K t m = wpM E 43 79 rd (.seq (.ops [⟨(some 49), .move (.tmp 3), none⟩,
    ⟨(some 50), .move (.tmp 2), none⟩,
    ⟨(some 51), .binOp .eql 3 (.tmp 49) (.tmp 50) 3, none⟩]) c_heap_Heap_sheaflaw8_pair_sink_11) K t m := rfl

def c_heap_Heap_sheaflaw8_pair_sink_13 : MC := (.seq (.ops [⟨(some 52), .move (.tmp 0), none⟩,
    ⟨(some 53), .nilCheck (.tmp 52), none⟩,
    ⟨(some 54), .fieldAddr 89 (.tmp 53) 1, none⟩,
    ⟨(some 55), .load 87 (.tmp 54), none⟩,
    ⟨(some 56), .move (.tmp 2), none⟩,
    ⟨(some 57), .move (.tmp 0), none⟩,
    ⟨(some 58), .nilCheck (.tmp 57), none⟩,
    ⟨(some 59), .fieldAddr 89 (.tmp 58) 1, none⟩,
    ⟨(some 60), .load 87 (.tmp 59), none⟩,
    ⟨(some 61), .move (.tmp 3), none⟩,
    ⟨(some 62), .move (.tmp 0), none⟩,
    ⟨(some 63), .nilCheck (.tmp 62), none⟩,
    ⟨(some 64), .fieldAddr 89 (.tmp 63) 1, none⟩,
    ⟨(some 65), .load 87 (.tmp 64), none⟩,
    ⟨(some 66), .move (.tmp 3), none⟩,
    ⟨(some 67), .indexAddr 87 (.tmp 65) (.tmp 66), none⟩,
    ⟨(some 68), .load 39 (.tmp 67), none⟩,
    ⟨(some 69), .move (.tmp 0), none⟩,
    ⟨(some 70), .nilCheck (.tmp 69), none⟩,
    ⟨(some 71), .fieldAddr 89 (.tmp 70) 1, none⟩,
    ⟨(some 72), .load 87 (.tmp 71), none⟩,
    ⟨(some 73), .move (.tmp 2), none⟩,
    ⟨(some 74), .indexAddr 87 (.tmp 72) (.tmp 73), none⟩,
    ⟨(some 75), .load 39 (.tmp 74), none⟩,
    ⟨(some 76), .indexAddr 87 (.tmp 55) (.tmp 56), none⟩,
    ⟨none, .store 39 (.tmp 76) (.tmp 68), none⟩,
    ⟨(some 77), .indexAddr 87 (.tmp 60) (.tmp 61), none⟩,
    ⟨none, .store 39 (.tmp 77) (.tmp 75), none⟩]) (.ops [⟨(some 78), .move (.tmp 3), none⟩,
    ⟨(some 2), .assign (.tmp 78), none⟩]))
@[go_sem] theorem c_heap_Heap_sheaflaw8_pair_sink_13_at (rd : Option Nat) (K : Post3) (t : Fr) (m : Mem) : wpM E 43 79 rd c_heap_Heap_sheaflaw8_pair_sink_13 K t m = wpM E 43 79 rd (.seq (.ops [⟨(some 52), .move (.tmp 0), none⟩,
    ⟨(some 53), .nilCheck (.tmp 52), none⟩,
    ⟨(some 54), .fieldAddr 89 (.tmp 53) 1, none⟩,
    ⟨(some 55), .load 87 (.tmp 54), none⟩,
    ⟨(some 56), .move (.tmp 2), none⟩,
    ⟨(some 57), .move (.tmp 0), none⟩,
    ⟨(some 58), .nilCheck (.tmp 57), none⟩,
    ⟨(some 59), .fieldAddr 89 (.tmp 58) 1, none⟩,
    ⟨(some 60), .load 87 (.tmp 59), none⟩,
    ⟨(some 61), .move (.tmp 3), none⟩,
    ⟨(some 62), .move (.tmp 0), none⟩,
    ⟨(some 63), .nilCheck (.tmp 62), none⟩,
    ⟨(some 64), .fieldAddr 89 (.tmp 63) 1, none⟩,
    ⟨(some 65), .load 87 (.tmp 64), none⟩,
    ⟨(some 66), .move (.tmp 3), none⟩,
    ⟨(some 67), .indexAddr 87 (.tmp 65) (.tmp 66), none⟩,
    ⟨(some 68), .load 39 (.tmp 67), none⟩,
    ⟨(some 69), .move (.tmp 0), none⟩,
    ⟨(some 70), .nilCheck (.tmp 69), none⟩,
    ⟨(some 71), .fieldAddr 89 (.tmp 70) 1, none⟩,
    ⟨(some 72), .load 87 (.tmp 71), none⟩,
    ⟨(some 73), .move (.tmp 2), none⟩,
    ⟨(some 74), .indexAddr 87 (.tmp 72) (.tmp 73), none⟩,
    ⟨(some 75), .load 39 (.tmp 74), none⟩,
    ⟨(some 76), .indexAddr 87 (.tmp 55) (.tmp 56), none⟩,
    ⟨none, .store 39 (.tmp 76) (.tmp 68), none⟩,
    ⟨(some 77), .indexAddr 87 (.tmp 60) (.tmp 61), none⟩,
    ⟨none, .store 39 (.tmp 77) (.tmp 75), none⟩]) (.ops [⟨(some 78), .move (.tmp 3), none⟩,
    ⟨(some 2), .assign (.tmp 78), none⟩])) K t m := rfl

def c_heap_Heap_sheaflaw8_pair_sink_14 : MC := (.seq c_heap_Heap_sheaflaw8_pair_sink_12 c_heap_Heap_sheaflaw8_pair_sink_13)
@[go_sem] theorem c_heap_Heap_sheaflaw8_pair_sink_14_at (rd : Option Nat) (K : Post3) (t : Fr) (m : Mem) : wpM E 43 79 rd c_heap_Heap_sheaflaw8_pair_sink_14 K t m = wpM E 43 79 rd (.seq c_heap_Heap_sheaflaw8_pair_sink_12 c_heap_Heap_sheaflaw8_pair_sink_13) K t m := rfl

def c_heap_Heap_sheaflaw8_pair_sink_15 : MC := (.seq c_heap_Heap_sheaflaw8_pair_sink_10 c_heap_Heap_sheaflaw8_pair_sink_14)
@[go_sem] theorem c_heap_Heap_sheaflaw8_pair_sink_15_at (rd : Option Nat) (K : Post3) (t : Fr) (m : Mem) : wpM E 43 79 rd c_heap_Heap_sheaflaw8_pair_sink_15 K t m = wpM E 43 79 rd (.seq c_heap_Heap_sheaflaw8_pair_sink_10 c_heap_Heap_sheaflaw8_pair_sink_14) K t m := rfl

def c_heap_Heap_sheaflaw8_pair_sink_16 : MC := (.seq (.ops [⟨(some 6), .move (.tmp 2), none⟩,
    ⟨(some 3), .assign (.tmp 6), none⟩]) c_heap_Heap_sheaflaw8_pair_sink_15)
@[go_sem] theorem c_heap_Heap_sheaflaw8_pair_sink_16_at (rd : Option Nat) (K : Post3) (t : Fr) (m : Mem) : wpM E 43 79 rd c_heap_Heap_sheaflaw8_pair_sink_16 K t m = wpM E 43 79 rd (.seq (.ops [⟨(some 6), .move (.tmp 2), none⟩,
    ⟨(some 3), .assign (.tmp 6), none⟩]) c_heap_Heap_sheaflaw8_pair_sink_15) K t m := rfl

def c_heap_Heap_sheaflaw8_pair_sink_17 : MC := (.block 1 c_heap_Heap_sheaflaw8_pair_sink_16)
@[go_sem] theorem c_heap_Heap_sheaflaw8_pair_sink_17_at (rd : Option Nat) (K : Post3) (t : Fr) (m : Mem) : wpM E 43 79 rd c_heap_Heap_sheaflaw8_pair_sink_17 K t m = wpM E 43 79 rd (.block 1 c_heap_Heap_sheaflaw8_pair_sink_16) K t m := rfl

def c_heap_Heap_sheaflaw8_pair_sink_18 : MC := (.loop c_heap_Heap_sheaflaw8_pair_sink_17)
theorem c_heap_Heap_sheaflaw8_pair_sink_18_at (rd : Option Nat) (K : Post3) (t : Fr) (m : Mem) : wpM E 43 79 rd c_heap_Heap_sheaflaw8_pair_sink_18 K t m = wpM E 43 79 rd (.loop c_heap_Heap_sheaflaw8_pair_sink_17) K t m := rfl

def c_heap_Heap_sheaflaw8_pair_sink_19 : MC := (.block 0 c_heap_Heap_sheaflaw8_pair_sink_18)
theorem c_heap_Heap_sheaflaw8_pair_sink_19_at (rd : Option Nat) (K : Post3) (t : Fr) (m : Mem) : wpM E 43 79 rd c_heap_Heap_sheaflaw8_pair_sink_19 K t m = wpM E 43 79 rd (.block 0 c_heap_Heap_sheaflaw8_pair_sink_18) K t m := rfl

def c_heap_Heap_sheaflaw8_pair_sink_20 : MC := (.seq (.ops [⟨(some 2), .assign (.const (.int .i64 0)), none⟩]) c_heap_Heap_sheaflaw8_pair_sink_19)
@[go_sem] theorem c_heap_Heap_sheaflaw8_pair_sink_20_at (rd : Option Nat) (K : Post3) (t : Fr) (m : Mem) : wpM E 43 79 rd c_heap_Heap_sheaflaw8_pair_sink_20 K t m = wpM E 43 79 rd (.seq (.ops [⟨(some 2), .assign (.const (.int .i64 0)), none⟩]) c_heap_Heap_sheaflaw8_pair_sink_19) K t m := rfl

@[go_sem] theorem some43 : (E.fn 43).isSome = true := by kernel_rfl
set_option maxRecDepth 100000 in
theorem fn_heap_Heap_sheaflaw8_pair_sink : FnIs E 43 79 [] c_heap_Heap_sheaflaw8_pair_sink_20 := ⟨by kernel_rfl, by kernel_rfl⟩

/-! (*sheaf/heap.Heap[string]).Top -/
abbrev F_heap_Heap_string_Top : FuncId := 44
def c_heap_Heap_string_Top_0 : MC := (.seq (.ops [⟨(some 11), .move (.tmp 4), none⟩,
    ⟨(some 2), .assign (.tmp 11), none⟩,
    ⟨(some 3), .assign (.const (.bool false)), none⟩]) .ret)
@[go_sem] theorem c_heap_Heap_string_Top_0_at (rd : Option Nat) (K : Post3) (t : Fr) (m : Mem) : wpM E 44 18 rd c_heap_Heap_string_Top_0 K t m = wpM E 44 18 rd (.seq (.ops [⟨(some 11), .move (.tmp 4), none⟩,
    ⟨(some 2), .assign (.tmp 11), none⟩,
    ⟨(some 3), .assign (.const (.bool false)), none⟩]) .ret) K t m := rfl

def c_heap_Heap_string_Top_1 : MC := (.seq (.ops [⟨(some 4), .assign (.const (.string ⟨#[]⟩)), none⟩]) c_heap_Heap_string_Top_0)
@[go_sem] theorem c_heap_Heap_string_Top_1_at (rd : Option Nat) (K : Post3) (t : Fr) (m : Mem) : wpM E 44 18 rd c_heap_Heap_string_Top_1 K t m = wpM E 44 18 rd (.seq (.ops [⟨(some 4), .assign (.const (.string ⟨#[]⟩)), none⟩]) c_heap_Heap_string_Top_0) K t m := rfl

def c_heap_Heap_string_Top_2 : MC := (.cond (.tmp 10) c_heap_Heap_string_Top_1 .skip)
@[go_sem] theorem c_heap_Heap_string_Top_2_at (rd : Option Nat) (K : Post3) (t : Fr) (m : Mem) : wpM E 44 18 rd c_heap_Heap_string_Top_2 K t m = wpM E 44 18 rd (.cond (.tmp 10) c_heap_Heap_string_Top_1 .skip) K t m := rfl

def c_heap_Heap_string_Top_3 : MC := (.seq (.ops [⟨(some 5), .move (.tmp 0), none⟩,
    ⟨(some 6), .nilCheck (.tmp 5), none⟩,
    ⟨(some 7), .fieldAddr 91 (.tmp 6) 1, none⟩,
    ⟨(some 8), .load 46 (.tmp 7), none⟩,
    ⟨(some 9), .call ⟨.builtin .len, #[(.tmp 8)], #[46]⟩, none⟩,
    ⟨(some 10), .binOp .eql 3 (.tmp 9) (.const (.int .i64 0)) 3, none⟩]) c_heap_Heap_string_Top_2)
@[go_sem] theorem c_heap_Heap_string_Top_3_at (rd : Option Nat) (K : Post3) (t : Fr) (m : Mem) : wpM E 44 18 rd c_heap_Heap_string_Top_3 K t m = wpM E 44 18 rd (.seq (.ops [⟨(some 5), .move (.tmp 0), none⟩,
    ⟨(some 6), .nilCheck (.tmp 5), none⟩,
    ⟨(some 7), .fieldAddr 91 (.tmp 6) 1, none⟩,
    ⟨(some 8), .load 46 (.tmp 7), none⟩,
    ⟨(some 9), .call ⟨.builtin .len, #[(.tmp 8)], #[46]⟩, none⟩,
    ⟨(some 10), .binOp .eql 3 (.tmp 9) (.const (.int .i64 0)) 3, none⟩]) c_heap_Heap_string_Top_2) K t m := rfl

def c_heap_Heap_string_Top_4 : MC := (.seq (.ops [⟨(some 12), .move (.tmp 0), none⟩,
    ⟨(some 13), .nilCheck (.tmp 12), none⟩,
    ⟨(some 14), .fieldAddr 91 (.tmp 13) 1, none⟩,
    ⟨(some 15), .load 46 (.tmp 14), none⟩,
    ⟨(some 16), .indexAddr 46 (.tmp 15) (.const (.int .i64 0)), none⟩,
    ⟨(some 17), .load 9 (.tmp 16), none⟩,
    ⟨(some 2), .assign (.tmp 17), none⟩,
    ⟨(some 3), .assign (.const (.bool true)), none⟩]) .ret)
@[go_sem] theorem c_heap_Heap_string_Top_4_at (rd : Option Nat) (K : Post3) (t : Fr) (m : Mem) : wpM E 44 18 rd c_heap_Heap_string_Top_4 K t m = wpM E 44 18 rd (.seq (.ops [⟨(some 12), .move (.tmp 0), none⟩,
    ⟨(some 13), .nilCheck (.tmp 12), none⟩,
    ⟨(some 14), .fieldAddr 91 (.tmp 13) 1, none⟩,
    ⟨(some 15), .load 46 (.tmp 14), none⟩,
    ⟨(some 16), .indexAddr 46 (.tmp 15) (.const (.int .i64 0)), none⟩,
    ⟨(some 17), .load 9 (.tmp 16), none⟩,
    ⟨(some 2), .assign (.tmp 17), none⟩,
    ⟨(some 3), .assign (.const (.bool true)), none⟩]) .ret) K t m := rfl

def c_heap_Heap_string_Top_5 : MC := (.seq c_heap_Heap_string_Top_3 c_heap_Heap_string_Top_4)
@[go_sem] theorem c_heap_Heap_string_Top_5_at (rd : Option Nat) (K : Post3) (t : Fr) (m : Mem) : wpM E 44 18 rd c_heap_Heap_string_Top_5 K t m = wpM E 44 18 rd (.seq c_heap_Heap_string_Top_3 c_heap_Heap_string_Top_4) K t m := rfl

def c_heap_Heap_string_Top_6 : MC := (.seq (.ops [⟨(some 2), .assign (.const (.string ⟨#[]⟩)), none⟩,
    ⟨(some 3), .assign (.const (.bool false)), none⟩]) c_heap_Heap_string_Top_5)
@[go_sem] theorem c_heap_Heap_string_Top_6_at (rd : Option Nat) (K : Post3) (t : Fr) (m : Mem) : wpM E 44 18 rd c_heap_Heap_string_Top_6 K t m = wpM E 44 18 rd (.seq (.ops [⟨(some 2), .assign (.const (.string ⟨#[]⟩)), none⟩,
    ⟨(some 3), .assign (.const (.bool false)), none⟩]) c_heap_Heap_string_Top_5) K t m := rfl

@[go_sem] theorem some44 : (E.fn 44).isSome = true := by kernel_rfl
set_option maxRecDepth 100000 in
theorem fn_heap_Heap_string_Top : FnIs E 44 18 [.tmp 2, .tmp 3] c_heap_Heap_string_Top_6 := ⟨by kernel_rfl, by kernel_rfl⟩

/-! (*sheaf/heap.Heap[string]).sink -/
abbrev F_heap_Heap_string_sink : FuncId := 45
def c_heap_Heap_string_sink_0 : MC := (.cond (.tmp 16) .skip (.exit 2))
@[go_sem] theorem c_heap_Heap_string_sink_0_at (rd : Option Nat) (K : Post3) (t : Fr) (m : Mem) : wpM E 45 79 rd c_heap_Heap_string_sink_0 K t m = wpM E 45 79 rd (.cond (.tmp 16) .skip (.exit 2)) K t m := rfl

def c_heap_Heap_string_sink_1 : MC := (.cond (.tmp 46) (.ops [⟨(some 47), .move (.tmp 5), none⟩,
    ⟨(some 3), .assign (.tmp 47), none⟩]) .skip)
@[go_sem] theorem c_heap_Heap_string_sink_1_at (rd : Option Nat) (K : Post3) (t : Fr) (m : Mem) : wpM E 45 79 rd c_heap_Heap_string_sink_1 K t m = wpM E 45 79 rd (.cond (.tmp 46) (.ops [⟨(some 47), .move (.tmp 5), none⟩,
    ⟨(some 3), .assign (.tmp 47), none⟩]) .skip) K t m := rfl

def c_heap_Heap_string_sink_2 : MC := (.seq (.ops [⟨(some 19), .move (.tmp 5), none⟩,
    ⟨(some 20), .move (.tmp 0), none⟩,
    ⟨(some 21), .nilCheck (.tmp 20), none⟩,
    ⟨(some 22), .fieldAddr 91 (.tmp 21) 1, none⟩,
    ⟨(some 23), .load 46 (.tmp 22), none⟩,
    ⟨(some 24), .call ⟨.builtin .len, #[(.tmp 23)], #[46]⟩, none⟩,
    ⟨(some 25), .binOp .lss 3 (.tmp 19) (.tmp 24) 3, none⟩,
    ⟨(some 26), .move (.tmp 25), none⟩,
    ⟨(some 27), .move (.tmp 0), (some (some 26, true))⟩,
    ⟨(some 28), .nilCheck (.tmp 27), (some (some 26, true))⟩,
    ⟨(some 29), .fieldAddr 91 (.tmp 28) 0, (some (some 26, true))⟩,
    ⟨(some 30), .load 49 (.tmp 29), (some (some 26, true))⟩,
    ⟨(some 31), .move (.tmp 0), (some (some 26, true))⟩,
    ⟨(some 32), .nilCheck (.tmp 31), (some (some 26, true))⟩,
    ⟨(some 33), .fieldAddr 91 (.tmp 32) 1, (some (some 26, true))⟩,
    ⟨(some 34), .load 46 (.tmp 33), (some (some 26, true))⟩,
    ⟨(some 35), .move (.tmp 5), (some (some 26, true))⟩,
    ⟨(some 36), .indexAddr 46 (.tmp 34) (.tmp 35), (some (some 26, true))⟩,
    ⟨(some 37), .load 9 (.tmp 36), (some (some 26, true))⟩,
    ⟨(some 38), .move (.tmp 0), (some (some 26, true))⟩,
    ⟨(some 39), .nilCheck (.tmp 38), (some (some 26, true))⟩,
    ⟨(some 40), .fieldAddr 91 (.tmp 39) 1, (some (some 26, true))⟩,
    ⟨(some 41), .load 46 (.tmp 40), (some (some 26, true))⟩,
    ⟨(some 42), .move (.tmp 3), (some (some 26, true))⟩,
    ⟨(some 43), .indexAddr 46 (.tmp 41) (.tmp 42), (some (some 26, true))⟩,
    ⟨(some 44), .load 9 (.tmp 43), (some (some 26, true))⟩,
    ⟨(some 45), .call ⟨.value (.tmp 30), #[(.tmp 37), (.tmp 44)], #[9, 9]⟩, (some (some 26, true))⟩,
    ⟨(some 46), .pick (.tmp 26) (.tmp 45) (.const (.bool false)), none⟩]) c_heap_Heap_string_sink_1)
@[go_sem] theorem c_heap_Heap_string_sink_2_at (rd : Option Nat) (K : Post3) (t : Fr) (m : Mem) : wpM E 45 79 rd c_heap_Heap_string_sink_2 K t m = wpM E 45 79 rd (.seq (.ops [⟨(some 19), .move (.tmp 5), none⟩,
    ⟨(some 20), .move (.tmp 0), none⟩,
    ⟨(some 21), .nilCheck (.tmp 20), none⟩,
    ⟨(some 22), .fieldAddr 91 (.tmp 21) 1, none⟩,
    ⟨(some 23), .load 46 (.tmp 22), none⟩,
    ⟨(some 24), .call ⟨.builtin .len, #[(.tmp 23)], #[46]⟩, none⟩,
    ⟨(some 25), .binOp .lss 3 (.tmp 19) (.tmp 24) 3, none⟩,
    ⟨(some 26), .move (.tmp 25), none⟩,
    ⟨(some 27), .move (.tmp 0), (some (some 26, true))⟩,
    ⟨(some 28), .nilCheck (.tmp 27), (some (some 26, true))⟩,
    ⟨(some 29), .fieldAddr 91 (.tmp 28) 0, (some (some 26, true))⟩,
    ⟨(some 30), .load 49 (.tmp 29), (some (some 26, true))⟩,
    ⟨(some 31), .move (.tmp 0), (some (some 26, true))⟩,
    ⟨(some 32), .nilCheck (.tmp 31), (some (some 26, true))⟩,
    ⟨(some 33), .fieldAddr 91 (.tmp 32) 1, (some (some 26, true))⟩,
    ⟨(some 34), .load 46 (.tmp 33), (some (some 26, true))⟩,
    ⟨(some 35), .move (.tmp 5), (some (some 26, true))⟩,
    ⟨(some 36), .indexAddr 46 (.tmp 34) (.tmp 35), (some (some 26, true))⟩,
    ⟨(some 37), .load 9 (.tmp 36), (some (some 26, true))⟩,
    ⟨(some 38), .move (.tmp 0), (some (some 26, true))⟩,
    ⟨(some 39), .nilCheck (.tmp 38), (some (some 26, true))⟩,
    ⟨(some 40), .fieldAddr 91 (.tmp 39) 1, (some (some 26, true))⟩,
    ⟨(some 41), .load 46 (.tmp 40), (some (some 26, true))⟩,
    ⟨(some 42), .move (.tmp 3), (some (some 26, true))⟩,
    ⟨(some 43), .indexAddr 46 (.tmp 41) (.tmp 42), (some (some 26, true))⟩,
    ⟨(some 44), .load 9 (.tmp 43), (some (some 26, true))⟩,
    ⟨(some 45), .call ⟨.value (.tmp 30), #[(.tmp 37), (.tmp 44)], #[9, 9]⟩, (some (some 26, true))⟩,
    ⟨(some 46), .pick (.tmp 26) (.tmp 45) (.const (.bool false)), none⟩]) c_heap_Heap_string_sink_1) K t m := rfl

def c_heap_Heap_string_sink_3 : MC := (.seq (.ops [⟨(some 17), .indexAddr 25 (.tmp 13) (.tmp 15), none⟩,
    ⟨(some 18), .load 3 (.tmp 17), none⟩,
    ⟨(some 5), .assign (.tmp 18), none⟩]) c_heap_Heap_string_sink_2)
@[go_sem] theorem c_heap_Heap_string_sink_3_at (rd : Option Nat) (K : Post3) (t : Fr) (m : Mem) : wpM E 45 79 rd c_heap_Heap_string_sink_3 K t m = wpM E 45 79 rd (.seq (.ops [⟨(some 17), .indexAddr 25 (.tmp 13) (.tmp 15), none⟩,
    ⟨(some 18), .load 3 (.tmp 17), none⟩,
    ⟨(some 5), .assign (.tmp 18), none⟩]) c_heap_Heap_string_sink_2) K t m := rfl

def c_heap_Heap_string_sink_4 : MC := (.block 3 c_heap_Heap_string_sink_3)
@[go_sem] theorem c_heap_Heap_string_sink_4_at (rd : Option Nat) (K : Post3) (t : Fr) (m : Mem) : wpM E 45 79 rd c_heap_Heap_string_sink_4 K t m = wpM E 45 79 rd (.block 3 c_heap_Heap_string_sink_3) K t m := rfl

def c_heap_Heap_string_sink_5 : MC := (.seq c_heap_Heap_string_sink_4 (.ops [⟨(some 48), .binOp .add 3 (.tmp 15) (.const (.int .i64 1)) 3, none⟩,
    ⟨(some 15), .move (.tmp 48), none⟩]))
@[go_sem] theorem c_heap_Heap_string_sink_5_at (rd : Option Nat) (K : Post3) (t : Fr) (m : Mem) : wpM E 45 79 rd c_heap_Heap_string_sink_5 K t m = wpM E 45 79 rd (.seq c_heap_Heap_string_sink_4 (.ops [⟨(some 48), .binOp .add 3 (.tmp 15) (.const (.int .i64 1)) 3, none⟩,
    ⟨(some 15), .move (.tmp 48), none⟩])) K t m := rfl

def c_heap_Heap_string_sink_6 : MC := (.seq c_heap_Heap_string_sink_0 c_heap_Heap_string_sink_5)
@[go_sem] theorem c_heap_Heap_string_sink_6_at (rd : Option Nat) (K : Post3) (t : Fr) (m : Mem) : wpM E 45 79 rd c_heap_Heap_string_sink_6 K t m = wpM E 45 79 rd (.seq c_heap_Heap_string_sink_0 c_heap_Heap_string_sink_5) K t m := rfl

def c_heap_Heap_string_sink_7 : MC := (.seq (.ops [⟨(some 16), .binOp .lss 3 (.tmp 15) (.tmp 14) 3, none⟩]) c_heap_Heap_string_sink_6)
@[go_sem] theorem c_heap_Heap_string_sink_7_at (rd : Option Nat) (K : Post3) (t : Fr) (m : Mem) : wpM E 45 79 rd c_heap_Heap_string_sink_7 K t m = wpM E 45 79 rd (.seq (.ops [⟨(some 16), .binOp .lss 3 (.tmp 15) (.tmp 14) 3, none⟩]) c_heap_Heap_string_sink_6) K t m := rfl

def c_heap_Heap_string_sink_8 : MC := (.loop c_heap_Heap_string_sink_7)
theorem c_heap_Heap_string_sink_8_at (rd : Option Nat) (K : Post3) (t : Fr) (m : Mem) : wpM E 45 79 rd c_heap_Heap_string_sink_8 K t m = wpM E 45 79 rd (.loop c_heap_Heap_string_sink_7) K t m := rfl

def c_heap_Heap_string_sink_9 : MC := (.block 2 c_heap_Heap_string_sink_8)
theorem c_heap_Heap_string_sink_9_at (rd : Option Nat) (K : Post3) (t : Fr) (m : Mem) : wpM E 45 79 rd c_heap_Heap_string_sink_9 K t m = wpM E 45 79 rd (.block 2 c_heap_Heap_string_sink_8) K t m := rfl

def c_heap_Heap_string_sink_10 : MC := (.seq (.ops [⟨(some 7), .move (.tmp 2), none⟩,
    ⟨(some 8), .binOp .mul 3 (.const (.int .i64 2)) (.tmp 7) 3, none⟩,
    ⟨(some 9), .binOp .add 3 (.tmp 8) (.const (.int .i64 1)) 3, none⟩,
    ⟨(some 10), .move (.tmp 2), none⟩,
    ⟨(some 11), .binOp .mul 3 (.const (.int .i64 2)) (.tmp 10) 3, none⟩,
    ⟨(some 12), .binOp .add 3 (.tmp 11) (.const (.int .i64 2)) 3, none⟩,
    ⟨(some 13), .buildSlice 25 2 #[(0, (.tmp 9)), (1, (.tmp 12))], none⟩,
    ⟨(some 14), .call ⟨.builtin .len, #[(.tmp 13)], #[25]⟩, none⟩,
    ⟨(some 15), .move (.const (.int .i64 0)), none⟩]) c_heap_Heap_string_sink_9)
@[go_sem] theorem c_heap_Heap_string_sink_10_at (rd : Option Nat) (K : Post3) (t : Fr) (m : Mem) : wpM E 45 79 rd c_heap_Heap_string_sink_10 K t m = wpM E 45 79 rd (.seq (.ops [⟨(some 7), .move (.tmp 2), none⟩,
    ⟨(some 8), .binOp .mul 3 (.const (.int .i64 2)) (.tmp 7) 3, none⟩,
    ⟨(some 9), .binOp .add 3 (.tmp 8) (.const (.int .i64 1)) 3, none⟩,
    ⟨(some 10), .move (.tmp 2), none⟩,
    ⟨(some 11), .binOp .mul 3 (.const (.int .i64 2)) (.tmp 10) 3, none⟩,
    ⟨(some 12), .binOp .add 3 (.tmp 11) (.const (.int .i64 2)) 3, none⟩,
    ⟨(some 13), .buildSlice 25 2 #[(0, (.tmp 9)), (1, (.tmp 12))], none⟩,
    ⟨(some 14), .call ⟨.builtin .len, #[(.tmp 13)], #[25]⟩, none⟩,
    ⟨(some 15), .move (.const (.int .i64 0)), none⟩]) c_heap_Heap_string_sink_9) K t m := rfl

def c_heap_Heap_string_sink_11 : MC := (.cond (.tmp 51) .ret .skip)
@[go_sem] theorem c_heap_Heap_string_sink_11_at (rd : Option Nat) (K : Post3) (t : Fr) (m : Mem) : wpM E 45 79 rd c_heap_Heap_string_sink_11 K t m = wpM E 45 79 rd (.cond (.tmp 51) .ret .skip) K t m := rfl

def c_heap_Heap_string_sink_12 : MC := (.seq (.ops [⟨(some 49), .move (.tmp 3), none⟩,
    ⟨(some 50), .move (.tmp 2), none⟩,
    ⟨(some 51), .binOp .eql 3 (.tmp 49) (.tmp 50) 3, none⟩]) c_heap_Heap_string_sink_11)
@[go_sem] theorem c_heap_Heap_string_sink_12_at (rd : Option Nat) (K : Post3) (t : Fr) (m : Mem) : wpM E 45 79 rd c_heap_Heap_string_sink_12 K t m = wpM E 45 79 rd (.seq (.ops [⟨(some 49), .move (.tmp 3), none⟩,
    ⟨(some 50), .move (.tmp 2), none⟩,
    ⟨(some 51), .binOp .eql 3 (.tmp 49) (.tmp 50) 3, none⟩]) c_heap_Heap_string_sink_11) K t m := rfl

def c_heap_Heap_string_sink_13 : MC := (.seq (.ops [⟨(some 52), .move (.tmp 0), none⟩,
    ⟨(some 53), .nilCheck (.tmp 52), none⟩,
    ⟨(some 54), .fieldAddr 91 (.tmp 53) 1, none⟩,
    ⟨(some 55), .load 46 (.tmp 54), none⟩,
    ⟨(some 56), .move (.tmp 2), none⟩,
    ⟨(some 57), .move (.tmp 0), none⟩,
    ⟨(some 58), .nilCheck (.tmp 57), none⟩,
    ⟨(some 59), .fieldAddr 91 (.tmp 58) 1, none⟩,
    ⟨(some 60), .load 46 (.tmp 59), none⟩,
    ⟨(some 61), .move (.tmp 3), none⟩,
    ⟨(some 62), .move (.tmp 0), none⟩,
    ⟨(some 63), .nilCheck (.tmp 62), none⟩,
    ⟨(some 64), .fieldAddr 91 (.tmp 63) 1, none⟩,
    ⟨(some 65), .load 46 (.tmp 64), none⟩,
    ⟨(some 66), .move (.tmp 3), none⟩,
    ⟨(some 67), .indexAddr 46 (.tmp 65) (.tmp 66), none⟩,
    ⟨(some 68), .load 9 (.tmp 67), none⟩,
    ⟨(some 69), .move (.tmp 0), none⟩,
    ⟨(some 70), .nilCheck (.tmp 69), none⟩,
    ⟨(some 71), .fieldAddr 91 (.tmp 70) 1, none⟩,
    ⟨(some 72), .load 46 (.tmp 71), none⟩,
    ⟨(some 73), .move (.tmp 2), none⟩,
    ⟨(some 74), .indexAddr 46 (.tmp 72) (.tmp 73), none⟩,
    ⟨(some 75), .load 9 (.tmp 74), none⟩,
    ⟨(some 76), .indexAddr 46 (.tmp 55) (.tmp 56), none⟩,
    ⟨none, .store 9 (.tmp 76) (.tmp 68), none⟩,
    ⟨(some 77), .indexAddr 46 (.tmp 60) (.tmp 61), none⟩,
    ⟨none, .store 9 (.tmp 77) (.tmp 75), none⟩]) (.ops [⟨(some 78), .move (.tmp 3), none⟩,
    ⟨(some 2), .assign (.tmp 78), none⟩]))
@[go_sem] theorem c_heap_Heap_string_sink_13_at (rd : Option Nat) (K : Post3) (t : Fr) (m : Mem) : wpM E 45 79 rd c_heap_Heap_string_sink_13 K t m = wpM E 45 79 rd (.seq (.ops [⟨(some 52), .move (.tmp 0), none⟩,
    ⟨(some 53), .nilCheck (.tmp 52), none⟩,
    ⟨(some 54), .fieldAddr 91 (.tmp 53) 1, none⟩,
    ⟨(some 55), .load 46 (.tmp 54), none⟩,
    ⟨(some 56), .move (.tmp 2), none⟩,
    ⟨(some 57), .move (.tmp 0), none⟩,
    ⟨(some 58), .nilCheck (.tmp 57), none⟩,
    ⟨(some 59), .fieldAddr 91 (.tmp 58) 1, none⟩,
    ⟨(some 60), .load 46 (.tmp 59), none⟩,
    ⟨(some 61), .move (.tmp 3), none⟩,
    ⟨(some 62), .move (.tmp 0), none⟩,
    ⟨(some 63), .nilCheck (.tmp 62), none⟩,
    ⟨(some 64), .fieldAddr 91 (.tmp 63) 1, none⟩,
    ⟨(some 65), .load 46 (.tmp 64), none⟩,
    ⟨(some 66), .move (.tmp 3), none⟩,
    ⟨(some 67), .indexAddr 46 (.tmp 65) (.tmp 66), none⟩,
    ⟨(some 68), .load 9 (.tmp 67), none⟩,
    ⟨(some 69), .move (.tmp 0), none⟩,
    ⟨(some 70), .nilCheck (.tmp 69), none⟩,
    ⟨(some 71), .fieldAddr 91 (.tmp 70) 1, none⟩,
    ⟨(some 72), .load 46 (.tmp 71), none⟩,
    ⟨(some 73), .move (.tmp 2), none⟩,
    ⟨(some 74), .indexAddr 46 (.tmp 72) (.tmp 73), none⟩,
    ⟨(some 75), .load 9 (.tmp 74), none⟩,
    ⟨(some 76), .indexAddr 46 (.tmp 55) (.tmp 56), none⟩,
    ⟨none, .store 9 (.tmp 76) (.tmp 68), none⟩,
    ⟨(some 77), .indexAddr 46 (.tmp 60) (.tmp 61), none⟩,
    ⟨none, .store 9 (.tmp 77) (.tmp 75), none⟩]) (.ops [⟨(some 78), .move (.tmp 3), none⟩,
    ⟨(some 2), .assign (.tmp 78), none⟩])) K t m := rfl

def c_heap_Heap_string_sink_14 : MC := (.seq c_heap_Heap_string_sink_12 c_heap_Heap_string_sink_13)
@[go_sem] theorem c_heap_Heap_string_sink_14_at (rd : Option Nat) (K : Post3) (t : Fr) (m : Mem) : wpM E 45 79 rd c_heap_Heap_string_sink_14 K t m = wpM E 45 79 rd (.seq c_heap_Heap_string_sink_12 c_heap_Heap_string_sink_13) K t m := rfl

def c_heap_Heap_string_sink_15 : MC := (.seq c_heap_Heap_string_sink_10 c_heap_Heap_string_sink_14)
@[go_sem] theorem c_heap_Heap_string_sink_15_at (rd : Option Nat) (K : Post3) (t : Fr) (m : Mem) : wpM E 45 79 rd c_heap_Heap_string_sink_15 K t m = wpM E 45 79 rd (.seq c_heap_Heap_string_sink_10 c_heap_Heap_string_sink_14) K t m := rfl

def c_heap_Heap_string_sink_16 : MC := (.seq (.ops [⟨(some 6), .move (.tmp 2), none⟩,
    ⟨(some 3), .assign (.tmp 6), none⟩]) c_heap_Heap_string_sink_15)
@[go_sem] theorem c_heap_Heap_string_sink_16_at (rd : Option Nat) (K : Post3) (t : Fr) (m : Mem) : wpM E 45 79 rd c_heap_Heap_string_sink_16 K t m = wpM E 45 79 rd (.seq (.ops [⟨(some 6), .move (.tmp 2), none⟩,
    ⟨(some 3), .assign (.tmp 6), none⟩]) c_heap_Heap_string_sink_15) K t m := rfl

def c_heap_Heap_string_sink_17 : MC := (.block 1 c_heap_Heap_string_sink_16)
@[go_sem] theorem c_heap_Heap_string_sink_17_at (rd : Option Nat) (K : Post3) (t : Fr) (m : Mem) : wpM E 45 79 rd c_heap_Heap_string_sink_17 K t m = wpM E 45 79 rd (.block 1 c_heap_Heap_string_sink_16) K t m := rfl

def c_heap_Heap_string_sink_18 : MC := (.loop c_heap_Heap_string_sink_17)
theorem c_heap_Heap_string_sink_18_at (rd : Option Nat) (K : Post3) (t : Fr) (m : Mem) : wpM E 45 79 rd c_heap_Heap_string_sink_18 K t m = wpM E 45 79 rd (.loop c_heap_Heap_string_sink_17) K t m := rfl

def c_heap_Heap_string_sink_19 : MC := (.block 0 c_heap_Heap_string_sink_18)
theorem c_heap_Heap_string_sink_19_at (rd : Option Nat) (K : Post3) (t : Fr) (m : Mem) : wpM E 45 79 rd c_heap_Heap_string_sink_19 K t m = wpM E 45 79 rd (.block 0 c_heap_Heap_string_sink_18) K t m := rfl

def c_heap_Heap_string_sink_20 : MC := (.seq (.ops [⟨(some 2), .assign (.const (.int .i64 0)), none⟩]) c_heap_Heap_string_sink_19)
@[go_sem] theorem c_heap_Heap_string_sink_20_at (rd : Option Nat) (K : Post3) (t : Fr) (m : Mem) : wpM E 45 79 rd c_heap_Heap_string_sink_20 K t m = wpM E 45 79 rd (.seq (.ops [⟨(some 2), .assign (.const (.int .i64 0)), none⟩]) c_heap_Heap_string_sink_19) K t m := rfl

@[go_sem] theorem some45 : (E.fn 45).isSome = true := by kernel_rfl
set_option maxRecDepth 100000 in
theorem fn_heap_Heap_string_sink : FnIs E 45 79 [] c_heap_Heap_string_sink_20 := ⟨by kernel_rfl, by kernel_rfl⟩

/-! sheaf/heap.New[sheaf/runs.Item[int]] -/
abbrev F_heap_New_runs_Item_int : FuncId := 48
def c_heap_New_runs_Item_int_0 : MC := (.seq (.ops [⟨(some 3), .move (.tmp 0), none⟩,
    ⟨(some 4), .build 111 #[(0, (.tmp 3))], none⟩,
    ⟨(some 5), .box 111 (.tmp 4), none⟩,
    ⟨(some 2), .assign (.tmp 5), none⟩]) .ret)
@[go_sem] theorem c_heap_New_runs_Item_int_0_at (rd : Option Nat) (K : Post3) (t : Fr) (m : Mem) : wpM E 48 6 rd c_heap_New_runs_Item_int_0 K t m = wpM E 48 6 rd (.seq (.ops [⟨(some 3), .move (.tmp 0), none⟩,
    ⟨(some 4), .build 111 #[(0, (.tmp 3))], none⟩,
    ⟨(some 5), .box 111 (.tmp 4), none⟩,
    ⟨(some 2), .assign (.tmp 5), none⟩]) .ret) K t m := rfl

def c_heap_New_runs_Item_int_1 : MC := (.seq (.ops [⟨(some 2), .assign (.const (.pointer none)), none⟩]) c_heap_New_runs_Item_int_0)
@[go_sem] theorem c_heap_New_runs_Item_int_1_at (rd : Option Nat) (K : Post3) (t : Fr) (m : Mem) : wpM E 48 6 rd c_heap_New_runs_Item_int_1 K t m = wpM E 48 6 rd (.seq (.ops [⟨(some 2), .assign (.const (.pointer none)), none⟩]) c_heap_New_runs_Item_int_0) K t m := rfl

@[go_sem] theorem some48 : (E.fn 48).isSome = true := by kernel_rfl
set_option maxRecDepth 100000 in
theorem fn_heap_New_runs_Item_int : FnIs E 48 6 [.tmp 2] c_heap_New_runs_Item_int_1 := ⟨by kernel_rfl, by kernel_rfl⟩

/-! (*sheaf/heap.Heap[sheaf/runs.Item[int]]).Push -/
abbrev F_heap_Heap_runs_Item_int_Push : FuncId := 51
def c_heap_Heap_runs_Item_int_Push_0 : MC := (.cond (.tmp 23) .skip (.exit 0))
@[go_sem] theorem c_heap_Heap_runs_Item_int_Push_0_at (rd : Option Nat) (K : Post3) (t : Fr) (m : Mem) : wpM E 51 74 rd c_heap_Heap_runs_Item_int_Push_0 K t m = wpM E 51 74 rd (.cond (.tmp 23) .skip (.exit 0)) K t m := rfl

def c_heap_Heap_runs_Item_int_Push_1 : MC := (.seq (.ops [⟨(some 22), .move (.tmp 4), none⟩,
    ⟨(some 23), .binOp .gtr 3 (.tmp 22) (.const (.int .i64 0)) 3, none⟩]) c_heap_Heap_runs_Item_int_Push_0)
@[go_sem] theorem c_heap_Heap_runs_Item_int_Push_1_at (rd : Option Nat) (K : Post3) (t : Fr) (m : Mem) : wpM E 51 74 rd c_heap_Heap_runs_Item_int_Push_1 K t m = wpM E 51 74 rd (.seq (.ops [⟨(some 22), .move (.tmp 4), none⟩,
    ⟨(some 23), .binOp .gtr 3 (.tmp 22) (.const (.int .i64 0)) 3, none⟩]) c_heap_Heap_runs_Item_int_Push_0) K t m := rfl

def c_heap_Heap_runs_Item_int_Push_2 : MC := (.cond (.tmp 46) .ret .skip)
@[go_sem] theorem c_heap_Heap_runs_Item_int_Push_2_at (rd : Option Nat) (K : Post3) (t : Fr) (m : Mem) : wpM E 51 74 rd c_heap_Heap_runs_Item_int_Push_2 K t m = wpM E 51 74 rd (.cond (.tmp 46) .ret .skip) K t m := rfl

def c_heap_Heap_runs_Item_int_Push_3 : MC := (.seq (.ops [⟨(some 27), .move (.tmp 0), none⟩,
    ⟨(some 28), .nilCheck (.tmp 27), none⟩,
    ⟨(some 29), .fieldAddr 111 (.tmp 28) 0, none⟩,
    ⟨(some 30), .load 97 (.tmp 29), none⟩,
    ⟨(some 31), .move (.tmp 0), none⟩,
    ⟨(some 32), .nilCheck (.tmp 31), none⟩,
    ⟨(some 33), .fieldAddr 111 (.tmp 32) 1, none⟩,
    ⟨(some 34), .load 60 (.tmp 33), none⟩,
    ⟨(some 35), .move (.tmp 4), none⟩,
    ⟨(some 36), .indexAddr 60 (.tmp 34) (.tmp 35), none⟩,
    ⟨(some 37), .load 64 (.tmp 36), none⟩,
    ⟨(some 38), .move (.tmp 0), none⟩,
    ⟨(some 39), .nilCheck (.tmp 38), none⟩,
    ⟨(some 40), .fieldAddr 111 (.tmp 39) 1, none⟩,
    ⟨(some 41), .load 60 (.tmp 40), none⟩,
    ⟨(some 42), .move (.tmp 5), none⟩,
    ⟨(some 43), .indexAddr 60 (.tmp 41) (.tmp 42), none⟩,
    ⟨(some 44), .load 64 (.tmp 43), none⟩,
    ⟨(some 45), .call ⟨.value (.tmp 30), #[(.tmp 37), (.tmp 44)], #[64, 64]⟩, none⟩,
    ⟨(some 46), .unOp .not 4 (.tmp 45), none⟩]) c_heap_Heap_runs_Item_int_Push_2)
@[go_sem] theorem c_heap_Heap_runs_Item_int_Push_3_at (rd : Option Nat) (K : Post3) (t : Fr) (m : Mem) : wpM E 51 74 rd c_heap_Heap_runs_Item_int_Push_3 K t m = wpM E 51 74 rd (.seq (.ops [⟨(some 27), .move (.tmp 0), none⟩,
    ⟨(some 28), .nilCheck (.tmp 27), none⟩,
    ⟨(some 29), .fieldAddr 111 (.tmp 28) 0, none⟩,
    ⟨(some 30), .load 97 (.tmp 29), none⟩,
    ⟨(some 31), .move (.tmp 0), none⟩,
    ⟨(some 32), .nilCheck (.tmp 31), none⟩,
    ⟨(some 33), .fieldAddr 111 (.tmp 32) 1, none⟩,
    ⟨(some 34), .load 60 (.tmp 33), none⟩,
    ⟨(some 35), .move (.tmp 4), none⟩,
    ⟨(some 36), .indexAddr 60 (.tmp 34) (.tmp 35), none⟩,
    ⟨(some 37), .load 64 (.tmp 36), none⟩,
    ⟨(some 38), .move (.tmp 0), none⟩,
    ⟨(some 39), .nilCheck (.tmp 38), none⟩,
    ⟨(some 40), .fieldAddr 111 (.tmp 39) 1, none⟩,
    ⟨(some 41), .load 60 (.tmp 40), none⟩,
    ⟨(some 42), .move (.tmp 5), none⟩,
    ⟨(some 43), .indexAddr 60 (.tmp 41) (.tmp 42), none⟩,
    ⟨(some 44), .load 64 (.tmp 43), none⟩,
    ⟨(some 45), .call ⟨.value (.tmp 30), #[(.tmp 37), (.tmp 44)], #[64, 64]⟩, none⟩,
    ⟨(some 46), .unOp .not 4 (.tmp 45), none⟩]) c_heap_Heap_runs_Item_int_Push_2) K t m := rfl

def c_heap_Heap_runs_Item_int_Push_4 : MC := (.seq (.ops [⟨(some 47), .move (.tmp 0), none⟩,
    ⟨(some 48), .nilCheck (.tmp 47), none⟩,
    ⟨(some 49), .fieldAddr 111 (.tmp 48) 1, none⟩,
    ⟨(some 50), .load 60 (.tmp 49), none⟩,
    ⟨(some 51), .move (.tmp 4), none⟩,
    ⟨(some 52), .move (.tmp 0), none⟩,
    ⟨(some 53), .nilCheck (.tmp 52), none⟩,
    ⟨(some 54), .fieldAddr 111 (.tmp 53) 1, none⟩,
    ⟨(some 55), .load 60 (.tmp 54), none⟩,
    ⟨(some 56), .move (.tmp 5), none⟩,
    ⟨(some 57), .move (.tmp 0), none⟩,
    ⟨(some 58), .nilCheck (.tmp 57), none⟩,
    ⟨(some 59), .fieldAddr 111 (.tmp 58) 1, none⟩,
    ⟨(some 60), .load 60 (.tmp 59), none⟩,
    ⟨(some 61), .move (.tmp 5), none⟩,
    ⟨(some 62), .indexAddr 60 (.tmp 60) (.tmp 61), none⟩,
    ⟨(some 63), .load 64 (.tmp 62), none⟩,
    ⟨(some 64), .move (.tmp 0), none⟩,
    ⟨(some 65), .nilCheck (.tmp 64), none⟩,
    ⟨(some 66), .fieldAddr 111 (.tmp 65) 1, none⟩,
    ⟨(some 67), .load 60 (.tmp 66), none⟩,
    ⟨(some 68), .move (.tmp 4), none⟩,
    ⟨(some 69), .indexAddr 60 (.tmp 67) (.tmp 68), none⟩,
    ⟨(some 70), .load 64 (.tmp 69), none⟩,
    ⟨(some 71), .indexAddr 60 (.tmp 50) (.tmp 51), none⟩,
    ⟨none, .store 64 (.tmp 71) (.tmp 63), none⟩,
    ⟨(some 72), .indexAddr 60 (.tmp 55) (.tmp 56), none⟩,
    ⟨none, .store 64 (.tmp 72) (.tmp 70), none⟩]) (.ops [⟨(some 73), .move (.tmp 5), none⟩,
    ⟨(some 4), .assign (.tmp 73), none⟩]))
@[go_sem] theorem c_heap_Heap_runs_Item_int_Push_4_at (rd : Option Nat) (K : Post3) (t : Fr) (m : Mem) : wpM E 51 74 rd c_heap_Heap_runs_Item_int_Push_4 K t m = wpM E 51 74 rd (.seq (.ops [⟨(some 47), .move (.tmp 0), none⟩,
    ⟨(some 48), .nilCheck (.tmp 47), none⟩,
    ⟨(some 49), .fieldAddr 111 (.tmp 48) 1, none⟩,
    ⟨(some 50), .load 60 (.tmp 49), none⟩,
    ⟨(some 51), .move (.tmp 4), none⟩,
    ⟨(some 52), .move (.tmp 0), none⟩,
    ⟨(some 53), .nilCheck (.tmp 52), none⟩,
    ⟨(some 54), .fieldAddr 111 (.tmp 53) 1, none⟩,
    ⟨(some 55), .load 60 (.tmp 54), none⟩,
    ⟨(some 56), .move (.tmp 5), none⟩,
    ⟨(some 57), .move (.tmp 0), none⟩,
    ⟨(some 58), .nilCheck (.tmp 57), none⟩,
    ⟨(some 59), .fieldAddr 111 (.tmp 58) 1, none⟩,
    ⟨(some 60), .load 60 (.tmp 59), none⟩,
    ⟨(some 61), .move (.tmp 5), none⟩,
    ⟨(some 62), .indexAddr 60 (.tmp 60) (.tmp 61), none⟩,
    ⟨(some 63), .load 64 (.tmp 62), none⟩,
    ⟨(some 64), .move (.tmp 0), none⟩,
    ⟨(some 65), .nilCheck (.tmp 64), none⟩,
    ⟨(some 66), .fieldAddr 111 (.tmp 65) 1, none⟩,
    ⟨(some 67), .load 60 (.tmp 66), none⟩,
    ⟨(some 68), .move (.tmp 4), none⟩,
    ⟨(some 69), .indexAddr 60 (.tmp 67) (.tmp 68), none⟩,
    ⟨(some 70), .load 64 (.tmp 69), none⟩,
    ⟨(some 71), .indexAddr 60 (.tmp 50) (.tmp 51), none⟩,
    ⟨none, .store 64 (.tmp 71) (.tmp 63), none⟩,
    ⟨(some 72), .indexAddr 60 (.tmp 55) (.tmp 56), none⟩,
    ⟨none, .store 64 (.tmp 72) (.tmp 70), none⟩]) (.ops [⟨(some 73), .move (.tmp 5), none⟩,
    ⟨(some 4), .assign (.tmp 73), none⟩])) K t m := rfl

def c_heap_Heap_runs_Item_int_Push_5 : MC := (.seq c_heap_Heap_runs_Item_int_Push_3 c_heap_Heap_runs_Item_int_Push_4)
@[go_sem] theorem c_heap_Heap_runs_Item_int_Push_5_at (rd : Option Nat) (K : Post3) (t : Fr) (m : Mem) : wpM E 51 74 rd c_heap_Heap_runs_Item_int_Push_5 K t m = wpM E 51 74 rd (.seq c_heap_Heap_runs_Item_int_Push_3 c_heap_Heap_runs_Item_int_Push_4) K t m := rfl

def c_heap_Heap_runs_Item_int_Push_6 : MC := (.seq (.ops [⟨(some 24), .move (.tmp 4), none⟩,
    ⟨(some 25), .binOp .sub 3 (.tmp 24) (.const (.int .i64 1)) 3, none⟩,
    ⟨(some 26), .binOp .quo 3 (.tmp 25) (.const (.int .i64 2)) 3, none⟩,
    ⟨(some 5), .assign (.tmp 26), none⟩]) c_heap_Heap_runs_Item_int_Push_5)
@[go_sem] theorem c_heap_Heap_runs_Item_int_Push_6_at (rd : Option Nat) (K : Post3) (t : Fr) (m : Mem) : wpM E 51 74 rd c_heap_Heap_runs_Item_int_Push_6 K t m = wpM E 51 74 rd (.seq (.ops [⟨(some 24), .move (.tmp 4), none⟩,
    ⟨(some 25), .binOp .sub 3 (.tmp 24) (.const (.int .i64 1)) 3, none⟩,
    ⟨(some 26), .binOp .quo 3 (.tmp 25) (.const (.int .i64 2)) 3, none⟩,
    ⟨(some 5), .assign (.tmp 26), none⟩]) c_heap_Heap_runs_Item_int_Push_5) K t m := rfl

def c_heap_Heap_runs_Item_int_Push_7 : MC := (.block 1 c_heap_Heap_runs_Item_int_Push_6)
@[go_sem] theorem c_heap_Heap_runs_Item_int_Push_7_at (rd : Option Nat) (K : Post3) (t : Fr) (m : Mem) : wpM E 51 74 rd c_heap_Heap_runs_Item_int_Push_7 K t m = wpM E 51 74 rd (.block 1 c_heap_Heap_runs_Item_int_Push_6) K t m := rfl

def c_heap_Heap_runs_Item_int_Push_8 : MC := (.seq c_heap_Heap_runs_Item_int_Push_1 c_heap_Heap_runs_Item_int_Push_7)
@[go_sem] theorem c_heap_Heap_runs_Item_int_Push_8_at (rd : Option Nat) (K : Post3) (t : Fr) (m : Mem) : wpM E 51 74 rd c_heap_Heap_runs_Item_int_Push_8 K t m = wpM E 51 74 rd (.seq c_heap_Heap_runs_Item_int_Push_1 c_heap_Heap_runs_Item_int_Push_7) K t m := rfl

def c_heap_Heap_runs_Item_int_Push_9 : MC := (.loop c_heap_Heap_runs_Item_int_Push_8)
theorem c_heap_Heap_runs_Item_int_Push_9_at (rd : Option Nat) (K : Post3) (t : Fr) (m : Mem) : wpM E 51 74 rd c_heap_Heap_runs_Item_int_Push_9 K t m = wpM E 51 74 rd (.loop c_heap_Heap_runs_Item_int_Push_8) K t m := rfl

def c_heap_Heap_runs_Item_int_Push_10 : MC := (.block 0 c_heap_Heap_runs_Item_int_Push_9)
theorem c_heap_Heap_runs_Item_int_Push_10_at (rd : Option Nat) (K : Post3) (t : Fr) (m : Mem) : wpM E 51 74 rd c_heap_Heap_runs_Item_int_Push_10 K t m = wpM E 51 74 rd (.block 0 c_heap_Heap_runs_Item_int_Push_9) K t m := rfl

def c_heap_Heap_runs_Item_int_Push_11 : MC := (.seq (.ops [⟨(some 16), .move (.tmp 0), none⟩,
    ⟨(some 17), .nilCheck (.tmp 16), none⟩,
    ⟨(some 18), .fieldAddr 111 (.tmp 17) 1, none⟩,
    ⟨(some 19), .load 60 (.tmp 18), none⟩,
    ⟨(some 20), .call ⟨.builtin .len, #[(.tmp 19)], #[60]⟩, none⟩,
    ⟨(some 21), .binOp .sub 3 (.tmp 20) (.const (.int .i64 1)) 3, none⟩,
    ⟨(some 4), .assign (.tmp 21), none⟩]) c_heap_Heap_runs_Item_int_Push_10)
@[go_sem] theorem c_heap_Heap_runs_Item_int_Push_11_at (rd : Option Nat) (K : Post3) (t : Fr) (m : Mem) : wpM E 51 74 rd c_heap_Heap_runs_Item_int_Push_11 K t m = wpM E 51 74 rd (.seq (.ops [⟨(some 16), .move (.tmp 0), none⟩,
    ⟨(some 17), .nilCheck (.tmp 16), none⟩,
    ⟨(some 18), .fieldAddr 111 (.tmp 17) 1, none⟩,
    ⟨(some 19), .load 60 (.tmp 18), none⟩,
    ⟨(some 20), .call ⟨.builtin .len, #[(.tmp 19)], #[60]⟩, none⟩,
    ⟨(some 21), .binOp .sub 3 (.tmp 20) (.const (.int .i64 1)) 3, none⟩,
    ⟨(some 4), .assign (.tmp 21), none⟩]) c_heap_Heap_runs_Item_int_Push_10) K t m := rfl

def c_heap_Heap_runs_Item_int_Push_12 : MC := (.seq (.ops [⟨(some 6), .move (.tmp 0), none⟩,
    ⟨(some 7), .move (.tmp 0), none⟩,
    ⟨(some 8), .nilCheck (.tmp 7), none⟩,
    ⟨(some 9), .fieldAddr 111 (.tmp 8) 1, none⟩,
    ⟨(some 10), .load 60 (.tmp 9), none⟩,
    ⟨(some 11), .load 64 (.tmp 3), none⟩,
    ⟨(some 12), .buildSlice 60 1 #[(0, (.tmp 11))], none⟩,
    ⟨(some 13), .call ⟨.builtin .append, #[(.tmp 10), (.tmp 12)], #[60, 60]⟩, none⟩,
    ⟨(some 14), .nilCheck (.tmp 6), none⟩,
    ⟨(some 15), .fieldAddr 111 (.tmp 14) 1, none⟩,
    ⟨none, .store 60 (.tmp 15) (.tmp 13), none⟩]) c_heap_Heap_runs_Item_int_Push_11)
@[go_sem] theorem c_heap_Heap_runs_Item_int_Push_12_at (rd : Option Nat) (K : Post3) (t : Fr) (m : Mem) : wpM E 51 74 rd c_heap_Heap_runs_Item_int_Push_12 K t m = wpM E 51 74 rd (.seq (.ops [⟨(some 6), .move (.tmp 0), none⟩,
    ⟨(some 7), .move (.tmp 0), none⟩,
    ⟨(some 8), .nilCheck (.tmp 7), none⟩,
    ⟨(some 9), .fieldAddr 111 (.tmp 8) 1, none⟩,
    ⟨(some 10), .load 60 (.tmp 9), none⟩,
    ⟨(some 11), .load 64 (.tmp 3), none⟩,
    ⟨(some 12), .buildSlice 60 1 #[(0, (.tmp 11))], none⟩,
    ⟨(some 13), .call ⟨.builtin .append, #[(.tmp 10), (.tmp 12)], #[60, 60]⟩, none⟩,
    ⟨(some 14), .nilCheck (.tmp 6), none⟩,
    ⟨(some 15), .fieldAddr 111 (.tmp 14) 1, none⟩,
    ⟨none, .store 60 (.tmp 15) (.tmp 13), none⟩]) c_heap_Heap_runs_Item_int_Push_11) K t m := rfl

def c_heap_Heap_runs_Item_int_Push_13 : MC := (.seq (.ops [⟨(some 3), .box 64 (.tmp 1), none⟩]) c_heap_Heap_runs_Item_int_Push_12)
@[go_sem] theorem c_heap_Heap_runs_Item_int_Push_13_at (rd : Option Nat) (K : Post3) (t : Fr) (m : Mem) : wpM E 51 74 rd c_heap_Heap_runs_Item_int_Push_13 K t m = wpM E 51 74 rd (.seq (.ops [⟨(some 3), .box 64 (.tmp 1), none⟩]) c_heap_Heap_runs_Item_int_Push_12) K t m := rfl

@[go_sem] theorem some51 : (E.fn 51).isSome = true := by kernel_rfl
set_option maxRecDepth 100000 in
theorem fn_heap_Heap_runs_Item_int_Push : FnIs E 51 74 [] c_heap_Heap_runs_Item_int_Push_13 := ⟨by kernel_rfl, by kernel_rfl⟩

/-! (*sheaf/heap.Heap[sheaf/runs.Item[int]]).Pop -/
abbrev F_heap_Heap_runs_Item_int_Pop : FuncId := 53
def c_heap_Heap_runs_Item_int_Pop_0 : MC := (.seq (.ops [⟨(some 15), .load 64 (.tmp 4), none⟩,
    ⟨none, .store 64 (.tmp 2) (.tmp 15), none⟩,
    ⟨(some 3), .assign (.const (.bool false)), none⟩]) .ret)
@[go_sem] theorem c_heap_Heap_runs_Item_int_Pop_0_at (rd : Option Nat) (K : Post3) (t : Fr) (m : Mem) : wpM E 53 53 rd c_heap_Heap_runs_Item_int_Pop_0 K t m = wpM E 53 53 rd (.seq (.ops [⟨(some 15), .load 64 (.tmp 4), none⟩,
    ⟨none, .store 64 (.tmp 2) (.tmp 15), none⟩,
    ⟨(some 3), .assign (.const (.bool false)), none⟩]) .ret) K t m := rfl

def c_heap_Heap_runs_Item_int_Pop_1 : MC := (.cond (.tmp 14) c_heap_Heap_runs_Item_int_Pop_0 .skip)
@[go_sem] theorem c_heap_Heap_runs_Item_int_Pop_1_at (rd : Option Nat) (K : Post3) (t : Fr) (m : Mem) : wpM E 53 53 rd c_heap_Heap_runs_Item_int_Pop_1 K t m = wpM E 53 53 rd (.cond (.tmp 14) c_heap_Heap_runs_Item_int_Pop_0 .skip) K t m := rfl

def c_heap_Heap_runs_Item_int_Pop_2 : MC := (.seq (.ops [⟨(some 13), .move (.tmp 5), none⟩,
    ⟨(some 14), .unOp .not 4 (.tmp 13), none⟩]) c_heap_Heap_runs_Item_int_Pop_1)
@[go_sem] theorem c_heap_Heap_runs_Item_int_Pop_2_at (rd : Option Nat) (K : Post3) (t : Fr) (m : Mem) : wpM E 53 53 rd c_heap_Heap_runs_Item_int_Pop_2 K t m = wpM E 53 53 rd (.seq (.ops [⟨(some 13), .move (.tmp 5), none⟩,
    ⟨(some 14), .unOp .not 4 (.tmp 13), none⟩]) c_heap_Heap_runs_Item_int_Pop_1) K t m := rfl

def c_heap_Heap_runs_Item_int_Pop_3 : MC := (.seq (.ops [⟨(some 52), .load 64 (.tmp 4), none⟩,
    ⟨none, .store 64 (.tmp 2) (.tmp 52), none⟩,
    ⟨(some 3), .assign (.const (.bool true)), none⟩]) .ret)
@[go_sem] theorem c_heap_Heap_runs_Item_int_Pop_3_at (rd : Option Nat) (K : Post3) (t : Fr) (m : Mem) : wpM E 53 53 rd c_heap_Heap_runs_Item_int_Pop_3 K t m = wpM E 53 53 rd (.seq (.ops [⟨(some 52), .load 64 (.tmp 4), none⟩,
    ⟨none, .store 64 (.tmp 2) (.tmp 52), none⟩,
    ⟨(some 3), .assign (.const (.bool true)), none⟩]) .ret) K t m := rfl

def c_heap_Heap_runs_Item_int_Pop_4 : MC := (.seq (.ops [⟨(some 50), .move (.tmp 0), none⟩,
    ⟨(some 51), .call ⟨.value (.func 68), #[(.tmp 50)], #[95]⟩, none⟩]) c_heap_Heap_runs_Item_int_Pop_3)
@[go_sem] theorem c_heap_Heap_runs_Item_int_Pop_4_at (rd : Option Nat) (K : Post3) (t : Fr) (m : Mem) : wpM E 53 53 rd c_heap_Heap_runs_Item_int_Pop_4 K t m = wpM E 53 53 rd (.seq (.ops [⟨(some 50), .move (.tmp 0), none⟩,
    ⟨(some 51), .call ⟨.value (.func 68), #[(.tmp 50)], #[95]⟩, none⟩]) c_heap_Heap_runs_Item_int_Pop_3) K t m := rfl

def c_heap_Heap_runs_Item_int_Pop_5 : MC := (.seq (.ops [⟨(some 41), .move (.tmp 0), none⟩,
    ⟨(some 42), .move (.tmp 0), none⟩,
    ⟨(some 43), .nilCheck (.tmp 42), none⟩,
    ⟨(some 44), .fieldAddr 111 (.tmp 43) 1, none⟩,
    ⟨(some 45), .load 60 (.tmp 44), none⟩,
    ⟨(some 46), .move (.tmp 6), none⟩,
    ⟨(some 47), .slice 60 (.tmp 45) none (some (.tmp 46)) none, none⟩,
    ⟨(some 48), .nilCheck (.tmp 41), none⟩,
    ⟨(some 49), .fieldAddr 111 (.tmp 48) 1, none⟩,
    ⟨none, .store 60 (.tmp 49) (.tmp 47), none⟩]) c_heap_Heap_runs_Item_int_Pop_4)
@[go_sem] theorem c_heap_Heap_runs_Item_int_Pop_5_at (rd : Option Nat) (K : Post3) (t : Fr) (m : Mem) : wpM E 53 53 rd c_heap_Heap_runs_Item_int_Pop_5 K t m = wpM E 53 53 rd (.seq (.ops [⟨(some 41), .move (.tmp 0), none⟩,
    ⟨(some 42), .move (.tmp 0), none⟩,
    ⟨(some 43), .nilCheck (.tmp 42), none⟩,
    ⟨(some 44), .fieldAddr 111 (.tmp 43) 1, none⟩,
    ⟨(some 45), .load 60 (.tmp 44), none⟩,
    ⟨(some 46), .move (.tmp 6), none⟩,
    ⟨(some 47), .slice 60 (.tmp 45) none (some (.tmp 46)) none, none⟩,
    ⟨(some 48), .nilCheck (.tmp 41), none⟩,
    ⟨(some 49), .fieldAddr 111 (.tmp 48) 1, none⟩,
    ⟨none, .store 60 (.tmp 49) (.tmp 47), none⟩]) c_heap_Heap_runs_Item_int_Pop_4) K t m := rfl

def c_heap_Heap_runs_Item_int_Pop_6 : MC := (.seq (.draw [(0, [], ⟨(some 22), .move (.tmp 0), none⟩),
    (1, [], ⟨(some 23), .nilCheck (.tmp 22), none⟩),
    (2, [], ⟨(some 24), .fieldAddr 111 (.tmp 23) 1, none⟩),
    (3, [], ⟨(some 25), .load 60 (.tmp 24), none⟩),
    (4, [], ⟨(some 26), .move (.tmp 0), none⟩),
    (5, [], ⟨(some 27), .nilCheck (.tmp 26), none⟩),
    (6, [], ⟨(some 28), .fieldAddr 111 (.tmp 27) 1, none⟩),
    (7, [], ⟨(some 29), .load 60 (.tmp 28), none⟩),
    (8, [], ⟨(some 30), .move (.tmp 6), none⟩),
    (9, [], ⟨(some 31), .move (.tmp 0), none⟩),
    (10, [], ⟨(some 32), .nilCheck (.tmp 31), none⟩),
    (11, [], ⟨(some 33), .fieldAddr 111 (.tmp 32) 1, none⟩),
    (12, [], ⟨(some 34), .load 60 (.tmp 33), none⟩),
    (13, [], ⟨(some 35), .move (.tmp 6), none⟩),
    (14, [], ⟨(some 36), .indexAddr 60 (.tmp 34) (.tmp 35), none⟩),
    (15, [], ⟨(some 37), .load 64 (.tmp 36), none⟩),
    (16, [], ⟨(some 38), .load 64 (.tmp 7), none⟩),
    (17, [], ⟨(some 39), .indexAddr 60 (.tmp 25) (.const (.int .i64 0)), none⟩),
    (18, [16], ⟨none, .store 64 (.tmp 39) (.tmp 37), none⟩),
    (19, [], ⟨(some 40), .indexAddr 60 (.tmp 29) (.tmp 30), none⟩),
    (20, [], ⟨none, .store 64 (.tmp 40) (.tmp 38), none⟩)]) c_heap_Heap_runs_Item_int_Pop_5)
@[go_sem] theorem c_heap_Heap_runs_Item_int_Pop_6_at (rd : Option Nat) (K : Post3) (t : Fr) (m : Mem) : wpM E 53 53 rd c_heap_Heap_runs_Item_int_Pop_6 K t m = wpM E 53 53 rd (.seq (.draw [(0, [], ⟨(some 22), .move (.tmp 0), none⟩),
    (1, [], ⟨(some 23), .nilCheck (.tmp 22), none⟩),
    (2, [], ⟨(some 24), .fieldAddr 111 (.tmp 23) 1, none⟩),
    (3, [], ⟨(some 25), .load 60 (.tmp 24), none⟩),
    (4, [], ⟨(some 26), .move (.tmp 0), none⟩),
    (5, [], ⟨(some 27), .nilCheck (.tmp 26), none⟩),
    (6, [], ⟨(some 28), .fieldAddr 111 (.tmp 27) 1, none⟩),
    (7, [], ⟨(some 29), .load 60 (.tmp 28), none⟩),
    (8, [], ⟨(some 30), .move (.tmp 6), none⟩),
    (9, [], ⟨(some 31), .move (.tmp 0), none⟩),
    (10, [], ⟨(some 32), .nilCheck (.tmp 31), none⟩),
    (11, [], ⟨(some 33), .fieldAddr 111 (.tmp 32) 1, none⟩),
    (12, [], ⟨(some 34), .load 60 (.tmp 33), none⟩),
    (13, [], ⟨(some 35), .move (.tmp 6), none⟩),
    (14, [], ⟨(some 36), .indexAddr 60 (.tmp 34) (.tmp 35), none⟩),
    (15, [], ⟨(some 37), .load 64 (.tmp 36), none⟩),
    (16, [], ⟨(some 38), .load 64 (.tmp 7), none⟩),
    (17, [], ⟨(some 39), .indexAddr 60 (.tmp 25) (.const (.int .i64 0)), none⟩),
    (18, [16], ⟨none, .store 64 (.tmp 39) (.tmp 37), none⟩),
    (19, [], ⟨(some 40), .indexAddr 60 (.tmp 29) (.tmp 30), none⟩),
    (20, [], ⟨none, .store 64 (.tmp 40) (.tmp 38), none⟩)]) c_heap_Heap_runs_Item_int_Pop_5) K t m := rfl

def c_heap_Heap_runs_Item_int_Pop_7 : MC := (.seq (.ops [⟨(some 7), .alloc 64, none⟩]) c_heap_Heap_runs_Item_int_Pop_6)
@[go_sem] theorem c_heap_Heap_runs_Item_int_Pop_7_at (rd : Option Nat) (K : Post3) (t : Fr) (m : Mem) : wpM E 53 53 rd c_heap_Heap_runs_Item_int_Pop_7 K t m = wpM E 53 53 rd (.seq (.ops [⟨(some 7), .alloc 64, none⟩]) c_heap_Heap_runs_Item_int_Pop_6) K t m := rfl

def c_heap_Heap_runs_Item_int_Pop_8 : MC := (.seq (.ops [⟨(some 16), .move (.tmp 0), none⟩,
    ⟨(some 17), .nilCheck (.tmp 16), none⟩,
    ⟨(some 18), .fieldAddr 111 (.tmp 17) 1, none⟩,
    ⟨(some 19), .load 60 (.tmp 18), none⟩,
    ⟨(some 20), .call ⟨.builtin .len, #[(.tmp 19)], #[60]⟩, none⟩,
    ⟨(some 21), .binOp .sub 3 (.tmp 20) (.const (.int .i64 1)) 3, none⟩,
    ⟨(some 6), .assign (.tmp 21), none⟩]) c_heap_Heap_runs_Item_int_Pop_7)
@[go_sem] theorem c_heap_Heap_runs_Item_int_Pop_8_at (rd : Option Nat) (K : Post3) (t : Fr) (m : Mem) : wpM E 53 53 rd c_heap_Heap_runs_Item_int_Pop_8 K t m = wpM E 53 53 rd (.seq (.ops [⟨(some 16), .move (.tmp 0), none⟩,
    ⟨(some 17), .nilCheck (.tmp 16), none⟩,
    ⟨(some 18), .fieldAddr 111 (.tmp 17) 1, none⟩,
    ⟨(some 19), .load 60 (.tmp 18), none⟩,
    ⟨(some 20), .call ⟨.builtin .len, #[(.tmp 19)], #[60]⟩, none⟩,
    ⟨(some 21), .binOp .sub 3 (.tmp 20) (.const (.int .i64 1)) 3, none⟩,
    ⟨(some 6), .assign (.tmp 21), none⟩]) c_heap_Heap_runs_Item_int_Pop_7) K t m := rfl

def c_heap_Heap_runs_Item_int_Pop_9 : MC := (.seq c_heap_Heap_runs_Item_int_Pop_2 c_heap_Heap_runs_Item_int_Pop_8)
@[go_sem] theorem c_heap_Heap_runs_Item_int_Pop_9_at (rd : Option Nat) (K : Post3) (t : Fr) (m : Mem) : wpM E 53 53 rd c_heap_Heap_runs_Item_int_Pop_9 K t m = wpM E 53 53 rd (.seq c_heap_Heap_runs_Item_int_Pop_2 c_heap_Heap_runs_Item_int_Pop_8) K t m := rfl

def c_heap_Heap_runs_Item_int_Pop_10 : MC := (.seq (.ops [⟨(some 9), .move (.tmp 0), none⟩,
    ⟨(some 10), .call ⟨.value (.func 67), #[(.tmp 9)], #[95]⟩, none⟩,
    ⟨(some 8), .move (.tmp 10), none⟩,
    ⟨(some 11), .extract (.tmp 8) 0, none⟩,
    ⟨(some 12), .extract (.tmp 8) 1, none⟩,
    ⟨(some 4), .alloc 64, none⟩,
    ⟨none, .store 64 (.tmp 4) (.tmp 11), none⟩,
    ⟨(some 5), .assign (.tmp 12), none⟩]) c_heap_Heap_runs_Item_int_Pop_9)
@[go_sem] theorem c_heap_Heap_runs_Item_int_Pop_10_at (rd : Option Nat) (K : Post3) (t : Fr) (m : Mem) : wpM E 53 53 rd c_heap_Heap_runs_Item_int_Pop_10 K t m = wpM E 53 53 rd (.seq (.ops [⟨(some 9), .move (.tmp 0), none⟩,
    ⟨(some 10), .call ⟨.value (.func 67), #[(.tmp 9)], #[95]⟩, none⟩,
    ⟨(some 8), .move (.tmp 10), none⟩,
    ⟨(some 11), .extract (.tmp 8) 0, none⟩,
    ⟨(some 12), .extract (.tmp 8) 1, none⟩,
    ⟨(some 4), .alloc 64, none⟩,
    ⟨none, .store 64 (.tmp 4) (.tmp 11), none⟩,
    ⟨(some 5), .assign (.tmp 12), none⟩]) c_heap_Heap_runs_Item_int_Pop_9) K t m := rfl

def c_heap_Heap_runs_Item_int_Pop_11 : MC := (.seq (.ops [⟨(some 2), .alloc 64, none⟩,
    ⟨(some 3), .assign (.const (.bool false)), none⟩]) c_heap_Heap_runs_Item_int_Pop_10)
@[go_sem] theorem c_heap_Heap_runs_Item_int_Pop_11_at (rd : Option Nat) (K : Post3) (t : Fr) (m : Mem) : wpM E 53 53 rd c_heap_Heap_runs_Item_int_Pop_11 K t m = wpM E 53 53 rd (.seq (.ops [⟨(some 2), .alloc 64, none⟩,
    ⟨(some 3), .assign (.const (.bool false)), none⟩]) c_heap_Heap_runs_Item_int_Pop_10) K t m := rfl

@[go_sem] theorem some53 : (E.fn 53).isSome = true := by kernel_rfl
set_option maxRecDepth 100000 in
theorem fn_heap_Heap_runs_Item_int_Pop : FnIs E 53 53 [.cell 2 64, .tmp 3] c_heap_Heap_runs_Item_int_Pop_11 := ⟨by kernel_rfl, by kernel_rfl⟩

/-! (*sheaf/heap.Heap[sheaf/runs.Item[int]]).Len -/
abbrev F_heap_Heap_runs_Item_int_Len : FuncId := 54
def c_heap_Heap_runs_Item_int_Len_0 : MC := (.seq (.ops [⟨(some 3), .move (.tmp 0), none⟩,
    ⟨(some 4), .nilCheck (.tmp 3), none⟩,
    ⟨(some 5), .fieldAddr 111 (.tmp 4) 1, none⟩,
    ⟨(some 6), .load 60 (.tmp 5), none⟩,
    ⟨(some 7), .call ⟨.builtin .len, #[(.tmp 6)], #[60]⟩, none⟩,
    ⟨(some 2), .assign (.tmp 7), none⟩]) .ret)
@[go_sem] theorem c_heap_Heap_runs_Item_int_Len_0_at (rd : Option Nat) (K : Post3) (t : Fr) (m : Mem) : wpM E 54 8 rd c_heap_Heap_runs_Item_int_Len_0 K t m = wpM E 54 8 rd (.seq (.ops [⟨(some 3), .move (.tmp 0), none⟩,
    ⟨(some 4), .nilCheck (.tmp 3), none⟩,
    ⟨(some 5), .fieldAddr 111 (.tmp 4) 1, none⟩,
    ⟨(some 6), .load 60 (.tmp 5), none⟩,
    ⟨(some 7), .call ⟨.builtin .len, #[(.tmp 6)], #[60]⟩, none⟩,
    ⟨(some 2), .assign (.tmp 7), none⟩]) .ret) K t m := rfl

def c_heap_Heap_runs_Item_int_Len_1 : MC := (.seq (.ops [⟨(some 2), .assign (.const (.int .i64 0)), none⟩]) c_heap_Heap_runs_Item_int_Len_0)
@[go_sem] theorem c_heap_Heap_runs_Item_int_Len_1_at (rd : Option Nat) (K : Post3) (t : Fr) (m : Mem) : wpM E 54 8 rd c_heap_Heap_runs_Item_int_Len_1 K t m = wpM E 54 8 rd (.seq (.ops [⟨(some 2), .assign (.const (.int .i64 0)), none⟩]) c_heap_Heap_runs_Item_int_Len_0) K t m := rfl

@[go_sem] theorem some54 : (E.fn 54).isSome = true := by kernel_rfl
set_option maxRecDepth 100000 in
theorem fn_heap_Heap_runs_Item_int_Len : FnIs E 54 8 [.tmp 2] c_heap_Heap_runs_Item_int_Len_1 := ⟨by kernel_rfl, by kernel_rfl⟩

/-! sheaf/heap.New[sheaf/runs.Item[string]] -/
abbrev F_heap_New_runs_Item_string : FuncId := 58
def c_heap_New_runs_Item_string_0 : MC := (.seq (.ops [⟨(some 3), .move (.tmp 0), none⟩,
    ⟨(some 4), .build 115 #[(0, (.tmp 3))], none⟩,
    ⟨(some 5), .box 115 (.tmp 4), none⟩,
    ⟨(some 2), .assign (.tmp 5), none⟩]) .ret)
@[go_sem] theorem c_heap_New_runs_Item_string_0_at (rd : Option Nat) (K : Post3) (t : Fr) (m : Mem) : wpM E 58 6 rd c_heap_New_runs_Item_string_0 K t m = wpM E 58 6 rd (.seq (.ops [⟨(some 3), .move (.tmp 0), none⟩,
    ⟨(some 4), .build 115 #[(0, (.tmp 3))], none⟩,
    ⟨(some 5), .box 115 (.tmp 4), none⟩,
    ⟨(some 2), .assign (.tmp 5), none⟩]) .ret) K t m := rfl

def c_heap_New_runs_Item_string_1 : MC := (.seq (.ops [⟨(some 2), .assign (.const (.pointer none)), none⟩]) c_heap_New_runs_Item_string_0)
@[go_sem] theorem c_heap_New_runs_Item_string_1_at (rd : Option Nat) (K : Post3) (t : Fr) (m : Mem) : wpM E 58 6 rd c_heap_New_runs_Item_string_1 K t m = wpM E 58 6 rd (.seq (.ops [⟨(some 2), .assign (.const (.pointer none)), none⟩]) c_heap_New_runs_Item_string_0) K t m := rfl

@[go_sem] theorem some58 : (E.fn 58).isSome = true := by kernel_rfl
set_option maxRecDepth 100000 in
theorem fn_heap_New_runs_Item_string : FnIs E 58 6 [.tmp 2] c_heap_New_runs_Item_string_1 := ⟨by kernel_rfl, by kernel_rfl⟩

/-! (*sheaf/heap.Heap[sheaf/runs.Item[string]]).Push -/
abbrev F_heap_Heap_runs_Item_string_Push : FuncId := 61
def c_heap_Heap_runs_Item_string_Push_0 : MC := (.cond (.tmp 23) .skip (.exit 0))
@[go_sem] theorem c_heap_Heap_runs_Item_string_Push_0_at (rd : Option Nat) (K : Post3) (t : Fr) (m : Mem) : wpM E 61 74 rd c_heap_Heap_runs_Item_string_Push_0 K t m = wpM E 61 74 rd (.cond (.tmp 23) .skip (.exit 0)) K t m := rfl

def c_heap_Heap_runs_Item_string_Push_1 : MC := (.seq (.ops [⟨(some 22), .move (.tmp 4), none⟩,
    ⟨(some 23), .binOp .gtr 3 (.tmp 22) (.const (.int .i64 0)) 3, none⟩]) c_heap_Heap_runs_Item_string_Push_0)
@[go_sem] theorem c_heap_Heap_runs_Item_string_Push_1_at (rd : Option Nat) (K : Post3) (t : Fr) (m : Mem) : wpM E 61 74 rd c_heap_Heap_runs_Item_string_Push_1 K t m = wpM E 61 74 rd (.seq (.ops [⟨(some 22), .move (.tmp 4), none⟩,
    ⟨(some 23), .binOp .gtr 3 (.tmp 22) (.const (.int .i64 0)) 3, none⟩]) c_heap_Heap_runs_Item_string_Push_0) K t m := rfl

def c_heap_Heap_runs_Item_string_Push_2 : MC := (.cond (.tmp 46) .ret .skip)
@[go_sem] theorem c_heap_Heap_runs_Item_string_Push_2_at (rd : Option Nat) (K : Post3) (t : Fr) (m : Mem) : wpM E 61 74 rd c_heap_Heap_runs_Item_string_Push_2 K t m = wpM E 61 74 rd (.cond (.tmp 46) .ret .skip) K t m := rfl

def c_heap_Heap_runs_Item_string_Push_3 : MC := (.seq (.ops [⟨(some 27), .move (.tmp 0), none⟩,
    ⟨(some 28), .nilCheck (.tmp 27), none⟩,
    ⟨(some 29), .fieldAddr 115 (.tmp 28) 0, none⟩,
    ⟨(some 30), .load 105 (.tmp 29), none⟩,
    ⟨(some 31), .move (.tmp 0), none⟩,
    ⟨(some 32), .nilCheck (.tmp 31), none⟩,
    ⟨(some 33), .fieldAddr 115 (.tmp 32) 1, none⟩,
    ⟨(some 34), .load 74 (.tmp 33), none⟩,
    ⟨(some 35), .move (.tmp 4), none⟩,
    ⟨(some 36), .indexAddr 74 (.tmp 34) (.tmp 35), none⟩,
    ⟨(some 37), .load 77 (.tmp 36), none⟩,
    ⟨(some 38), .move (.tmp 0), none⟩,
    ⟨(some 39), .nilCheck (.tmp 38), none⟩,
    ⟨(some 40), .fieldAddr 115 (.tmp 39) 1, none⟩,
    ⟨(some 41), .load 74 (.tmp 40), none⟩,
    ⟨(some 42), .move (.tmp 5), none⟩,
    ⟨(some 43), .indexAddr 74 (.tmp 41) (.tmp 42), none⟩,
    ⟨(some 44), .load 77 (.tmp 43), none⟩,
    ⟨(some 45), .call ⟨.value (.tmp 30), #[(.tmp 37), (.tmp 44)], #[77, 77]⟩, none⟩,
    ⟨(some 46), .unOp .not 4 (.tmp 45), none⟩]) c_heap_Heap_runs_Item_string_Push_2)
@[go_sem] theorem c_heap_Heap_runs_Item_string_Push_3_at (rd : Option Nat) (K : Post3) (t : Fr) (m : Mem) : wpM E 61 74 rd c_heap_Heap_runs_Item_string_Push_3 K t m = wpM E 61 74 rd (.seq (.ops [⟨(some 27), .move (.tmp 0), none⟩,
    ⟨(some 28), .nilCheck (.tmp 27), none⟩,
    ⟨(some 29), .fieldAddr 115 (.tmp 28) 0, none⟩,
    ⟨(some 30), .load 105 (.tmp 29), none⟩,
    ⟨(some 31), .move (.tmp 0), none⟩,
    ⟨(some 32), .nilCheck (.tmp 31), none⟩,
    ⟨(some 33), .fieldAddr 115 (.tmp 32) 1, none⟩,
    ⟨(some 34), .load 74 (.tmp 33), none⟩,
    ⟨(some 35), .move (.tmp 4), none⟩,
    ⟨(some 36), .indexAddr 74 (.tmp 34) (.tmp 35), none⟩,
    ⟨(some 37), .load 77 (.tmp 36), none⟩,
    ⟨(some 38), .move (.tmp 0), none⟩,
    ⟨(some 39), .nilCheck (.tmp 38), none⟩,
    ⟨(some 40), .fieldAddr 115 (.tmp 39) 1, none⟩,
    ⟨(some 41), .load 74 (.tmp 40), none⟩,
    ⟨(some 42), .move (.tmp 5), none⟩,
    ⟨(some 43), .indexAddr 74 (.tmp 41) (.tmp 42), none⟩,
    ⟨(some 44), .load 77 (.tmp 43), none⟩,
    ⟨(some 45), .call ⟨.value (.tmp 30), #[(.tmp 37), (.tmp 44)], #[77, 77]⟩, none⟩,
    ⟨(some 46), .unOp .not 4 (.tmp 45), none⟩]) c_heap_Heap_runs_Item_string_Push_2) K t m := rfl

def c_heap_Heap_runs_Item_string_Push_4 : MC := (.seq (.ops [⟨(some 47), .move (.tmp 0), none⟩,
    ⟨(some 48), .nilCheck (.tmp 47), none⟩,
    ⟨(some 49), .fieldAddr 115 (.tmp 48) 1, none⟩,
    ⟨(some 50), .load 74 (.tmp 49), none⟩,
    ⟨(some 51), .move (.tmp 4), none⟩,
    ⟨(some 52), .move (.tmp 0), none⟩,
    ⟨(some 53), .nilCheck (.tmp 52), none⟩,
    ⟨(some 54), .fieldAddr 115 (.tmp 53) 1, none⟩,
    ⟨(some 55), .load 74 (.tmp 54), none⟩,
    ⟨(some 56), .move (.tmp 5), none⟩,
    ⟨(some 57), .move (.tmp 0), none⟩,
    ⟨(some 58), .nilCheck (.tmp 57), none⟩,
    ⟨(some 59), .fieldAddr 115 (.tmp 58) 1, none⟩,
    ⟨(some 60), .load 74 (.tmp 59), none⟩,
    ⟨(some 61), .move (.tmp 5), none⟩,
    ⟨(some 62), .indexAddr 74 (.tmp 60) (.tmp 61), none⟩,
    ⟨(some 63), .load 77 (.tmp 62), none⟩,
    ⟨(some 64), .move (.tmp 0), none⟩,
    ⟨(some 65), .nilCheck (.tmp 64), none⟩,
    ⟨(some 66), .fieldAddr 115 (.tmp 65) 1, none⟩,
    ⟨(some 67), .load 74 (.tmp 66), none⟩,
    ⟨(some 68), .move (.tmp 4), none⟩,
    ⟨(some 69), .indexAddr 74 (.tmp 67) (.tmp 68), none⟩,
    ⟨(some 70), .load 77 (.tmp 69), none⟩,
    ⟨(some 71), .indexAddr 74 (.tmp 50) (.tmp 51), none⟩,
    ⟨none, .store 77 (.tmp 71) (.tmp 63), none⟩,
    ⟨(some 72), .indexAddr 74 (.tmp 55) (.tmp 56), none⟩,
    ⟨none, .store 77 (.tmp 72) (.tmp 70), none⟩]) (.ops [⟨(some 73), .move (.tmp 5), none⟩,
    ⟨(some 4), .assign (.tmp 73), none⟩]))
@[go_sem] theorem c_heap_Heap_runs_Item_string_Push_4_at (rd : Option Nat) (K : Post3) (t : Fr) (m : Mem) : wpM E 61 74 rd c_heap_Heap_runs_Item_string_Push_4 K t m = wpM E 61 74 rd (.seq (.ops [⟨(some 47), .move (.tmp 0), none⟩,
    ⟨(some 48), .nilCheck (.tmp 47), none⟩,
    ⟨(some 49), .fieldAddr 115 (.tmp 48) 1, none⟩,
    ⟨(some 50), .load 74 (.tmp 49), none⟩,
    ⟨(some 51), .move (.tmp 4), none⟩,
    ⟨(some 52), .move (.tmp 0), none⟩,
    ⟨(some 53), .nilCheck (.tmp 52), none⟩,
    ⟨(some 54), .fieldAddr 115 (.tmp 53) 1, none⟩,
    ⟨(some 55), .load 74 (.tmp 54), none⟩,
    ⟨(some 56), .move (.tmp 5), none⟩,
    ⟨(some 57), .move (.tmp 0), none⟩,
    ⟨(some 58), .nilCheck (.tmp 57), none⟩,
    ⟨(some 59), .fieldAddr 115 (.tmp 58) 1, none⟩,
    ⟨(some 60), .load 74 (.tmp 59), none⟩,
    ⟨(some 61), .move (.tmp 5), none⟩,
    ⟨(some 62), .indexAddr 74 (.tmp 60) (.tmp 61), none⟩,
    ⟨(some 63), .load 77 (.tmp 62), none⟩,
    ⟨(some 64), .move (.tmp 0), none⟩,
    ⟨(some 65), .nilCheck (.tmp 64), none⟩,
    ⟨(some 66), .fieldAddr 115 (.tmp 65) 1, none⟩,
    ⟨(some 67), .load 74 (.tmp 66), none⟩,
    ⟨(some 68), .move (.tmp 4), none⟩,
    ⟨(some 69), .indexAddr 74 (.tmp 67) (.tmp 68), none⟩,
    ⟨(some 70), .load 77 (.tmp 69), none⟩,
    ⟨(some 71), .indexAddr 74 (.tmp 50) (.tmp 51), none⟩,
    ⟨none, .store 77 (.tmp 71) (.tmp 63), none⟩,
    ⟨(some 72), .indexAddr 74 (.tmp 55) (.tmp 56), none⟩,
    ⟨none, .store 77 (.tmp 72) (.tmp 70), none⟩]) (.ops [⟨(some 73), .move (.tmp 5), none⟩,
    ⟨(some 4), .assign (.tmp 73), none⟩])) K t m := rfl

def c_heap_Heap_runs_Item_string_Push_5 : MC := (.seq c_heap_Heap_runs_Item_string_Push_3 c_heap_Heap_runs_Item_string_Push_4)
@[go_sem] theorem c_heap_Heap_runs_Item_string_Push_5_at (rd : Option Nat) (K : Post3) (t : Fr) (m : Mem) : wpM E 61 74 rd c_heap_Heap_runs_Item_string_Push_5 K t m = wpM E 61 74 rd (.seq c_heap_Heap_runs_Item_string_Push_3 c_heap_Heap_runs_Item_string_Push_4) K t m := rfl

def c_heap_Heap_runs_Item_string_Push_6 : MC := (.seq (.ops [⟨(some 24), .move (.tmp 4), none⟩,
    ⟨(some 25), .binOp .sub 3 (.tmp 24) (.const (.int .i64 1)) 3, none⟩,
    ⟨(some 26), .binOp .quo 3 (.tmp 25) (.const (.int .i64 2)) 3, none⟩,
    ⟨(some 5), .assign (.tmp 26), none⟩]) c_heap_Heap_runs_Item_string_Push_5)
@[go_sem] theorem c_heap_Heap_runs_Item_string_Push_6_at (rd : Option Nat) (K : Post3) (t : Fr) (m : Mem) : wpM E 61 74 rd c_heap_Heap_runs_Item_string_Push_6 K t m = wpM E 61 74 rd (.seq (.ops [⟨(some 24), .move (.tmp 4), none⟩,
    ⟨(some 25), .binOp .sub 3 (.tmp 24) (.const (.int .i64 1)) 3, none⟩,
    ⟨(some 26), .binOp .quo 3 (.tmp 25) (.const (.int .i64 2)) 3, none⟩,
    ⟨(some 5), .assign (.tmp 26), none⟩]) c_heap_Heap_runs_Item_string_Push_5) K t m := rfl

def c_heap_Heap_runs_Item_string_Push_7 : MC := (.block 1 c_heap_Heap_runs_Item_string_Push_6)
@[go_sem] theorem c_heap_Heap_runs_Item_string_Push_7_at (rd : Option Nat) (K : Post3) (t : Fr) (m : Mem) : wpM E 61 74 rd c_heap_Heap_runs_Item_string_Push_7 K t m = wpM E 61 74 rd (.block 1 c_heap_Heap_runs_Item_string_Push_6) K t m := rfl

def c_heap_Heap_runs_Item_string_Push_8 : MC := (.seq c_heap_Heap_runs_Item_string_Push_1 c_heap_Heap_runs_Item_string_Push_7)
@[go_sem] theorem c_heap_Heap_runs_Item_string_Push_8_at (rd : Option Nat) (K : Post3) (t : Fr) (m : Mem) : wpM E 61 74 rd c_heap_Heap_runs_Item_string_Push_8 K t m = wpM E 61 74 rd (.seq c_heap_Heap_runs_Item_string_Push_1 c_heap_Heap_runs_Item_string_Push_7) K t m := rfl

def c_heap_Heap_runs_Item_string_Push_9 : MC := (.loop c_heap_Heap_runs_Item_string_Push_8)
theorem c_heap_Heap_runs_Item_string_Push_9_at (rd : Option Nat) (K : Post3) (t : Fr) (m : Mem) : wpM E 61 74 rd c_heap_Heap_runs_Item_string_Push_9 K t m = wpM E 61 74 rd (.loop c_heap_Heap_runs_Item_string_Push_8) K t m := rfl

def c_heap_Heap_runs_Item_string_Push_10 : MC := (.block 0 c_heap_Heap_runs_Item_string_Push_9)
theorem c_heap_Heap_runs_Item_string_Push_10_at (rd : Option Nat) (K : Post3) (t : Fr) (m : Mem) : wpM E 61 74 rd c_heap_Heap_runs_Item_string_Push_10 K t m = wpM E 61 74 rd (.block 0 c_heap_Heap_runs_Item_string_Push_9) K t m := rfl

def c_heap_Heap_runs_Item_string_Push_11 : MC := (.seq (.ops [⟨(some 16), .move (.tmp 0), none⟩,
    ⟨(some 17), .nilCheck (.tmp 16), none⟩,
    ⟨(some 18), .fieldAddr 115 (.tmp 17) 1, none⟩,
    ⟨(some 19), .load 74 (.tmp 18), none⟩,
    ⟨(some 20), .call ⟨.builtin .len, #[(.tmp 19)], #[74]⟩, none⟩,
    ⟨(some 21), .binOp .sub 3 (.tmp 20) (.const (.int .i64 1)) 3, none⟩,
    ⟨(some 4), .assign (.tmp 21), none⟩]) c_heap_Heap_runs_Item_string_Push_10)
@[go_sem] theorem c_heap_Heap_runs_Item_string_Push_11_at (rd : Option Nat) (K : Post3) (t : Fr) (m : Mem) : wpM E 61 74 rd c_heap_Heap_runs_Item_string_Push_11 K t m = wpM E 61 74 rd (.seq (.ops [⟨(some 16), .move (.tmp 0), none⟩,
    ⟨(some 17), .nilCheck (.tmp 16), none⟩,
    ⟨(some 18), .fieldAddr 115 (.tmp 17) 1, none⟩,
    ⟨(some 19), .load 74 (.tmp 18), none⟩,
    ⟨(some 20), .call ⟨.builtin .len, #[(.tmp 19)], #[74]⟩, none⟩,
    ⟨(some 21), .binOp .sub 3 (.tmp 20) (.const (.int .i64 1)) 3, none⟩,
    ⟨(some 4), .assign (.tmp 21), none⟩]) c_heap_Heap_runs_Item_string_Push_10) K t m := rfl

def c_heap_Heap_runs_Item_string_Push_12 : MC := (.seq (.ops [⟨(some 6), .move (.tmp 0), none⟩,
    ⟨(some 7), .move (.tmp 0), none⟩,
    ⟨(some 8), .nilCheck (.tmp 7), none⟩,
    ⟨(some 9), .fieldAddr 115 (.tmp 8) 1, none⟩,
    ⟨(some 10), .load 74 (.tmp 9), none⟩,
    ⟨(some 11), .load 77 (.tmp 3), none⟩,
    ⟨(some 12), .buildSlice 74 1 #[(0, (.tmp 11))], none⟩,
    ⟨(some 13), .call ⟨.builtin .append, #[(.tmp 10), (.tmp 12)], #[74, 74]⟩, none⟩,
    ⟨(some 14), .nilCheck (.tmp 6), none⟩,
    ⟨(some 15), .fieldAddr 115 (.tmp 14) 1, none⟩,
    ⟨none, .store 74 (.tmp 15) (.tmp 13), none⟩]) c_heap_Heap_runs_Item_string_Push_11)
@[go_sem] theorem c_heap_Heap_runs_Item_string_Push_12_at (rd : Option Nat) (K : Post3) (t : Fr) (m : Mem) : wpM E 61 74 rd c_heap_Heap_runs_Item_string_Push_12 K t m = wpM E 61 74 rd (.seq (.ops [⟨(some 6), .move (.tmp 0), none⟩,
    ⟨(some 7), .move (.tmp 0), none⟩,
    ⟨(some 8), .nilCheck (.tmp 7), none⟩,
    ⟨(some 9), .fieldAddr 115 (.tmp 8) 1, none⟩,
    ⟨(some 10), .load 74 (.tmp 9), none⟩,
    ⟨(some 11), .load 77 (.tmp 3), none⟩,
    ⟨(some 12), .buildSlice 74 1 #[(0, (.tmp 11))], none⟩,
    ⟨(some 13), .call ⟨.builtin .append, #[(.tmp 10), (.tmp 12)], #[74, 74]⟩, none⟩,
    ⟨(some 14), .nilCheck (.tmp 6), none⟩,
    ⟨(some 15), .fieldAddr 115 (.tmp 14) 1, none⟩,
    ⟨none, .store 74 (.tmp 15) (.tmp 13), none⟩]) c_heap_Heap_runs_Item_string_Push_11) K t m := rfl

def c_heap_Heap_runs_Item_string_Push_13 : MC := (.seq (.ops [⟨(some 3), .box 77 (.tmp 1), none⟩]) c_heap_Heap_runs_Item_string_Push_12)
@[go_sem] theorem c_heap_Heap_runs_Item_string_Push_13_at (rd : Option Nat) (K : Post3) (t : Fr) (m : Mem) : wpM E 61 74 rd c_heap_Heap_runs_Item_string_Push_13 K t m = wpM E 61 74 rd (.seq (.ops [⟨(some 3), .box 77 (.tmp 1), none⟩]) c_heap_Heap_runs_Item_string_Push_12) K t m := rfl

@[go_sem] theorem some61 : (E.fn 61).isSome = true := by kernel_rfl
set_option maxRecDepth 100000 in
theorem fn_heap_Heap_runs_Item_string_Push : FnIs E 61 74 [] c_heap_Heap_runs_Item_string_Push_13 := ⟨by kernel_rfl, by kernel_rfl⟩

/-! (*sheaf/heap.Heap[sheaf/runs.Item[string]]).Pop -/
abbrev F_heap_Heap_runs_Item_string_Pop : FuncId := 63
def c_heap_Heap_runs_Item_string_Pop_0 : MC := (.seq (.ops [⟨(some 15), .load 77 (.tmp 4), none⟩,
    ⟨none, .store 77 (.tmp 2) (.tmp 15), none⟩,
    ⟨(some 3), .assign (.const (.bool false)), none⟩]) .ret)
@[go_sem] theorem c_heap_Heap_runs_Item_string_Pop_0_at (rd : Option Nat) (K : Post3) (t : Fr) (m : Mem) : wpM E 63 53 rd c_heap_Heap_runs_Item_string_Pop_0 K t m = wpM E 63 53 rd (.seq (.ops [⟨(some 15), .load 77 (.tmp 4), none⟩,
    ⟨none, .store 77 (.tmp 2) (.tmp 15), none⟩,
    ⟨(some 3), .assign (.const (.bool false)), none⟩]) .ret) K t m := rfl

def c_heap_Heap_runs_Item_string_Pop_1 : MC := (.cond (.tmp 14) c_heap_Heap_runs_Item_string_Pop_0 .skip)
@[go_sem] theorem c_heap_Heap_runs_Item_string_Pop_1_at (rd : Option Nat) (K : Post3) (t : Fr) (m : Mem) : wpM E 63 53 rd c_heap_Heap_runs_Item_string_Pop_1 K t m = wpM E 63 53 rd (.cond (.tmp 14) c_heap_Heap_runs_Item_string_Pop_0 .skip) K t m := rfl

def c_heap_Heap_runs_Item_string_Pop_2 : MC := (.seq (.ops [⟨(some 13), .move (.tmp 5), none⟩,
    ⟨(some 14), .unOp .not 4 (.tmp 13), none⟩]) c_heap_Heap_runs_Item_string_Pop_1)
@[go_sem] theorem c_heap_Heap_runs_Item_string_Pop_2_at (rd : Option Nat) (K : Post3) (t : Fr) (m : Mem) : wpM E 63 53 rd c_heap_Heap_runs_Item_string_Pop_2 K t m = wpM E 63 53 rd (.seq (.ops [⟨(some 13), .move (.tmp 5), none⟩,
    ⟨(some 14), .unOp .not 4 (.tmp 13), none⟩]) c_heap_Heap_runs_Item_string_Pop_1) K t m := rfl

def c_heap_Heap_runs_Item_string_Pop_3 : MC := (.seq (.ops [⟨(some 52), .load 77 (.tmp 4), none⟩,
    ⟨none, .store 77 (.tmp 2) (.tmp 52), none⟩,
    ⟨(some 3), .assign (.const (.bool true)), none⟩]) .ret)
@[go_sem] theorem c_heap_Heap_runs_Item_string_Pop_3_at (rd : Option Nat) (K : Post3) (t : Fr) (m : Mem) : wpM E 63 53 rd c_heap_Heap_runs_Item_string_Pop_3 K t m = wpM E 63 53 rd (.seq (.ops [⟨(some 52), .load 77 (.tmp 4), none⟩,
    ⟨none, .store 77 (.tmp 2) (.tmp 52), none⟩,
    ⟨(some 3), .assign (.const (.bool true)), none⟩]) .ret) K t m := rfl

def c_heap_Heap_runs_Item_string_Pop_4 : MC := (.seq (.ops [⟨(some 50), .move (.tmp 0), none⟩,
    ⟨(some 51), .call ⟨.value (.func 72), #[(.tmp 50)], #[103]⟩, none⟩]) c_heap_Heap_runs_Item_string_Pop_3)
@[go_sem] theorem c_heap_Heap_runs_Item_string_Pop_4_at (rd : Option Nat) (K : Post3) (t : Fr) (m : Mem) : wpM E 63 53 rd c_heap_Heap_runs_Item_string_Pop_4 K t m = wpM E 63 53 rd (.seq (.ops [⟨(some 50), .move (.tmp 0), none⟩,
    ⟨(some 51), .call ⟨.value (.func 72), #[(.tmp 50)], #[103]⟩, none⟩]) c_heap_Heap_runs_Item_string_Pop_3) K t m := rfl

def c_heap_Heap_runs_Item_string_Pop_5 : MC := (.seq (.ops [⟨(some 41), .move (.tmp 0), none⟩,
    ⟨(some 42), .move (.tmp 0), none⟩,
    ⟨(some 43), .nilCheck (.tmp 42), none⟩,
    ⟨(some 44), .fieldAddr 115 (.tmp 43) 1, none⟩,
    ⟨(some 45), .load 74 (.tmp 44), none⟩,
    ⟨(some 46), .move (.tmp 6), none⟩,
    ⟨(some 47), .slice 74 (.tmp 45) none (some (.tmp 46)) none, none⟩,
    ⟨(some 48), .nilCheck (.tmp 41), none⟩,
    ⟨(some 49), .fieldAddr 115 (.tmp 48) 1, none⟩,
    ⟨none, .store 74 (.tmp 49) (.tmp 47), none⟩]) c_heap_Heap_runs_Item_string_Pop_4)
@[go_sem] theorem c_heap_Heap_runs_Item_string_Pop_5_at (rd : Option Nat) (K : Post3) (t : Fr) (m : Mem) : wpM E 63 53 rd c_heap_Heap_runs_Item_string_Pop_5 K t m = wpM E 63 53 rd (.seq (.ops [⟨(some 41), .move (.tmp 0), none⟩,
    ⟨(some 42), .move (.tmp 0), none⟩,
    ⟨(some 43), .nilCheck (.tmp 42), none⟩,
    ⟨(some 44), .fieldAddr 115 (.tmp 43) 1, none⟩,
    ⟨(some 45), .load 74 (.tmp 44), none⟩,
    ⟨(some 46), .move (.tmp 6), none⟩,
    ⟨(some 47), .slice 74 (.tmp 45) none (some (.tmp 46)) none, none⟩,
    ⟨(some 48), .nilCheck (.tmp 41), none⟩,
    ⟨(some 49), .fieldAddr 115 (.tmp 48) 1, none⟩,
    ⟨none, .store 74 (.tmp 49) (.tmp 47), none⟩]) c_heap_Heap_runs_Item_string_Pop_4) K t m := rfl

def c_heap_Heap_runs_Item_string_Pop_6 : MC := (.seq (.draw [(0, [], ⟨(some 22), .move (.tmp 0), none⟩),
    (1, [], ⟨(some 23), .nilCheck (.tmp 22), none⟩),
    (2, [], ⟨(some 24), .fieldAddr 115 (.tmp 23) 1, none⟩),
    (3, [], ⟨(some 25), .load 74 (.tmp 24), none⟩),
    (4, [], ⟨(some 26), .move (.tmp 0), none⟩),
    (5, [], ⟨(some 27), .nilCheck (.tmp 26), none⟩),
    (6, [], ⟨(some 28), .fieldAddr 115 (.tmp 27) 1, none⟩),
    (7, [], ⟨(some 29), .load 74 (.tmp 28), none⟩),
    (8, [], ⟨(some 30), .move (.tmp 6), none⟩),
    (9, [], ⟨(some 31), .move (.tmp 0), none⟩),
    (10, [], ⟨(some 32), .nilCheck (.tmp 31), none⟩),
    (11, [], ⟨(some 33), .fieldAddr 115 (.tmp 32) 1, none⟩),
    (12, [], ⟨(some 34), .load 74 (.tmp 33), none⟩),
    (13, [], ⟨(some 35), .move (.tmp 6), none⟩),
    (14, [], ⟨(some 36), .indexAddr 74 (.tmp 34) (.tmp 35), none⟩),
    (15, [], ⟨(some 37), .load 77 (.tmp 36), none⟩),
    (16, [], ⟨(some 38), .load 77 (.tmp 7), none⟩),
    (17, [], ⟨(some 39), .indexAddr 74 (.tmp 25) (.const (.int .i64 0)), none⟩),
    (18, [16], ⟨none, .store 77 (.tmp 39) (.tmp 37), none⟩),
    (19, [], ⟨(some 40), .indexAddr 74 (.tmp 29) (.tmp 30), none⟩),
    (20, [], ⟨none, .store 77 (.tmp 40) (.tmp 38), none⟩)]) c_heap_Heap_runs_Item_string_Pop_5)
@[go_sem] theorem c_heap_Heap_runs_Item_string_Pop_6_at (rd : Option Nat) (K : Post3) (t : Fr) (m : Mem) : wpM E 63 53 rd c_heap_Heap_runs_Item_string_Pop_6 K t m = wpM E 63 53 rd (.seq (.draw [(0, [], ⟨(some 22), .move (.tmp 0), none⟩),
    (1, [], ⟨(some 23), .nilCheck (.tmp 22), none⟩),
    (2, [], ⟨(some 24), .fieldAddr 115 (.tmp 23) 1, none⟩),
    (3, [], ⟨(some 25), .load 74 (.tmp 24), none⟩),
    (4, [], ⟨(some 26), .move (.tmp 0), none⟩),
    (5, [], ⟨(some 27), .nilCheck (.tmp 26), none⟩),
    (6, [], ⟨(some 28), .fieldAddr 115 (.tmp 27) 1, none⟩),
    (7, [], ⟨(some 29), .load 74 (.tmp 28), none⟩),
    (8, [], ⟨(some 30), .move (.tmp 6), none⟩),
    (9, [], ⟨(some 31), .move (.tmp 0), none⟩),
    (10, [], ⟨(some 32), .nilCheck (.tmp 31), none⟩),
    (11, [], ⟨(some 33), .fieldAddr 115 (.tmp 32) 1, none⟩),
    (12, [], ⟨(some 34), .load 74 (.tmp 33), none⟩),
    (13, [], ⟨(some 35), .move (.tmp 6), none⟩),
    (14, [], ⟨(some 36), .indexAddr 74 (.tmp 34) (.tmp 35), none⟩),
    (15, [], ⟨(some 37), .load 77 (.tmp 36), none⟩),
    (16, [], ⟨(some 38), .load 77 (.tmp 7), none⟩),
    (17, [], ⟨(some 39), .indexAddr 74 (.tmp 25) (.const (.int .i64 0)), none⟩),
    (18, [16], ⟨none, .store 77 (.tmp 39) (.tmp 37), none⟩),
    (19, [], ⟨(some 40), .indexAddr 74 (.tmp 29) (.tmp 30), none⟩),
    (20, [], ⟨none, .store 77 (.tmp 40) (.tmp 38), none⟩)]) c_heap_Heap_runs_Item_string_Pop_5) K t m := rfl

def c_heap_Heap_runs_Item_string_Pop_7 : MC := (.seq (.ops [⟨(some 7), .alloc 77, none⟩]) c_heap_Heap_runs_Item_string_Pop_6)
@[go_sem] theorem c_heap_Heap_runs_Item_string_Pop_7_at (rd : Option Nat) (K : Post3) (t : Fr) (m : Mem) : wpM E 63 53 rd c_heap_Heap_runs_Item_string_Pop_7 K t m = wpM E 63 53 rd (.seq (.ops [⟨(some 7), .alloc 77, none⟩]) c_heap_Heap_runs_Item_string_Pop_6) K t m := rfl

def c_heap_Heap_runs_Item_string_Pop_8 : MC := (.seq (.ops [⟨(some 16), .move (.tmp 0), none⟩,
    ⟨(some 17), .nilCheck (.tmp 16), none⟩,
    ⟨(some 18), .fieldAddr 115 (.tmp 17) 1, none⟩,
    ⟨(some 19), .load 74 (.tmp 18), none⟩,
    ⟨(some 20), .call ⟨.builtin .len, #[(.tmp 19)], #[74]⟩, none⟩,
    ⟨(some 21), .binOp .sub 3 (.tmp 20) (.const (.int .i64 1)) 3, none⟩,
    ⟨(some 6), .assign (.tmp 21), none⟩]) c_heap_Heap_runs_Item_string_Pop_7)
@[go_sem] theorem c_heap_Heap_runs_Item_string_Pop_8_at (rd : Option Nat) (K : Post3) (t : Fr) (m : Mem) : wpM E 63 53 rd c_heap_Heap_runs_Item_string_Pop_8 K t m = wpM E 63 53 rd (.seq (.ops [⟨(some 16), .move (.tmp 0), none⟩,
    ⟨(some 17), .nilCheck (.tmp 16), none⟩,
    ⟨(some 18), .fieldAddr 115 (.tmp 17) 1, none⟩,
    ⟨(some 19), .load 74 (.tmp 18), none⟩,
    ⟨(some 20), .call ⟨.builtin .len, #[(.tmp 19)], #[74]⟩, none⟩,
    ⟨(some 21), .binOp .sub 3 (.tmp 20) (.const (.int .i64 1)) 3, none⟩,
    ⟨(some 6), .assign (.tmp 21), none⟩]) c_heap_Heap_runs_Item_string_Pop_7) K t m := rfl

def c_heap_Heap_runs_Item_string_Pop_9 : MC := (.seq c_heap_Heap_runs_Item_string_Pop_2 c_heap_Heap_runs_Item_string_Pop_8)
@[go_sem] theorem c_heap_Heap_runs_Item_string_Pop_9_at (rd : Option Nat) (K : Post3) (t : Fr) (m : Mem) : wpM E 63 53 rd c_heap_Heap_runs_Item_string_Pop_9 K t m = wpM E 63 53 rd (.seq c_heap_Heap_runs_Item_string_Pop_2 c_heap_Heap_runs_Item_string_Pop_8) K t m := rfl

def c_heap_Heap_runs_Item_string_Pop_10 : MC := (.seq (.ops [⟨(some 9), .move (.tmp 0), none⟩,
    ⟨(some 10), .call ⟨.value (.func 71), #[(.tmp 9)], #[103]⟩, none⟩,
    ⟨(some 8), .move (.tmp 10), none⟩,
    ⟨(some 11), .extract (.tmp 8) 0, none⟩,
    ⟨(some 12), .extract (.tmp 8) 1, none⟩,
    ⟨(some 4), .alloc 77, none⟩,
    ⟨none, .store 77 (.tmp 4) (.tmp 11), none⟩,
    ⟨(some 5), .assign (.tmp 12), none⟩]) c_heap_Heap_runs_Item_string_Pop_9)
@[go_sem] theorem c_heap_Heap_runs_Item_string_Pop_10_at (rd : Option Nat) (K : Post3) (t : Fr) (m : Mem) : wpM E 63 53 rd c_heap_Heap_runs_Item_string_Pop_10 K t m = wpM E 63 53 rd (.seq (.ops [⟨(some 9), .move (.tmp 0), none⟩,
    ⟨(some 10), .call ⟨.value (.func 71), #[(.tmp 9)], #[103]⟩, none⟩,
    ⟨(some 8), .move (.tmp 10), none⟩,
    ⟨(some 11), .extract (.tmp 8) 0, none⟩,
    ⟨(some 12), .extract (.tmp 8) 1, none⟩,
    ⟨(some 4), .alloc 77, none⟩,
    ⟨none, .store 77 (.tmp 4) (.tmp 11), none⟩,
    ⟨(some 5), .assign (.tmp 12), none⟩]) c_heap_Heap_runs_Item_string_Pop_9) K t m := rfl

def c_heap_Heap_runs_Item_string_Pop_11 : MC := (.seq (.ops [⟨(some 2), .alloc 77, none⟩,
    ⟨(some 3), .assign (.const (.bool false)), none⟩]) c_heap_Heap_runs_Item_string_Pop_10)
@[go_sem] theorem c_heap_Heap_runs_Item_string_Pop_11_at (rd : Option Nat) (K : Post3) (t : Fr) (m : Mem) : wpM E 63 53 rd c_heap_Heap_runs_Item_string_Pop_11 K t m = wpM E 63 53 rd (.seq (.ops [⟨(some 2), .alloc 77, none⟩,
    ⟨(some 3), .assign (.const (.bool false)), none⟩]) c_heap_Heap_runs_Item_string_Pop_10) K t m := rfl

@[go_sem] theorem some63 : (E.fn 63).isSome = true := by kernel_rfl
set_option maxRecDepth 100000 in
theorem fn_heap_Heap_runs_Item_string_Pop : FnIs E 63 53 [.cell 2 77, .tmp 3] c_heap_Heap_runs_Item_string_Pop_11 := ⟨by kernel_rfl, by kernel_rfl⟩

/-! (*sheaf/heap.Heap[sheaf/runs.Item[string]]).Len -/
abbrev F_heap_Heap_runs_Item_string_Len : FuncId := 64
def c_heap_Heap_runs_Item_string_Len_0 : MC := (.seq (.ops [⟨(some 3), .move (.tmp 0), none⟩,
    ⟨(some 4), .nilCheck (.tmp 3), none⟩,
    ⟨(some 5), .fieldAddr 115 (.tmp 4) 1, none⟩,
    ⟨(some 6), .load 74 (.tmp 5), none⟩,
    ⟨(some 7), .call ⟨.builtin .len, #[(.tmp 6)], #[74]⟩, none⟩,
    ⟨(some 2), .assign (.tmp 7), none⟩]) .ret)
@[go_sem] theorem c_heap_Heap_runs_Item_string_Len_0_at (rd : Option Nat) (K : Post3) (t : Fr) (m : Mem) : wpM E 64 8 rd c_heap_Heap_runs_Item_string_Len_0 K t m = wpM E 64 8 rd (.seq (.ops [⟨(some 3), .move (.tmp 0), none⟩,
    ⟨(some 4), .nilCheck (.tmp 3), none⟩,
    ⟨(some 5), .fieldAddr 115 (.tmp 4) 1, none⟩,
    ⟨(some 6), .load 74 (.tmp 5), none⟩,
    ⟨(some 7), .call ⟨.builtin .len, #[(.tmp 6)], #[74]⟩, none⟩,
    ⟨(some 2), .assign (.tmp 7), none⟩]) .ret) K t m := rfl

def c_heap_Heap_runs_Item_string_Len_1 : MC := (.seq (.ops [⟨(some 2), .assign (.const (.int .i64 0)), none⟩]) c_heap_Heap_runs_Item_string_Len_0)
@[go_sem] theorem c_heap_Heap_runs_Item_string_Len_1_at (rd : Option Nat) (K : Post3) (t : Fr) (m : Mem) : wpM E 64 8 rd c_heap_Heap_runs_Item_string_Len_1 K t m = wpM E 64 8 rd (.seq (.ops [⟨(some 2), .assign (.const (.int .i64 0)), none⟩]) c_heap_Heap_runs_Item_string_Len_0) K t m := rfl

@[go_sem] theorem some64 : (E.fn 64).isSome = true := by kernel_rfl
set_option maxRecDepth 100000 in
theorem fn_heap_Heap_runs_Item_string_Len : FnIs E 64 8 [.tmp 2] c_heap_Heap_runs_Item_string_Len_1 := ⟨by kernel_rfl, by kernel_rfl⟩

/-! (*sheaf/heap.Heap[sheaf/runs.Item[int]]).Top -/
abbrev F_heap_Heap_runs_Item_int_Top : FuncId := 67
def c_heap_Heap_runs_Item_int_Top_0 : MC := (.seq (.ops [⟨(some 11), .load 64 (.tmp 4), none⟩,
    ⟨none, .store 64 (.tmp 2) (.tmp 11), none⟩,
    ⟨(some 3), .assign (.const (.bool false)), none⟩]) .ret)
@[go_sem] theorem c_heap_Heap_runs_Item_int_Top_0_at (rd : Option Nat) (K : Post3) (t : Fr) (m : Mem) : wpM E 67 18 rd c_heap_Heap_runs_Item_int_Top_0 K t m = wpM E 67 18 rd (.seq (.ops [⟨(some 11), .load 64 (.tmp 4), none⟩,
    ⟨none, .store 64 (.tmp 2) (.tmp 11), none⟩,
    ⟨(some 3), .assign (.const (.bool false)), none⟩]) .ret) K t m := rfl

def c_heap_Heap_runs_Item_int_Top_1 : MC := (.seq (.ops [⟨(some 4), .alloc 64, none⟩]) c_heap_Heap_runs_Item_int_Top_0)
@[go_sem] theorem c_heap_Heap_runs_Item_int_Top_1_at (rd : Option Nat) (K : Post3) (t : Fr) (m : Mem) : wpM E 67 18 rd c_heap_Heap_runs_Item_int_Top_1 K t m = wpM E 67 18 rd (.seq (.ops [⟨(some 4), .alloc 64, none⟩]) c_heap_Heap_runs_Item_int_Top_0) K t m := rfl

def c_heap_Heap_runs_Item_int_Top_2 : MC := (.cond (.tmp 10) c_heap_Heap_runs_Item_int_Top_1 .skip)
@[go_sem] theorem c_heap_Heap_runs_Item_int_Top_2_at (rd : Option Nat) (K : Post3) (t : Fr) (m : Mem) : wpM E 67 18 rd c_heap_Heap_runs_Item_int_Top_2 K t m = wpM E 67 18 rd (.cond (.tmp 10) c_heap_Heap_runs_Item_int_Top_1 .skip) K t m := rfl

def c_heap_Heap_runs_Item_int_Top_3 : MC := (.seq (.ops [⟨(some 5), .move (.tmp 0), none⟩,
    ⟨(some 6), .nilCheck (.tmp 5), none⟩,
    ⟨(some 7), .fieldAddr 111 (.tmp 6) 1, none⟩,
    ⟨(some 8), .load 60 (.tmp 7), none⟩,
    ⟨(some 9), .call ⟨.builtin .len, #[(.tmp 8)], #[60]⟩, none⟩,
    ⟨(some 10), .binOp .eql 3 (.tmp 9) (.const (.int .i64 0)) 3, none⟩]) c_heap_Heap_runs_Item_int_Top_2)
@[go_sem] theorem c_heap_Heap_runs_Item_int_Top_3_at (rd : Option Nat) (K : Post3) (t : Fr) (m : Mem) : wpM E 67 18 rd c_heap_Heap_runs_Item_int_Top_3 K t m = wpM E 67 18 rd (.seq (.ops [⟨(some 5), .move (.tmp 0), none⟩,
    ⟨(some 6), .nilCheck (.tmp 5), none⟩,
    ⟨(some 7), .fieldAddr 111 (.tmp 6) 1, none⟩,
    ⟨(some 8), .load 60 (.tmp 7), none⟩,
    ⟨(some 9), .call ⟨.builtin .len, #[(.tmp 8)], #[60]⟩, none⟩,
    ⟨(some 10), .binOp .eql 3 (.tmp 9) (.const (.int .i64 0)) 3, none⟩]) c_heap_Heap_runs_Item_int_Top_2) K t m := rfl

def c_heap_Heap_runs_Item_int_Top_4 : MC := (.seq (.ops [⟨(some 12), .move (.tmp 0), none⟩,
    ⟨(some 13), .nilCheck (.tmp 12), none⟩,
    ⟨(some 14), .fieldAddr 111 (.tmp 13) 1, none⟩,
    ⟨(some 15), .load 60 (.tmp 14), none⟩,
    ⟨(some 16), .indexAddr 60 (.tmp 15) (.const (.int .i64 0)), none⟩,
    ⟨(some 17), .load 64 (.tmp 16), none⟩,
    ⟨none, .store 64 (.tmp 2) (.tmp 17), none⟩,
    ⟨(some 3), .assign (.const (.bool true)), none⟩]) .ret)
@[go_sem] theorem c_heap_Heap_runs_Item_int_Top_4_at (rd : Option Nat) (K : Post3) (t : Fr) (m : Mem) : wpM E 67 18 rd c_heap_Heap_runs_Item_int_Top_4 K t m = wpM E 67 18 rd (.seq (.ops [⟨(some 12), .move (.tmp 0), none⟩,
    ⟨(some 13), .nilCheck (.tmp 12), none⟩,
    ⟨(some 14), .fieldAddr 111 (.tmp 13) 1, none⟩,
    ⟨(some 15), .load 60 (.tmp 14), none⟩,
    ⟨(some 16), .indexAddr 60 (.tmp 15) (.const (.int .i64 0)), none⟩,
    ⟨(some 17), .load 64 (.tmp 16), none⟩,
    ⟨none, .store 64 (.tmp 2) (.tmp 17), none⟩,
    ⟨(some 3), .assign (.const (.bool true)), none⟩]) .ret) K t m := rfl

def c_heap_Heap_runs_Item_int_Top_5 : MC := (.seq c_heap_Heap_runs_Item_int_Top_3 c_heap_Heap_runs_Item_int_Top_4)
@[go_sem] theorem c_heap_Heap_runs_Item_int_Top_5_at (rd : Option Nat) (K : Post3) (t : Fr) (m : Mem) : wpM E 67 18 rd c_heap_Heap_runs_Item_int_Top_5 K t m = wpM E 67 18 rd (.seq c_heap_Heap_runs_Item_int_Top_3 c_heap_Heap_runs_Item_int_Top_4) K t m := rfl

def c_heap_Heap_runs_Item_int_Top_6 : MC := (.seq (.ops [⟨(some 2), .alloc 64, none⟩,
    ⟨(some 3), .assign (.const (.bool false)), none⟩]) c_heap_Heap_runs_Item_int_Top_5)
@[go_sem] theorem c_heap_Heap_runs_Item_int_Top_6_at (rd : Option Nat) (K : Post3) (t : Fr) (m : Mem) : wpM E 67 18 rd c_heap_Heap_runs_Item_int_Top_6 K t m = wpM E 67 18 rd (.seq (.ops [⟨(some 2), .alloc 64, none⟩,
    ⟨(some 3), .assign (.const (.bool false)), none⟩]) c_heap_Heap_runs_Item_int_Top_5) K t m := rfl

@[go_sem] theorem some67 : (E.fn 67).isSome = true := by kernel_rfl
set_option maxRecDepth 100000 in
theorem fn_heap_Heap_runs_Item_int_Top : FnIs E 67 18 [.cell 2 64, .tmp 3] c_heap_Heap_runs_Item_int_Top_6 := ⟨by kernel_rfl, by kernel_rfl⟩

/-! (*sheaf/heap.Heap[sheaf/runs.Item[int]]).sink -/
abbrev F_heap_Heap_runs_Item_int_sink : FuncId := 68
def c_heap_Heap_runs_Item_int_sink_0 : MC := (.cond (.tmp 16) .skip (.exit 2))
@[go_sem] theorem c_heap_Heap_runs_Item_int_sink_0_at (rd : Option Nat) (K : Post3) (t : Fr) (m : Mem) : wpM E 68 79 rd c_heap_Heap_runs_Item_int_sink_0 K t m = wpM E 68 79 rd (.cond (.tmp 16) .skip (.exit 2)) K t m := rfl

def c_heap_Heap_runs_Item_int_sink_1 : MC := (.cond (.tmp 46) (.ops [⟨(some 47), .move (.tmp 5), none⟩,
    ⟨(some 3), .assign (.tmp 47), none⟩]) .skip)
@[go_sem] theorem c_heap_Heap_runs_Item_int_sink_1_at (rd : Option Nat) (K : Post3) (t : Fr) (m : Mem) : wpM E 68 79 rd c_heap_Heap_runs_Item_int_sink_1 K t m = wpM E 68 79 rd (.cond (.tmp 46) (.ops [⟨(some 47), .move (.tmp 5), none⟩,
    ⟨(some 3), .assign (.tmp 47), none⟩]) .skip) K t m := rfl

def c_heap_Heap_runs_Item_int_sink_2 : MC := (.seq (.ops [⟨(some 19), .move (.tmp 5), none⟩,
    ⟨(some 20), .move (.tmp 0), none⟩,
    ⟨(some 21), .nilCheck (.tmp 20), none⟩,
    ⟨(some 22), .fieldAddr 111 (.tmp 21) 1, none⟩,
    ⟨(some 23), .load 60 (.tmp 22), none⟩,
    ⟨(some 24), .call ⟨.builtin .len, #[(.tmp 23)], #[60]⟩, none⟩,
    ⟨(some 25), .binOp .lss 3 (.tmp 19) (.tmp 24) 3, none⟩,
    ⟨(some 26), .move (.tmp 25), none⟩,
    ⟨(some 27), .move (.tmp 0), (some (some 26, true))⟩,
    ⟨(some 28), .nilCheck (.tmp 27), (some (some 26, true))⟩,
    ⟨(some 29), .fieldAddr 111 (.tmp 28) 0, (some (some 26, true))⟩,
    ⟨(some 30), .load 97 (.tmp 29), (some (some 26, true))⟩,
    ⟨(some 31), .move (.tmp 0), (some (some 26, true))⟩,
    ⟨(some 32), .nilCheck (.tmp 31), (some (some 26, true))⟩,
    ⟨(some 33), .fieldAddr 111 (.tmp 32) 1, (some (some 26, true))⟩,
    ⟨(some 34), .load 60 (.tmp 33), (some (some 26, true))⟩,
    ⟨(some 35), .move (.tmp 5), (some (some 26, true))⟩,
    ⟨(some 36), .indexAddr 60 (.tmp 34) (.tmp 35), (some (some 26, true))⟩,
    ⟨(some 37), .load 64 (.tmp 36), (some (some 26, true))⟩,
    ⟨(some 38), .move (.tmp 0), (some (some 26, true))⟩,
    ⟨(some 39), .nilCheck (.tmp 38), (some (some 26, true))⟩,
    ⟨(some 40), .fieldAddr 111 (.tmp 39) 1, (some (some 26, true))⟩,
    ⟨(some 41), .load 60 (.tmp 40), (some (some 26, true))⟩,
    ⟨(some 42), .move (.tmp 3), (some (some 26, true))⟩,
    ⟨(some 43), .indexAddr 60 (.tmp 41) (.tmp 42), (some (some 26, true))⟩,
    ⟨(some 44), .load 64 (.tmp 43), (some (some 26, true))⟩,
    ⟨(some 45), .call ⟨.value (.tmp 30), #[(.tmp 37), (.tmp 44)], #[64, 64]⟩, (some (some 26, true))⟩,
    ⟨(some 46), .pick (.tmp 26) (.tmp 45) (.const (.bool false)), none⟩]) c_heap_Heap_runs_Item_int_sink_1)
@[go_sem] theorem c_heap_Heap_runs_Item_int_sink_2_at (rd : Option Nat) (K : Post3) (t : Fr) (m : Mem) : wpM E 68 79 rd c_heap_Heap_runs_Item_int_sink_2 K t m = wpM E 68 79 rd (.seq (.ops [⟨(some 19), .move (.tmp 5), none⟩,
    ⟨(some 20), .move (.tmp 0), none⟩,
    ⟨(some 21), .nilCheck (.tmp 20), none⟩,
    ⟨(some 22), .fieldAddr 111 (.tmp 21) 1, none⟩,
    ⟨(some 23), .load 60 (.tmp 22), none⟩,
    ⟨(some 24), .call ⟨.builtin .len, #[(.tmp 23)], #[60]⟩, none⟩,
    ⟨(some 25), .binOp .lss 3 (.tmp 19) (.tmp 24) 3, none⟩,
    ⟨(some 26), .move (.tmp 25), none⟩,
    ⟨(some 27), .move (.tmp 0), (some (some 26, true))⟩,
    ⟨(some 28), .nilCheck (.tmp 27), (some (some 26, true))⟩,
    ⟨(some 29), .fieldAddr 111 (.tmp 28) 0, (some (some 26, true))⟩,
    ⟨(some 30), .load 97 (.tmp 29), (some (some 26, true))⟩,
    ⟨(some 31), .move (.tmp 0), (some (some 26, true))⟩,
    ⟨(some 32), .nilCheck (.tmp 31), (some (some 26, true))⟩,
    ⟨(some 33), .fieldAddr 111 (.tmp 32) 1, (some (some 26, true))⟩,
    ⟨(some 34), .load 60 (.tmp 33), (some (some 26, true))⟩,
    ⟨(some 35), .move (.tmp 5), (some (some 26, true))⟩,
    ⟨(some 36), .indexAddr 60 (.tmp 34) (.tmp 35), (some (some 26, true))⟩,
    ⟨(some 37), .load 64 (.tmp 36), (some (some 26, true))⟩,
    ⟨(some 38), .move (.tmp 0), (some (some 26, true))⟩,
    ⟨(some 39), .nilCheck (.tmp 38), (some (some 26, true))⟩,
    ⟨(some 40), .fieldAddr 111 (.tmp 39) 1, (some (some 26, true))⟩,
    ⟨(some 41), .load 60 (.tmp 40), (some (some 26, true))⟩,
    ⟨(some 42), .move (.tmp 3), (some (some 26, true))⟩,
    ⟨(some 43), .indexAddr 60 (.tmp 41) (.tmp 42), (some (some 26, true))⟩,
    ⟨(some 44), .load 64 (.tmp 43), (some (some 26, true))⟩,
    ⟨(some 45), .call ⟨.value (.tmp 30), #[(.tmp 37), (.tmp 44)], #[64, 64]⟩, (some (some 26, true))⟩,
    ⟨(some 46), .pick (.tmp 26) (.tmp 45) (.const (.bool false)), none⟩]) c_heap_Heap_runs_Item_int_sink_1) K t m := rfl

def c_heap_Heap_runs_Item_int_sink_3 : MC := (.seq (.ops [⟨(some 17), .indexAddr 25 (.tmp 13) (.tmp 15), none⟩,
    ⟨(some 18), .load 3 (.tmp 17), none⟩,
    ⟨(some 5), .assign (.tmp 18), none⟩]) c_heap_Heap_runs_Item_int_sink_2)
@[go_sem] theorem c_heap_Heap_runs_Item_int_sink_3_at (rd : Option Nat) (K : Post3) (t : Fr) (m : Mem) : wpM E 68 79 rd c_heap_Heap_runs_Item_int_sink_3 K t m = wpM E 68 79 rd (.seq (.ops [⟨(some 17), .indexAddr 25 (.tmp 13) (.tmp 15), none⟩,
    ⟨(some 18), .load 3 (.tmp 17), none⟩,
    ⟨(some 5), .assign (.tmp 18), none⟩]) c_heap_Heap_runs_Item_int_sink_2) K t m := rfl

def c_heap_Heap_runs_Item_int_sink_4 : MC := (.block 3 c_heap_Heap_runs_Item_int_sink_3)
@[go_sem] theorem c_heap_Heap_runs_Item_int_sink_4_at (rd : Option Nat) (K : Post3) (t : Fr) (m : Mem) : wpM E 68 79 rd c_heap_Heap_runs_Item_int_sink_4 K t m = wpM E 68 79 rd (.block 3 c_heap_Heap_runs_Item_int_sink_3) K t m := rfl

def c_heap_Heap_runs_Item_int_sink_5 : MC := (.seq c_heap_Heap_runs_Item_int_sink_4 (.ops [⟨(some 48), .binOp .add 3 (.tmp 15) (.const (.int .i64 1)) 3, none⟩,
    ⟨(some 15), .move (.tmp 48), none⟩]))
@[go_sem] theorem c_heap_Heap_runs_Item_int_sink_5_at (rd : Option Nat) (K : Post3) (t : Fr) (m : Mem) : wpM E 68 79 rd c_heap_Heap_runs_Item_int_sink_5 K t m = wpM E 68 79 rd (.seq c_heap_Heap_runs_Item_int_sink_4 (.ops [⟨(some 48), .binOp .add 3 (.tmp 15) (.const (.int .i64 1)) 3, none⟩,
    ⟨(some 15), .move (.tmp 48), none⟩])) K t m := rfl

def c_heap_Heap_runs_Item_int_sink_6 : MC := (.seq c_heap_Heap_runs_Item_int_sink_0 c_heap_Heap_runs_Item_int_sink_5)
@[go_sem] theorem c_heap_Heap_runs_Item_int_sink_6_at (rd : Option Nat) (K : Post3) (t : Fr) (m : Mem) : wpM E 68 79 rd c_heap_Heap_runs_Item_int_sink_6 K t m = wpM E 68 79 rd (.seq c_heap_Heap_runs_Item_int_sink_0 c_heap_Heap_runs_Item_int_sink_5) K t m := rfl

def c_heap_Heap_runs_Item_int_sink_7 : MC := (.seq (.ops [⟨(some 16), .binOp .lss 3 (.tmp 15) (.tmp 14) 3, none⟩]) c_heap_Heap_runs_Item_int_sink_6)
@[go_sem] theorem c_heap_Heap_runs_Item_int_sink_7_at (rd : Option Nat) (K : Post3) (t : Fr) (m : Mem) : wpM E 68 79 rd c_heap_Heap_runs_Item_int_sink_7 K t m = wpM E 68 79 rd (.seq (.ops [⟨(some 16), .binOp .lss 3 (.tmp 15) (.tmp 14) 3, none⟩]) c_heap_Heap_runs_Item_int_sink_6) K t m := rfl

def c_heap_Heap_runs_Item_int_sink_8 : MC := (.loop c_heap_Heap_runs_Item_int_sink_7)
theorem c_heap_Heap_runs_Item_int_sink_8_at (rd : Option Nat) (K : Post3) (t : Fr) (m : Mem) : wpM E 68 79 rd c_heap_Heap_runs_Item_int_sink_8 K t m = wpM E 68 79 rd (.loop c_heap_Heap_runs_Item_int_sink_7) K t m := rfl

def c_heap_Heap_runs_Item_int_sink_9 : MC := (.block 2 c_heap_Heap_runs_Item_int_sink_8)
theorem c_heap_Heap_runs_Item_int_sink_9_at (rd : Option Nat) (K : Post3) (t : Fr) (m : Mem) : wpM E 68 79 rd c_heap_Heap_runs_Item_int_sink_9 K t m = wpM E 68 79 rd (.block 2 c_heap_Heap_runs_Item_int_sink_8) K t m := rfl

def c_heap_Heap_runs_Item_int_sink_10 : MC := (.seq (.ops [⟨(some 7), .move (.tmp 2), none⟩,
    ⟨(some 8), .binOp .mul 3 (.const (.int .i64 2)) (.tmp 7) 3, none⟩,
    ⟨(some 9), .binOp .add 3 (.tmp 8) (.const (.int .i64 1)) 3, none⟩,
    ⟨(some 10), .move (.tmp 2), none⟩,
    ⟨(some 11), .binOp .mul 3 (.const (.int .i64 2)) (.tmp 10) 3, none⟩,
    ⟨(some 12), .binOp .add 3 (.tmp 11) (.const (.int .i64 2)) 3, none⟩,
    ⟨(some 13), .buildSlice 25 2 #[(0, (.tmp 9)), (1, (.tmp 12))], none⟩,
    ⟨(some 14), .call ⟨.builtin .len, #[(.tmp 13)], #[25]⟩, none⟩,
    ⟨(some 15), .move (.const (.int .i64 0)), none⟩]) c_heap_Heap_runs_Item_int_sink_9)
@[go_sem] theorem c_heap_Heap_runs_Item_int_sink_10_at (rd : Option Nat) (K : Post3) (t : Fr) (m : Mem) : wpM E 68 79 rd c_heap_Heap_runs_Item_int_sink_10 K t m = wpM E 68 79 rd (.seq (.ops [⟨(some 7), .move (.tmp 2), none⟩,
    ⟨(some 8), .binOp .mul 3 (.const (.int .i64 2)) (.tmp 7) 3, none⟩,
    ⟨(some 9), .binOp .add 3 (.tmp 8) (.const (.int .i64 1)) 3, none⟩,
    ⟨(some 10), .move (.tmp 2), none⟩,
    ⟨(some 11), .binOp .mul 3 (.const (.int .i64 2)) (.tmp 10) 3, none⟩,
    ⟨(some 12), .binOp .add 3 (.tmp 11) (.const (.int .i64 2)) 3, none⟩,
    ⟨(some 13), .buildSlice 25 2 #[(0, (.tmp 9)), (1, (.tmp 12))], none⟩,
    ⟨(some 14), .call ⟨.builtin .len, #[(.tmp 13)], #[25]⟩, none⟩,
    ⟨(some 15), .move (.const (.int .i64 0)), none⟩]) c_heap_Heap_runs_Item_int_sink_9) K t m := rfl

def c_heap_Heap_runs_Item_int_sink_11 : MC := (.cond (.tmp 51) .ret .skip)
@[go_sem] theorem c_heap_Heap_runs_Item_int_sink_11_at (rd : Option Nat) (K : Post3) (t : Fr) (m : Mem) : wpM E 68 79 rd c_heap_Heap_runs_Item_int_sink_11 K t m = wpM E 68 79 rd (.cond (.tmp 51) .ret .skip) K t m := rfl

def c_heap_Heap_runs_Item_int_sink_12 : MC := (.seq (.ops [⟨(some 49), .move (.tmp 3), none⟩,
    ⟨(some 50), .move (.tmp 2), none⟩,
    ⟨(some 51), .binOp .eql 3 (.tmp 49) (.tmp 50) 3, none⟩]) c_heap_Heap_runs_Item_int_sink_11)
@[go_sem] theorem c_heap_Heap_runs_Item_int_sink_12_at (rd : Option Nat) (K : Post3) (t : Fr) (m : Mem) : wpM E 68 79 rd c_heap_Heap_runs_Item_int_sink_12 K t m = wpM E 68 79 rd (.seq (.ops [⟨(some 49), .move (.tmp 3), none⟩,
    ⟨(some 50), .move (.tmp 2), none⟩,
    ⟨(some 51), .binOp .eql 3 (.tmp 49) (.tmp 50) 3, none⟩]) c_heap_Heap_runs_Item_int_sink_11) K t m := rfl

def c_heap_Heap_runs_Item_int_sink_13 : MC := (.seq (.ops [⟨(some 52), .move (.tmp 0), none⟩,
    ⟨(some 53), .nilCheck (.tmp 52), none⟩,
    ⟨(some 54), .fieldAddr 111 (.tmp 53) 1, none⟩,
    ⟨(some 55), .load 60 (.tmp 54), none⟩,
    ⟨(some 56), .move (.tmp 2), none⟩,
    ⟨(some 57), .move (.tmp 0), none⟩,
    ⟨(some 58), .nilCheck (.tmp 57), none⟩,
    ⟨(some 59), .fieldAddr 111 (.tmp 58) 1, none⟩,
    ⟨(some 60), .load 60 (.tmp 59), none⟩,
    ⟨(some 61), .move (.tmp 3), none⟩,
    ⟨(some 62), .move (.tmp 0), none⟩,
    ⟨(some 63), .nilCheck (.tmp 62), none⟩,
    ⟨(some 64), .fieldAddr 111 (.tmp 63) 1, none⟩,
    ⟨(some 65), .load 60 (.tmp 64), none⟩,
    ⟨(some 66), .move (.tmp 3), none⟩,
    ⟨(some 67), .indexAddr 60 (.tmp 65) (.tmp 66), none⟩,
    ⟨(some 68), .load 64 (.tmp 67), none⟩,
    ⟨(some 69), .move (.tmp 0), none⟩,
    ⟨(some 70), .nilCheck (.tmp 69), none⟩,
    ⟨(some 71), .fieldAddr 111 (.tmp 70) 1, none⟩,
    ⟨(some 72), .load 60 (.tmp 71), none⟩,
    ⟨(some 73), .move (.tmp 2), none⟩,
    ⟨(some 74), .indexAddr 60 (.tmp 72) (.tmp 73), none⟩,
    ⟨(some 75), .load 64 (.tmp 74), none⟩,
    ⟨(some 76), .indexAddr 60 (.tmp 55) (.tmp 56), none⟩,
    ⟨none, .store 64 (.tmp 76) (.tmp 68), none⟩,
    ⟨(some 77), .indexAddr 60 (.tmp 60) (.tmp 61), none⟩,
    ⟨none, .store 64 (.tmp 77) (.tmp 75), none⟩]) (.ops [⟨(some 78), .move (.tmp 3), none⟩,
    ⟨(some 2), .assign (.tmp 78), none⟩]))
@[go_sem] theorem c_heap_Heap_runs_Item_int_sink_13_at (rd : Option Nat) (K : Post3) (t : Fr) (m : Mem) : wpM E 68 79 rd c_heap_Heap_runs_Item_int_sink_13 K t m = wpM E 68 79 rd (.seq (.ops [⟨(some 52), .move (.tmp 0), none⟩,
    ⟨(some 53), .nilCheck (.tmp 52), none⟩,
    ⟨(some 54), .fieldAddr 111 (.tmp 53) 1, none⟩,
    ⟨(some 55), .load 60 (.tmp 54), none⟩,
    ⟨(some 56), .move (.tmp 2), none⟩,
    ⟨(some 57), .move (.tmp 0), none⟩,
    ⟨(some 58), .nilCheck (.tmp 57), none⟩,
    ⟨(some 59), .fieldAddr 111 (.tmp 58) 1, none⟩,
    ⟨(some 60), .load 60 (.tmp 59), none⟩,
    ⟨(some 61), .move (.tmp 3), none⟩,
    ⟨(some 62), .move (.tmp 0), none⟩,
    ⟨(some 63), .nilCheck (.tmp 62), none⟩,
    ⟨(some 64), .fieldAddr 111 (.tmp 63) 1, none⟩,
    ⟨(some 65), .load 60 (.tmp 64), none⟩,
    ⟨(some 66), .move (.tmp 3), none⟩,
    ⟨(some 67), .indexAddr 60 (.tmp 65) (.tmp 66), none⟩,
    ⟨(some 68), .load 64 (.tmp 67), none⟩,
    ⟨(some 69), .move (.tmp 0), none⟩,
    ⟨(some 70), .nilCheck (.tmp 69), none⟩,
    ⟨(some 71), .fieldAddr 111 (.tmp 70) 1, none⟩,
    ⟨(some 72), .load 60 (.tmp 71), none⟩,
    ⟨(some 73), .move (.tmp 2), none⟩,
    ⟨(some 74), .indexAddr 60 (.tmp 72) (.tmp 73), none⟩,
    ⟨(some 75), .load 64 (.tmp 74), none⟩,
    ⟨(some 76), .indexAddr 60 (.tmp 55) (.tmp 56), none⟩,
    ⟨none, .store 64 (.tmp 76) (.tmp 68), none⟩,
    ⟨(some 77), .indexAddr 60 (.tmp 60) (.tmp 61), none⟩,
    ⟨none, .store 64 (.tmp 77) (.tmp 75), none⟩]) (.ops [⟨(some 78), .move (.tmp 3), none⟩,
    ⟨(some 2), .assign (.tmp 78), none⟩])) K t m := rfl

def c_heap_Heap_runs_Item_int_sink_14 : MC := (.seq c_heap_Heap_runs_Item_int_sink_12 c_heap_Heap_runs_Item_int_sink_13)
@[go_sem] theorem c_heap_Heap_runs_Item_int_sink_14_at (rd : Option Nat) (K : Post3) (t : Fr) (m : Mem) : wpM E 68 79 rd c_heap_Heap_runs_Item_int_sink_14 K t m = wpM E 68 79 rd (.seq c_heap_Heap_runs_Item_int_sink_12 c_heap_Heap_runs_Item_int_sink_13) K t m := rfl

def c_heap_Heap_runs_Item_int_sink_15 : MC := (.seq c_heap_Heap_runs_Item_int_sink_10 c_heap_Heap_runs_Item_int_sink_14)
@[go_sem] theorem c_heap_Heap_runs_Item_int_sink_15_at (rd : Option Nat) (K : Post3) (t : Fr) (m : Mem) : wpM E 68 79 rd c_heap_Heap_runs_Item_int_sink_15 K t m = wpM E 68 79 rd (.seq c_heap_Heap_runs_Item_int_sink_10 c_heap_Heap_runs_Item_int_sink_14) K t m := rfl

def c_heap_Heap_runs_Item_int_sink_16 : MC := (.seq (.ops [⟨(some 6), .move (.tmp 2), none⟩,
    ⟨(some 3), .assign (.tmp 6), none⟩]) c_heap_Heap_runs_Item_int_sink_15)
@[go_sem] theorem c_heap_Heap_runs_Item_int_sink_16_at (rd : Option Nat) (K : Post3) (t : Fr) (m : Mem) : wpM E 68 79 rd c_heap_Heap_runs_Item_int_sink_16 K t m = wpM E 68 79 rd (.seq (.ops [⟨(some 6), .move (.tmp 2), none⟩,
    ⟨(some 3), .assign (.tmp 6), none⟩]) c_heap_Heap_runs_Item_int_sink_15) K t m := rfl

def c_heap_Heap_runs_Item_int_sink_17 : MC := (.block 1 c_heap_Heap_runs_Item_int_sink_16)
@[go_sem] theorem c_heap_Heap_runs_Item_int_sink_17_at (rd : Option Nat) (K : Post3) (t : Fr) (m : Mem) : wpM E 68 79 rd c_heap_Heap_runs_Item_int_sink_17 K t m = wpM E 68 79 rd (.block 1 c_heap_Heap_runs_Item_int_sink_16) K t m := rfl

def c_heap_Heap_runs_Item_int_sink_18 : MC := (.loop c_heap_Heap_runs_Item_int_sink_17)
theorem c_heap_Heap_runs_Item_int_sink_18_at (rd : Option Nat) (K : Post3) (t : Fr) (m : Mem) : wpM E 68 79 rd c_heap_Heap_runs_Item_int_sink_18 K t m = wpM E 68 79 rd (.loop c_heap_Heap_runs_Item_int_sink_17) K t m := rfl

def c_heap_Heap_runs_Item_int_sink_19 : MC := (.block 0 c_heap_Heap_runs_Item_int_sink_18)
theorem c_heap_Heap_runs_Item_int_sink_19_at (rd : Option Nat) (K : Post3) (t : Fr) (m : Mem) : wpM E 68 79 rd c_heap_Heap_runs_Item_int_sink_19 K t m = wpM E 68 79 rd (.block 0 c_heap_Heap_runs_Item_int_sink_18) K t m := rfl

def c_heap_Heap_runs_Item_int_sink_20 : MC := (.seq (.ops [⟨(some 2), .assign (.const (.int .i64 0)), none⟩]) c_heap_Heap_runs_Item_int_sink_19)
@[go_sem] theorem c_heap_Heap_runs_Item_int_sink_20_at (rd : Option Nat) (K : Post3) (t : Fr) (m : Mem) : wpM E 68 79 rd c_heap_Heap_runs_Item_int_sink_20 K t m = wpM E 68 79 rd (.seq (.ops [⟨(some 2), .assign (.const (.int .i64 0)), none⟩]) c_heap_Heap_runs_Item_int_sink_19) K t m := rfl

@[go_sem] theorem some68 : (E.fn 68).isSome = true := by kernel_rfl
set_option maxRecDepth 100000 in
theorem fn_heap_Heap_runs_Item_int_sink : FnIs E 68 79 [] c_heap_Heap_runs_Item_int_sink_20 := ⟨by kernel_rfl, by kernel_rfl⟩

/-! (*sheaf/heap.Heap[sheaf/runs.Item[string]]).Top -/
abbrev F_heap_Heap_runs_Item_string_Top : FuncId := 71
def c_heap_Heap_runs_Item_string_Top_0 : MC := (.seq (.ops [⟨(some 11), .load 77 (.tmp 4), none⟩,
    ⟨none, .store 77 (.tmp 2) (.tmp 11), none⟩,
    ⟨(some 3), .assign (.const (.bool false)), none⟩]) .ret)
@[go_sem] theorem c_heap_Heap_runs_Item_string_Top_0_at (rd : Option Nat) (K : Post3) (t : Fr) (m : Mem) : wpM E 71 18 rd c_heap_Heap_runs_Item_string_Top_0 K t m = wpM E 71 18 rd (.seq (.ops [⟨(some 11), .load 77 (.tmp 4), none⟩,
    ⟨none, .store 77 (.tmp 2) (.tmp 11), none⟩,
    ⟨(some 3), .assign (.const (.bool false)), none⟩]) .ret) K t m := rfl

def c_heap_Heap_runs_Item_string_Top_1 : MC := (.seq (.ops [⟨(some 4), .alloc 77, none⟩]) c_heap_Heap_runs_Item_string_Top_0)
@[go_sem] theorem c_heap_Heap_runs_Item_string_Top_1_at (rd : Option Nat) (K : Post3) (t : Fr) (m : Mem) : wpM E 71 18 rd c_heap_Heap_runs_Item_string_Top_1 K t m = wpM E 71 18 rd (.seq (.ops [⟨(some 4), .alloc 77, none⟩]) c_heap_Heap_runs_Item_string_Top_0) K t m := rfl

def c_heap_Heap_runs_Item_string_Top_2 : MC := (.cond (.tmp 10) c_heap_Heap_runs_Item_string_Top_1 .skip)
@[go_sem] theorem c_heap_Heap_runs_Item_string_Top_2_at (rd : Option Nat) (K : Post3) (t : Fr) (m : Mem) : wpM E 71 18 rd c_heap_Heap_runs_Item_string_Top_2 K t m = wpM E 71 18 rd (.cond (.tmp 10) c_heap_Heap_runs_Item_string_Top_1 .skip) K t m := rfl

def c_heap_Heap_runs_Item_string_Top_3 : MC := (.seq (.ops [⟨(some 5), .move (.tmp 0), none⟩,
    ⟨(some 6), .nilCheck (.tmp 5), none⟩,
    ⟨(some 7), .fieldAddr 115 (.tmp 6) 1, none⟩,
    ⟨(some 8), .load 74 (.tmp 7), none⟩,
    ⟨(some 9), .call ⟨.builtin .len, #[(.tmp 8)], #[74]⟩, none⟩,
    ⟨(some 10), .binOp .eql 3 (.tmp 9) (.const (.int .i64 0)) 3, none⟩]) c_heap_Heap_runs_Item_string_Top_2)
@[go_sem] theorem c_heap_Heap_runs_Item_string_Top_3_at (rd : Option Nat) (K : Post3) (t : Fr) (m : Mem) : wpM E 71 18 rd c_heap_Heap_runs_Item_string_Top_3 K t m = wpM E 71 18 rd (.seq (.ops [⟨(some 5), .move (.tmp 0), none⟩,
    ⟨(some 6), .nilCheck (.tmp 5), none⟩,
    ⟨(some 7), .fieldAddr 115 (.tmp 6) 1, none⟩,
    ⟨(some 8), .load 74 (.tmp 7), none⟩,
    ⟨(some 9), .call ⟨.builtin .len, #[(.tmp 8)], #[74]⟩, none⟩,
    ⟨(some 10), .binOp .eql 3 (.tmp 9) (.const (.int .i64 0)) 3, none⟩]) c_heap_Heap_runs_Item_string_Top_2) K t m := rfl

def c_heap_Heap_runs_Item_string_Top_4 : MC := (.seq (.ops [⟨(some 12), .move (.tmp 0), none⟩,
    ⟨(some 13), .nilCheck (.tmp 12), none⟩,
    ⟨(some 14), .fieldAddr 115 (.tmp 13) 1, none⟩,
    ⟨(some 15), .load 74 (.tmp 14), none⟩,
    ⟨(some 16), .indexAddr 74 (.tmp 15) (.const (.int .i64 0)), none⟩,
    ⟨(some 17), .load 77 (.tmp 16), none⟩,
    ⟨none, .store 77 (.tmp 2) (.tmp 17), none⟩,
    ⟨(some 3), .assign (.const (.bool true)), none⟩]) .ret)
@[go_sem] theorem c_heap_Heap_runs_Item_string_Top_4_at (rd : Option Nat) (K : Post3) (t : Fr) (m : Mem) : wpM E 71 18 rd c_heap_Heap_runs_Item_string_Top_4 K t m = wpM E 71 18 rd (.seq (.ops [⟨(some 12), .move (.tmp 0), none⟩,
    ⟨(some 13), .nilCheck (.tmp 12), none⟩,
    ⟨(some 14), .fieldAddr 115 (.tmp 13) 1, none⟩,
    ⟨(some 15), .load 74 (.tmp 14), none⟩,
    ⟨(some 16), .indexAddr 74 (.tmp 15) (.const (.int .i64 0)), none⟩,
    ⟨(some 17), .load 77 (.tmp 16), none⟩,
    ⟨none, .store 77 (.tmp 2) (.tmp 17), none⟩,
    ⟨(some 3), .assign (.const (.bool true)), none⟩]) .ret) K t m := rfl

def c_heap_Heap_runs_Item_string_Top_5 : MC := (.seq c_heap_Heap_runs_Item_string_Top_3 c_heap_Heap_runs_Item_string_Top_4)
@[go_sem] theorem c_heap_Heap_runs_Item_string_Top_5_at (rd : Option Nat) (K : Post3) (t : Fr) (m : Mem) : wpM E 71 18 rd c_heap_Heap_runs_Item_string_Top_5 K t m = wpM E 71 18 rd (.seq c_heap_Heap_runs_Item_string_Top_3 c_heap_Heap_runs_Item_string_Top_4) K t m := rfl

def c_heap_Heap_runs_Item_string_Top_6 : MC := (.seq (.ops [⟨(some 2), .alloc 77, none⟩,
    ⟨(some 3), .assign (.const (.bool false)), none⟩]) c_heap_Heap_runs_Item_string_Top_5)
@[go_sem] theorem c_heap_Heap_runs_Item_string_Top_6_at (rd : Option Nat) (K : Post3) (t : Fr) (m : Mem) : wpM E 71 18 rd c_heap_Heap_runs_Item_string_Top_6 K t m = wpM E 71 18 rd (.seq (.ops [⟨(some 2), .alloc 77, none⟩,
    ⟨(some 3), .assign (.const (.bool false)), none⟩]) c_heap_Heap_runs_Item_string_Top_5) K t m := rfl

@[go_sem] theorem some71 : (E.fn 71).isSome = true := by kernel_rfl
set_option maxRecDepth 100000 in
theorem fn_heap_Heap_runs_Item_string_Top : FnIs E 71 18 [.cell 2 77, .tmp 3] c_heap_Heap_runs_Item_string_Top_6 := ⟨by kernel_rfl, by kernel_rfl⟩

/-! (*sheaf/heap.Heap[sheaf/runs.Item[string]]).sink -/
abbrev F_heap_Heap_runs_Item_string_sink : FuncId := 72
def c_heap_Heap_runs_Item_string_sink_0 : MC := (.cond (.tmp 16) .skip (.exit 2))
@[go_sem] theorem c_heap_Heap_runs_Item_string_sink_0_at (rd : Option Nat) (K : Post3) (t : Fr) (m : Mem) : wpM E 72 79 rd c_heap_Heap_runs_Item_string_sink_0 K t m = wpM E 72 79 rd (.cond (.tmp 16) .skip (.exit 2)) K t m := rfl

def c_heap_Heap_runs_Item_string_sink_1 : MC := (.cond (.tmp 46) (.ops [⟨(some 47), .move (.tmp 5), none⟩,
    ⟨(some 3), .assign (.tmp 47), none⟩]) .skip)
@[go_sem] theorem c_heap_Heap_runs_Item_string_sink_1_at (rd : Option Nat) (K : Post3) (t : Fr) (m : Mem) : wpM E 72 79 rd c_heap_Heap_runs_Item_string_sink_1 K t m = wpM E 72 79 rd (.cond (.tmp 46) (.ops [⟨(some 47), .move (.tmp 5), none⟩,
    ⟨(some 3), .assign (.tmp 47), none⟩]) .skip) K t m := rfl

def c_heap_Heap_runs_Item_string_sink_2 : MC := (.seq (.ops [⟨(some 19), .move (.tmp 5), none⟩,
    ⟨(some 20), .move (.tmp 0), none⟩,
    ⟨(some 21), .nilCheck (.tmp 20), none⟩,
    ⟨(some 22), .fieldAddr 115 (.tmp 21) 1, none⟩,
    ⟨(some 23), .load 74 (.tmp 22), none⟩,
    ⟨(some 24), .call ⟨.builtin .len, #[(.tmp 23)], #[74]⟩, none⟩,
    ⟨(some 25), .binOp .lss 3 (.tmp 19) (.tmp 24) 3, none⟩,
    ⟨(some 26), .move (.tmp 25), none⟩,
    ⟨(some 27), .move (.tmp 0), (some (some 26, true))⟩,
    ⟨(some 28), .nilCheck (.tmp 27), (some (some 26, true))⟩,
    ⟨(some 29), .fieldAddr 115 (.tmp 28) 0, (some (some 26, true))⟩,
    ⟨(some 30), .load 105 (.tmp 29), (some (some 26, true))⟩,
    ⟨(some 31), .move (.tmp 0), (some (some 26, true))⟩,
    ⟨(some 32), .nilCheck (.tmp 31), (some (some 26, true))⟩,
    ⟨(some 33), .fieldAddr 115 (.tmp 32) 1, (some (some 26, true))⟩,
    ⟨(some 34), .load 74 (.tmp 33), (some (some 26, true))⟩,
    ⟨(some 35), .move (.tmp 5), (some (some 26, true))⟩,
    ⟨(some 36), .indexAddr 74 (.tmp 34) (.tmp 35), (some (some 26, true))⟩,
    ⟨(some 37), .load 77 (.tmp 36), (some (some 26, true))⟩,
    ⟨(some 38), .move (.tmp 0), (some (some 26, true))⟩,
    ⟨(some 39), .nilCheck (.tmp 38), (some (some 26, true))⟩,
    ⟨(some 40), .fieldAddr 115 (.tmp 39) 1, (some (some 26, true))⟩,
    ⟨(some 41), .load 74 (.tmp 40), (some (some 26, true))⟩,
    ⟨(some 42), .move (.tmp 3), (some (some 26, true))⟩,
    ⟨(some 43), .indexAddr 74 (.tmp 41) (.tmp 42), (some (some 26, true))⟩,
    ⟨(some 44), .load 77 (.tmp 43), (some (some 26, true))⟩,
    ⟨(some 45), .call ⟨.value (.tmp 30), #[(.tmp 37), (.tmp 44)], #[77, 77]⟩, (some (some 26, true))⟩,
    ⟨(some 46), .pick (.tmp 26) (.tmp 45) (.const (.bool false)), none⟩]) c_heap_Heap_runs_Item_string_sink_1)
@[go_sem] theorem c_heap_Heap_runs_Item_string_sink_2_at (rd : Option Nat) (K : Post3) (t : Fr) (m : Mem) : wpM E 72 79 rd c_heap_Heap_runs_Item_string_sink_2 K t m = wpM E 72 79 rd (.seq (.ops [⟨(some 19), .move (.tmp 5), none⟩,
    ⟨(some 20), .move (.tmp 0), none⟩,
    ⟨(some 21), .nilCheck (.tmp 20), none⟩,
    ⟨(some 22), .fieldAddr 115 (.tmp 21) 1, none⟩,
    ⟨(some 23), .load 74 (.tmp 22), none⟩,
    ⟨(some 24), .call ⟨.builtin .len, #[(.tmp 23)], #[74]⟩, none⟩,
    ⟨(some 25), .binOp .lss 3 (.tmp 19) (.tmp 24) 3, none⟩,
    ⟨(some 26), .move (.tmp 25), none⟩,
    ⟨(some 27), .move (.tmp 0), (some (some 26, true))⟩,
    ⟨(some 28), .nilCheck (.tmp 27), (some (some 26, true))⟩,
    ⟨(some 29), .fieldAddr 115 (.tmp 28) 0, (some (some 26, true))⟩,
    ⟨(some 30), .load 105 (.tmp 29), (some (some 26, true))⟩,
    ⟨(some 31), .move (.tmp 0), (some (some 26, true))⟩,
    ⟨(some 32), .nilCheck (.tmp 31), (some (some 26, true))⟩,
    ⟨(some 33), .fieldAddr 115 (.tmp 32) 1, (some (some 26, true))⟩,
    ⟨(some 34), .load 74 (.tmp 33), (some (some 26, true))⟩,
    ⟨(some 35), .move (.tmp 5), (some (some 26, true))⟩,
    ⟨(some 36), .indexAddr 74 (.tmp 34) (.tmp 35), (some (some 26, true))⟩,
    ⟨(some 37), .load 77 (.tmp 36), (some (some 26, true))⟩,
    ⟨(some 38), .move (.tmp 0), (some (some 26, true))⟩,
    ⟨(some 39), .nilCheck (.tmp 38), (some (some 26, true))⟩,
    ⟨(some 40), .fieldAddr 115 (.tmp 39) 1, (some (some 26, true))⟩,
    ⟨(some 41), .load 74 (.tmp 40), (some (some 26, true))⟩,
    ⟨(some 42), .move (.tmp 3), (some (some 26, true))⟩,
    ⟨(some 43), .indexAddr 74 (.tmp 41) (.tmp 42), (some (some 26, true))⟩,
    ⟨(some 44), .load 77 (.tmp 43), (some (some 26, true))⟩,
    ⟨(some 45), .call ⟨.value (.tmp 30), #[(.tmp 37), (.tmp 44)], #[77, 77]⟩, (some (some 26, true))⟩,
    ⟨(some 46), .pick (.tmp 26) (.tmp 45) (.const (.bool false)), none⟩]) c_heap_Heap_runs_Item_string_sink_1) K t m := rfl

def c_heap_Heap_runs_Item_string_sink_3 : MC := (.seq (.ops [⟨(some 17), .indexAddr 25 (.tmp 13) (.tmp 15), none⟩,
    ⟨(some 18), .load 3 (.tmp 17), none⟩,
    ⟨(some 5), .assign (.tmp 18), none⟩]) c_heap_Heap_runs_Item_string_sink_2)
@[go_sem] theorem c_heap_Heap_runs_Item_string_sink_3_at (rd : Option Nat) (K : Post3) (t : Fr) (m : Mem) : wpM E 72 79 rd c_heap_Heap_runs_Item_string_sink_3 K t m = wpM E 72 79 rd (.seq (.ops [⟨(some 17), .indexAddr 25 (.tmp 13) (.tmp 15), none⟩,
    ⟨(some 18), .load 3 (.tmp 17), none⟩,
    ⟨(some 5), .assign (.tmp 18), none⟩]) c_heap_Heap_runs_Item_string_sink_2) K t m := rfl

def c_heap_Heap_runs_Item_string_sink_4 : MC := (.block 3 c_heap_Heap_runs_Item_string_sink_3)
@[go_sem] theorem c_heap_Heap_runs_Item_string_sink_4_at (rd : Option Nat) (K : Post3) (t : Fr) (m : Mem) : wpM E 72 79 rd c_heap_Heap_runs_Item_string_sink_4 K t m = wpM E 72 79 rd (.block 3 c_heap_Heap_runs_Item_string_sink_3) K t m := rfl

def c_heap_Heap_runs_Item_string_sink_5 : MC := (.seq c_heap_Heap_runs_Item_string_sink_4 (.ops [⟨(some 48), .binOp .add 3 (.tmp 15) (.const (.int .i64 1)) 3, none⟩,
    ⟨(some 15), .move (.tmp 48), none⟩]))
@[go_sem] theorem c_heap_Heap_runs_Item_string_sink_5_at (rd : Option Nat) (K : Post3) (t : Fr) (m : Mem) : wpM E 72 79 rd c_heap_Heap_runs_Item_string_sink_5 K t m = wpM E 72 79 rd (.seq c_heap_Heap_runs_Item_string_sink_4 (.ops [⟨(some 48), .binOp .add 3 (.tmp 15) (.const (.int .i64 1)) 3, none⟩,
    ⟨(some 15), .move (.tmp 48), none⟩])) K t m := rfl

def c_heap_Heap_runs_Item_string_sink_6 : MC := (.seq c_heap_Heap_runs_Item_string_sink_0 c_heap_Heap_runs_Item_string_sink_5)
@[go_sem] theorem c_heap_Heap_runs_Item_string_sink_6_at (rd : Option Nat) (K : Post3) (t : Fr) (m : Mem) : wpM E 72 79 rd c_heap_Heap_runs_Item_string_sink_6 K t m = wpM E 72 79 rd (.seq c_heap_Heap_runs_Item_string_sink_0 c_heap_Heap_runs_Item_string_sink_5) K t m := rfl

def c_heap_Heap_runs_Item_string_sink_7 : MC := (.seq (.ops [⟨(some 16), .binOp .lss 3 (.tmp 15) (.tmp 14) 3, none⟩]) c_heap_Heap_runs_Item_string_sink_6)
@[go_sem] theorem c_heap_Heap_runs_Item_string_sink_7_at (rd : Option Nat) (K : Post3) (t : Fr) (m : Mem) : wpM E 72 79 rd c_heap_Heap_runs_Item_string_sink_7 K t m = wpM E 72 79 rd (.seq (.ops [⟨(some 16), .binOp .lss 3 (.tmp 15) (.tmp 14) 3, none⟩]) c_heap_Heap_runs_Item_string_sink_6) K t m := rfl

def c_heap_Heap_runs_Item_string_sink_8 : MC := (.loop c_heap_Heap_runs_Item_string_sink_7)
theorem c_heap_Heap_runs_Item_string_sink_8_at (rd : Option Nat) (K : Post3) (t : Fr) (m : Mem) : wpM E 72 79 rd c_heap_Heap_runs_Item_string_sink_8 K t m = wpM E 72 79 rd (.loop c_heap_Heap_runs_Item_string_sink_7) K t m := rfl

def c_heap_Heap_runs_Item_string_sink_9 : MC := (.block 2 c_heap_Heap_runs_Item_string_sink_8)
theorem c_heap_Heap_runs_Item_string_sink_9_at (rd : Option Nat) (K : Post3) (t : Fr) (m : Mem) : wpM E 72 79 rd c_heap_Heap_runs_Item_string_sink_9 K t m = wpM E 72 79 rd (.block 2 c_heap_Heap_runs_Item_string_sink_8) K t m := rfl

def c_heap_Heap_runs_Item_string_sink_10 : MC := (.seq (.ops [⟨(some 7), .move (.tmp 2), none⟩,
    ⟨(some 8), .binOp .mul 3 (.const (.int .i64 2)) (.tmp 7) 3, none⟩,
    ⟨(some 9), .binOp .add 3 (.tmp 8) (.const (.int .i64 1)) 3, none⟩,
    ⟨(some 10), .move (.tmp 2), none⟩,
    ⟨(some 11), .binOp .mul 3 (.const (.int .i64 2)) (.tmp 10) 3, none⟩,
    ⟨(some 12), .binOp .add 3 (.tmp 11) (.const (.int .i64 2)) 3, none⟩,
    ⟨(some 13), .buildSlice 25 2 #[(0, (.tmp 9)), (1, (.tmp 12))], none⟩,
    ⟨(some 14), .call ⟨.builtin .len, #[(.tmp 13)], #[25]⟩, none⟩,
    ⟨(some 15), .move (.const (.int .i64 0)), none⟩]) c_heap_Heap_runs_Item_string_sink_9)
@[go_sem] theorem c_heap_Heap_runs_Item_string_sink_10_at (rd : Option Nat) (K : Post3) (t : Fr) (m : Mem) : wpM E 72 79 rd c_heap_Heap_runs_Item_string_sink_10 K t m = wpM E 72 79 rd (.seq (.ops [⟨(some 7), .move (.tmp 2), none⟩,
    ⟨(some 8), .binOp .mul 3 (.const (.int .i64 2)) (.tmp 7) 3, none⟩,
    ⟨(some 9), .binOp .add 3 (.tmp 8) (.const (.int .i64 1)) 3, none⟩,
    ⟨(some 10), .move (.tmp 2), none⟩,
    ⟨(some 11), .binOp .mul 3 (.const (.int .i64 2)) (.tmp 10) 3, none⟩,
    ⟨(some 12), .binOp .add 3 (.tmp 11) (.const (.int .i64 2)) 3, none⟩,
    ⟨(some 13), .buildSlice 25 2 #[(0, (.tmp 9)), (1, (.tmp 12))], none⟩,
    ⟨(some 14), .call ⟨.builtin .len, #[(.tmp 13)], #[25]⟩, none⟩,
    ⟨(some 15), .move (.const (.int .i64 0)), none⟩]) c_heap_Heap_runs_Item_string_sink_9) K t m := rfl

def c_heap_Heap_runs_Item_string_sink_11 : MC := (.cond (.tmp 51) .ret .skip)
@[go_sem] theorem c_heap_Heap_runs_Item_string_sink_11_at (rd : Option Nat) (K : Post3) (t : Fr) (m : Mem) : wpM E 72 79 rd c_heap_Heap_runs_Item_string_sink_11 K t m = wpM E 72 79 rd (.cond (.tmp 51) .ret .skip) K t m := rfl

def c_heap_Heap_runs_Item_string_sink_12 : MC := (.seq (.ops [⟨(some 49), .move (.tmp 3), none⟩,
    ⟨(some 50), .move (.tmp 2), none⟩,
    ⟨(some 51), .binOp .eql 3 (.tmp 49) (.tmp 50) 3, none⟩]) c_heap_Heap_runs_Item_string_sink_11)
@[go_sem] theorem c_heap_Heap_runs_Item_string_sink_12_at (rd : Option Nat) (K : Post3) (t : Fr) (m : Mem) : wpM E 72 79 rd c_heap_Heap_runs_Item_string_sink_12 K t m = wpM E 72 79 rd (.seq (.ops [⟨(some 49), .move (.tmp 3), none⟩,
    ⟨(some 50), .move (.tmp 2), none⟩,
    ⟨(some 51), .binOp .eql 3 (.tmp 49) (.tmp 50) 3, none⟩]) c_heap_Heap_runs_Item_string_sink_11) K t m := rfl

def c_heap_Heap_runs_Item_string_sink_13 : MC := (.seq (.ops [⟨(some 52), .move (.tmp 0), none⟩,
    ⟨(some 53), .nilCheck (.tmp 52), none⟩,
    ⟨(some 54), .fieldAddr 115 (.tmp 53) 1, none⟩,
    ⟨(some 55), .load 74 (.tmp 54), none⟩,
    ⟨(some 56), .move (.tmp 2), none⟩,
    ⟨(some 57), .move (.tmp 0), none⟩,
    ⟨(some 58), .nilCheck (.tmp 57), none⟩,
    ⟨(some 59), .fieldAddr 115 (.tmp 58) 1, none⟩,
    ⟨(some 60), .load 74 (.tmp 59), none⟩,
    ⟨(some 61), .move (.tmp 3), none⟩,
    ⟨(some 62), .move (.tmp 0), none⟩,
    ⟨(some 63), .nilCheck (.tmp 62), none⟩,
    ⟨(some 64), .fieldAddr 115 (.tmp 63) 1, none⟩,
    ⟨(some 65), .load 74 (.tmp 64), none⟩,
    ⟨(some 66), .move (.tmp 3), none⟩,
    ⟨(some 67), .indexAddr 74 (.tmp 65) (.tmp 66), none⟩,
    ⟨(some 68), .load 77 (.tmp 67), none⟩,
    ⟨(some 69), .move (.tmp 0), none⟩,
    ⟨(some 70), .nilCheck (.tmp 69), none⟩,
    ⟨(some 71), .fieldAddr 115 (.tmp 70) 1, none⟩,
    ⟨(some 72), .load 74 (.tmp 71), none⟩,
    ⟨(some 73), .move (.tmp 2), none⟩,
    ⟨(some 74), .indexAddr 74 (.tmp 72) (.tmp 73), none⟩,
    ⟨(some 75), .load 77 (.tmp 74), none⟩,
    ⟨(some 76), .indexAddr 74 (.tmp 55) (.tmp 56), none⟩,
    ⟨none, .store 77 (.tmp 76) (.tmp 68), none⟩,
    ⟨(some 77), .indexAddr 74 (.tmp 60) (.tmp 61), none⟩,
    ⟨none, .store 77 (.tmp 77) (.tmp 75), none⟩]) (.ops [⟨(some 78), .move (.tmp 3), none⟩,
    ⟨(some 2), .assign (.tmp 78), none⟩]))
@[go_sem] theorem c_heap_Heap_runs_Item_string_sink_13_at (rd : Option Nat) (K : Post3) (t : Fr) (m : Mem) : wpM E 72 79 rd c_heap_Heap_runs_Item_string_sink_13 K t m = wpM E 72 79 rd (.seq (.ops [⟨(some 52), .move (.tmp 0), none⟩,
    ⟨(some 53), .nilCheck (.tmp 52), none⟩,
    ⟨(some 54), .fieldAddr 115 (.tmp 53) 1, none⟩,
    ⟨(some 55), .load 74 (.tmp 54), none⟩,
    ⟨(some 56), .move (.tmp 2), none⟩,
    ⟨(some 57), .move (.tmp 0), none⟩,
    ⟨(some 58), .nilCheck (.tmp 57), none⟩,
    ⟨(some 59), .fieldAddr 115 (.tmp 58) 1, none⟩,
    ⟨(some 60), .load 74 (.tmp 59), none⟩,
    ⟨(some 61), .move (.tmp 3), none⟩,
    ⟨(some 62), .move (.tmp 0), none⟩,
    ⟨(some 63), .nilCheck (.tmp 62), none⟩,
    ⟨(some 64), .fieldAddr 115 (.tmp 63) 1, none⟩,
    ⟨(some 65), .load 74 (.tmp 64), none⟩,
    ⟨(some 66), .move (.tmp 3), none⟩,
    ⟨(some 67), .indexAddr 74 (.tmp 65) (.tmp 66), none⟩,
    ⟨(some 68), .load 77 (.tmp 67), none⟩,
    ⟨(some 69), .move (.tmp 0), none⟩,
    ⟨(some 70), .nilCheck (.tmp 69), none⟩,
    ⟨(some 71), .fieldAddr 115 (.tmp 70) 1, none⟩,
    ⟨(some 72), .load 74 (.tmp 71), none⟩,
    ⟨(some 73), .move (.tmp 2), none⟩,
    ⟨(some 74), .indexAddr 74 (.tmp 72) (.tmp 73), none⟩,
    ⟨(some 75), .load 77 (.tmp 74), none⟩,
    ⟨(some 76), .indexAddr 74 (.tmp 55) (.tmp 56), none⟩,
    ⟨none, .store 77 (.tmp 76) (.tmp 68), none⟩,
    ⟨(some 77), .indexAddr 74 (.tmp 60) (.tmp 61), none⟩,
    ⟨none, .store 77 (.tmp 77) (.tmp 75), none⟩]) (.ops [⟨(some 78), .move (.tmp 3), none⟩,
    ⟨(some 2), .assign (.tmp 78), none⟩])) K t m := rfl

def c_heap_Heap_runs_Item_string_sink_14 : MC := (.seq c_heap_Heap_runs_Item_string_sink_12 c_heap_Heap_runs_Item_string_sink_13)
@[go_sem] theorem c_heap_Heap_runs_Item_string_sink_14_at (rd : Option Nat) (K : Post3) (t : Fr) (m : Mem) : wpM E 72 79 rd c_heap_Heap_runs_Item_string_sink_14 K t m = wpM E 72 79 rd (.seq c_heap_Heap_runs_Item_string_sink_12 c_heap_Heap_runs_Item_string_sink_13) K t m := rfl

def c_heap_Heap_runs_Item_string_sink_15 : MC := (.seq c_heap_Heap_runs_Item_string_sink_10 c_heap_Heap_runs_Item_string_sink_14)
@[go_sem] theorem c_heap_Heap_runs_Item_string_sink_15_at (rd : Option Nat) (K : Post3) (t : Fr) (m : Mem) : wpM E 72 79 rd c_heap_Heap_runs_Item_string_sink_15 K t m = wpM E 72 79 rd (.seq c_heap_Heap_runs_Item_string_sink_10 c_heap_Heap_runs_Item_string_sink_14) K t m := rfl

def c_heap_Heap_runs_Item_string_sink_16 : MC := (.seq (.ops [⟨(some 6), .move (.tmp 2), none⟩,
    ⟨(some 3), .assign (.tmp 6), none⟩]) c_heap_Heap_runs_Item_string_sink_15)
@[go_sem] theorem c_heap_Heap_runs_Item_string_sink_16_at (rd : Option Nat) (K : Post3) (t : Fr) (m : Mem) : wpM E 72 79 rd c_heap_Heap_runs_Item_string_sink_16 K t m = wpM E 72 79 rd (.seq (.ops [⟨(some 6), .move (.tmp 2), none⟩,
    ⟨(some 3), .assign (.tmp 6), none⟩]) c_heap_Heap_runs_Item_string_sink_15) K t m := rfl

def c_heap_Heap_runs_Item_string_sink_17 : MC := (.block 1 c_heap_Heap_runs_Item_string_sink_16)
@[go_sem] theorem c_heap_Heap_runs_Item_string_sink_17_at (rd : Option Nat) (K : Post3) (t : Fr) (m : Mem) : wpM E 72 79 rd c_heap_Heap_runs_Item_string_sink_17 K t m = wpM E 72 79 rd (.block 1 c_heap_Heap_runs_Item_string_sink_16) K t m := rfl

def c_heap_Heap_runs_Item_string_sink_18 : MC := (.loop c_heap_Heap_runs_Item_string_sink_17)
theorem c_heap_Heap_runs_Item_string_sink_18_at (rd : Option Nat) (K : Post3) (t : Fr) (m : Mem) : wpM E 72 79 rd c_heap_Heap_runs_Item_string_sink_18 K t m = wpM E 72 79 rd (.loop c_heap_Heap_runs_Item_string_sink_17) K t m := rfl

def c_heap_Heap_runs_Item_string_sink_19 : MC := (.block 0 c_heap_Heap_runs_Item_string_sink_18)
theorem c_heap_Heap_runs_Item_string_sink_19_at (rd : Option Nat) (K : Post3) (t : Fr) (m : Mem) : wpM E 72 79 rd c_heap_Heap_runs_Item_string_sink_19 K t m = wpM E 72 79 rd (.block 0 c_heap_Heap_runs_Item_string_sink_18) K t m := rfl

def c_heap_Heap_runs_Item_string_sink_20 : MC := (.seq (.ops [⟨(some 2), .assign (.const (.int .i64 0)), none⟩]) c_heap_Heap_runs_Item_string_sink_19)
@[go_sem] theorem c_heap_Heap_runs_Item_string_sink_20_at (rd : Option Nat) (K : Post3) (t : Fr) (m : Mem) : wpM E 72 79 rd c_heap_Heap_runs_Item_string_sink_20 K t m = wpM E 72 79 rd (.seq (.ops [⟨(some 2), .assign (.const (.int .i64 0)), none⟩]) c_heap_Heap_runs_Item_string_sink_19) K t m := rfl

@[go_sem] theorem some72 : (E.fn 72).isSome = true := by kernel_rfl
set_option maxRecDepth 100000 in
theorem fn_heap_Heap_runs_Item_string_sink : FnIs E 72 79 [] c_heap_Heap_runs_Item_string_sink_20 := ⟨by kernel_rfl, by kernel_rfl⟩

end
end Go.Proofs.Ythlcbacmbcmgfaa.W
