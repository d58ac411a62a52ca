/-
  Compact code, printed by a program of mine (wip/dev/AbsPrint.lean).
-/
import Derived.Test.YtpabllcacdopdaaTypes
set_option linter.unusedVariables false
namespace Go.Proofs.Ytpabllcacdopdaa.W
open Go.Abs
noncomputable section

/-! sheaf/flow.From[[]int] -/
abbrev F_flow_From_Sint : FuncId := 11
def c_flow_From_Sint_0 : MC := (.seq (.ops [⟨(some 3), .move (.tmp 0), none⟩,
    ⟨(some 4), .call ⟨.value (.func 34), #[(.tmp 3)], #[23]⟩, none⟩,
    ⟨(some 2), .assign (.tmp 4), none⟩]) .ret)
@[go_sem] theorem c_flow_From_Sint_0_at (rd : Option Nat) (K : Post3) (t : Fr) (m : Mem) : wpM E 11 5 rd c_flow_From_Sint_0 K t m = wpM E 11 5 rd (.seq (.ops [⟨(some 3), .move (.tmp 0), none⟩,
    ⟨(some 4), .call ⟨.value (.func 34), #[(.tmp 3)], #[23]⟩, none⟩,
    ⟨(some 2), .assign (.tmp 4), none⟩]) .ret) K t m := rfl

def c_flow_From_Sint_1 : MC := (.seq (.ops [⟨(some 2), .assign (.const .nilFunc), none⟩]) c_flow_From_Sint_0)
@[go_sem] theorem c_flow_From_Sint_1_at (rd : Option Nat) (K : Post3) (t : Fr) (m : Mem) : wpM E 11 5 rd c_flow_From_Sint_1 K t m = wpM E 11 5 rd (.seq (.ops [⟨(some 2), .assign (.const .nilFunc), none⟩]) c_flow_From_Sint_0) K t m := rfl

@[go_sem] theorem some11 : (E.fn 11).isSome = true := by kernel_rfl
set_option maxRecDepth 100000 in
theorem fn_flow_From_Sint : FnIs E 11 5 [.tmp 2] c_flow_From_Sint_1 := ⟨by kernel_rfl, by kernel_rfl⟩

/-! sheaf/flow.Cursor[[]int] -/
abbrev F_flow_Cursor_Sint : FuncId := 13
def c_flow_Cursor_Sint_0 : MC := (.seq (.ops [⟨(some 3), .makeFunc (.func 38) #[] #[(.tmp 1)], none⟩,
    ⟨(some 2), .assign (.tmp 3), none⟩]) .ret)
@[go_sem] theorem c_flow_Cursor_Sint_0_at (rd : Option Nat) (K : Post3) (t : Fr) (m : Mem) : wpM E 13 4 rd c_flow_Cursor_Sint_0 K t m = wpM E 13 4 rd (.seq (.ops [⟨(some 3), .makeFunc (.func 38) #[] #[(.tmp 1)], none⟩,
    ⟨(some 2), .assign (.tmp 3), none⟩]) .ret) K t m := rfl

def c_flow_Cursor_Sint_1 : MC := (.seq (.ops [⟨(some 1), .box 23 (.tmp 0), none⟩,
    ⟨(some 2), .assign (.const .nilFunc), none⟩]) c_flow_Cursor_Sint_0)
@[go_sem] theorem c_flow_Cursor_Sint_1_at (rd : Option Nat) (K : Post3) (t : Fr) (m : Mem) : wpM E 13 4 rd c_flow_Cursor_Sint_1 K t m = wpM E 13 4 rd (.seq (.ops [⟨(some 1), .box 23 (.tmp 0), none⟩,
    ⟨(some 2), .assign (.const .nilFunc), none⟩]) c_flow_Cursor_Sint_0) K t m := rfl

@[go_sem] theorem some13 : (E.fn 13).isSome = true := by kernel_rfl
set_option maxRecDepth 100000 in
theorem fn_flow_Cursor_Sint : FnIs E 13 4 [.tmp 2] c_flow_Cursor_Sint_1 := ⟨by kernel_rfl, by kernel_rfl⟩

/-! slices.Clone[[]int,int] -/
abbrev F_slices_Clone_Sint_int : FuncId := 33
def c_slices_Clone_Sint_int_0 : MC := (.seq (.ops [⟨(some 2), .assign (.const (.slice none 0 0)), none⟩]) .ret)
@[go_sem] theorem c_slices_Clone_Sint_int_0_at (rd : Option Nat) (K : Post3) (t : Fr) (m : Mem) : wpM E 33 8 rd c_slices_Clone_Sint_int_0 K t m = wpM E 33 8 rd (.seq (.ops [⟨(some 2), .assign (.const (.slice none 0 0)), none⟩]) .ret) K t m := rfl

def c_slices_Clone_Sint_int_1 : MC := (.cond (.tmp 4) c_slices_Clone_Sint_int_0 .skip)
@[go_sem] theorem c_slices_Clone_Sint_int_1_at (rd : Option Nat) (K : Post3) (t : Fr) (m : Mem) : wpM E 33 8 rd c_slices_Clone_Sint_int_1 K t m = wpM E 33 8 rd (.cond (.tmp 4) c_slices_Clone_Sint_int_0 .skip) K t m := rfl

def c_slices_Clone_Sint_int_2 : MC := (.seq (.ops [⟨(some 3), .move (.tmp 0), none⟩,
    ⟨(some 4), .binOp .eql 22 (.tmp 3) (.const (.slice none 0 0)) 22, none⟩]) c_slices_Clone_Sint_int_1)
@[go_sem] theorem c_slices_Clone_Sint_int_2_at (rd : Option Nat) (K : Post3) (t : Fr) (m : Mem) : wpM E 33 8 rd c_slices_Clone_Sint_int_2 K t m = wpM E 33 8 rd (.seq (.ops [⟨(some 3), .move (.tmp 0), none⟩,
    ⟨(some 4), .binOp .eql 22 (.tmp 3) (.const (.slice none 0 0)) 22, none⟩]) c_slices_Clone_Sint_int_1) K t m := rfl

def c_slices_Clone_Sint_int_3 : MC := (.seq (.ops [⟨(some 5), .buildSlice 22 0 #[], none⟩,
    ⟨(some 6), .move (.tmp 0), none⟩,
    ⟨(some 7), .call ⟨.builtin .append, #[(.tmp 5), (.tmp 6)], #[22, 22]⟩, none⟩,
    ⟨(some 2), .assign (.tmp 7), none⟩]) .ret)
@[go_sem] theorem c_slices_Clone_Sint_int_3_at (rd : Option Nat) (K : Post3) (t : Fr) (m : Mem) : wpM E 33 8 rd c_slices_Clone_Sint_int_3 K t m = wpM E 33 8 rd (.seq (.ops [⟨(some 5), .buildSlice 22 0 #[], none⟩,
    ⟨(some 6), .move (.tmp 0), none⟩,
    ⟨(some 7), .call ⟨.builtin .append, #[(.tmp 5), (.tmp 6)], #[22, 22]⟩, none⟩,
    ⟨(some 2), .assign (.tmp 7), none⟩]) .ret) K t m := rfl

def c_slices_Clone_Sint_int_4 : MC := (.seq c_slices_Clone_Sint_int_2 c_slices_Clone_Sint_int_3)
@[go_sem] theorem c_slices_Clone_Sint_int_4_at (rd : Option Nat) (K : Post3) (t : Fr) (m : Mem) : wpM E 33 8 rd c_slices_Clone_Sint_int_4 K t m = wpM E 33 8 rd (.seq c_slices_Clone_Sint_int_2 c_slices_Clone_Sint_int_3) K t m := rfl

def c_slices_Clone_Sint_int_5 : MC := (.seq (.ops [⟨(some 2), .assign (.const (.slice none 0 0)), none⟩]) c_slices_Clone_Sint_int_4)
@[go_sem] theorem c_slices_Clone_Sint_int_5_at (rd : Option Nat) (K : Post3) (t : Fr) (m : Mem) : wpM E 33 8 rd c_slices_Clone_Sint_int_5 K t m = wpM E 33 8 rd (.seq (.ops [⟨(some 2), .assign (.const (.slice none 0 0)), none⟩]) c_slices_Clone_Sint_int_4) K t m := rfl

@[go_sem] theorem some33 : (E.fn 33).isSome = true := by kernel_rfl
set_option maxRecDepth 100000 in
theorem fn_slices_Clone_Sint_int : FnIs E 33 8 [.tmp 2] c_slices_Clone_Sint_int_5 := ⟨by kernel_rfl, by kernel_rfl⟩

/-! slices.Values[[][]int,[]int] -/
abbrev F_slices_Values_SSint_Sint : FuncId := 34
def c_slices_Values_SSint_Sint_0 : MC := (.seq (.ops [⟨(some 3), .makeFunc (.func 53) #[] #[(.tmp 1)], none⟩,
    ⟨(some 2), .assign (.tmp 3), none⟩]) .ret)
@[go_sem] theorem c_slices_Values_SSint_Sint_0_at (rd : Option Nat) (K : Post3) (t : Fr) (m : Mem) : wpM E 34 4 rd c_slices_Values_SSint_Sint_0 K t m = wpM E 34 4 rd (.seq (.ops [⟨(some 3), .makeFunc (.func 53) #[] #[(.tmp 1)], none⟩,
    ⟨(some 2), .assign (.tmp 3), none⟩]) .ret) K t m := rfl

def c_slices_Values_SSint_Sint_1 : MC := (.seq (.ops [⟨(some 1), .box 23 (.tmp 0), none⟩,
    ⟨(some 2), .assign (.const .nilFunc), none⟩]) c_slices_Values_SSint_Sint_0)
@[go_sem] theorem c_slices_Values_SSint_Sint_1_at (rd : Option Nat) (K : Post3) (t : Fr) (m : Mem) : wpM E 34 4 rd c_slices_Values_SSint_Sint_1 K t m = wpM E 34 4 rd (.seq (.ops [⟨(some 1), .box 23 (.tmp 0), none⟩,
    ⟨(some 2), .assign (.const .nilFunc), none⟩]) c_slices_Values_SSint_Sint_0) K t m := rfl

@[go_sem] theorem some34 : (E.fn 34).isSome = true := by kernel_rfl
set_option maxRecDepth 100000 in
theorem fn_slices_Values_SSint_Sint : FnIs E 34 4 [.tmp 2] c_slices_Values_SSint_Sint_1 := ⟨by kernel_rfl, by kernel_rfl⟩

/-! sheaf/flow.Cursor[[]int]$1 -/
abbrev F_flow_Cursor_Sint_1 : FuncId := 38
def c_flow_Cursor_Sint_1_0 : MC := (.seq (.ops [⟨(some 7), .move (.tmp 3), none⟩,
    ⟨(some 1), .assign (.tmp 7), none⟩,
    ⟨(some 2), .assign (.const (.bool false)), none⟩]) .ret)
@[go_sem] theorem c_flow_Cursor_Sint_1_0_at (rd : Option Nat) (K : Post3) (t : Fr) (m : Mem) : wpM E 38 14 rd c_flow_Cursor_Sint_1_0 K t m = wpM E 38 14 rd (.seq (.ops [⟨(some 7), .move (.tmp 3), none⟩,
    ⟨(some 1), .assign (.tmp 7), none⟩,
    ⟨(some 2), .assign (.const (.bool false)), none⟩]) .ret) K t m := rfl

def c_flow_Cursor_Sint_1_1 : MC := (.cond (.tmp 6) c_flow_Cursor_Sint_1_0 .skip)
@[go_sem] theorem c_flow_Cursor_Sint_1_1_at (rd : Option Nat) (K : Post3) (t : Fr) (m : Mem) : wpM E 38 14 rd c_flow_Cursor_Sint_1_1 K t m = wpM E 38 14 rd (.cond (.tmp 6) c_flow_Cursor_Sint_1_0 .skip) K t m := rfl

def c_flow_Cursor_Sint_1_2 : MC := (.seq (.ops [⟨(some 4), .load 23 (.tmp 0), none⟩,
    ⟨(some 5), .call ⟨.builtin .len, #[(.tmp 4)], #[23]⟩, none⟩,
    ⟨(some 6), .binOp .eql 3 (.tmp 5) (.const (.int .i64 0)) 3, none⟩]) c_flow_Cursor_Sint_1_1)
@[go_sem] theorem c_flow_Cursor_Sint_1_2_at (rd : Option Nat) (K : Post3) (t : Fr) (m : Mem) : wpM E 38 14 rd c_flow_Cursor_Sint_1_2 K t m = wpM E 38 14 rd (.seq (.ops [⟨(some 4), .load 23 (.tmp 0), none⟩,
    ⟨(some 5), .call ⟨.builtin .len, #[(.tmp 4)], #[23]⟩, none⟩,
    ⟨(some 6), .binOp .eql 3 (.tmp 5) (.const (.int .i64 0)) 3, none⟩]) c_flow_Cursor_Sint_1_1) K t m := rfl

def c_flow_Cursor_Sint_1_3 : MC := (.seq (.ops [⟨(some 13), .move (.tmp 3), none⟩,
    ⟨(some 1), .assign (.tmp 13), none⟩,
    ⟨(some 2), .assign (.const (.bool true)), none⟩]) .ret)
@[go_sem] theorem c_flow_Cursor_Sint_1_3_at (rd : Option Nat) (K : Post3) (t : Fr) (m : Mem) : wpM E 38 14 rd c_flow_Cursor_Sint_1_3 K t m = wpM E 38 14 rd (.seq (.ops [⟨(some 13), .move (.tmp 3), none⟩,
    ⟨(some 1), .assign (.tmp 13), none⟩,
    ⟨(some 2), .assign (.const (.bool true)), none⟩]) .ret) K t m := rfl

def c_flow_Cursor_Sint_1_4 : MC := (.seq (.ops [⟨(some 8), .load 23 (.tmp 0), none⟩,
    ⟨(some 9), .indexAddr 23 (.tmp 8) (.const (.int .i64 0)), none⟩,
    ⟨(some 10), .load 22 (.tmp 9), none⟩,
    ⟨(some 11), .load 23 (.tmp 0), none⟩,
    ⟨(some 12), .slice 23 (.tmp 11) (some (.const (.int .i64 1))) none none, none⟩,
    ⟨(some 3), .assign (.tmp 10), none⟩,
    ⟨none, .store 23 (.tmp 0) (.tmp 12), none⟩]) c_flow_Cursor_Sint_1_3)
@[go_sem] theorem c_flow_Cursor_Sint_1_4_at (rd : Option Nat) (K : Post3) (t : Fr) (m : Mem) : wpM E 38 14 rd c_flow_Cursor_Sint_1_4 K t m = wpM E 38 14 rd (.seq (.ops [⟨(some 8), .load 23 (.tmp 0), none⟩,
    ⟨(some 9), .indexAddr 23 (.tmp 8) (.const (.int .i64 0)), none⟩,
    ⟨(some 10), .load 22 (.tmp 9), none⟩,
    ⟨(some 11), .load 23 (.tmp 0), none⟩,
    ⟨(some 12), .slice 23 (.tmp 11) (some (.const (.int .i64 1))) none none, none⟩,
    ⟨(some 3), .assign (.tmp 10), none⟩,
    ⟨none, .store 23 (.tmp 0) (.tmp 12), none⟩]) c_flow_Cursor_Sint_1_3) K t m := rfl

def c_flow_Cursor_Sint_1_5 : MC := (.seq c_flow_Cursor_Sint_1_2 c_flow_Cursor_Sint_1_4)
@[go_sem] theorem c_flow_Cursor_Sint_1_5_at (rd : Option Nat) (K : Post3) (t : Fr) (m : Mem) : wpM E 38 14 rd c_flow_Cursor_Sint_1_5 K t m = wpM E 38 14 rd (.seq c_flow_Cursor_Sint_1_2 c_flow_Cursor_Sint_1_4) K t m := rfl

def c_flow_Cursor_Sint_1_6 : MC := (.seq (.ops [⟨(some 3), .assign (.const (.slice none 0 0)), none⟩]) c_flow_Cursor_Sint_1_5)
@[go_sem] theorem c_flow_Cursor_Sint_1_6_at (rd : Option Nat) (K : Post3) (t : Fr) (m : Mem) : wpM E 38 14 rd c_flow_Cursor_Sint_1_6 K t m = wpM E 38 14 rd (.seq (.ops [⟨(some 3), .assign (.const (.slice none 0 0)), none⟩]) c_flow_Cursor_Sint_1_5) K t m := rfl

def c_flow_Cursor_Sint_1_7 : MC := (.seq (.ops [⟨(some 1), .assign (.const (.slice none 0 0)), none⟩,
    ⟨(some 2), .assign (.const (.bool false)), none⟩]) c_flow_Cursor_Sint_1_6)
@[go_sem] theorem c_flow_Cursor_Sint_1_7_at (rd : Option Nat) (K : Post3) (t : Fr) (m : Mem) : wpM E 38 14 rd c_flow_Cursor_Sint_1_7 K t m = wpM E 38 14 rd (.seq (.ops [⟨(some 1), .assign (.const (.slice none 0 0)), none⟩,
    ⟨(some 2), .assign (.const (.bool false)), none⟩]) c_flow_Cursor_Sint_1_6) K t m := rfl

@[go_sem] theorem some38 : (E.fn 38).isSome = true := by kernel_rfl
set_option maxRecDepth 100000 in
theorem fn_flow_Cursor_Sint_1 : FnIs E 38 14 [.tmp 1, .tmp 2] c_flow_Cursor_Sint_1_7 := ⟨by kernel_rfl, by kernel_rfl⟩

/-! slices.Clip[[]int,int] -/
abbrev F_slices_Clip_Sint_int : FuncId := 46
def c_slices_Clip_Sint_int_0 : MC := (.seq (.ops [⟨(some 3), .move (.tmp 0), none⟩,
    ⟨(some 4), .move (.tmp 0), none⟩,
    ⟨(some 5), .call ⟨.builtin .len, #[(.tmp 4)], #[22]⟩, none⟩,
    ⟨(some 6), .move (.tmp 0), none⟩,
    ⟨(some 7), .call ⟨.builtin .len, #[(.tmp 6)], #[22]⟩, none⟩,
    ⟨(some 8), .slice 22 (.tmp 3) none (some (.tmp 5)) (some (.tmp 7)), none⟩,
    ⟨(some 2), .assign (.tmp 8), none⟩]) .ret)
@[go_sem] theorem c_slices_Clip_Sint_int_0_at (rd : Option Nat) (K : Post3) (t : Fr) (m : Mem) : wpM E 46 9 rd c_slices_Clip_Sint_int_0 K t m = wpM E 46 9 rd (.seq (.ops [⟨(some 3), .move (.tmp 0), none⟩,
    ⟨(some 4), .move (.tmp 0), none⟩,
    ⟨(some 5), .call ⟨.builtin .len, #[(.tmp 4)], #[22]⟩, none⟩,
    ⟨(some 6), .move (.tmp 0), none⟩,
    ⟨(some 7), .call ⟨.builtin .len, #[(.tmp 6)], #[22]⟩, none⟩,
    ⟨(some 8), .slice 22 (.tmp 3) none (some (.tmp 5)) (some (.tmp 7)), none⟩,
    ⟨(some 2), .assign (.tmp 8), none⟩]) .ret) K t m := rfl

def c_slices_Clip_Sint_int_1 : MC := (.seq (.ops [⟨(some 2), .assign (.const (.slice none 0 0)), none⟩]) c_slices_Clip_Sint_int_0)
@[go_sem] theorem c_slices_Clip_Sint_int_1_at (rd : Option Nat) (K : Post3) (t : Fr) (m : Mem) : wpM E 46 9 rd c_slices_Clip_Sint_int_1 K t m = wpM E 46 9 rd (.seq (.ops [⟨(some 2), .assign (.const (.slice none 0 0)), none⟩]) c_slices_Clip_Sint_int_0) K t m := rfl

@[go_sem] theorem some46 : (E.fn 46).isSome = true := by kernel_rfl
set_option maxRecDepth 100000 in
theorem fn_slices_Clip_Sint_int : FnIs E 46 9 [.tmp 2] c_slices_Clip_Sint_int_1 := ⟨by kernel_rfl, by kernel_rfl⟩

/-! slices.Values[[][]int,[]int]$1 -/
abbrev F_slices_Values_SSint_Sint_1 : FuncId := 53
def c_slices_Values_SSint_Sint_1_0 : MC := (.cond (.tmp 8) .skip (.exit 0))
@[go_sem] theorem c_slices_Values_SSint_Sint_1_0_at (rd : Option Nat) (K : Post3) (t : Fr) (m : Mem) : wpM E 53 16 rd c_slices_Values_SSint_Sint_1_0 K t m = wpM E 53 16 rd (.cond (.tmp 8) .skip (.exit 0)) K t m := rfl

def c_slices_Values_SSint_Sint_1_1 : MC := (.cond (.tmp 14) .ret .skip)
@[go_sem] theorem c_slices_Values_SSint_Sint_1_1_at (rd : Option Nat) (K : Post3) (t : Fr) (m : Mem) : wpM E 53 16 rd c_slices_Values_SSint_Sint_1_1 K t m = wpM E 53 16 rd (.cond (.tmp 14) .ret .skip) K t m := rfl

def c_slices_Values_SSint_Sint_1_2 : MC := (.seq (.ops [⟨(some 11), .move (.tmp 0), none⟩,
    ⟨(some 12), .move (.tmp 4), none⟩,
    ⟨(some 13), .call ⟨.value (.tmp 11), #[(.tmp 12)], #[22]⟩, none⟩,
    ⟨(some 14), .unOp .not 4 (.tmp 13), none⟩]) c_slices_Values_SSint_Sint_1_1)
@[go_sem] theorem c_slices_Values_SSint_Sint_1_2_at (rd : Option Nat) (K : Post3) (t : Fr) (m : Mem) : wpM E 53 16 rd c_slices_Values_SSint_Sint_1_2 K t m = wpM E 53 16 rd (.seq (.ops [⟨(some 11), .move (.tmp 0), none⟩,
    ⟨(some 12), .move (.tmp 4), none⟩,
    ⟨(some 13), .call ⟨.value (.tmp 11), #[(.tmp 12)], #[22]⟩, none⟩,
    ⟨(some 14), .unOp .not 4 (.tmp 13), none⟩]) c_slices_Values_SSint_Sint_1_1) K t m := rfl

def c_slices_Values_SSint_Sint_1_3 : MC := (.seq (.ops [⟨(some 9), .indexAddr 23 (.tmp 5) (.tmp 7), none⟩,
    ⟨(some 10), .load 22 (.tmp 9), none⟩,
    ⟨(some 4), .assign (.tmp 10), none⟩]) c_slices_Values_SSint_Sint_1_2)
@[go_sem] theorem c_slices_Values_SSint_Sint_1_3_at (rd : Option Nat) (K : Post3) (t : Fr) (m : Mem) : wpM E 53 16 rd c_slices_Values_SSint_Sint_1_3 K t m = wpM E 53 16 rd (.seq (.ops [⟨(some 9), .indexAddr 23 (.tmp 5) (.tmp 7), none⟩,
    ⟨(some 10), .load 22 (.tmp 9), none⟩,
    ⟨(some 4), .assign (.tmp 10), none⟩]) c_slices_Values_SSint_Sint_1_2) K t m := rfl

def c_slices_Values_SSint_Sint_1_4 : MC := (.block 1 c_slices_Values_SSint_Sint_1_3)
@[go_sem] theorem c_slices_Values_SSint_Sint_1_4_at (rd : Option Nat) (K : Post3) (t : Fr) (m : Mem) : wpM E 53 16 rd c_slices_Values_SSint_Sint_1_4 K t m = wpM E 53 16 rd (.block 1 c_slices_Values_SSint_Sint_1_3) K t m := rfl

def c_slices_Values_SSint_Sint_1_5 : MC := (.seq c_slices_Values_SSint_Sint_1_4 (.ops [⟨(some 15), .binOp .add 3 (.tmp 7) (.const (.int .i64 1)) 3, none⟩,
    ⟨(some 7), .move (.tmp 15), none⟩]))
@[go_sem] theorem c_slices_Values_SSint_Sint_1_5_at (rd : Option Nat) (K : Post3) (t : Fr) (m : Mem) : wpM E 53 16 rd c_slices_Values_SSint_Sint_1_5 K t m = wpM E 53 16 rd (.seq c_slices_Values_SSint_Sint_1_4 (.ops [⟨(some 15), .binOp .add 3 (.tmp 7) (.const (.int .i64 1)) 3, none⟩,
    ⟨(some 7), .move (.tmp 15), none⟩])) K t m := rfl

def c_slices_Values_SSint_Sint_1_6 : MC := (.seq c_slices_Values_SSint_Sint_1_0 c_slices_Values_SSint_Sint_1_5)
@[go_sem] theorem c_slices_Values_SSint_Sint_1_6_at (rd : Option Nat) (K : Post3) (t : Fr) (m : Mem) : wpM E 53 16 rd c_slices_Values_SSint_Sint_1_6 K t m = wpM E 53 16 rd (.seq c_slices_Values_SSint_Sint_1_0 c_slices_Values_SSint_Sint_1_5) K t m := rfl

def c_slices_Values_SSint_Sint_1_7 : MC := (.seq (.ops [⟨(some 8), .binOp .lss 3 (.tmp 7) (.tmp 6) 3, none⟩]) c_slices_Values_SSint_Sint_1_6)
@[go_sem] theorem c_slices_Values_SSint_Sint_1_7_at (rd : Option Nat) (K : Post3) (t : Fr) (m : Mem) : wpM E 53 16 rd c_slices_Values_SSint_Sint_1_7 K t m = wpM E 53 16 rd (.seq (.ops [⟨(some 8), .binOp .lss 3 (.tmp 7) (.tmp 6) 3, none⟩]) c_slices_Values_SSint_Sint_1_6) K t m := rfl

def c_slices_Values_SSint_Sint_1_8 : MC := (.loop c_slices_Values_SSint_Sint_1_7)
theorem c_slices_Values_SSint_Sint_1_8_at (rd : Option Nat) (K : Post3) (t : Fr) (m : Mem) : wpM E 53 16 rd c_slices_Values_SSint_Sint_1_8 K t m = wpM E 53 16 rd (.loop c_slices_Values_SSint_Sint_1_7) K t m := rfl

def c_slices_Values_SSint_Sint_1_9 : MC := (.block 0 c_slices_Values_SSint_Sint_1_8)
theorem c_slices_Values_SSint_Sint_1_9_at (rd : Option Nat) (K : Post3) (t : Fr) (m : Mem) : wpM E 53 16 rd c_slices_Values_SSint_Sint_1_9 K t m = wpM E 53 16 rd (.block 0 c_slices_Values_SSint_Sint_1_8) K t m := rfl

def c_slices_Values_SSint_Sint_1_10 : MC := (.seq (.ops [⟨(some 5), .load 23 (.tmp 1), none⟩,
    ⟨(some 6), .call ⟨.builtin .len, #[(.tmp 5)], #[23]⟩, none⟩,
    ⟨(some 7), .move (.const (.int .i64 0)), none⟩]) c_slices_Values_SSint_Sint_1_9)
@[go_sem] theorem c_slices_Values_SSint_Sint_1_10_at (rd : Option Nat) (K : Post3) (t : Fr) (m : Mem) : wpM E 53 16 rd c_slices_Values_SSint_Sint_1_10 K t m = wpM E 53 16 rd (.seq (.ops [⟨(some 5), .load 23 (.tmp 1), none⟩,
    ⟨(some 6), .call ⟨.builtin .len, #[(.tmp 5)], #[23]⟩, none⟩,
    ⟨(some 7), .move (.const (.int .i64 0)), none⟩]) c_slices_Values_SSint_Sint_1_9) K t m := rfl

@[go_sem] theorem some53 : (E.fn 53).isSome = true := by kernel_rfl
set_option maxRecDepth 100000 in
theorem fn_slices_Values_SSint_Sint_1 : FnIs E 53 16 [] c_slices_Values_SSint_Sint_1_10 := ⟨by kernel_rfl, by kernel_rfl⟩

/-! sheaf/flow.Join[[]int,[]int] -/
abbrev F_flow_Join_Sint_Sint : FuncId := 61
def c_flow_Join_Sint_Sint_0 : MC := (.seq (.ops [⟨(some 7), .makeFunc (.func 69) #[] #[(.tmp 3), (.tmp 5), (.tmp 4)], none⟩,
    ⟨(some 6), .assign (.tmp 7), none⟩]) .ret)
@[go_sem] theorem c_flow_Join_Sint_Sint_0_at (rd : Option Nat) (K : Post3) (t : Fr) (m : Mem) : wpM E 61 8 rd c_flow_Join_Sint_Sint_0 K t m = wpM E 61 8 rd (.seq (.ops [⟨(some 7), .makeFunc (.func 69) #[] #[(.tmp 3), (.tmp 5), (.tmp 4)], none⟩,
    ⟨(some 6), .assign (.tmp 7), none⟩]) .ret) K t m := rfl

def c_flow_Join_Sint_Sint_1 : MC := (.seq (.ops [⟨(some 3), .box 30 (.tmp 0), none⟩,
    ⟨(some 4), .box 33 (.tmp 1), none⟩,
    ⟨(some 5), .box 86 (.tmp 2), none⟩,
    ⟨(some 6), .assign (.const .nilFunc), none⟩]) c_flow_Join_Sint_Sint_0)
@[go_sem] theorem c_flow_Join_Sint_Sint_1_at (rd : Option Nat) (K : Post3) (t : Fr) (m : Mem) : wpM E 61 8 rd c_flow_Join_Sint_Sint_1 K t m = wpM E 61 8 rd (.seq (.ops [⟨(some 3), .box 30 (.tmp 0), none⟩,
    ⟨(some 4), .box 33 (.tmp 1), none⟩,
    ⟨(some 5), .box 86 (.tmp 2), none⟩,
    ⟨(some 6), .assign (.const .nilFunc), none⟩]) c_flow_Join_Sint_Sint_0) K t m := rfl

@[go_sem] theorem some61 : (E.fn 61).isSome = true := by kernel_rfl
set_option maxRecDepth 100000 in
theorem fn_flow_Join_Sint_Sint : FnIs E 61 8 [.tmp 6] c_flow_Join_Sint_Sint_1 := ⟨by kernel_rfl, by kernel_rfl⟩

/-! sheaf/flow.Join[[]int,[]int]$1 -/
abbrev F_flow_Join_Sint_Sint_1 : FuncId := 69
def c_flow_Join_Sint_Sint_1_0 : MC := (.cond (.tmp 24) .skip (.exit 2))
@[go_sem] theorem c_flow_Join_Sint_Sint_1_0_at (rd : Option Nat) (K : Post3) (t : Fr) (m : Mem) : wpM E 69 44 rd c_flow_Join_Sint_Sint_1_0 K t m = wpM E 69 44 rd (.cond (.tmp 24) .skip (.exit 2)) K t m := rfl

def c_flow_Join_Sint_Sint_1_1 : MC := (.seq (.ops [⟨(some 13), .load 4 (.tmp 6), none⟩,
    ⟨(some 14), .unOp .not 4 (.tmp 13), none⟩,
    ⟨(some 15), .move (.tmp 14), none⟩,
    ⟨(some 16), .load 4 (.tmp 7), (some (some 15, false))⟩,
    ⟨(some 17), .move (.tmp 16), (some (some 15, false))⟩,
    ⟨(some 18), .load 86 (.tmp 2), (some (some 17, true))⟩,
    ⟨(some 19), .move (.tmp 8), (some (some 17, true))⟩,
    ⟨(some 20), .load 22 (.tmp 5), (some (some 17, true))⟩,
    ⟨(some 21), .call ⟨.value (.tmp 18), #[(.tmp 19), (.tmp 20)], #[22, 22]⟩, (some (some 17, true))⟩,
    ⟨(some 22), .binOp .gtr 3 (.tmp 21) (.const (.int .i64 0)) 3, (some (some 17, true))⟩,
    ⟨(some 23), .pick (.tmp 17) (.tmp 22) (.const (.bool false)), (some (some 15, false))⟩,
    ⟨(some 24), .pick (.tmp 15) (.const (.bool true)) (.tmp 23), none⟩]) c_flow_Join_Sint_Sint_1_0)
@[go_sem] theorem c_flow_Join_Sint_Sint_1_1_at (rd : Option Nat) (K : Post3) (t : Fr) (m : Mem) : wpM E 69 44 rd c_flow_Join_Sint_Sint_1_1 K t m = wpM E 69 44 rd (.seq (.ops [⟨(some 13), .load 4 (.tmp 6), none⟩,
    ⟨(some 14), .unOp .not 4 (.tmp 13), none⟩,
    ⟨(some 15), .move (.tmp 14), none⟩,
    ⟨(some 16), .load 4 (.tmp 7), (some (some 15, false))⟩,
    ⟨(some 17), .move (.tmp 16), (some (some 15, false))⟩,
    ⟨(some 18), .load 86 (.tmp 2), (some (some 17, true))⟩,
    ⟨(some 19), .move (.tmp 8), (some (some 17, true))⟩,
    ⟨(some 20), .load 22 (.tmp 5), (some (some 17, true))⟩,
    ⟨(some 21), .call ⟨.value (.tmp 18), #[(.tmp 19), (.tmp 20)], #[22, 22]⟩, (some (some 17, true))⟩,
    ⟨(some 22), .binOp .gtr 3 (.tmp 21) (.const (.int .i64 0)) 3, (some (some 17, true))⟩,
    ⟨(some 23), .pick (.tmp 17) (.tmp 22) (.const (.bool false)), (some (some 15, false))⟩,
    ⟨(some 24), .pick (.tmp 15) (.const (.bool true)) (.tmp 23), none⟩]) c_flow_Join_Sint_Sint_1_0) K t m := rfl

def c_flow_Join_Sint_Sint_1_2 : MC := (.seq (.ops [⟨(some 26), .load 33 (.tmp 3), none⟩,
    ⟨(some 27), .call ⟨.value (.tmp 26), #[], #[]⟩, none⟩,
    ⟨(some 25), .move (.tmp 27), none⟩,
    ⟨(some 28), .extract (.tmp 25) 0, none⟩,
    ⟨(some 29), .extract (.tmp 25) 1, none⟩,
    ⟨none, .store 22 (.tmp 5) (.tmp 28), none⟩,
    ⟨none, .store 4 (.tmp 7) (.tmp 29), none⟩]) (.ops [⟨none, .store 4 (.tmp 6) (.const (.bool true)), none⟩]))
@[go_sem] theorem c_flow_Join_Sint_Sint_1_2_at (rd : Option Nat) (K : Post3) (t : Fr) (m : Mem) : wpM E 69 44 rd c_flow_Join_Sint_Sint_1_2 K t m = wpM E 69 44 rd (.seq (.ops [⟨(some 26), .load 33 (.tmp 3), none⟩,
    ⟨(some 27), .call ⟨.value (.tmp 26), #[], #[]⟩, none⟩,
    ⟨(some 25), .move (.tmp 27), none⟩,
    ⟨(some 28), .extract (.tmp 25) 0, none⟩,
    ⟨(some 29), .extract (.tmp 25) 1, none⟩,
    ⟨none, .store 22 (.tmp 5) (.tmp 28), none⟩,
    ⟨none, .store 4 (.tmp 7) (.tmp 29), none⟩]) (.ops [⟨none, .store 4 (.tmp 6) (.const (.bool true)), none⟩])) K t m := rfl

def c_flow_Join_Sint_Sint_1_3 : MC := (.block 3 c_flow_Join_Sint_Sint_1_2)
@[go_sem] theorem c_flow_Join_Sint_Sint_1_3_at (rd : Option Nat) (K : Post3) (t : Fr) (m : Mem) : wpM E 69 44 rd c_flow_Join_Sint_Sint_1_3 K t m = wpM E 69 44 rd (.block 3 c_flow_Join_Sint_Sint_1_2) K t m := rfl

def c_flow_Join_Sint_Sint_1_4 : MC := (.seq c_flow_Join_Sint_Sint_1_1 c_flow_Join_Sint_Sint_1_3)
@[go_sem] theorem c_flow_Join_Sint_Sint_1_4_at (rd : Option Nat) (K : Post3) (t : Fr) (m : Mem) : wpM E 69 44 rd c_flow_Join_Sint_Sint_1_4 K t m = wpM E 69 44 rd (.seq c_flow_Join_Sint_Sint_1_1 c_flow_Join_Sint_Sint_1_3) K t m := rfl

def c_flow_Join_Sint_Sint_1_5 : MC := (.loop c_flow_Join_Sint_Sint_1_4)
theorem c_flow_Join_Sint_Sint_1_5_at (rd : Option Nat) (K : Post3) (t : Fr) (m : Mem) : wpM E 69 44 rd c_flow_Join_Sint_Sint_1_5 K t m = wpM E 69 44 rd (.loop c_flow_Join_Sint_Sint_1_4) K t m := rfl

def c_flow_Join_Sint_Sint_1_6 : MC := (.block 2 c_flow_Join_Sint_Sint_1_5)
theorem c_flow_Join_Sint_Sint_1_6_at (rd : Option Nat) (K : Post3) (t : Fr) (m : Mem) : wpM E 69 44 rd c_flow_Join_Sint_Sint_1_6 K t m = wpM E 69 44 rd (.block 2 c_flow_Join_Sint_Sint_1_5) K t m := rfl

def c_flow_Join_Sint_Sint_1_7 : MC := (.seq (.ops [⟨(some 38), .load 22 (.tmp 5), none⟩,
    ⟨(some 10), .alloc 22, none⟩,
    ⟨none, .store 22 (.tmp 10) (.tmp 38), none⟩]) (.ops [⟨(some 9), .assign (.tmp 10), none⟩]))
@[go_sem] theorem c_flow_Join_Sint_Sint_1_7_at (rd : Option Nat) (K : Post3) (t : Fr) (m : Mem) : wpM E 69 44 rd c_flow_Join_Sint_Sint_1_7 K t m = wpM E 69 44 rd (.seq (.ops [⟨(some 38), .load 22 (.tmp 5), none⟩,
    ⟨(some 10), .alloc 22, none⟩,
    ⟨none, .store 22 (.tmp 10) (.tmp 38), none⟩]) (.ops [⟨(some 9), .assign (.tmp 10), none⟩])) K t m := rfl

def c_flow_Join_Sint_Sint_1_8 : MC := (.cond (.tmp 37) c_flow_Join_Sint_Sint_1_7 .skip)
@[go_sem] theorem c_flow_Join_Sint_Sint_1_8_at (rd : Option Nat) (K : Post3) (t : Fr) (m : Mem) : wpM E 69 44 rd c_flow_Join_Sint_Sint_1_8 K t m = wpM E 69 44 rd (.cond (.tmp 37) c_flow_Join_Sint_Sint_1_7 .skip) K t m := rfl

def c_flow_Join_Sint_Sint_1_9 : MC := (.seq (.ops [⟨(some 30), .load 4 (.tmp 7), none⟩,
    ⟨(some 31), .move (.tmp 30), none⟩,
    ⟨(some 32), .load 86 (.tmp 2), (some (some 31, true))⟩,
    ⟨(some 33), .move (.tmp 8), (some (some 31, true))⟩,
    ⟨(some 34), .load 22 (.tmp 5), (some (some 31, true))⟩,
    ⟨(some 35), .call ⟨.value (.tmp 32), #[(.tmp 33), (.tmp 34)], #[22, 22]⟩, (some (some 31, true))⟩,
    ⟨(some 36), .binOp .eql 3 (.tmp 35) (.const (.int .i64 0)) 3, (some (some 31, true))⟩,
    ⟨(some 37), .pick (.tmp 31) (.tmp 36) (.const (.bool false)), none⟩]) c_flow_Join_Sint_Sint_1_8)
@[go_sem] theorem c_flow_Join_Sint_Sint_1_9_at (rd : Option Nat) (K : Post3) (t : Fr) (m : Mem) : wpM E 69 44 rd c_flow_Join_Sint_Sint_1_9 K t m = wpM E 69 44 rd (.seq (.ops [⟨(some 30), .load 4 (.tmp 7), none⟩,
    ⟨(some 31), .move (.tmp 30), none⟩,
    ⟨(some 32), .load 86 (.tmp 2), (some (some 31, true))⟩,
    ⟨(some 33), .move (.tmp 8), (some (some 31, true))⟩,
    ⟨(some 34), .load 22 (.tmp 5), (some (some 31, true))⟩,
    ⟨(some 35), .call ⟨.value (.tmp 32), #[(.tmp 33), (.tmp 34)], #[22, 22]⟩, (some (some 31, true))⟩,
    ⟨(some 36), .binOp .eql 3 (.tmp 35) (.const (.int .i64 0)) 3, (some (some 31, true))⟩,
    ⟨(some 37), .pick (.tmp 31) (.tmp 36) (.const (.bool false)), none⟩]) c_flow_Join_Sint_Sint_1_8) K t m := rfl

def c_flow_Join_Sint_Sint_1_10 : MC := (.cond (.tmp 43) .ret .skip)
@[go_sem] theorem c_flow_Join_Sint_Sint_1_10_at (rd : Option Nat) (K : Post3) (t : Fr) (m : Mem) : wpM E 69 44 rd c_flow_Join_Sint_Sint_1_10 K t m = wpM E 69 44 rd (.cond (.tmp 43) .ret .skip) K t m := rfl

def c_flow_Join_Sint_Sint_1_11 : MC := (.seq (.ops [⟨(some 39), .load 97 (.tmp 4), none⟩,
    ⟨(some 40), .move (.tmp 8), none⟩,
    ⟨(some 41), .move (.tmp 9), none⟩,
    ⟨(some 42), .call ⟨.value (.tmp 39), #[(.tmp 40), (.tmp 41)], #[22, 90]⟩, none⟩,
    ⟨(some 43), .unOp .not 4 (.tmp 42), none⟩]) c_flow_Join_Sint_Sint_1_10)
@[go_sem] theorem c_flow_Join_Sint_Sint_1_11_at (rd : Option Nat) (K : Post3) (t : Fr) (m : Mem) : wpM E 69 44 rd c_flow_Join_Sint_Sint_1_11 K t m = wpM E 69 44 rd (.seq (.ops [⟨(some 39), .load 97 (.tmp 4), none⟩,
    ⟨(some 40), .move (.tmp 8), none⟩,
    ⟨(some 41), .move (.tmp 9), none⟩,
    ⟨(some 42), .call ⟨.value (.tmp 39), #[(.tmp 40), (.tmp 41)], #[22, 90]⟩, none⟩,
    ⟨(some 43), .unOp .not 4 (.tmp 42), none⟩]) c_flow_Join_Sint_Sint_1_10) K t m := rfl

def c_flow_Join_Sint_Sint_1_12 : MC := (.seq c_flow_Join_Sint_Sint_1_9 c_flow_Join_Sint_Sint_1_11)
@[go_sem] theorem c_flow_Join_Sint_Sint_1_12_at (rd : Option Nat) (K : Post3) (t : Fr) (m : Mem) : wpM E 69 44 rd c_flow_Join_Sint_Sint_1_12 K t m = wpM E 69 44 rd (.seq c_flow_Join_Sint_Sint_1_9 c_flow_Join_Sint_Sint_1_11) K t m := rfl

def c_flow_Join_Sint_Sint_1_13 : MC := (.seq (.ops [⟨(some 9), .assign (.const (.pointer none)), none⟩]) c_flow_Join_Sint_Sint_1_12)
@[go_sem] theorem c_flow_Join_Sint_Sint_1_13_at (rd : Option Nat) (K : Post3) (t : Fr) (m : Mem) : wpM E 69 44 rd c_flow_Join_Sint_Sint_1_13 K t m = wpM E 69 44 rd (.seq (.ops [⟨(some 9), .assign (.const (.pointer none)), none⟩]) c_flow_Join_Sint_Sint_1_12) K t m := rfl

def c_flow_Join_Sint_Sint_1_14 : MC := (.seq c_flow_Join_Sint_Sint_1_6 c_flow_Join_Sint_Sint_1_13)
@[go_sem] theorem c_flow_Join_Sint_Sint_1_14_at (rd : Option Nat) (K : Post3) (t : Fr) (m : Mem) : wpM E 69 44 rd c_flow_Join_Sint_Sint_1_14 K t m = wpM E 69 44 rd (.seq c_flow_Join_Sint_Sint_1_6 c_flow_Join_Sint_Sint_1_13) K t m := rfl

def c_flow_Join_Sint_Sint_1_15 : MC := (.block 1 c_flow_Join_Sint_Sint_1_14)
@[go_sem] theorem c_flow_Join_Sint_Sint_1_15_at (rd : Option Nat) (K : Post3) (t : Fr) (m : Mem) : wpM E 69 44 rd c_flow_Join_Sint_Sint_1_15 K t m = wpM E 69 44 rd (.block 1 c_flow_Join_Sint_Sint_1_14) K t m := rfl

theorem asg_flow_Join_Sint_Sint_1_0 : compile E 69 44 (asgAt E 69 0) = some (.ops [⟨(some 8), .assign (.tmp 12), none⟩]) := by kernel_rfl

theorem body_flow_Join_Sint_Sint_1_0 : compile E 69 44 (bodyAt E 69 0) = some c_flow_Join_Sint_Sint_1_15 := by kernel_rfl

def c_flow_Join_Sint_Sint_1_16 : MC := (.range (.tmp 11) #[12] (asgAt E 69 0) (bodyAt E 69 0))
theorem c_flow_Join_Sint_Sint_1_16_at (rd : Option Nat) (K : Post3) (t : Fr) (m : Mem) : wpM E 69 44 rd c_flow_Join_Sint_Sint_1_16 K t m = wpM E 69 44 rd (.range (.tmp 11) #[12] (asgAt E 69 0) (bodyAt E 69 0)) K t m := rfl

def c_flow_Join_Sint_Sint_1_17 : MC := (.block 0 c_flow_Join_Sint_Sint_1_16)
@[go_sem] theorem c_flow_Join_Sint_Sint_1_17_at (rd : Option Nat) (K : Post3) (t : Fr) (m : Mem) : wpM E 69 44 rd c_flow_Join_Sint_Sint_1_17 K t m = wpM E 69 44 rd (.block 0 c_flow_Join_Sint_Sint_1_16) K t m := rfl

def c_flow_Join_Sint_Sint_1_18 : MC := (.seq (.ops [⟨(some 11), .load 30 (.tmp 1), none⟩]) c_flow_Join_Sint_Sint_1_17)
@[go_sem] theorem c_flow_Join_Sint_Sint_1_18_at (rd : Option Nat) (K : Post3) (t : Fr) (m : Mem) : wpM E 69 44 rd c_flow_Join_Sint_Sint_1_18 K t m = wpM E 69 44 rd (.seq (.ops [⟨(some 11), .load 30 (.tmp 1), none⟩]) c_flow_Join_Sint_Sint_1_17) K t m := rfl

def c_flow_Join_Sint_Sint_1_19 : MC := (.seq (.ops [⟨(some 6), .alloc 4, none⟩,
    ⟨(some 7), .alloc 4, none⟩,
    ⟨none, .store 4 (.tmp 6) (.const (.bool false)), none⟩,
    ⟨none, .store 4 (.tmp 7) (.const (.bool false)), none⟩]) c_flow_Join_Sint_Sint_1_18)
@[go_sem] theorem c_flow_Join_Sint_Sint_1_19_at (rd : Option Nat) (K : Post3) (t : Fr) (m : Mem) : wpM E 69 44 rd c_flow_Join_Sint_Sint_1_19 K t m = wpM E 69 44 rd (.seq (.ops [⟨(some 6), .alloc 4, none⟩,
    ⟨(some 7), .alloc 4, none⟩,
    ⟨none, .store 4 (.tmp 6) (.const (.bool false)), none⟩,
    ⟨none, .store 4 (.tmp 7) (.const (.bool false)), none⟩]) c_flow_Join_Sint_Sint_1_18) K t m := rfl

def c_flow_Join_Sint_Sint_1_20 : MC := (.seq (.ops [⟨(some 5), .alloc 22, none⟩]) c_flow_Join_Sint_Sint_1_19)
@[go_sem] theorem c_flow_Join_Sint_Sint_1_20_at (rd : Option Nat) (K : Post3) (t : Fr) (m : Mem) : wpM E 69 44 rd c_flow_Join_Sint_Sint_1_20 K t m = wpM E 69 44 rd (.seq (.ops [⟨(some 5), .alloc 22, none⟩]) c_flow_Join_Sint_Sint_1_19) K t m := rfl

def c_flow_Join_Sint_Sint_1_21 : MC := (.seq (.ops [⟨(some 4), .box 97 (.tmp 0), none⟩]) c_flow_Join_Sint_Sint_1_20)
@[go_sem] theorem c_flow_Join_Sint_Sint_1_21_at (rd : Option Nat) (K : Post3) (t : Fr) (m : Mem) : wpM E 69 44 rd c_flow_Join_Sint_Sint_1_21 K t m = wpM E 69 44 rd (.seq (.ops [⟨(some 4), .box 97 (.tmp 0), none⟩]) c_flow_Join_Sint_Sint_1_20) K t m := rfl

@[go_sem] theorem some69 : (E.fn 69).isSome = true := by kernel_rfl
set_option maxRecDepth 100000 in
theorem fn_flow_Join_Sint_Sint_1 : FnIs E 69 44 [] c_flow_Join_Sint_Sint_1_21 := ⟨by kernel_rfl, by kernel_rfl⟩

end
end Go.Proofs.Ytpabllcacdopdaa.W
