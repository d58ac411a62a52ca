/-
  Compact code, printed by a program of mine (wip/dev/AbsPrint.lean).
-/
import Derived.Test.YthlcbacmbcmgfaaTypes
set_option linter.unusedVariables false
namespace Go.Proofs.Ythlcbacmbcmgfaa.W
open Go.Abs
noncomputable section

/-! sheaf/runs.Cut[int] -/
abbrev F_runs_Cut_int : FuncId := 32
def c_runs_Cut_int_0 : MC := (.seq (.ops [⟨(some 11), .makeFunc (.func 47) #[] #[(.tmp 6), (.tmp 7), (.tmp 4), (.tmp 5)], none⟩,
    ⟨(some 8), .assign (.tmp 11), none⟩]) .ret)
@[go_sem] theorem c_runs_Cut_int_0_at (rd : Option Nat) (K : Post3) (t : Fr) (m : Mem) : wpM E 32 12 rd c_runs_Cut_int_0 K t m = wpM E 32 12 rd (.seq (.ops [⟨(some 11), .makeFunc (.func 47) #[] #[(.tmp 6), (.tmp 7), (.tmp 4), (.tmp 5)], none⟩,
    ⟨(some 8), .assign (.tmp 11), none⟩]) .ret) K t m := rfl

def c_runs_Cut_int_1 : MC := (.seq (.ops [⟨(some 9), .load 3 (.tmp 5), none⟩,
    ⟨(some 10), .call ⟨.builtin .max, #[(.tmp 9), (.const (.int .i64 1))], #[3, 3]⟩, none⟩,
    ⟨none, .store 3 (.tmp 5) (.tmp 10), none⟩]) c_runs_Cut_int_0)
@[go_sem] theorem c_runs_Cut_int_1_at (rd : Option Nat) (K : Post3) (t : Fr) (m : Mem) : wpM E 32 12 rd c_runs_Cut_int_1 K t m = wpM E 32 12 rd (.seq (.ops [⟨(some 9), .load 3 (.tmp 5), none⟩,
    ⟨(some 10), .call ⟨.builtin .max, #[(.tmp 9), (.const (.int .i64 1))], #[3, 3]⟩, none⟩,
    ⟨none, .store 3 (.tmp 5) (.tmp 10), none⟩]) c_runs_Cut_int_0) K t m := rfl

def c_runs_Cut_int_2 : MC := (.seq (.ops [⟨(some 4), .box 92 (.tmp 0), none⟩,
    ⟨(some 5), .box 3 (.tmp 1), none⟩,
    ⟨(some 6), .box 24 (.tmp 2), none⟩,
    ⟨(some 7), .box 57 (.tmp 3), none⟩,
    ⟨(some 8), .assign (.const .nilFunc), none⟩]) c_runs_Cut_int_1)
@[go_sem] theorem c_runs_Cut_int_2_at (rd : Option Nat) (K : Post3) (t : Fr) (m : Mem) : wpM E 32 12 rd c_runs_Cut_int_2 K t m = wpM E 32 12 rd (.seq (.ops [⟨(some 4), .box 92 (.tmp 0), none⟩,
    ⟨(some 5), .box 3 (.tmp 1), none⟩,
    ⟨(some 6), .box 24 (.tmp 2), none⟩,
    ⟨(some 7), .box 57 (.tmp 3), none⟩,
    ⟨(some 8), .assign (.const .nilFunc), none⟩]) c_runs_Cut_int_1) K t m := rfl

@[go_sem] theorem some32 : (E.fn 32).isSome = true := by kernel_rfl
set_option maxRecDepth 100000 in
theorem fn_runs_Cut_int : FnIs E 32 12 [.tmp 8] c_runs_Cut_int_2 := ⟨by kernel_rfl, by kernel_rfl⟩

/-! sheaf/flow.List[sheaf/runs.Item[int]] -/
abbrev F_flow_List_runs_Item_int : FuncId := 35
def c_flow_List_runs_Item_int_0 : MC := (.seq (.ops [⟨(some 3), .move (.tmp 0), none⟩,
    ⟨(some 4), .call ⟨.value (.func 55), #[(.tmp 3)], #[67]⟩, none⟩,
    ⟨(some 2), .assign (.tmp 4), none⟩]) .ret)
@[go_sem] theorem c_flow_List_runs_Item_int_0_at (rd : Option Nat) (K : Post3) (t : Fr) (m : Mem) : wpM E 35 5 rd c_flow_List_runs_Item_int_0 K t m = wpM E 35 5 rd (.seq (.ops [⟨(some 3), .move (.tmp 0), none⟩,
    ⟨(some 4), .call ⟨.value (.func 55), #[(.tmp 3)], #[67]⟩, none⟩,
    ⟨(some 2), .assign (.tmp 4), none⟩]) .ret) K t m := rfl

def c_flow_List_runs_Item_int_1 : MC := (.seq (.ops [⟨(some 2), .assign (.const (.slice none 0 0)), none⟩]) c_flow_List_runs_Item_int_0)
@[go_sem] theorem c_flow_List_runs_Item_int_1_at (rd : Option Nat) (K : Post3) (t : Fr) (m : Mem) : wpM E 35 5 rd c_flow_List_runs_Item_int_1 K t m = wpM E 35 5 rd (.seq (.ops [⟨(some 2), .assign (.const (.slice none 0 0)), none⟩]) c_flow_List_runs_Item_int_0) K t m := rfl

@[go_sem] theorem some35 : (E.fn 35).isSome = true := by kernel_rfl
set_option maxRecDepth 100000 in
theorem fn_flow_List_runs_Item_int : FnIs E 35 5 [.tmp 2] c_flow_List_runs_Item_int_1 := ⟨by kernel_rfl, by kernel_rfl⟩

/-! sheaf/flow.List[sheaf/runs.Item[string]] -/
abbrev F_flow_List_runs_Item_string : FuncId := 36
def c_flow_List_runs_Item_string_0 : MC := (.seq (.ops [⟨(some 3), .move (.tmp 0), none⟩,
    ⟨(some 4), .call ⟨.value (.func 56), #[(.tmp 3)], #[79]⟩, none⟩,
    ⟨(some 2), .assign (.tmp 4), none⟩]) .ret)
@[go_sem] theorem c_flow_List_runs_Item_string_0_at (rd : Option Nat) (K : Post3) (t : Fr) (m : Mem) : wpM E 36 5 rd c_flow_List_runs_Item_string_0 K t m = wpM E 36 5 rd (.seq (.ops [⟨(some 3), .move (.tmp 0), none⟩,
    ⟨(some 4), .call ⟨.value (.func 56), #[(.tmp 3)], #[79]⟩, none⟩,
    ⟨(some 2), .assign (.tmp 4), none⟩]) .ret) K t m := rfl

def c_flow_List_runs_Item_string_1 : MC := (.seq (.ops [⟨(some 2), .assign (.const (.slice none 0 0)), none⟩]) c_flow_List_runs_Item_string_0)
@[go_sem] theorem c_flow_List_runs_Item_string_1_at (rd : Option Nat) (K : Post3) (t : Fr) (m : Mem) : wpM E 36 5 rd c_flow_List_runs_Item_string_1 K t m = wpM E 36 5 rd (.seq (.ops [⟨(some 2), .assign (.const (.slice none 0 0)), none⟩]) c_flow_List_runs_Item_string_0) K t m := rfl

@[go_sem] theorem some36 : (E.fn 36).isSome = true := by kernel_rfl
set_option maxRecDepth 100000 in
theorem fn_flow_List_runs_Item_string : FnIs E 36 5 [.tmp 2] c_flow_List_runs_Item_string_1 := ⟨by kernel_rfl, by kernel_rfl⟩

/-! sheaf/runs.Cut[string] -/
abbrev F_runs_Cut_string : FuncId := 37
def c_runs_Cut_string_0 : MC := (.seq (.ops [⟨(some 11), .makeFunc (.func 57) #[] #[(.tmp 6), (.tmp 7), (.tmp 4), (.tmp 5)], none⟩,
    ⟨(some 8), .assign (.tmp 11), none⟩]) .ret)
@[go_sem] theorem c_runs_Cut_string_0_at (rd : Option Nat) (K : Post3) (t : Fr) (m : Mem) : wpM E 37 12 rd c_runs_Cut_string_0 K t m = wpM E 37 12 rd (.seq (.ops [⟨(some 11), .makeFunc (.func 57) #[] #[(.tmp 6), (.tmp 7), (.tmp 4), (.tmp 5)], none⟩,
    ⟨(some 8), .assign (.tmp 11), none⟩]) .ret) K t m := rfl

def c_runs_Cut_string_1 : MC := (.seq (.ops [⟨(some 9), .load 3 (.tmp 5), none⟩,
    ⟨(some 10), .call ⟨.builtin .max, #[(.tmp 9), (.const (.int .i64 1))], #[3, 3]⟩, none⟩,
    ⟨none, .store 3 (.tmp 5) (.tmp 10), none⟩]) c_runs_Cut_string_0)
@[go_sem] theorem c_runs_Cut_string_1_at (rd : Option Nat) (K : Post3) (t : Fr) (m : Mem) : wpM E 37 12 rd c_runs_Cut_string_1 K t m = wpM E 37 12 rd (.seq (.ops [⟨(some 9), .load 3 (.tmp 5), none⟩,
    ⟨(some 10), .call ⟨.builtin .max, #[(.tmp 9), (.const (.int .i64 1))], #[3, 3]⟩, none⟩,
    ⟨none, .store 3 (.tmp 5) (.tmp 10), none⟩]) c_runs_Cut_string_0) K t m := rfl

def c_runs_Cut_string_2 : MC := (.seq (.ops [⟨(some 4), .box 82 (.tmp 0), none⟩,
    ⟨(some 5), .box 3 (.tmp 1), none⟩,
    ⟨(some 6), .box 49 (.tmp 2), none⟩,
    ⟨(some 7), .box 57 (.tmp 3), none⟩,
    ⟨(some 8), .assign (.const .nilFunc), none⟩]) c_runs_Cut_string_1)
@[go_sem] theorem c_runs_Cut_string_2_at (rd : Option Nat) (K : Post3) (t : Fr) (m : Mem) : wpM E 37 12 rd c_runs_Cut_string_2 K t m = wpM E 37 12 rd (.seq (.ops [⟨(some 4), .box 82 (.tmp 0), none⟩,
    ⟨(some 5), .box 3 (.tmp 1), none⟩,
    ⟨(some 6), .box 49 (.tmp 2), none⟩,
    ⟨(some 7), .box 57 (.tmp 3), none⟩,
    ⟨(some 8), .assign (.const .nilFunc), none⟩]) c_runs_Cut_string_1) K t m := rfl

@[go_sem] theorem some37 : (E.fn 37).isSome = true := by kernel_rfl
set_option maxRecDepth 100000 in
theorem fn_runs_Cut_string : FnIs E 37 12 [.tmp 8] c_runs_Cut_string_2 := ⟨by kernel_rfl, by kernel_rfl⟩

/-! sheaf/flow.From[string] -/
abbrev F_flow_From_string : FuncId := 38
def c_flow_From_string_0 : MC := (.seq (.ops [⟨(some 3), .move (.tmp 0), none⟩,
    ⟨(some 4), .call ⟨.value (.func 65), #[(.tmp 3)], #[46]⟩, none⟩,
    ⟨(some 2), .assign (.tmp 4), none⟩]) .ret)
@[go_sem] theorem c_flow_From_string_0_at (rd : Option Nat) (K : Post3) (t : Fr) (m : Mem) : wpM E 38 5 rd c_flow_From_string_0 K t m = wpM E 38 5 rd (.seq (.ops [⟨(some 3), .move (.tmp 0), none⟩,
    ⟨(some 4), .call ⟨.value (.func 65), #[(.tmp 3)], #[46]⟩, none⟩,
    ⟨(some 2), .assign (.tmp 4), none⟩]) .ret) K t m := rfl

def c_flow_From_string_1 : MC := (.seq (.ops [⟨(some 2), .assign (.const .nilFunc), none⟩]) c_flow_From_string_0)
@[go_sem] theorem c_flow_From_string_1_at (rd : Option Nat) (K : Post3) (t : Fr) (m : Mem) : wpM E 38 5 rd c_flow_From_string_1 K t m = wpM E 38 5 rd (.seq (.ops [⟨(some 2), .assign (.const .nilFunc), none⟩]) c_flow_From_string_0) K t m := rfl

@[go_sem] theorem some38 : (E.fn 38).isSome = true := by kernel_rfl
set_option maxRecDepth 100000 in
theorem fn_flow_From_string : FnIs E 38 5 [.tmp 2] c_flow_From_string_1 := ⟨by kernel_rfl, by kernel_rfl⟩

/-! (*sheaf/runs.Meter).Add -/
abbrev F_runs_Meter_Add : FuncId := 40
def c_runs_Meter_Add_0 : MC := (.seq (.ops [⟨(some 4), .move (.tmp 0), none⟩,
    ⟨(some 5), .nilCheck (.tmp 4), none⟩,
    ⟨(some 6), .fieldAddr 59 (.tmp 5) 0, none⟩,
    ⟨(some 7), .load 3 (.tmp 6), none⟩,
    ⟨(some 8), .move (.tmp 1), none⟩,
    ⟨(some 9), .binOp .add 3 (.tmp 7) (.tmp 8) 3, none⟩,
    ⟨(some 10), .nilCheck (.tmp 4), none⟩,
    ⟨(some 11), .fieldAddr 59 (.tmp 10) 0, none⟩,
    ⟨none, .store 3 (.tmp 11) (.tmp 9), none⟩]) (.ops [⟨(some 12), .move (.tmp 0), none⟩,
    ⟨(some 13), .move (.tmp 0), none⟩,
    ⟨(some 14), .nilCheck (.tmp 13), none⟩,
    ⟨(some 15), .fieldAddr 59 (.tmp 14) 1, none⟩,
    ⟨(some 16), .load 3 (.tmp 15), none⟩,
    ⟨(some 17), .move (.tmp 0), none⟩,
    ⟨(some 18), .nilCheck (.tmp 17), none⟩,
    ⟨(some 19), .fieldAddr 59 (.tmp 18) 0, none⟩,
    ⟨(some 20), .load 3 (.tmp 19), none⟩,
    ⟨(some 21), .call ⟨.builtin .max, #[(.tmp 16), (.tmp 20)], #[3, 3]⟩, none⟩,
    ⟨(some 22), .nilCheck (.tmp 12), none⟩,
    ⟨(some 23), .fieldAddr 59 (.tmp 22) 1, none⟩,
    ⟨none, .store 3 (.tmp 23) (.tmp 21), none⟩]))
@[go_sem] theorem c_runs_Meter_Add_0_at (rd : Option Nat) (K : Post3) (t : Fr) (m : Mem) : wpM E 40 24 rd c_runs_Meter_Add_0 K t m = wpM E 40 24 rd (.seq (.ops [⟨(some 4), .move (.tmp 0), none⟩,
    ⟨(some 5), .nilCheck (.tmp 4), none⟩,
    ⟨(some 6), .fieldAddr 59 (.tmp 5) 0, none⟩,
    ⟨(some 7), .load 3 (.tmp 6), none⟩,
    ⟨(some 8), .move (.tmp 1), none⟩,
    ⟨(some 9), .binOp .add 3 (.tmp 7) (.tmp 8) 3, none⟩,
    ⟨(some 10), .nilCheck (.tmp 4), none⟩,
    ⟨(some 11), .fieldAddr 59 (.tmp 10) 0, none⟩,
    ⟨none, .store 3 (.tmp 11) (.tmp 9), none⟩]) (.ops [⟨(some 12), .move (.tmp 0), none⟩,
    ⟨(some 13), .move (.tmp 0), none⟩,
    ⟨(some 14), .nilCheck (.tmp 13), none⟩,
    ⟨(some 15), .fieldAddr 59 (.tmp 14) 1, none⟩,
    ⟨(some 16), .load 3 (.tmp 15), none⟩,
    ⟨(some 17), .move (.tmp 0), none⟩,
    ⟨(some 18), .nilCheck (.tmp 17), none⟩,
    ⟨(some 19), .fieldAddr 59 (.tmp 18) 0, none⟩,
    ⟨(some 20), .load 3 (.tmp 19), none⟩,
    ⟨(some 21), .call ⟨.builtin .max, #[(.tmp 16), (.tmp 20)], #[3, 3]⟩, none⟩,
    ⟨(some 22), .nilCheck (.tmp 12), none⟩,
    ⟨(some 23), .fieldAddr 59 (.tmp 22) 1, none⟩,
    ⟨none, .store 3 (.tmp 23) (.tmp 21), none⟩])) K t m := rfl

@[go_sem] theorem some40 : (E.fn 40).isSome = true := by kernel_rfl
set_option maxRecDepth 100000 in
theorem fn_runs_Meter_Add : FnIs E 40 24 [] c_runs_Meter_Add_0 := ⟨by kernel_rfl, by kernel_rfl⟩

/-! sheaf/flow.From[int] -/
abbrev F_flow_From_int : FuncId := 46
def c_flow_From_int_0 : MC := (.seq (.ops [⟨(some 3), .move (.tmp 0), none⟩,
    ⟨(some 4), .call ⟨.value (.func 66), #[(.tmp 3)], #[25]⟩, none⟩,
    ⟨(some 2), .assign (.tmp 4), none⟩]) .ret)
@[go_sem] theorem c_flow_From_int_0_at (rd : Option Nat) (K : Post3) (t : Fr) (m : Mem) : wpM E 46 5 rd c_flow_From_int_0 K t m = wpM E 46 5 rd (.seq (.ops [⟨(some 3), .move (.tmp 0), none⟩,
    ⟨(some 4), .call ⟨.value (.func 66), #[(.tmp 3)], #[25]⟩, none⟩,
    ⟨(some 2), .assign (.tmp 4), none⟩]) .ret) K t m := rfl

def c_flow_From_int_1 : MC := (.seq (.ops [⟨(some 2), .assign (.const .nilFunc), none⟩]) c_flow_From_int_0)
@[go_sem] theorem c_flow_From_int_1_at (rd : Option Nat) (K : Post3) (t : Fr) (m : Mem) : wpM E 46 5 rd c_flow_From_int_1 K t m = wpM E 46 5 rd (.seq (.ops [⟨(some 2), .assign (.const .nilFunc), none⟩]) c_flow_From_int_0) K t m := rfl

@[go_sem] theorem some46 : (E.fn 46).isSome = true := by kernel_rfl
set_option maxRecDepth 100000 in
theorem fn_flow_From_int : FnIs E 46 5 [.tmp 2] c_flow_From_int_1 := ⟨by kernel_rfl, by kernel_rfl⟩

/-! sheaf/runs.Cut[int]$1 -/
abbrev F_runs_Cut_int_1 : FuncId := 47
def c_runs_Cut_int_1_0 : MC := (.seq (.ops [⟨(some 24), .load 99 (.tmp 7), none⟩,
    ⟨(some 25), .move (.tmp 9), none⟩,
    ⟨(some 26), .call ⟨.value (.tmp 24), #[(.const (.int .i64 0)), (.tmp 25)], #[3, 3]⟩, none⟩]) (.exit 1))
@[go_sem] theorem c_runs_Cut_int_1_0_at (rd : Option Nat) (K : Post3) (t : Fr) (m : Mem) : wpM E 47 68 rd c_runs_Cut_int_1_0 K t m = wpM E 47 68 rd (.seq (.ops [⟨(some 24), .load 99 (.tmp 7), none⟩,
    ⟨(some 25), .move (.tmp 9), none⟩,
    ⟨(some 26), .call ⟨.value (.tmp 24), #[(.const (.int .i64 0)), (.tmp 25)], #[3, 3]⟩, none⟩]) (.exit 1)) K t m := rfl

def c_runs_Cut_int_1_1 : MC := (.cond (.tmp 23) c_runs_Cut_int_1_0 .skip)
@[go_sem] theorem c_runs_Cut_int_1_1_at (rd : Option Nat) (K : Post3) (t : Fr) (m : Mem) : wpM E 47 68 rd c_runs_Cut_int_1_1 K t m = wpM E 47 68 rd (.cond (.tmp 23) c_runs_Cut_int_1_0 .skip) K t m := rfl

def c_runs_Cut_int_1_2 : MC := (.seq (.draw [(0, [], ⟨(some 20), .load 95 (.tmp 6), none⟩),
    (2, [], ⟨(some 22), .load 3 (.tmp 4), none⟩),
    (1, [2], ⟨(some 21), .call ⟨.value (.func 54), #[(.tmp 20)], #[95]⟩, none⟩),
    (3, [], ⟨(some 23), .binOp .lss 3 (.tmp 21) (.tmp 22) 3, none⟩)]) c_runs_Cut_int_1_1)
@[go_sem] theorem c_runs_Cut_int_1_2_at (rd : Option Nat) (K : Post3) (t : Fr) (m : Mem) : wpM E 47 68 rd c_runs_Cut_int_1_2 K t m = wpM E 47 68 rd (.seq (.draw [(0, [], ⟨(some 20), .load 95 (.tmp 6), none⟩),
    (2, [], ⟨(some 22), .load 3 (.tmp 4), none⟩),
    (1, [2], ⟨(some 21), .call ⟨.value (.func 54), #[(.tmp 20)], #[95]⟩, none⟩),
    (3, [], ⟨(some 23), .binOp .lss 3 (.tmp 21) (.tmp 22) 3, none⟩)]) c_runs_Cut_int_1_1) K t m := rfl

def c_runs_Cut_int_1_3 : MC := (.seq (.draw [(0, [], ⟨(some 34), .load 57 (.tmp 2), none⟩),
    (1, [], ⟨(some 35), .load 95 (.tmp 6), none⟩),
    (2, [0], ⟨(some 36), .call ⟨.value (.func 54), #[(.tmp 35)], #[95]⟩, none⟩),
    (3, [], ⟨(some 37), .unOp .neg 3 (.tmp 36), none⟩),
    (4, [], ⟨(some 38), .call ⟨.value (.func 40), #[(.tmp 34), (.tmp 37)], #[57, 3]⟩, none⟩)]) .ret)
@[go_sem] theorem c_runs_Cut_int_1_3_at (rd : Option Nat) (K : Post3) (t : Fr) (m : Mem) : wpM E 47 68 rd c_runs_Cut_int_1_3 K t m = wpM E 47 68 rd (.seq (.draw [(0, [], ⟨(some 34), .load 57 (.tmp 2), none⟩),
    (1, [], ⟨(some 35), .load 95 (.tmp 6), none⟩),
    (2, [0], ⟨(some 36), .call ⟨.value (.func 54), #[(.tmp 35)], #[95]⟩, none⟩),
    (3, [], ⟨(some 37), .unOp .neg 3 (.tmp 36), none⟩),
    (4, [], ⟨(some 38), .call ⟨.value (.func 40), #[(.tmp 34), (.tmp 37)], #[57, 3]⟩, none⟩)]) .ret) K t m := rfl

def c_runs_Cut_int_1_4 : MC := (.cond (.tmp 33) c_runs_Cut_int_1_3 .skip)
@[go_sem] theorem c_runs_Cut_int_1_4_at (rd : Option Nat) (K : Post3) (t : Fr) (m : Mem) : wpM E 47 68 rd c_runs_Cut_int_1_4 K t m = wpM E 47 68 rd (.cond (.tmp 33) c_runs_Cut_int_1_3 .skip) K t m := rfl

def c_runs_Cut_int_1_5 : MC := (.seq (.ops [⟨(some 32), .move (.tmp 11), none⟩,
    ⟨(some 33), .unOp .not 4 (.tmp 32), none⟩]) c_runs_Cut_int_1_4)
@[go_sem] theorem c_runs_Cut_int_1_5_at (rd : Option Nat) (K : Post3) (t : Fr) (m : Mem) : wpM E 47 68 rd c_runs_Cut_int_1_5 K t m = wpM E 47 68 rd (.seq (.ops [⟨(some 32), .move (.tmp 11), none⟩,
    ⟨(some 33), .unOp .not 4 (.tmp 32), none⟩]) c_runs_Cut_int_1_4) K t m := rfl

def c_runs_Cut_int_1_6 : MC := (.cond (.tmp 43) (.ops [⟨(some 44), .fieldAddr 64 (.tmp 10) 0, none⟩,
    ⟨(some 45), .load 3 (.tmp 44), none⟩,
    ⟨(some 46), .binOp .add 3 (.tmp 45) (.const (.int .i64 1)) 3, none⟩,
    ⟨(some 47), .fieldAddr 64 (.tmp 10) 0, none⟩,
    ⟨none, .store 3 (.tmp 47) (.tmp 46), none⟩]) .skip)
@[go_sem] theorem c_runs_Cut_int_1_6_at (rd : Option Nat) (K : Post3) (t : Fr) (m : Mem) : wpM E 47 68 rd c_runs_Cut_int_1_6 K t m = wpM E 47 68 rd (.cond (.tmp 43) (.ops [⟨(some 44), .fieldAddr 64 (.tmp 10) 0, none⟩,
    ⟨(some 45), .load 3 (.tmp 44), none⟩,
    ⟨(some 46), .binOp .add 3 (.tmp 45) (.const (.int .i64 1)) 3, none⟩,
    ⟨(some 47), .fieldAddr 64 (.tmp 10) 0, none⟩,
    ⟨none, .store 3 (.tmp 47) (.tmp 46), none⟩]) .skip) K t m := rfl

def c_runs_Cut_int_1_7 : MC := (.seq (.ops [⟨(some 39), .load 24 (.tmp 1), none⟩,
    ⟨(some 40), .move (.tmp 9), none⟩,
    ⟨(some 41), .fieldAddr 64 (.tmp 10) 1, none⟩,
    ⟨(some 42), .load 3 (.tmp 41), none⟩,
    ⟨(some 43), .call ⟨.value (.tmp 39), #[(.tmp 40), (.tmp 42)], #[3, 3]⟩, none⟩]) c_runs_Cut_int_1_6)
@[go_sem] theorem c_runs_Cut_int_1_7_at (rd : Option Nat) (K : Post3) (t : Fr) (m : Mem) : wpM E 47 68 rd c_runs_Cut_int_1_7 K t m = wpM E 47 68 rd (.seq (.ops [⟨(some 39), .load 24 (.tmp 1), none⟩,
    ⟨(some 40), .move (.tmp 9), none⟩,
    ⟨(some 41), .fieldAddr 64 (.tmp 10) 1, none⟩,
    ⟨(some 42), .load 3 (.tmp 41), none⟩,
    ⟨(some 43), .call ⟨.value (.tmp 39), #[(.tmp 40), (.tmp 42)], #[3, 3]⟩, none⟩]) c_runs_Cut_int_1_6) K t m := rfl

def c_runs_Cut_int_1_8 : MC := (.seq c_runs_Cut_int_1_7 (.ops [⟨(some 48), .load 99 (.tmp 7), none⟩,
    ⟨(some 49), .fieldAddr 64 (.tmp 10) 0, none⟩,
    ⟨(some 50), .load 3 (.tmp 49), none⟩,
    ⟨(some 51), .move (.tmp 9), none⟩,
    ⟨(some 52), .call ⟨.value (.tmp 48), #[(.tmp 50), (.tmp 51)], #[3, 3]⟩, none⟩]))
@[go_sem] theorem c_runs_Cut_int_1_8_at (rd : Option Nat) (K : Post3) (t : Fr) (m : Mem) : wpM E 47 68 rd c_runs_Cut_int_1_8 K t m = wpM E 47 68 rd (.seq c_runs_Cut_int_1_7 (.ops [⟨(some 48), .load 99 (.tmp 7), none⟩,
    ⟨(some 49), .fieldAddr 64 (.tmp 10) 0, none⟩,
    ⟨(some 50), .load 3 (.tmp 49), none⟩,
    ⟨(some 51), .move (.tmp 9), none⟩,
    ⟨(some 52), .call ⟨.value (.tmp 48), #[(.tmp 50), (.tmp 51)], #[3, 3]⟩, none⟩])) K t m := rfl

def c_runs_Cut_int_1_9 : MC := (.seq c_runs_Cut_int_1_5 c_runs_Cut_int_1_8)
@[go_sem] theorem c_runs_Cut_int_1_9_at (rd : Option Nat) (K : Post3) (t : Fr) (m : Mem) : wpM E 47 68 rd c_runs_Cut_int_1_9 K t m = wpM E 47 68 rd (.seq c_runs_Cut_int_1_5 c_runs_Cut_int_1_8) K t m := rfl

def c_runs_Cut_int_1_10 : MC := (.seq (.ops [⟨(some 28), .load 101 (.tmp 8), none⟩,
    ⟨(some 29), .call ⟨.value (.tmp 28), #[], #[]⟩, none⟩,
    ⟨(some 27), .move (.tmp 29), none⟩,
    ⟨(some 30), .extract (.tmp 27) 0, none⟩,
    ⟨(some 31), .extract (.tmp 27) 1, none⟩,
    ⟨(some 10), .alloc 64, none⟩,
    ⟨none, .store 64 (.tmp 10) (.tmp 30), none⟩,
    ⟨(some 11), .assign (.tmp 31), none⟩]) c_runs_Cut_int_1_9)
@[go_sem] theorem c_runs_Cut_int_1_10_at (rd : Option Nat) (K : Post3) (t : Fr) (m : Mem) : wpM E 47 68 rd c_runs_Cut_int_1_10 K t m = wpM E 47 68 rd (.seq (.ops [⟨(some 28), .load 101 (.tmp 8), none⟩,
    ⟨(some 29), .call ⟨.value (.tmp 28), #[], #[]⟩, none⟩,
    ⟨(some 27), .move (.tmp 29), none⟩,
    ⟨(some 30), .extract (.tmp 27) 0, none⟩,
    ⟨(some 31), .extract (.tmp 27) 1, none⟩,
    ⟨(some 10), .alloc 64, none⟩,
    ⟨none, .store 64 (.tmp 10) (.tmp 30), none⟩,
    ⟨(some 11), .assign (.tmp 31), none⟩]) c_runs_Cut_int_1_9) K t m := rfl

def c_runs_Cut_int_1_11 : MC := (.seq c_runs_Cut_int_1_2 c_runs_Cut_int_1_10)
@[go_sem] theorem c_runs_Cut_int_1_11_at (rd : Option Nat) (K : Post3) (t : Fr) (m : Mem) : wpM E 47 68 rd c_runs_Cut_int_1_11 K t m = wpM E 47 68 rd (.seq c_runs_Cut_int_1_2 c_runs_Cut_int_1_10) K t m := rfl

def c_runs_Cut_int_1_12 : MC := (.block 1 c_runs_Cut_int_1_11)
@[go_sem] theorem c_runs_Cut_int_1_12_at (rd : Option Nat) (K : Post3) (t : Fr) (m : Mem) : wpM E 47 68 rd c_runs_Cut_int_1_12 K t m = wpM E 47 68 rd (.block 1 c_runs_Cut_int_1_11) K t m := rfl

theorem asg_runs_Cut_int_1_0 : compile E 47 68 (asgAt E 47 0) = some (.ops [⟨(some 9), .assign (.tmp 19), none⟩]) := by kernel_rfl

theorem body_runs_Cut_int_1_0 : compile E 47 68 (bodyAt E 47 0) = some c_runs_Cut_int_1_12 := by kernel_rfl

def c_runs_Cut_int_1_13 : MC := (.range (.tmp 18) #[19] (asgAt E 47 0) (bodyAt E 47 0))
theorem c_runs_Cut_int_1_13_at (rd : Option Nat) (K : Post3) (t : Fr) (m : Mem) : wpM E 47 68 rd c_runs_Cut_int_1_13 K t m = wpM E 47 68 rd (.range (.tmp 18) #[19] (asgAt E 47 0) (bodyAt E 47 0)) K t m := rfl

def c_runs_Cut_int_1_14 : MC := (.block 0 c_runs_Cut_int_1_13)
@[go_sem] theorem c_runs_Cut_int_1_14_at (rd : Option Nat) (K : Post3) (t : Fr) (m : Mem) : wpM E 47 68 rd c_runs_Cut_int_1_14 K t m = wpM E 47 68 rd (.block 0 c_runs_Cut_int_1_13) K t m := rfl

def c_runs_Cut_int_1_15 : MC := (.seq (.ops [⟨(some 18), .load 92 (.tmp 3), none⟩]) c_runs_Cut_int_1_14)
@[go_sem] theorem c_runs_Cut_int_1_15_at (rd : Option Nat) (K : Post3) (t : Fr) (m : Mem) : wpM E 47 68 rd c_runs_Cut_int_1_15 K t m = wpM E 47 68 rd (.seq (.ops [⟨(some 18), .load 92 (.tmp 3), none⟩]) c_runs_Cut_int_1_14) K t m := rfl

def c_runs_Cut_int_1_16 : MC := (.cond (.tmp 55) .skip (.exit 2))
@[go_sem] theorem c_runs_Cut_int_1_16_at (rd : Option Nat) (K : Post3) (t : Fr) (m : Mem) : wpM E 47 68 rd c_runs_Cut_int_1_16 K t m = wpM E 47 68 rd (.cond (.tmp 55) .skip (.exit 2)) K t m := rfl

def c_runs_Cut_int_1_17 : MC := (.seq (.ops [⟨(some 53), .load 95 (.tmp 6), none⟩,
    ⟨(some 54), .call ⟨.value (.func 54), #[(.tmp 53)], #[95]⟩, none⟩,
    ⟨(some 55), .binOp .gtr 3 (.tmp 54) (.const (.int .i64 0)) 3, none⟩]) c_runs_Cut_int_1_16)
@[go_sem] theorem c_runs_Cut_int_1_17_at (rd : Option Nat) (K : Post3) (t : Fr) (m : Mem) : wpM E 47 68 rd c_runs_Cut_int_1_17 K t m = wpM E 47 68 rd (.seq (.ops [⟨(some 53), .load 95 (.tmp 6), none⟩,
    ⟨(some 54), .call ⟨.value (.func 54), #[(.tmp 53)], #[95]⟩, none⟩,
    ⟨(some 55), .binOp .gtr 3 (.tmp 54) (.const (.int .i64 0)) 3, none⟩]) c_runs_Cut_int_1_16) K t m := rfl

def c_runs_Cut_int_1_18 : MC := (.seq (.draw [(0, [], ⟨(some 63), .load 57 (.tmp 2), none⟩),
    (1, [], ⟨(some 64), .load 95 (.tmp 6), none⟩),
    (2, [0], ⟨(some 65), .call ⟨.value (.func 54), #[(.tmp 64)], #[95]⟩, none⟩),
    (3, [], ⟨(some 66), .unOp .neg 3 (.tmp 65), none⟩),
    (4, [], ⟨(some 67), .call ⟨.value (.func 40), #[(.tmp 63), (.tmp 66)], #[57, 3]⟩, none⟩)]) .ret)
@[go_sem] theorem c_runs_Cut_int_1_18_at (rd : Option Nat) (K : Post3) (t : Fr) (m : Mem) : wpM E 47 68 rd c_runs_Cut_int_1_18 K t m = wpM E 47 68 rd (.seq (.draw [(0, [], ⟨(some 63), .load 57 (.tmp 2), none⟩),
    (1, [], ⟨(some 64), .load 95 (.tmp 6), none⟩),
    (2, [0], ⟨(some 65), .call ⟨.value (.func 54), #[(.tmp 64)], #[95]⟩, none⟩),
    (3, [], ⟨(some 66), .unOp .neg 3 (.tmp 65), none⟩),
    (4, [], ⟨(some 67), .call ⟨.value (.func 40), #[(.tmp 63), (.tmp 66)], #[57, 3]⟩, none⟩)]) .ret) K t m := rfl

def c_runs_Cut_int_1_19 : MC := (.cond (.tmp 62) c_runs_Cut_int_1_18 .skip)
@[go_sem] theorem c_runs_Cut_int_1_19_at (rd : Option Nat) (K : Post3) (t : Fr) (m : Mem) : wpM E 47 68 rd c_runs_Cut_int_1_19 K t m = wpM E 47 68 rd (.cond (.tmp 62) c_runs_Cut_int_1_18 .skip) K t m := rfl

def c_runs_Cut_int_1_20 : MC := (.seq (.ops [⟨(some 61), .move (.tmp 13), none⟩,
    ⟨(some 62), .unOp .not 4 (.tmp 61), none⟩]) c_runs_Cut_int_1_19)
@[go_sem] theorem c_runs_Cut_int_1_20_at (rd : Option Nat) (K : Post3) (t : Fr) (m : Mem) : wpM E 47 68 rd c_runs_Cut_int_1_20 K t m = wpM E 47 68 rd (.seq (.ops [⟨(some 61), .move (.tmp 13), none⟩,
    ⟨(some 62), .unOp .not 4 (.tmp 61), none⟩]) c_runs_Cut_int_1_19) K t m := rfl

def c_runs_Cut_int_1_21 : MC := (.seq (.ops [⟨(some 57), .load 101 (.tmp 8), none⟩,
    ⟨(some 58), .call ⟨.value (.tmp 57), #[], #[]⟩, none⟩,
    ⟨(some 56), .move (.tmp 58), none⟩,
    ⟨(some 59), .extract (.tmp 56) 0, none⟩,
    ⟨(some 60), .extract (.tmp 56) 1, none⟩,
    ⟨(some 12), .alloc 64, none⟩,
    ⟨none, .store 64 (.tmp 12) (.tmp 59), none⟩,
    ⟨(some 13), .assign (.tmp 60), none⟩]) c_runs_Cut_int_1_20)
@[go_sem] theorem c_runs_Cut_int_1_21_at (rd : Option Nat) (K : Post3) (t : Fr) (m : Mem) : wpM E 47 68 rd c_runs_Cut_int_1_21 K t m = wpM E 47 68 rd (.seq (.ops [⟨(some 57), .load 101 (.tmp 8), none⟩,
    ⟨(some 58), .call ⟨.value (.tmp 57), #[], #[]⟩, none⟩,
    ⟨(some 56), .move (.tmp 58), none⟩,
    ⟨(some 59), .extract (.tmp 56) 0, none⟩,
    ⟨(some 60), .extract (.tmp 56) 1, none⟩,
    ⟨(some 12), .alloc 64, none⟩,
    ⟨none, .store 64 (.tmp 12) (.tmp 59), none⟩,
    ⟨(some 13), .assign (.tmp 60), none⟩]) c_runs_Cut_int_1_20) K t m := rfl

def c_runs_Cut_int_1_22 : MC := (.block 3 c_runs_Cut_int_1_21)
@[go_sem] theorem c_runs_Cut_int_1_22_at (rd : Option Nat) (K : Post3) (t : Fr) (m : Mem) : wpM E 47 68 rd c_runs_Cut_int_1_22 K t m = wpM E 47 68 rd (.block 3 c_runs_Cut_int_1_21) K t m := rfl

def c_runs_Cut_int_1_23 : MC := (.seq c_runs_Cut_int_1_17 c_runs_Cut_int_1_22)
@[go_sem] theorem c_runs_Cut_int_1_23_at (rd : Option Nat) (K : Post3) (t : Fr) (m : Mem) : wpM E 47 68 rd c_runs_Cut_int_1_23 K t m = wpM E 47 68 rd (.seq c_runs_Cut_int_1_17 c_runs_Cut_int_1_22) K t m := rfl

def c_runs_Cut_int_1_24 : MC := (.loop c_runs_Cut_int_1_23)
theorem c_runs_Cut_int_1_24_at (rd : Option Nat) (K : Post3) (t : Fr) (m : Mem) : wpM E 47 68 rd c_runs_Cut_int_1_24 K t m = wpM E 47 68 rd (.loop c_runs_Cut_int_1_23) K t m := rfl

def c_runs_Cut_int_1_25 : MC := (.block 2 c_runs_Cut_int_1_24)
theorem c_runs_Cut_int_1_25_at (rd : Option Nat) (K : Post3) (t : Fr) (m : Mem) : wpM E 47 68 rd c_runs_Cut_int_1_25 K t m = wpM E 47 68 rd (.block 2 c_runs_Cut_int_1_24) K t m := rfl

def c_runs_Cut_int_1_26 : MC := (.seq c_runs_Cut_int_1_15 c_runs_Cut_int_1_25)
@[go_sem] theorem c_runs_Cut_int_1_26_at (rd : Option Nat) (K : Post3) (t : Fr) (m : Mem) : wpM E 47 68 rd c_runs_Cut_int_1_26 K t m = wpM E 47 68 rd (.seq c_runs_Cut_int_1_15 c_runs_Cut_int_1_25) K t m := rfl

def c_runs_Cut_int_1_27 : MC := (.seq (.ops [⟨(some 17), .makeFunc (.func 52) #[] #[(.tmp 6), (.tmp 2), (.tmp 5)], none⟩,
    ⟨(some 8), .alloc 101, none⟩,
    ⟨none, .store 101 (.tmp 8) (.tmp 17), none⟩]) c_runs_Cut_int_1_26)
@[go_sem] theorem c_runs_Cut_int_1_27_at (rd : Option Nat) (K : Post3) (t : Fr) (m : Mem) : wpM E 47 68 rd c_runs_Cut_int_1_27 K t m = wpM E 47 68 rd (.seq (.ops [⟨(some 17), .makeFunc (.func 52) #[] #[(.tmp 6), (.tmp 2), (.tmp 5)], none⟩,
    ⟨(some 8), .alloc 101, none⟩,
    ⟨none, .store 101 (.tmp 8) (.tmp 17), none⟩]) c_runs_Cut_int_1_26) K t m := rfl

def c_runs_Cut_int_1_28 : MC := (.seq (.ops [⟨(some 16), .makeFunc (.func 50) #[] #[(.tmp 6), (.tmp 2)], none⟩,
    ⟨(some 7), .alloc 99, none⟩,
    ⟨none, .store 99 (.tmp 7) (.tmp 16), none⟩]) c_runs_Cut_int_1_27)
@[go_sem] theorem c_runs_Cut_int_1_28_at (rd : Option Nat) (K : Post3) (t : Fr) (m : Mem) : wpM E 47 68 rd c_runs_Cut_int_1_28 K t m = wpM E 47 68 rd (.seq (.ops [⟨(some 16), .makeFunc (.func 50) #[] #[(.tmp 6), (.tmp 2)], none⟩,
    ⟨(some 7), .alloc 99, none⟩,
    ⟨none, .store 99 (.tmp 7) (.tmp 16), none⟩]) c_runs_Cut_int_1_27) K t m := rfl

def c_runs_Cut_int_1_29 : MC := (.seq (.ops [⟨(some 14), .makeFunc (.func 49) #[] #[(.tmp 1)], none⟩,
    ⟨(some 15), .call ⟨.value (.func 48), #[(.tmp 14)], #[97]⟩, none⟩,
    ⟨(some 6), .alloc 95, none⟩,
    ⟨none, .store 95 (.tmp 6) (.tmp 15), none⟩]) c_runs_Cut_int_1_28)
@[go_sem] theorem c_runs_Cut_int_1_29_at (rd : Option Nat) (K : Post3) (t : Fr) (m : Mem) : wpM E 47 68 rd c_runs_Cut_int_1_29 K t m = wpM E 47 68 rd (.seq (.ops [⟨(some 14), .makeFunc (.func 49) #[] #[(.tmp 1)], none⟩,
    ⟨(some 15), .call ⟨.value (.func 48), #[(.tmp 14)], #[97]⟩, none⟩,
    ⟨(some 6), .alloc 95, none⟩,
    ⟨none, .store 95 (.tmp 6) (.tmp 15), none⟩]) c_runs_Cut_int_1_28) K t m := rfl

def c_runs_Cut_int_1_30 : MC := (.seq (.ops [⟨(some 5), .box 94 (.tmp 0), none⟩]) c_runs_Cut_int_1_29)
@[go_sem] theorem c_runs_Cut_int_1_30_at (rd : Option Nat) (K : Post3) (t : Fr) (m : Mem) : wpM E 47 68 rd c_runs_Cut_int_1_30 K t m = wpM E 47 68 rd (.seq (.ops [⟨(some 5), .box 94 (.tmp 0), none⟩]) c_runs_Cut_int_1_29) K t m := rfl

@[go_sem] theorem some47 : (E.fn 47).isSome = true := by kernel_rfl
set_option maxRecDepth 100000 in
theorem fn_runs_Cut_int_1 : FnIs E 47 68 [] c_runs_Cut_int_1_30 := ⟨by kernel_rfl, by kernel_rfl⟩

/-! sheaf/runs.Cut[int]$1$1 -/
abbrev F_runs_Cut_int_1_1 : FuncId := 49
def c_runs_Cut_int_1_1_0 : MC := (.seq (.ops [⟨(some 6), .fieldAddr 64 (.tmp 3) 0, none⟩,
    ⟨(some 7), .load 3 (.tmp 6), none⟩,
    ⟨(some 8), .fieldAddr 64 (.tmp 4) 0, none⟩,
    ⟨(some 9), .load 3 (.tmp 8), none⟩,
    ⟨(some 10), .binOp .lss 3 (.tmp 7) (.tmp 9) 3, none⟩,
    ⟨(some 11), .move (.tmp 10), none⟩,
    ⟨(some 12), .fieldAddr 64 (.tmp 3) 0, (some (some 11, false))⟩,
    ⟨(some 13), .load 3 (.tmp 12), (some (some 11, false))⟩,
    ⟨(some 14), .fieldAddr 64 (.tmp 4) 0, (some (some 11, false))⟩,
    ⟨(some 15), .load 3 (.tmp 14), (some (some 11, false))⟩,
    ⟨(some 16), .binOp .eql 3 (.tmp 13) (.tmp 15) 3, (some (some 11, false))⟩,
    ⟨(some 17), .move (.tmp 16), (some (some 11, false))⟩,
    ⟨(some 18), .load 24 (.tmp 2), (some (some 17, true))⟩,
    ⟨(some 19), .fieldAddr 64 (.tmp 3) 1, (some (some 17, true))⟩,
    ⟨(some 20), .load 3 (.tmp 19), (some (some 17, true))⟩,
    ⟨(some 21), .fieldAddr 64 (.tmp 4) 1, (some (some 17, true))⟩,
    ⟨(some 22), .load 3 (.tmp 21), (some (some 17, true))⟩,
    ⟨(some 23), .call ⟨.value (.tmp 18), #[(.tmp 20), (.tmp 22)], #[3, 3]⟩, (some (some 17, true))⟩,
    ⟨(some 24), .pick (.tmp 17) (.tmp 23) (.const (.bool false)), (some (some 11, false))⟩,
    ⟨(some 25), .pick (.tmp 11) (.const (.bool true)) (.tmp 24), none⟩,
    ⟨(some 5), .assign (.tmp 25), none⟩]) .ret)
@[go_sem] theorem c_runs_Cut_int_1_1_0_at (rd : Option Nat) (K : Post3) (t : Fr) (m : Mem) : wpM E 49 26 rd c_runs_Cut_int_1_1_0 K t m = wpM E 49 26 rd (.seq (.ops [⟨(some 6), .fieldAddr 64 (.tmp 3) 0, none⟩,
    ⟨(some 7), .load 3 (.tmp 6), none⟩,
    ⟨(some 8), .fieldAddr 64 (.tmp 4) 0, none⟩,
    ⟨(some 9), .load 3 (.tmp 8), none⟩,
    ⟨(some 10), .binOp .lss 3 (.tmp 7) (.tmp 9) 3, none⟩,
    ⟨(some 11), .move (.tmp 10), none⟩,
    ⟨(some 12), .fieldAddr 64 (.tmp 3) 0, (some (some 11, false))⟩,
    ⟨(some 13), .load 3 (.tmp 12), (some (some 11, false))⟩,
    ⟨(some 14), .fieldAddr 64 (.tmp 4) 0, (some (some 11, false))⟩,
    ⟨(some 15), .load 3 (.tmp 14), (some (some 11, false))⟩,
    ⟨(some 16), .binOp .eql 3 (.tmp 13) (.tmp 15) 3, (some (some 11, false))⟩,
    ⟨(some 17), .move (.tmp 16), (some (some 11, false))⟩,
    ⟨(some 18), .load 24 (.tmp 2), (some (some 17, true))⟩,
    ⟨(some 19), .fieldAddr 64 (.tmp 3) 1, (some (some 17, true))⟩,
    ⟨(some 20), .load 3 (.tmp 19), (some (some 17, true))⟩,
    ⟨(some 21), .fieldAddr 64 (.tmp 4) 1, (some (some 17, true))⟩,
    ⟨(some 22), .load 3 (.tmp 21), (some (some 17, true))⟩,
    ⟨(some 23), .call ⟨.value (.tmp 18), #[(.tmp 20), (.tmp 22)], #[3, 3]⟩, (some (some 17, true))⟩,
    ⟨(some 24), .pick (.tmp 17) (.tmp 23) (.const (.bool false)), (some (some 11, false))⟩,
    ⟨(some 25), .pick (.tmp 11) (.const (.bool true)) (.tmp 24), none⟩,
    ⟨(some 5), .assign (.tmp 25), none⟩]) .ret) K t m := rfl

def c_runs_Cut_int_1_1_1 : MC := (.seq (.ops [⟨(some 3), .box 64 (.tmp 0), none⟩,
    ⟨(some 4), .box 64 (.tmp 1), none⟩,
    ⟨(some 5), .assign (.const (.bool false)), none⟩]) c_runs_Cut_int_1_1_0)
@[go_sem] theorem c_runs_Cut_int_1_1_1_at (rd : Option Nat) (K : Post3) (t : Fr) (m : Mem) : wpM E 49 26 rd c_runs_Cut_int_1_1_1 K t m = wpM E 49 26 rd (.seq (.ops [⟨(some 3), .box 64 (.tmp 0), none⟩,
    ⟨(some 4), .box 64 (.tmp 1), none⟩,
    ⟨(some 5), .assign (.const (.bool false)), none⟩]) c_runs_Cut_int_1_1_0) K t m := rfl

@[go_sem] theorem some49 : (E.fn 49).isSome = true := by kernel_rfl
set_option maxRecDepth 100000 in
theorem fn_runs_Cut_int_1_1 : FnIs E 49 26 [.tmp 5] c_runs_Cut_int_1_1_1 := ⟨by kernel_rfl, by kernel_rfl⟩

/-! sheaf/runs.Cut[int]$1$2 -/
abbrev F_runs_Cut_int_1_2 : FuncId := 50
def c_runs_Cut_int_1_2_0 : MC := (.seq (.ops [⟨(some 6), .load 95 (.tmp 2), none⟩,
    ⟨(some 7), .move (.tmp 0), none⟩,
    ⟨(some 8), .move (.tmp 1), none⟩,
    ⟨(some 9), .build 64 #[(0, (.tmp 7)), (1, (.tmp 8))], none⟩,
    ⟨(some 10), .call ⟨.value (.func 51), #[(.tmp 6), (.tmp 9)], #[95, 64]⟩, none⟩]) (.ops [⟨(some 11), .load 57 (.tmp 3), none⟩,
    ⟨(some 12), .call ⟨.value (.func 40), #[(.tmp 11), (.const (.int .i64 1))], #[57, 3]⟩, none⟩]))
@[go_sem] theorem c_runs_Cut_int_1_2_0_at (rd : Option Nat) (K : Post3) (t : Fr) (m : Mem) : wpM E 50 13 rd c_runs_Cut_int_1_2_0 K t m = wpM E 50 13 rd (.seq (.ops [⟨(some 6), .load 95 (.tmp 2), none⟩,
    ⟨(some 7), .move (.tmp 0), none⟩,
    ⟨(some 8), .move (.tmp 1), none⟩,
    ⟨(some 9), .build 64 #[(0, (.tmp 7)), (1, (.tmp 8))], none⟩,
    ⟨(some 10), .call ⟨.value (.func 51), #[(.tmp 6), (.tmp 9)], #[95, 64]⟩, none⟩]) (.ops [⟨(some 11), .load 57 (.tmp 3), none⟩,
    ⟨(some 12), .call ⟨.value (.func 40), #[(.tmp 11), (.const (.int .i64 1))], #[57, 3]⟩, none⟩])) K t m := rfl

@[go_sem] theorem some50 : (E.fn 50).isSome = true := by kernel_rfl
set_option maxRecDepth 100000 in
theorem fn_runs_Cut_int_1_2 : FnIs E 50 13 [] c_runs_Cut_int_1_2_0 := ⟨by kernel_rfl, by kernel_rfl⟩

/-! sheaf/runs.Cut[int]$1$3 -/
abbrev F_runs_Cut_int_1_3 : FuncId := 52
def c_runs_Cut_int_1_3_0 : MC := (.seq (.draw [(0, [], ⟨(some 14), .load 64 (.tmp 5), none⟩),
    (1, [], ⟨(some 15), .load 94 (.tmp 2), none⟩),
    (2, [], ⟨(some 16), .load 64 (.tmp 5), none⟩),
    (3, [0], ⟨(some 17), .call ⟨.value (.tmp 15), #[(.tmp 16)], #[64]⟩, none⟩),
    (4, [], ⟨none, .store 64 (.tmp 3) (.tmp 14), none⟩),
    (5, [], ⟨(some 4), .assign (.tmp 17), none⟩)]) .ret)
@[go_sem] theorem c_runs_Cut_int_1_3_0_at (rd : Option Nat) (K : Post3) (t : Fr) (m : Mem) : wpM E 52 18 rd c_runs_Cut_int_1_3_0 K t m = wpM E 52 18 rd (.seq (.draw [(0, [], ⟨(some 14), .load 64 (.tmp 5), none⟩),
    (1, [], ⟨(some 15), .load 94 (.tmp 2), none⟩),
    (2, [], ⟨(some 16), .load 64 (.tmp 5), none⟩),
    (3, [0], ⟨(some 17), .call ⟨.value (.tmp 15), #[(.tmp 16)], #[64]⟩, none⟩),
    (4, [], ⟨none, .store 64 (.tmp 3) (.tmp 14), none⟩),
    (5, [], ⟨(some 4), .assign (.tmp 17), none⟩)]) .ret) K t m := rfl

def c_runs_Cut_int_1_3_1 : MC := (.seq (.ops [⟨(some 12), .load 57 (.tmp 1), none⟩,
    ⟨(some 13), .call ⟨.value (.func 40), #[(.tmp 12), (.const (.int .i64 (-1)))], #[57, 3]⟩, none⟩]) c_runs_Cut_int_1_3_0)
@[go_sem] theorem c_runs_Cut_int_1_3_1_at (rd : Option Nat) (K : Post3) (t : Fr) (m : Mem) : wpM E 52 18 rd c_runs_Cut_int_1_3_1 K t m = wpM E 52 18 rd (.seq (.ops [⟨(some 12), .load 57 (.tmp 1), none⟩,
    ⟨(some 13), .call ⟨.value (.func 40), #[(.tmp 12), (.const (.int .i64 (-1)))], #[57, 3]⟩, none⟩]) c_runs_Cut_int_1_3_0) K t m := rfl

def c_runs_Cut_int_1_3_2 : MC := (.seq (.ops [⟨(some 8), .load 95 (.tmp 0), none⟩,
    ⟨(some 9), .call ⟨.value (.func 53), #[(.tmp 8)], #[95]⟩, none⟩,
    ⟨(some 7), .move (.tmp 9), none⟩,
    ⟨(some 10), .extract (.tmp 7) 0, none⟩,
    ⟨(some 11), .extract (.tmp 7) 1, none⟩,
    ⟨(some 5), .alloc 64, none⟩,
    ⟨none, .store 64 (.tmp 5) (.tmp 10), none⟩,
    ⟨(some 6), .assign (.tmp 11), none⟩]) c_runs_Cut_int_1_3_1)
@[go_sem] theorem c_runs_Cut_int_1_3_2_at (rd : Option Nat) (K : Post3) (t : Fr) (m : Mem) : wpM E 52 18 rd c_runs_Cut_int_1_3_2 K t m = wpM E 52 18 rd (.seq (.ops [⟨(some 8), .load 95 (.tmp 0), none⟩,
    ⟨(some 9), .call ⟨.value (.func 53), #[(.tmp 8)], #[95]⟩, none⟩,
    ⟨(some 7), .move (.tmp 9), none⟩,
    ⟨(some 10), .extract (.tmp 7) 0, none⟩,
    ⟨(some 11), .extract (.tmp 7) 1, none⟩,
    ⟨(some 5), .alloc 64, none⟩,
    ⟨none, .store 64 (.tmp 5) (.tmp 10), none⟩,
    ⟨(some 6), .assign (.tmp 11), none⟩]) c_runs_Cut_int_1_3_1) K t m := rfl

def c_runs_Cut_int_1_3_3 : MC := (.seq (.ops [⟨(some 3), .alloc 64, none⟩,
    ⟨(some 4), .assign (.const (.bool false)), none⟩]) c_runs_Cut_int_1_3_2)
@[go_sem] theorem c_runs_Cut_int_1_3_3_at (rd : Option Nat) (K : Post3) (t : Fr) (m : Mem) : wpM E 52 18 rd c_runs_Cut_int_1_3_3 K t m = wpM E 52 18 rd (.seq (.ops [⟨(some 3), .alloc 64, none⟩,
    ⟨(some 4), .assign (.const (.bool false)), none⟩]) c_runs_Cut_int_1_3_2) K t m := rfl

@[go_sem] theorem some52 : (E.fn 52).isSome = true := by kernel_rfl
set_option maxRecDepth 100000 in
theorem fn_runs_Cut_int_1_3 : FnIs E 52 18 [.cell 3 64, .tmp 4] c_runs_Cut_int_1_3_3 := ⟨by kernel_rfl, by kernel_rfl⟩

/-! slices.Collect[sheaf/runs.Item[int]] -/
abbrev F_slices_Collect_runs_Item_int : FuncId := 55
def c_slices_Collect_runs_Item_int_0 : MC := (.seq (.ops [⟨(some 3), .move (.tmp 0), none⟩,
    ⟨(some 4), .call ⟨.value (.func 69), #[(.const (.slice none 0 0)), (.tmp 3)], #[60, 67]⟩, none⟩,
    ⟨(some 2), .assign (.tmp 4), none⟩]) .ret)
@[go_sem] theorem c_slices_Collect_runs_Item_int_0_at (rd : Option Nat) (K : Post3) (t : Fr) (m : Mem) : wpM E 55 5 rd c_slices_Collect_runs_Item_int_0 K t m = wpM E 55 5 rd (.seq (.ops [⟨(some 3), .move (.tmp 0), none⟩,
    ⟨(some 4), .call ⟨.value (.func 69), #[(.const (.slice none 0 0)), (.tmp 3)], #[60, 67]⟩, none⟩,
    ⟨(some 2), .assign (.tmp 4), none⟩]) .ret) K t m := rfl

def c_slices_Collect_runs_Item_int_1 : MC := (.seq (.ops [⟨(some 2), .assign (.const (.slice none 0 0)), none⟩]) c_slices_Collect_runs_Item_int_0)
@[go_sem] theorem c_slices_Collect_runs_Item_int_1_at (rd : Option Nat) (K : Post3) (t : Fr) (m : Mem) : wpM E 55 5 rd c_slices_Collect_runs_Item_int_1 K t m = wpM E 55 5 rd (.seq (.ops [⟨(some 2), .assign (.const (.slice none 0 0)), none⟩]) c_slices_Collect_runs_Item_int_0) K t m := rfl

@[go_sem] theorem some55 : (E.fn 55).isSome = true := by kernel_rfl
set_option maxRecDepth 100000 in
theorem fn_slices_Collect_runs_Item_int : FnIs E 55 5 [.tmp 2] c_slices_Collect_runs_Item_int_1 := ⟨by kernel_rfl, by kernel_rfl⟩

/-! slices.Collect[sheaf/runs.Item[string]] -/
abbrev F_slices_Collect_runs_Item_string : FuncId := 56
def c_slices_Collect_runs_Item_string_0 : MC := (.seq (.ops [⟨(some 3), .move (.tmp 0), none⟩,
    ⟨(some 4), .call ⟨.value (.func 70), #[(.const (.slice none 0 0)), (.tmp 3)], #[74, 79]⟩, none⟩,
    ⟨(some 2), .assign (.tmp 4), none⟩]) .ret)
@[go_sem] theorem c_slices_Collect_runs_Item_string_0_at (rd : Option Nat) (K : Post3) (t : Fr) (m : Mem) : wpM E 56 5 rd c_slices_Collect_runs_Item_string_0 K t m = wpM E 56 5 rd (.seq (.ops [⟨(some 3), .move (.tmp 0), none⟩,
    ⟨(some 4), .call ⟨.value (.func 70), #[(.const (.slice none 0 0)), (.tmp 3)], #[74, 79]⟩, none⟩,
    ⟨(some 2), .assign (.tmp 4), none⟩]) .ret) K t m := rfl

def c_slices_Collect_runs_Item_string_1 : MC := (.seq (.ops [⟨(some 2), .assign (.const (.slice none 0 0)), none⟩]) c_slices_Collect_runs_Item_string_0)
@[go_sem] theorem c_slices_Collect_runs_Item_string_1_at (rd : Option Nat) (K : Post3) (t : Fr) (m : Mem) : wpM E 56 5 rd c_slices_Collect_runs_Item_string_1 K t m = wpM E 56 5 rd (.seq (.ops [⟨(some 2), .assign (.const (.slice none 0 0)), none⟩]) c_slices_Collect_runs_Item_string_0) K t m := rfl

@[go_sem] theorem some56 : (E.fn 56).isSome = true := by kernel_rfl
set_option maxRecDepth 100000 in
theorem fn_slices_Collect_runs_Item_string : FnIs E 56 5 [.tmp 2] c_slices_Collect_runs_Item_string_1 := ⟨by kernel_rfl, by kernel_rfl⟩

/-! sheaf/runs.Cut[string]$1 -/
abbrev F_runs_Cut_string_1 : FuncId := 57
def c_runs_Cut_string_1_0 : MC := (.seq (.ops [⟨(some 24), .load 107 (.tmp 7), none⟩,
    ⟨(some 25), .move (.tmp 9), none⟩,
    ⟨(some 26), .call ⟨.value (.tmp 24), #[(.const (.int .i64 0)), (.tmp 25)], #[3, 9]⟩, none⟩]) (.exit 1))
@[go_sem] theorem c_runs_Cut_string_1_0_at (rd : Option Nat) (K : Post3) (t : Fr) (m : Mem) : wpM E 57 68 rd c_runs_Cut_string_1_0 K t m = wpM E 57 68 rd (.seq (.ops [⟨(some 24), .load 107 (.tmp 7), none⟩,
    ⟨(some 25), .move (.tmp 9), none⟩,
    ⟨(some 26), .call ⟨.value (.tmp 24), #[(.const (.int .i64 0)), (.tmp 25)], #[3, 9]⟩, none⟩]) (.exit 1)) K t m := rfl

def c_runs_Cut_string_1_1 : MC := (.cond (.tmp 23) c_runs_Cut_string_1_0 .skip)
@[go_sem] theorem c_runs_Cut_string_1_1_at (rd : Option Nat) (K : Post3) (t : Fr) (m : Mem) : wpM E 57 68 rd c_runs_Cut_string_1_1 K t m = wpM E 57 68 rd (.cond (.tmp 23) c_runs_Cut_string_1_0 .skip) K t m := rfl

def c_runs_Cut_string_1_2 : MC := (.seq (.draw [(0, [], ⟨(some 20), .load 103 (.tmp 6), none⟩),
    (2, [], ⟨(some 22), .load 3 (.tmp 4), none⟩),
    (1, [2], ⟨(some 21), .call ⟨.value (.func 64), #[(.tmp 20)], #[103]⟩, none⟩),
    (3, [], ⟨(some 23), .binOp .lss 3 (.tmp 21) (.tmp 22) 3, none⟩)]) c_runs_Cut_string_1_1)
@[go_sem] theorem c_runs_Cut_string_1_2_at (rd : Option Nat) (K : Post3) (t : Fr) (m : Mem) : wpM E 57 68 rd c_runs_Cut_string_1_2 K t m = wpM E 57 68 rd (.seq (.draw [(0, [], ⟨(some 20), .load 103 (.tmp 6), none⟩),
    (2, [], ⟨(some 22), .load 3 (.tmp 4), none⟩),
    (1, [2], ⟨(some 21), .call ⟨.value (.func 64), #[(.tmp 20)], #[103]⟩, none⟩),
    (3, [], ⟨(some 23), .binOp .lss 3 (.tmp 21) (.tmp 22) 3, none⟩)]) c_runs_Cut_string_1_1) K t m := rfl

def c_runs_Cut_string_1_3 : MC := (.seq (.draw [(0, [], ⟨(some 34), .load 57 (.tmp 2), none⟩),
    (1, [], ⟨(some 35), .load 103 (.tmp 6), none⟩),
    (2, [0], ⟨(some 36), .call ⟨.value (.func 64), #[(.tmp 35)], #[103]⟩, none⟩),
    (3, [], ⟨(some 37), .unOp .neg 3 (.tmp 36), none⟩),
    (4, [], ⟨(some 38), .call ⟨.value (.func 40), #[(.tmp 34), (.tmp 37)], #[57, 3]⟩, none⟩)]) .ret)
@[go_sem] theorem c_runs_Cut_string_1_3_at (rd : Option Nat) (K : Post3) (t : Fr) (m : Mem) : wpM E 57 68 rd c_runs_Cut_string_1_3 K t m = wpM E 57 68 rd (.seq (.draw [(0, [], ⟨(some 34), .load 57 (.tmp 2), none⟩),
    (1, [], ⟨(some 35), .load 103 (.tmp 6), none⟩),
    (2, [0], ⟨(some 36), .call ⟨.value (.func 64), #[(.tmp 35)], #[103]⟩, none⟩),
    (3, [], ⟨(some 37), .unOp .neg 3 (.tmp 36), none⟩),
    (4, [], ⟨(some 38), .call ⟨.value (.func 40), #[(.tmp 34), (.tmp 37)], #[57, 3]⟩, none⟩)]) .ret) K t m := rfl

def c_runs_Cut_string_1_4 : MC := (.cond (.tmp 33) c_runs_Cut_string_1_3 .skip)
@[go_sem] theorem c_runs_Cut_string_1_4_at (rd : Option Nat) (K : Post3) (t : Fr) (m : Mem) : wpM E 57 68 rd c_runs_Cut_string_1_4 K t m = wpM E 57 68 rd (.cond (.tmp 33) c_runs_Cut_string_1_3 .skip) K t m := rfl

def c_runs_Cut_string_1_5 : MC := (.seq (.ops [⟨(some 32), .move (.tmp 11), none⟩,
    ⟨(some 33), .unOp .not 4 (.tmp 32), none⟩]) c_runs_Cut_string_1_4)
@[go_sem] theorem c_runs_Cut_string_1_5_at (rd : Option Nat) (K : Post3) (t : Fr) (m : Mem) : wpM E 57 68 rd c_runs_Cut_string_1_5 K t m = wpM E 57 68 rd (.seq (.ops [⟨(some 32), .move (.tmp 11), none⟩,
    ⟨(some 33), .unOp .not 4 (.tmp 32), none⟩]) c_runs_Cut_string_1_4) K t m := rfl

def c_runs_Cut_string_1_6 : MC := (.cond (.tmp 43) (.ops [⟨(some 44), .fieldAddr 77 (.tmp 10) 0, none⟩,
    ⟨(some 45), .load 3 (.tmp 44), none⟩,
    ⟨(some 46), .binOp .add 3 (.tmp 45) (.const (.int .i64 1)) 3, none⟩,
    ⟨(some 47), .fieldAddr 77 (.tmp 10) 0, none⟩,
    ⟨none, .store 3 (.tmp 47) (.tmp 46), none⟩]) .skip)
@[go_sem] theorem c_runs_Cut_string_1_6_at (rd : Option Nat) (K : Post3) (t : Fr) (m : Mem) : wpM E 57 68 rd c_runs_Cut_string_1_6 K t m = wpM E 57 68 rd (.cond (.tmp 43) (.ops [⟨(some 44), .fieldAddr 77 (.tmp 10) 0, none⟩,
    ⟨(some 45), .load 3 (.tmp 44), none⟩,
    ⟨(some 46), .binOp .add 3 (.tmp 45) (.const (.int .i64 1)) 3, none⟩,
    ⟨(some 47), .fieldAddr 77 (.tmp 10) 0, none⟩,
    ⟨none, .store 3 (.tmp 47) (.tmp 46), none⟩]) .skip) K t m := rfl

def c_runs_Cut_string_1_7 : MC := (.seq (.ops [⟨(some 39), .load 49 (.tmp 1), none⟩,
    ⟨(some 40), .move (.tmp 9), none⟩,
    ⟨(some 41), .fieldAddr 77 (.tmp 10) 1, none⟩,
    ⟨(some 42), .load 9 (.tmp 41), none⟩,
    ⟨(some 43), .call ⟨.value (.tmp 39), #[(.tmp 40), (.tmp 42)], #[9, 9]⟩, none⟩]) c_runs_Cut_string_1_6)
@[go_sem] theorem c_runs_Cut_string_1_7_at (rd : Option Nat) (K : Post3) (t : Fr) (m : Mem) : wpM E 57 68 rd c_runs_Cut_string_1_7 K t m = wpM E 57 68 rd (.seq (.ops [⟨(some 39), .load 49 (.tmp 1), none⟩,
    ⟨(some 40), .move (.tmp 9), none⟩,
    ⟨(some 41), .fieldAddr 77 (.tmp 10) 1, none⟩,
    ⟨(some 42), .load 9 (.tmp 41), none⟩,
    ⟨(some 43), .call ⟨.value (.tmp 39), #[(.tmp 40), (.tmp 42)], #[9, 9]⟩, none⟩]) c_runs_Cut_string_1_6) K t m := rfl

def c_runs_Cut_string_1_8 : MC := (.seq c_runs_Cut_string_1_7 (.ops [⟨(some 48), .load 107 (.tmp 7), none⟩,
    ⟨(some 49), .fieldAddr 77 (.tmp 10) 0, none⟩,
    ⟨(some 50), .load 3 (.tmp 49), none⟩,
    ⟨(some 51), .move (.tmp 9), none⟩,
    ⟨(some 52), .call ⟨.value (.tmp 48), #[(.tmp 50), (.tmp 51)], #[3, 9]⟩, none⟩]))
@[go_sem] theorem c_runs_Cut_string_1_8_at (rd : Option Nat) (K : Post3) (t : Fr) (m : Mem) : wpM E 57 68 rd c_runs_Cut_string_1_8 K t m = wpM E 57 68 rd (.seq c_runs_Cut_string_1_7 (.ops [⟨(some 48), .load 107 (.tmp 7), none⟩,
    ⟨(some 49), .fieldAddr 77 (.tmp 10) 0, none⟩,
    ⟨(some 50), .load 3 (.tmp 49), none⟩,
    ⟨(some 51), .move (.tmp 9), none⟩,
    ⟨(some 52), .call ⟨.value (.tmp 48), #[(.tmp 50), (.tmp 51)], #[3, 9]⟩, none⟩])) K t m := rfl

def c_runs_Cut_string_1_9 : MC := (.seq c_runs_Cut_string_1_5 c_runs_Cut_string_1_8)
@[go_sem] theorem c_runs_Cut_string_1_9_at (rd : Option Nat) (K : Post3) (t : Fr) (m : Mem) : wpM E 57 68 rd c_runs_Cut_string_1_9 K t m = wpM E 57 68 rd (.seq c_runs_Cut_string_1_5 c_runs_Cut_string_1_8) K t m := rfl

def c_runs_Cut_string_1_10 : MC := (.seq (.ops [⟨(some 28), .load 109 (.tmp 8), none⟩,
    ⟨(some 29), .call ⟨.value (.tmp 28), #[], #[]⟩, none⟩,
    ⟨(some 27), .move (.tmp 29), none⟩,
    ⟨(some 30), .extract (.tmp 27) 0, none⟩,
    ⟨(some 31), .extract (.tmp 27) 1, none⟩,
    ⟨(some 10), .alloc 77, none⟩,
    ⟨none, .store 77 (.tmp 10) (.tmp 30), none⟩,
    ⟨(some 11), .assign (.tmp 31), none⟩]) c_runs_Cut_string_1_9)
@[go_sem] theorem c_runs_Cut_string_1_10_at (rd : Option Nat) (K : Post3) (t : Fr) (m : Mem) : wpM E 57 68 rd c_runs_Cut_string_1_10 K t m = wpM E 57 68 rd (.seq (.ops [⟨(some 28), .load 109 (.tmp 8), none⟩,
    ⟨(some 29), .call ⟨.value (.tmp 28), #[], #[]⟩, none⟩,
    ⟨(some 27), .move (.tmp 29), none⟩,
    ⟨(some 30), .extract (.tmp 27) 0, none⟩,
    ⟨(some 31), .extract (.tmp 27) 1, none⟩,
    ⟨(some 10), .alloc 77, none⟩,
    ⟨none, .store 77 (.tmp 10) (.tmp 30), none⟩,
    ⟨(some 11), .assign (.tmp 31), none⟩]) c_runs_Cut_string_1_9) K t m := rfl

def c_runs_Cut_string_1_11 : MC := (.seq c_runs_Cut_string_1_2 c_runs_Cut_string_1_10)
@[go_sem] theorem c_runs_Cut_string_1_11_at (rd : Option Nat) (K : Post3) (t : Fr) (m : Mem) : wpM E 57 68 rd c_runs_Cut_string_1_11 K t m = wpM E 57 68 rd (.seq c_runs_Cut_string_1_2 c_runs_Cut_string_1_10) K t m := rfl

def c_runs_Cut_string_1_12 : MC := (.block 1 c_runs_Cut_string_1_11)
@[go_sem] theorem c_runs_Cut_string_1_12_at (rd : Option Nat) (K : Post3) (t : Fr) (m : Mem) : wpM E 57 68 rd c_runs_Cut_string_1_12 K t m = wpM E 57 68 rd (.block 1 c_runs_Cut_string_1_11) K t m := rfl

theorem asg_runs_Cut_string_1_0 : compile E 57 68 (asgAt E 57 0) = some (.ops [⟨(some 9), .assign (.tmp 19), none⟩]) := by kernel_rfl

theorem body_runs_Cut_string_1_0 : compile E 57 68 (bodyAt E 57 0) = some c_runs_Cut_string_1_12 := by kernel_rfl

def c_runs_Cut_string_1_13 : MC := (.range (.tmp 18) #[19] (asgAt E 57 0) (bodyAt E 57 0))
theorem c_runs_Cut_string_1_13_at (rd : Option Nat) (K : Post3) (t : Fr) (m : Mem) : wpM E 57 68 rd c_runs_Cut_string_1_13 K t m = wpM E 57 68 rd (.range (.tmp 18) #[19] (asgAt E 57 0) (bodyAt E 57 0)) K t m := rfl

def c_runs_Cut_string_1_14 : MC := (.block 0 c_runs_Cut_string_1_13)
@[go_sem] theorem c_runs_Cut_string_1_14_at (rd : Option Nat) (K : Post3) (t : Fr) (m : Mem) : wpM E 57 68 rd c_runs_Cut_string_1_14 K t m = wpM E 57 68 rd (.block 0 c_runs_Cut_string_1_13) K t m := rfl

def c_runs_Cut_string_1_15 : MC := (.seq (.ops [⟨(some 18), .load 82 (.tmp 3), none⟩]) c_runs_Cut_string_1_14)
@[go_sem] theorem c_runs_Cut_string_1_15_at (rd : Option Nat) (K : Post3) (t : Fr) (m : Mem) : wpM E 57 68 rd c_runs_Cut_string_1_15 K t m = wpM E 57 68 rd (.seq (.ops [⟨(some 18), .load 82 (.tmp 3), none⟩]) c_runs_Cut_string_1_14) K t m := rfl

def c_runs_Cut_string_1_16 : MC := (.cond (.tmp 55) .skip (.exit 2))
@[go_sem] theorem c_runs_Cut_string_1_16_at (rd : Option Nat) (K : Post3) (t : Fr) (m : Mem) : wpM E 57 68 rd c_runs_Cut_string_1_16 K t m = wpM E 57 68 rd (.cond (.tmp 55) .skip (.exit 2)) K t m := rfl

def c_runs_Cut_string_1_17 : MC := (.seq (.ops [⟨(some 53), .load 103 (.tmp 6), none⟩,
    ⟨(some 54), .call ⟨.value (.func 64), #[(.tmp 53)], #[103]⟩, none⟩,
    ⟨(some 55), .binOp .gtr 3 (.tmp 54) (.const (.int .i64 0)) 3, none⟩]) c_runs_Cut_string_1_16)
@[go_sem] theorem c_runs_Cut_string_1_17_at (rd : Option Nat) (K : Post3) (t : Fr) (m : Mem) : wpM E 57 68 rd c_runs_Cut_string_1_17 K t m = wpM E 57 68 rd (.seq (.ops [⟨(some 53), .load 103 (.tmp 6), none⟩,
    ⟨(some 54), .call ⟨.value (.func 64), #[(.tmp 53)], #[103]⟩, none⟩,
    ⟨(some 55), .binOp .gtr 3 (.tmp 54) (.const (.int .i64 0)) 3, none⟩]) c_runs_Cut_string_1_16) K t m := rfl

def c_runs_Cut_string_1_18 : MC := (.seq (.draw [(0, [], ⟨(some 63), .load 57 (.tmp 2), none⟩),
    (1, [], ⟨(some 64), .load 103 (.tmp 6), none⟩),
    (2, [0], ⟨(some 65), .call ⟨.value (.func 64), #[(.tmp 64)], #[103]⟩, none⟩),
    (3, [], ⟨(some 66), .unOp .neg 3 (.tmp 65), none⟩),
    (4, [], ⟨(some 67), .call ⟨.value (.func 40), #[(.tmp 63), (.tmp 66)], #[57, 3]⟩, none⟩)]) .ret)
@[go_sem] theorem c_runs_Cut_string_1_18_at (rd : Option Nat) (K : Post3) (t : Fr) (m : Mem) : wpM E 57 68 rd c_runs_Cut_string_1_18 K t m = wpM E 57 68 rd (.seq (.draw [(0, [], ⟨(some 63), .load 57 (.tmp 2), none⟩),
    (1, [], ⟨(some 64), .load 103 (.tmp 6), none⟩),
    (2, [0], ⟨(some 65), .call ⟨.value (.func 64), #[(.tmp 64)], #[103]⟩, none⟩),
    (3, [], ⟨(some 66), .unOp .neg 3 (.tmp 65), none⟩),
    (4, [], ⟨(some 67), .call ⟨.value (.func 40), #[(.tmp 63), (.tmp 66)], #[57, 3]⟩, none⟩)]) .ret) K t m := rfl

def c_runs_Cut_string_1_19 : MC := (.cond (.tmp 62) c_runs_Cut_string_1_18 .skip)
@[go_sem] theorem c_runs_Cut_string_1_19_at (rd : Option Nat) (K : Post3) (t : Fr) (m : Mem) : wpM E 57 68 rd c_runs_Cut_string_1_19 K t m = wpM E 57 68 rd (.cond (.tmp 62) c_runs_Cut_string_1_18 .skip) K t m := rfl

def c_runs_Cut_string_1_20 : MC := (.seq (.ops [⟨(some 61), .move (.tmp 13), none⟩,
    ⟨(some 62), .unOp .not 4 (.tmp 61), none⟩]) c_runs_Cut_string_1_19)
@[go_sem] theorem c_runs_Cut_string_1_20_at (rd : Option Nat) (K : Post3) (t : Fr) (m : Mem) : wpM E 57 68 rd c_runs_Cut_string_1_20 K t m = wpM E 57 68 rd (.seq (.ops [⟨(some 61), .move (.tmp 13), none⟩,
    ⟨(some 62), .unOp .not 4 (.tmp 61), none⟩]) c_runs_Cut_string_1_19) K t m := rfl

def c_runs_Cut_string_1_21 : MC := (.seq (.ops [⟨(some 57), .load 109 (.tmp 8), none⟩,
    ⟨(some 58), .call ⟨.value (.tmp 57), #[], #[]⟩, none⟩,
    ⟨(some 56), .move (.tmp 58), none⟩,
    ⟨(some 59), .extract (.tmp 56) 0, none⟩,
    ⟨(some 60), .extract (.tmp 56) 1, none⟩,
    ⟨(some 12), .alloc 77, none⟩,
    ⟨none, .store 77 (.tmp 12) (.tmp 59), none⟩,
    ⟨(some 13), .assign (.tmp 60), none⟩]) c_runs_Cut_string_1_20)
@[go_sem] theorem c_runs_Cut_string_1_21_at (rd : Option Nat) (K : Post3) (t : Fr) (m : Mem) : wpM E 57 68 rd c_runs_Cut_string_1_21 K t m = wpM E 57 68 rd (.seq (.ops [⟨(some 57), .load 109 (.tmp 8), none⟩,
    ⟨(some 58), .call ⟨.value (.tmp 57), #[], #[]⟩, none⟩,
    ⟨(some 56), .move (.tmp 58), none⟩,
    ⟨(some 59), .extract (.tmp 56) 0, none⟩,
    ⟨(some 60), .extract (.tmp 56) 1, none⟩,
    ⟨(some 12), .alloc 77, none⟩,
    ⟨none, .store 77 (.tmp 12) (.tmp 59), none⟩,
    ⟨(some 13), .assign (.tmp 60), none⟩]) c_runs_Cut_string_1_20) K t m := rfl

def c_runs_Cut_string_1_22 : MC := (.block 3 c_runs_Cut_string_1_21)
@[go_sem] theorem c_runs_Cut_string_1_22_at (rd : Option Nat) (K : Post3) (t : Fr) (m : Mem) : wpM E 57 68 rd c_runs_Cut_string_1_22 K t m = wpM E 57 68 rd (.block 3 c_runs_Cut_string_1_21) K t m := rfl

def c_runs_Cut_string_1_23 : MC := (.seq c_runs_Cut_string_1_17 c_runs_Cut_string_1_22)
@[go_sem] theorem c_runs_Cut_string_1_23_at (rd : Option Nat) (K : Post3) (t : Fr) (m : Mem) : wpM E 57 68 rd c_runs_Cut_string_1_23 K t m = wpM E 57 68 rd (.seq c_runs_Cut_string_1_17 c_runs_Cut_string_1_22) K t m := rfl

def c_runs_Cut_string_1_24 : MC := (.loop c_runs_Cut_string_1_23)
theorem c_runs_Cut_string_1_24_at (rd : Option Nat) (K : Post3) (t : Fr) (m : Mem) : wpM E 57 68 rd c_runs_Cut_string_1_24 K t m = wpM E 57 68 rd (.loop c_runs_Cut_string_1_23) K t m := rfl

def c_runs_Cut_string_1_25 : MC := (.block 2 c_runs_Cut_string_1_24)
theorem c_runs_Cut_string_1_25_at (rd : Option Nat) (K : Post3) (t : Fr) (m : Mem) : wpM E 57 68 rd c_runs_Cut_string_1_25 K t m = wpM E 57 68 rd (.block 2 c_runs_Cut_string_1_24) K t m := rfl

def c_runs_Cut_string_1_26 : MC := (.seq c_runs_Cut_string_1_15 c_runs_Cut_string_1_25)
@[go_sem] theorem c_runs_Cut_string_1_26_at (rd : Option Nat) (K : Post3) (t : Fr) (m : Mem) : wpM E 57 68 rd c_runs_Cut_string_1_26 K t m = wpM E 57 68 rd (.seq c_runs_Cut_string_1_15 c_runs_Cut_string_1_25) K t m := rfl

def c_runs_Cut_string_1_27 : MC := (.seq (.ops [⟨(some 17), .makeFunc (.func 62) #[] #[(.tmp 6), (.tmp 2), (.tmp 5)], none⟩,
    ⟨(some 8), .alloc 109, none⟩,
    ⟨none, .store 109 (.tmp 8) (.tmp 17), none⟩]) c_runs_Cut_string_1_26)
@[go_sem] theorem c_runs_Cut_string_1_27_at (rd : Option Nat) (K : Post3) (t : Fr) (m : Mem) : wpM E 57 68 rd c_runs_Cut_string_1_27 K t m = wpM E 57 68 rd (.seq (.ops [⟨(some 17), .makeFunc (.func 62) #[] #[(.tmp 6), (.tmp 2), (.tmp 5)], none⟩,
    ⟨(some 8), .alloc 109, none⟩,
    ⟨none, .store 109 (.tmp 8) (.tmp 17), none⟩]) c_runs_Cut_string_1_26) K t m := rfl

def c_runs_Cut_string_1_28 : MC := (.seq (.ops [⟨(some 16), .makeFunc (.func 60) #[] #[(.tmp 6), (.tmp 2)], none⟩,
    ⟨(some 7), .alloc 107, none⟩,
    ⟨none, .store 107 (.tmp 7) (.tmp 16), none⟩]) c_runs_Cut_string_1_27)
@[go_sem] theorem c_runs_Cut_string_1_28_at (rd : Option Nat) (K : Post3) (t : Fr) (m : Mem) : wpM E 57 68 rd c_runs_Cut_string_1_28 K t m = wpM E 57 68 rd (.seq (.ops [⟨(some 16), .makeFunc (.func 60) #[] #[(.tmp 6), (.tmp 2)], none⟩,
    ⟨(some 7), .alloc 107, none⟩,
    ⟨none, .store 107 (.tmp 7) (.tmp 16), none⟩]) c_runs_Cut_string_1_27) K t m := rfl

def c_runs_Cut_string_1_29 : MC := (.seq (.ops [⟨(some 14), .makeFunc (.func 59) #[] #[(.tmp 1)], none⟩,
    ⟨(some 15), .call ⟨.value (.func 58), #[(.tmp 14)], #[105]⟩, none⟩,
    ⟨(some 6), .alloc 103, none⟩,
    ⟨none, .store 103 (.tmp 6) (.tmp 15), none⟩]) c_runs_Cut_string_1_28)
@[go_sem] theorem c_runs_Cut_string_1_29_at (rd : Option Nat) (K : Post3) (t : Fr) (m : Mem) : wpM E 57 68 rd c_runs_Cut_string_1_29 K t m = wpM E 57 68 rd (.seq (.ops [⟨(some 14), .makeFunc (.func 59) #[] #[(.tmp 1)], none⟩,
    ⟨(some 15), .call ⟨.value (.func 58), #[(.tmp 14)], #[105]⟩, none⟩,
    ⟨(some 6), .alloc 103, none⟩,
    ⟨none, .store 103 (.tmp 6) (.tmp 15), none⟩]) c_runs_Cut_string_1_28) K t m := rfl

def c_runs_Cut_string_1_30 : MC := (.seq (.ops [⟨(some 5), .box 102 (.tmp 0), none⟩]) c_runs_Cut_string_1_29)
@[go_sem] theorem c_runs_Cut_string_1_30_at (rd : Option Nat) (K : Post3) (t : Fr) (m : Mem) : wpM E 57 68 rd c_runs_Cut_string_1_30 K t m = wpM E 57 68 rd (.seq (.ops [⟨(some 5), .box 102 (.tmp 0), none⟩]) c_runs_Cut_string_1_29) K t m := rfl

@[go_sem] theorem some57 : (E.fn 57).isSome = true := by kernel_rfl
set_option maxRecDepth 100000 in
theorem fn_runs_Cut_string_1 : FnIs E 57 68 [] c_runs_Cut_string_1_30 := ⟨by kernel_rfl, by kernel_rfl⟩

/-! sheaf/runs.Cut[string]$1$1 -/
abbrev F_runs_Cut_string_1_1 : FuncId := 59
def c_runs_Cut_string_1_1_0 : MC := (.seq (.ops [⟨(some 6), .fieldAddr 77 (.tmp 3) 0, none⟩,
    ⟨(some 7), .load 3 (.tmp 6), none⟩,
    ⟨(some 8), .fieldAddr 77 (.tmp 4) 0, none⟩,
    ⟨(some 9), .load 3 (.tmp 8), none⟩,
    ⟨(some 10), .binOp .lss 3 (.tmp 7) (.tmp 9) 3, none⟩,
    ⟨(some 11), .move (.tmp 10), none⟩,
    ⟨(some 12), .fieldAddr 77 (.tmp 3) 0, (some (some 11, false))⟩,
    ⟨(some 13), .load 3 (.tmp 12), (some (some 11, false))⟩,
    ⟨(some 14), .fieldAddr 77 (.tmp 4) 0, (some (some 11, false))⟩,
    ⟨(some 15), .load 3 (.tmp 14), (some (some 11, false))⟩,
    ⟨(some 16), .binOp .eql 3 (.tmp 13) (.tmp 15) 3, (some (some 11, false))⟩,
    ⟨(some 17), .move (.tmp 16), (some (some 11, false))⟩,
    ⟨(some 18), .load 49 (.tmp 2), (some (some 17, true))⟩,
    ⟨(some 19), .fieldAddr 77 (.tmp 3) 1, (some (some 17, true))⟩,
    ⟨(some 20), .load 9 (.tmp 19), (some (some 17, true))⟩,
    ⟨(some 21), .fieldAddr 77 (.tmp 4) 1, (some (some 17, true))⟩,
    ⟨(some 22), .load 9 (.tmp 21), (some (some 17, true))⟩,
    ⟨(some 23), .call ⟨.value (.tmp 18), #[(.tmp 20), (.tmp 22)], #[9, 9]⟩, (some (some 17, true))⟩,
    ⟨(some 24), .pick (.tmp 17) (.tmp 23) (.const (.bool false)), (some (some 11, false))⟩,
    ⟨(some 25), .pick (.tmp 11) (.const (.bool true)) (.tmp 24), none⟩,
    ⟨(some 5), .assign (.tmp 25), none⟩]) .ret)
@[go_sem] theorem c_runs_Cut_string_1_1_0_at (rd : Option Nat) (K : Post3) (t : Fr) (m : Mem) : wpM E 59 26 rd c_runs_Cut_string_1_1_0 K t m = wpM E 59 26 rd (.seq (.ops [⟨(some 6), .fieldAddr 77 (.tmp 3) 0, none⟩,
    ⟨(some 7), .load 3 (.tmp 6), none⟩,
    ⟨(some 8), .fieldAddr 77 (.tmp 4) 0, none⟩,
    ⟨(some 9), .load 3 (.tmp 8), none⟩,
    ⟨(some 10), .binOp .lss 3 (.tmp 7) (.tmp 9) 3, none⟩,
    ⟨(some 11), .move (.tmp 10), none⟩,
    ⟨(some 12), .fieldAddr 77 (.tmp 3) 0, (some (some 11, false))⟩,
    ⟨(some 13), .load 3 (.tmp 12), (some (some 11, false))⟩,
    ⟨(some 14), .fieldAddr 77 (.tmp 4) 0, (some (some 11, false))⟩,
    ⟨(some 15), .load 3 (.tmp 14), (some (some 11, false))⟩,
    ⟨(some 16), .binOp .eql 3 (.tmp 13) (.tmp 15) 3, (some (some 11, false))⟩,
    ⟨(some 17), .move (.tmp 16), (some (some 11, false))⟩,
    ⟨(some 18), .load 49 (.tmp 2), (some (some 17, true))⟩,
    ⟨(some 19), .fieldAddr 77 (.tmp 3) 1, (some (some 17, true))⟩,
    ⟨(some 20), .load 9 (.tmp 19), (some (some 17, true))⟩,
    ⟨(some 21), .fieldAddr 77 (.tmp 4) 1, (some (some 17, true))⟩,
    ⟨(some 22), .load 9 (.tmp 21), (some (some 17, true))⟩,
    ⟨(some 23), .call ⟨.value (.tmp 18), #[(.tmp 20), (.tmp 22)], #[9, 9]⟩, (some (some 17, true))⟩,
    ⟨(some 24), .pick (.tmp 17) (.tmp 23) (.const (.bool false)), (some (some 11, false))⟩,
    ⟨(some 25), .pick (.tmp 11) (.const (.bool true)) (.tmp 24), none⟩,
    ⟨(some 5), .assign (.tmp 25), none⟩]) .ret) K t m := rfl

def c_runs_Cut_string_1_1_1 : MC := (.seq (.ops [⟨(some 3), .box 77 (.tmp 0), none⟩,
    ⟨(some 4), .box 77 (.tmp 1), none⟩,
    ⟨(some 5), .assign (.const (.bool false)), none⟩]) c_runs_Cut_string_1_1_0)
@[go_sem] theorem c_runs_Cut_string_1_1_1_at (rd : Option Nat) (K : Post3) (t : Fr) (m : Mem) : wpM E 59 26 rd c_runs_Cut_string_1_1_1 K t m = wpM E 59 26 rd (.seq (.ops [⟨(some 3), .box 77 (.tmp 0), none⟩,
    ⟨(some 4), .box 77 (.tmp 1), none⟩,
    ⟨(some 5), .assign (.const (.bool false)), none⟩]) c_runs_Cut_string_1_1_0) K t m := rfl

@[go_sem] theorem some59 : (E.fn 59).isSome = true := by kernel_rfl
set_option maxRecDepth 100000 in
theorem fn_runs_Cut_string_1_1 : FnIs E 59 26 [.tmp 5] c_runs_Cut_string_1_1_1 := ⟨by kernel_rfl, by kernel_rfl⟩

/-! sheaf/runs.Cut[string]$1$2 -/
abbrev F_runs_Cut_string_1_2 : FuncId := 60
def c_runs_Cut_string_1_2_0 : MC := (.seq (.ops [⟨(some 6), .load 103 (.tmp 2), none⟩,
    ⟨(some 7), .move (.tmp 0), none⟩,
    ⟨(some 8), .move (.tmp 1), none⟩,
    ⟨(some 9), .build 77 #[(0, (.tmp 7)), (1, (.tmp 8))], none⟩,
    ⟨(some 10), .call ⟨.value (.func 61), #[(.tmp 6), (.tmp 9)], #[103, 77]⟩, none⟩]) (.ops [⟨(some 11), .load 57 (.tmp 3), none⟩,
    ⟨(some 12), .call ⟨.value (.func 40), #[(.tmp 11), (.const (.int .i64 1))], #[57, 3]⟩, none⟩]))
@[go_sem] theorem c_runs_Cut_string_1_2_0_at (rd : Option Nat) (K : Post3) (t : Fr) (m : Mem) : wpM E 60 13 rd c_runs_Cut_string_1_2_0 K t m = wpM E 60 13 rd (.seq (.ops [⟨(some 6), .load 103 (.tmp 2), none⟩,
    ⟨(some 7), .move (.tmp 0), none⟩,
    ⟨(some 8), .move (.tmp 1), none⟩,
    ⟨(some 9), .build 77 #[(0, (.tmp 7)), (1, (.tmp 8))], none⟩,
    ⟨(some 10), .call ⟨.value (.func 61), #[(.tmp 6), (.tmp 9)], #[103, 77]⟩, none⟩]) (.ops [⟨(some 11), .load 57 (.tmp 3), none⟩,
    ⟨(some 12), .call ⟨.value (.func 40), #[(.tmp 11), (.const (.int .i64 1))], #[57, 3]⟩, none⟩])) K t m := rfl

@[go_sem] theorem some60 : (E.fn 60).isSome = true := by kernel_rfl
set_option maxRecDepth 100000 in
theorem fn_runs_Cut_string_1_2 : FnIs E 60 13 [] c_runs_Cut_string_1_2_0 := ⟨by kernel_rfl, by kernel_rfl⟩

/-! sheaf/runs.Cut[string]$1$3 -/
abbrev F_runs_Cut_string_1_3 : FuncId := 62
def c_runs_Cut_string_1_3_0 : MC := (.seq (.draw [(0, [], ⟨(some 14), .load 77 (.tmp 5), none⟩),
    (1, [], ⟨(some 15), .load 102 (.tmp 2), none⟩),
    (2, [], ⟨(some 16), .load 77 (.tmp 5), none⟩),
    (3, [0], ⟨(some 17), .call ⟨.value (.tmp 15), #[(.tmp 16)], #[77]⟩, none⟩),
    (4, [], ⟨none, .store 77 (.tmp 3) (.tmp 14), none⟩),
    (5, [], ⟨(some 4), .assign (.tmp 17), none⟩)]) .ret)
@[go_sem] theorem c_runs_Cut_string_1_3_0_at (rd : Option Nat) (K : Post3) (t : Fr) (m : Mem) : wpM E 62 18 rd c_runs_Cut_string_1_3_0 K t m = wpM E 62 18 rd (.seq (.draw [(0, [], ⟨(some 14), .load 77 (.tmp 5), none⟩),
    (1, [], ⟨(some 15), .load 102 (.tmp 2), none⟩),
    (2, [], ⟨(some 16), .load 77 (.tmp 5), none⟩),
    (3, [0], ⟨(some 17), .call ⟨.value (.tmp 15), #[(.tmp 16)], #[77]⟩, none⟩),
    (4, [], ⟨none, .store 77 (.tmp 3) (.tmp 14), none⟩),
    (5, [], ⟨(some 4), .assign (.tmp 17), none⟩)]) .ret) K t m := rfl

def c_runs_Cut_string_1_3_1 : MC := (.seq (.ops [⟨(some 12), .load 57 (.tmp 1), none⟩,
    ⟨(some 13), .call ⟨.value (.func 40), #[(.tmp 12), (.const (.int .i64 (-1)))], #[57, 3]⟩, none⟩]) c_runs_Cut_string_1_3_0)
@[go_sem] theorem c_runs_Cut_string_1_3_1_at (rd : Option Nat) (K : Post3) (t : Fr) (m : Mem) : wpM E 62 18 rd c_runs_Cut_string_1_3_1 K t m = wpM E 62 18 rd (.seq (.ops [⟨(some 12), .load 57 (.tmp 1), none⟩,
    ⟨(some 13), .call ⟨.value (.func 40), #[(.tmp 12), (.const (.int .i64 (-1)))], #[57, 3]⟩, none⟩]) c_runs_Cut_string_1_3_0) K t m := rfl

def c_runs_Cut_string_1_3_2 : MC := (.seq (.ops [⟨(some 8), .load 103 (.tmp 0), none⟩,
    ⟨(some 9), .call ⟨.value (.func 63), #[(.tmp 8)], #[103]⟩, none⟩,
    ⟨(some 7), .move (.tmp 9), none⟩,
    ⟨(some 10), .extract (.tmp 7) 0, none⟩,
    ⟨(some 11), .extract (.tmp 7) 1, none⟩,
    ⟨(some 5), .alloc 77, none⟩,
    ⟨none, .store 77 (.tmp 5) (.tmp 10), none⟩,
    ⟨(some 6), .assign (.tmp 11), none⟩]) c_runs_Cut_string_1_3_1)
@[go_sem] theorem c_runs_Cut_string_1_3_2_at (rd : Option Nat) (K : Post3) (t : Fr) (m : Mem) : wpM E 62 18 rd c_runs_Cut_string_1_3_2 K t m = wpM E 62 18 rd (.seq (.ops [⟨(some 8), .load 103 (.tmp 0), none⟩,
    ⟨(some 9), .call ⟨.value (.func 63), #[(.tmp 8)], #[103]⟩, none⟩,
    ⟨(some 7), .move (.tmp 9), none⟩,
    ⟨(some 10), .extract (.tmp 7) 0, none⟩,
    ⟨(some 11), .extract (.tmp 7) 1, none⟩,
    ⟨(some 5), .alloc 77, none⟩,
    ⟨none, .store 77 (.tmp 5) (.tmp 10), none⟩,
    ⟨(some 6), .assign (.tmp 11), none⟩]) c_runs_Cut_string_1_3_1) K t m := rfl

def c_runs_Cut_string_1_3_3 : MC := (.seq (.ops [⟨(some 3), .alloc 77, none⟩,
    ⟨(some 4), .assign (.const (.bool false)), none⟩]) c_runs_Cut_string_1_3_2)
@[go_sem] theorem c_runs_Cut_string_1_3_3_at (rd : Option Nat) (K : Post3) (t : Fr) (m : Mem) : wpM E 62 18 rd c_runs_Cut_string_1_3_3 K t m = wpM E 62 18 rd (.seq (.ops [⟨(some 3), .alloc 77, none⟩,
    ⟨(some 4), .assign (.const (.bool false)), none⟩]) c_runs_Cut_string_1_3_2) K t m := rfl

@[go_sem] theorem some62 : (E.fn 62).isSome = true := by kernel_rfl
set_option maxRecDepth 100000 in
theorem fn_runs_Cut_string_1_3 : FnIs E 62 18 [.cell 3 77, .tmp 4] c_runs_Cut_string_1_3_3 := ⟨by kernel_rfl, by kernel_rfl⟩

/-! slices.Values[[]string,string] -/
abbrev F_slices_Values_Sstring_string : FuncId := 65
def c_slices_Values_Sstring_string_0 : MC := (.seq (.ops [⟨(some 3), .makeFunc (.func 73) #[] #[(.tmp 1)], none⟩,
    ⟨(some 2), .assign (.tmp 3), none⟩]) .ret)
@[go_sem] theorem c_slices_Values_Sstring_string_0_at (rd : Option Nat) (K : Post3) (t : Fr) (m : Mem) : wpM E 65 4 rd c_slices_Values_Sstring_string_0 K t m = wpM E 65 4 rd (.seq (.ops [⟨(some 3), .makeFunc (.func 73) #[] #[(.tmp 1)], none⟩,
    ⟨(some 2), .assign (.tmp 3), none⟩]) .ret) K t m := rfl

def c_slices_Values_Sstring_string_1 : MC := (.seq (.ops [⟨(some 1), .box 46 (.tmp 0), none⟩,
    ⟨(some 2), .assign (.const .nilFunc), none⟩]) c_slices_Values_Sstring_string_0)
@[go_sem] theorem c_slices_Values_Sstring_string_1_at (rd : Option Nat) (K : Post3) (t : Fr) (m : Mem) : wpM E 65 4 rd c_slices_Values_Sstring_string_1 K t m = wpM E 65 4 rd (.seq (.ops [⟨(some 1), .box 46 (.tmp 0), none⟩,
    ⟨(some 2), .assign (.const .nilFunc), none⟩]) c_slices_Values_Sstring_string_0) K t m := rfl

@[go_sem] theorem some65 : (E.fn 65).isSome = true := by kernel_rfl
set_option maxRecDepth 100000 in
theorem fn_slices_Values_Sstring_string : FnIs E 65 4 [.tmp 2] c_slices_Values_Sstring_string_1 := ⟨by kernel_rfl, by kernel_rfl⟩

/-! slices.Values[[]int,int] -/
abbrev F_slices_Values_Sint_int : FuncId := 66
def c_slices_Values_Sint_int_0 : MC := (.seq (.ops [⟨(some 3), .makeFunc (.func 74) #[] #[(.tmp 1)], none⟩,
    ⟨(some 2), .assign (.tmp 3), none⟩]) .ret)
@[go_sem] theorem c_slices_Values_Sint_int_0_at (rd : Option Nat) (K : Post3) (t : Fr) (m : Mem) : wpM E 66 4 rd c_slices_Values_Sint_int_0 K t m = wpM E 66 4 rd (.seq (.ops [⟨(some 3), .makeFunc (.func 74) #[] #[(.tmp 1)], none⟩,
    ⟨(some 2), .assign (.tmp 3), none⟩]) .ret) K t m := rfl

def c_slices_Values_Sint_int_1 : MC := (.seq (.ops [⟨(some 1), .box 25 (.tmp 0), none⟩,
    ⟨(some 2), .assign (.const .nilFunc), none⟩]) c_slices_Values_Sint_int_0)
@[go_sem] theorem c_slices_Values_Sint_int_1_at (rd : Option Nat) (K : Post3) (t : Fr) (m : Mem) : wpM E 66 4 rd c_slices_Values_Sint_int_1 K t m = wpM E 66 4 rd (.seq (.ops [⟨(some 1), .box 25 (.tmp 0), none⟩,
    ⟨(some 2), .assign (.const .nilFunc), none⟩]) c_slices_Values_Sint_int_0) K t m := rfl

@[go_sem] theorem some66 : (E.fn 66).isSome = true := by kernel_rfl
set_option maxRecDepth 100000 in
theorem fn_slices_Values_Sint_int : FnIs E 66 4 [.tmp 2] c_slices_Values_Sint_int_1 := ⟨by kernel_rfl, by kernel_rfl⟩

/-! slices.AppendSeq[[]sheaf/runs.Item[int],sheaf/runs.Item[int]] -/
abbrev F_slices_AppendSeq_Sruns_Item_int_runs_Item_int : FuncId := 69
def c_slices_AppendSeq_Sruns_Item_int_runs_Item_int_0 : MC := (.block 1 (.ops [⟨(some 8), .load 60 (.tmp 2), none⟩,
    ⟨(some 9), .load 64 (.tmp 5), none⟩,
    ⟨(some 10), .buildSlice 60 1 #[(0, (.tmp 9))], none⟩,
    ⟨(some 11), .call ⟨.builtin .append, #[(.tmp 8), (.tmp 10)], #[60, 60]⟩, none⟩,
    ⟨none, .store 60 (.tmp 2) (.tmp 11), none⟩]))
@[go_sem] theorem c_slices_AppendSeq_Sruns_Item_int_runs_Item_int_0_at (rd : Option Nat) (K : Post3) (t : Fr) (m : Mem) : wpM E 69 13 rd c_slices_AppendSeq_Sruns_Item_int_runs_Item_int_0 K t m = wpM E 69 13 rd (.block 1 (.ops [⟨(some 8), .load 60 (.tmp 2), none⟩,
    ⟨(some 9), .load 64 (.tmp 5), none⟩,
    ⟨(some 10), .buildSlice 60 1 #[(0, (.tmp 9))], none⟩,
    ⟨(some 11), .call ⟨.builtin .append, #[(.tmp 8), (.tmp 10)], #[60, 60]⟩, none⟩,
    ⟨none, .store 60 (.tmp 2) (.tmp 11), none⟩])) K t m := rfl

theorem asg_slices_AppendSeq_Sruns_Item_int_runs_Item_int_0 : compile E 69 13 (asgAt E 69 0) = some (.ops [⟨(some 5), .alloc 64, none⟩,
    ⟨none, .store 64 (.tmp 5) (.tmp 7), none⟩]) := by kernel_rfl

theorem body_slices_AppendSeq_Sruns_Item_int_runs_Item_int_0 : compile E 69 13 (bodyAt E 69 0) = some c_slices_AppendSeq_Sruns_Item_int_runs_Item_int_0 := by kernel_rfl

def c_slices_AppendSeq_Sruns_Item_int_runs_Item_int_1 : MC := (.range (.tmp 6) #[7] (asgAt E 69 0) (bodyAt E 69 0))
theorem c_slices_AppendSeq_Sruns_Item_int_runs_Item_int_1_at (rd : Option Nat) (K : Post3) (t : Fr) (m : Mem) : wpM E 69 13 rd c_slices_AppendSeq_Sruns_Item_int_runs_Item_int_1 K t m = wpM E 69 13 rd (.range (.tmp 6) #[7] (asgAt E 69 0) (bodyAt E 69 0)) K t m := rfl

def c_slices_AppendSeq_Sruns_Item_int_runs_Item_int_2 : MC := (.block 0 c_slices_AppendSeq_Sruns_Item_int_runs_Item_int_1)
@[go_sem] theorem c_slices_AppendSeq_Sruns_Item_int_runs_Item_int_2_at (rd : Option Nat) (K : Post3) (t : Fr) (m : Mem) : wpM E 69 13 rd c_slices_AppendSeq_Sruns_Item_int_runs_Item_int_2 K t m = wpM E 69 13 rd (.block 0 c_slices_AppendSeq_Sruns_Item_int_runs_Item_int_1) K t m := rfl

def c_slices_AppendSeq_Sruns_Item_int_runs_Item_int_3 : MC := (.seq (.ops [⟨(some 6), .move (.tmp 1), none⟩]) c_slices_AppendSeq_Sruns_Item_int_runs_Item_int_2)
@[go_sem] theorem c_slices_AppendSeq_Sruns_Item_int_runs_Item_int_3_at (rd : Option Nat) (K : Post3) (t : Fr) (m : Mem) : wpM E 69 13 rd c_slices_AppendSeq_Sruns_Item_int_runs_Item_int_3 K t m = wpM E 69 13 rd (.seq (.ops [⟨(some 6), .move (.tmp 1), none⟩]) c_slices_AppendSeq_Sruns_Item_int_runs_Item_int_2) K t m := rfl

def c_slices_AppendSeq_Sruns_Item_int_runs_Item_int_4 : MC := (.seq (.ops [⟨(some 12), .load 60 (.tmp 2), none⟩,
    ⟨(some 4), .assign (.tmp 12), none⟩]) .ret)
@[go_sem] theorem c_slices_AppendSeq_Sruns_Item_int_runs_Item_int_4_at (rd : Option Nat) (K : Post3) (t : Fr) (m : Mem) : wpM E 69 13 rd c_slices_AppendSeq_Sruns_Item_int_runs_Item_int_4 K t m = wpM E 69 13 rd (.seq (.ops [⟨(some 12), .load 60 (.tmp 2), none⟩,
    ⟨(some 4), .assign (.tmp 12), none⟩]) .ret) K t m := rfl

def c_slices_AppendSeq_Sruns_Item_int_runs_Item_int_5 : MC := (.seq c_slices_AppendSeq_Sruns_Item_int_runs_Item_int_3 c_slices_AppendSeq_Sruns_Item_int_runs_Item_int_4)
@[go_sem] theorem c_slices_AppendSeq_Sruns_Item_int_runs_Item_int_5_at (rd : Option Nat) (K : Post3) (t : Fr) (m : Mem) : wpM E 69 13 rd c_slices_AppendSeq_Sruns_Item_int_runs_Item_int_5 K t m = wpM E 69 13 rd (.seq c_slices_AppendSeq_Sruns_Item_int_runs_Item_int_3 c_slices_AppendSeq_Sruns_Item_int_runs_Item_int_4) K t m := rfl

def c_slices_AppendSeq_Sruns_Item_int_runs_Item_int_6 : MC := (.seq (.ops [⟨(some 2), .box 60 (.tmp 0), none⟩,
    ⟨(some 4), .assign (.const (.slice none 0 0)), none⟩]) c_slices_AppendSeq_Sruns_Item_int_runs_Item_int_5)
@[go_sem] theorem c_slices_AppendSeq_Sruns_Item_int_runs_Item_int_6_at (rd : Option Nat) (K : Post3) (t : Fr) (m : Mem) : wpM E 69 13 rd c_slices_AppendSeq_Sruns_Item_int_runs_Item_int_6 K t m = wpM E 69 13 rd (.seq (.ops [⟨(some 2), .box 60 (.tmp 0), none⟩,
    ⟨(some 4), .assign (.const (.slice none 0 0)), none⟩]) c_slices_AppendSeq_Sruns_Item_int_runs_Item_int_5) K t m := rfl

@[go_sem] theorem some69 : (E.fn 69).isSome = true := by kernel_rfl
set_option maxRecDepth 100000 in
theorem fn_slices_AppendSeq_Sruns_Item_int_runs_Item_int : FnIs E 69 13 [.tmp 4] c_slices_AppendSeq_Sruns_Item_int_runs_Item_int_6 := ⟨by kernel_rfl, by kernel_rfl⟩

/-! slices.AppendSeq[[]sheaf/runs.Item[string],sheaf/runs.Item[string]] -/
abbrev F_slices_AppendSeq_Sruns_Item_string_runs_Item_string : FuncId := 70
def c_slices_AppendSeq_Sruns_Item_string_runs_Item_string_0 : MC := (.block 1 (.ops [⟨(some 8), .load 74 (.tmp 2), none⟩,
    ⟨(some 9), .load 77 (.tmp 5), none⟩,
    ⟨(some 10), .buildSlice 74 1 #[(0, (.tmp 9))], none⟩,
    ⟨(some 11), .call ⟨.builtin .append, #[(.tmp 8), (.tmp 10)], #[74, 74]⟩, none⟩,
    ⟨none, .store 74 (.tmp 2) (.tmp 11), none⟩]))
@[go_sem] theorem c_slices_AppendSeq_Sruns_Item_string_runs_Item_string_0_at (rd : Option Nat) (K : Post3) (t : Fr) (m : Mem) : wpM E 70 13 rd c_slices_AppendSeq_Sruns_Item_string_runs_Item_string_0 K t m = wpM E 70 13 rd (.block 1 (.ops [⟨(some 8), .load 74 (.tmp 2), none⟩,
    ⟨(some 9), .load 77 (.tmp 5), none⟩,
    ⟨(some 10), .buildSlice 74 1 #[(0, (.tmp 9))], none⟩,
    ⟨(some 11), .call ⟨.builtin .append, #[(.tmp 8), (.tmp 10)], #[74, 74]⟩, none⟩,
    ⟨none, .store 74 (.tmp 2) (.tmp 11), none⟩])) K t m := rfl

theorem asg_slices_AppendSeq_Sruns_Item_string_runs_Item_string_0 : compile E 70 13 (asgAt E 70 0) = some (.ops [⟨(some 5), .alloc 77, none⟩,
    ⟨none, .store 77 (.tmp 5) (.tmp 7), none⟩]) := by kernel_rfl

theorem body_slices_AppendSeq_Sruns_Item_string_runs_Item_string_0 : compile E 70 13 (bodyAt E 70 0) = some c_slices_AppendSeq_Sruns_Item_string_runs_Item_string_0 := by kernel_rfl

def c_slices_AppendSeq_Sruns_Item_string_runs_Item_string_1 : MC := (.range (.tmp 6) #[7] (asgAt E 70 0) (bodyAt E 70 0))
theorem c_slices_AppendSeq_Sruns_Item_string_runs_Item_string_1_at (rd : Option Nat) (K : Post3) (t : Fr) (m : Mem) : wpM E 70 13 rd c_slices_AppendSeq_Sruns_Item_string_runs_Item_string_1 K t m = wpM E 70 13 rd (.range (.tmp 6) #[7] (asgAt E 70 0) (bodyAt E 70 0)) K t m := rfl

def c_slices_AppendSeq_Sruns_Item_string_runs_Item_string_2 : MC := (.block 0 c_slices_AppendSeq_Sruns_Item_string_runs_Item_string_1)
@[go_sem] theorem c_slices_AppendSeq_Sruns_Item_string_runs_Item_string_2_at (rd : Option Nat) (K : Post3) (t : Fr) (m : Mem) : wpM E 70 13 rd c_slices_AppendSeq_Sruns_Item_string_runs_Item_string_2 K t m = wpM E 70 13 rd (.block 0 c_slices_AppendSeq_Sruns_Item_string_runs_Item_string_1) K t m := rfl

def c_slices_AppendSeq_Sruns_Item_string_runs_Item_string_3 : MC := (.seq (.ops [⟨(some 6), .move (.tmp 1), none⟩]) c_slices_AppendSeq_Sruns_Item_string_runs_Item_string_2)
@[go_sem] theorem c_slices_AppendSeq_Sruns_Item_string_runs_Item_string_3_at (rd : Option Nat) (K : Post3) (t : Fr) (m : Mem) : wpM E 70 13 rd c_slices_AppendSeq_Sruns_Item_string_runs_Item_string_3 K t m = wpM E 70 13 rd (.seq (.ops [⟨(some 6), .move (.tmp 1), none⟩]) c_slices_AppendSeq_Sruns_Item_string_runs_Item_string_2) K t m := rfl

def c_slices_AppendSeq_Sruns_Item_string_runs_Item_string_4 : MC := (.seq (.ops [⟨(some 12), .load 74 (.tmp 2), none⟩,
    ⟨(some 4), .assign (.tmp 12), none⟩]) .ret)
@[go_sem] theorem c_slices_AppendSeq_Sruns_Item_string_runs_Item_string_4_at (rd : Option Nat) (K : Post3) (t : Fr) (m : Mem) : wpM E 70 13 rd c_slices_AppendSeq_Sruns_Item_string_runs_Item_string_4 K t m = wpM E 70 13 rd (.seq (.ops [⟨(some 12), .load 74 (.tmp 2), none⟩,
    ⟨(some 4), .assign (.tmp 12), none⟩]) .ret) K t m := rfl

def c_slices_AppendSeq_Sruns_Item_string_runs_Item_string_5 : MC := (.seq c_slices_AppendSeq_Sruns_Item_string_runs_Item_string_3 c_slices_AppendSeq_Sruns_Item_string_runs_Item_string_4)
@[go_sem] theorem c_slices_AppendSeq_Sruns_Item_string_runs_Item_string_5_at (rd : Option Nat) (K : Post3) (t : Fr) (m : Mem) : wpM E 70 13 rd c_slices_AppendSeq_Sruns_Item_string_runs_Item_string_5 K t m = wpM E 70 13 rd (.seq c_slices_AppendSeq_Sruns_Item_string_runs_Item_string_3 c_slices_AppendSeq_Sruns_Item_string_runs_Item_string_4) K t m := rfl

def c_slices_AppendSeq_Sruns_Item_string_runs_Item_string_6 : MC := (.seq (.ops [⟨(some 2), .box 74 (.tmp 0), none⟩,
    ⟨(some 4), .assign (.const (.slice none 0 0)), none⟩]) c_slices_AppendSeq_Sruns_Item_string_runs_Item_string_5)
@[go_sem] theorem c_slices_AppendSeq_Sruns_Item_string_runs_Item_string_6_at (rd : Option Nat) (K : Post3) (t : Fr) (m : Mem) : wpM E 70 13 rd c_slices_AppendSeq_Sruns_Item_string_runs_Item_string_6 K t m = wpM E 70 13 rd (.seq (.ops [⟨(some 2), .box 74 (.tmp 0), none⟩,
    ⟨(some 4), .assign (.const (.slice none 0 0)), none⟩]) c_slices_AppendSeq_Sruns_Item_string_runs_Item_string_5) K t m := rfl

@[go_sem] theorem some70 : (E.fn 70).isSome = true := by kernel_rfl
set_option maxRecDepth 100000 in
theorem fn_slices_AppendSeq_Sruns_Item_string_runs_Item_string : FnIs E 70 13 [.tmp 4] c_slices_AppendSeq_Sruns_Item_string_runs_Item_string_6 := ⟨by kernel_rfl, by kernel_rfl⟩

/-! slices.Values[[]string,string]$1 -/
abbrev F_slices_Values_Sstring_string_1 : FuncId := 73
def c_slices_Values_Sstring_string_1_0 : MC := (.cond (.tmp 8) .skip (.exit 0))
@[go_sem] theorem c_slices_Values_Sstring_string_1_0_at (rd : Option Nat) (K : Post3) (t : Fr) (m : Mem) : wpM E 73 16 rd c_slices_Values_Sstring_string_1_0 K t m = wpM E 73 16 rd (.cond (.tmp 8) .skip (.exit 0)) K t m := rfl

def c_slices_Values_Sstring_string_1_1 : MC := (.cond (.tmp 14) .ret .skip)
@[go_sem] theorem c_slices_Values_Sstring_string_1_1_at (rd : Option Nat) (K : Post3) (t : Fr) (m : Mem) : wpM E 73 16 rd c_slices_Values_Sstring_string_1_1 K t m = wpM E 73 16 rd (.cond (.tmp 14) .ret .skip) K t m := rfl

def c_slices_Values_Sstring_string_1_2 : MC := (.seq (.ops [⟨(some 11), .move (.tmp 0), none⟩,
    ⟨(some 12), .move (.tmp 4), none⟩,
    ⟨(some 13), .call ⟨.value (.tmp 11), #[(.tmp 12)], #[9]⟩, none⟩,
    ⟨(some 14), .unOp .not 4 (.tmp 13), none⟩]) c_slices_Values_Sstring_string_1_1)
@[go_sem] theorem c_slices_Values_Sstring_string_1_2_at (rd : Option Nat) (K : Post3) (t : Fr) (m : Mem) : wpM E 73 16 rd c_slices_Values_Sstring_string_1_2 K t m = wpM E 73 16 rd (.seq (.ops [⟨(some 11), .move (.tmp 0), none⟩,
    ⟨(some 12), .move (.tmp 4), none⟩,
    ⟨(some 13), .call ⟨.value (.tmp 11), #[(.tmp 12)], #[9]⟩, none⟩,
    ⟨(some 14), .unOp .not 4 (.tmp 13), none⟩]) c_slices_Values_Sstring_string_1_1) K t m := rfl

def c_slices_Values_Sstring_string_1_3 : MC := (.seq (.ops [⟨(some 9), .indexAddr 46 (.tmp 5) (.tmp 7), none⟩,
    ⟨(some 10), .load 9 (.tmp 9), none⟩,
    ⟨(some 4), .assign (.tmp 10), none⟩]) c_slices_Values_Sstring_string_1_2)
@[go_sem] theorem c_slices_Values_Sstring_string_1_3_at (rd : Option Nat) (K : Post3) (t : Fr) (m : Mem) : wpM E 73 16 rd c_slices_Values_Sstring_string_1_3 K t m = wpM E 73 16 rd (.seq (.ops [⟨(some 9), .indexAddr 46 (.tmp 5) (.tmp 7), none⟩,
    ⟨(some 10), .load 9 (.tmp 9), none⟩,
    ⟨(some 4), .assign (.tmp 10), none⟩]) c_slices_Values_Sstring_string_1_2) K t m := rfl

def c_slices_Values_Sstring_string_1_4 : MC := (.block 1 c_slices_Values_Sstring_string_1_3)
@[go_sem] theorem c_slices_Values_Sstring_string_1_4_at (rd : Option Nat) (K : Post3) (t : Fr) (m : Mem) : wpM E 73 16 rd c_slices_Values_Sstring_string_1_4 K t m = wpM E 73 16 rd (.block 1 c_slices_Values_Sstring_string_1_3) K t m := rfl

def c_slices_Values_Sstring_string_1_5 : MC := (.seq c_slices_Values_Sstring_string_1_4 (.ops [⟨(some 15), .binOp .add 3 (.tmp 7) (.const (.int .i64 1)) 3, none⟩,
    ⟨(some 7), .move (.tmp 15), none⟩]))
@[go_sem] theorem c_slices_Values_Sstring_string_1_5_at (rd : Option Nat) (K : Post3) (t : Fr) (m : Mem) : wpM E 73 16 rd c_slices_Values_Sstring_string_1_5 K t m = wpM E 73 16 rd (.seq c_slices_Values_Sstring_string_1_4 (.ops [⟨(some 15), .binOp .add 3 (.tmp 7) (.const (.int .i64 1)) 3, none⟩,
    ⟨(some 7), .move (.tmp 15), none⟩])) K t m := rfl

def c_slices_Values_Sstring_string_1_6 : MC := (.seq c_slices_Values_Sstring_string_1_0 c_slices_Values_Sstring_string_1_5)
@[go_sem] theorem c_slices_Values_Sstring_string_1_6_at (rd : Option Nat) (K : Post3) (t : Fr) (m : Mem) : wpM E 73 16 rd c_slices_Values_Sstring_string_1_6 K t m = wpM E 73 16 rd (.seq c_slices_Values_Sstring_string_1_0 c_slices_Values_Sstring_string_1_5) K t m := rfl

def c_slices_Values_Sstring_string_1_7 : MC := (.seq (.ops [⟨(some 8), .binOp .lss 3 (.tmp 7) (.tmp 6) 3, none⟩]) c_slices_Values_Sstring_string_1_6)
@[go_sem] theorem c_slices_Values_Sstring_string_1_7_at (rd : Option Nat) (K : Post3) (t : Fr) (m : Mem) : wpM E 73 16 rd c_slices_Values_Sstring_string_1_7 K t m = wpM E 73 16 rd (.seq (.ops [⟨(some 8), .binOp .lss 3 (.tmp 7) (.tmp 6) 3, none⟩]) c_slices_Values_Sstring_string_1_6) K t m := rfl

def c_slices_Values_Sstring_string_1_8 : MC := (.loop c_slices_Values_Sstring_string_1_7)
theorem c_slices_Values_Sstring_string_1_8_at (rd : Option Nat) (K : Post3) (t : Fr) (m : Mem) : wpM E 73 16 rd c_slices_Values_Sstring_string_1_8 K t m = wpM E 73 16 rd (.loop c_slices_Values_Sstring_string_1_7) K t m := rfl

def c_slices_Values_Sstring_string_1_9 : MC := (.block 0 c_slices_Values_Sstring_string_1_8)
theorem c_slices_Values_Sstring_string_1_9_at (rd : Option Nat) (K : Post3) (t : Fr) (m : Mem) : wpM E 73 16 rd c_slices_Values_Sstring_string_1_9 K t m = wpM E 73 16 rd (.block 0 c_slices_Values_Sstring_string_1_8) K t m := rfl

def c_slices_Values_Sstring_string_1_10 : MC := (.seq (.ops [⟨(some 5), .load 46 (.tmp 1), none⟩,
    ⟨(some 6), .call ⟨.builtin .len, #[(.tmp 5)], #[46]⟩, none⟩,
    ⟨(some 7), .move (.const (.int .i64 0)), none⟩]) c_slices_Values_Sstring_string_1_9)
@[go_sem] theorem c_slices_Values_Sstring_string_1_10_at (rd : Option Nat) (K : Post3) (t : Fr) (m : Mem) : wpM E 73 16 rd c_slices_Values_Sstring_string_1_10 K t m = wpM E 73 16 rd (.seq (.ops [⟨(some 5), .load 46 (.tmp 1), none⟩,
    ⟨(some 6), .call ⟨.builtin .len, #[(.tmp 5)], #[46]⟩, none⟩,
    ⟨(some 7), .move (.const (.int .i64 0)), none⟩]) c_slices_Values_Sstring_string_1_9) K t m := rfl

@[go_sem] theorem some73 : (E.fn 73).isSome = true := by kernel_rfl
set_option maxRecDepth 100000 in
theorem fn_slices_Values_Sstring_string_1 : FnIs E 73 16 [] c_slices_Values_Sstring_string_1_10 := ⟨by kernel_rfl, by kernel_rfl⟩

/-! slices.Values[[]int,int]$1 -/
abbrev F_slices_Values_Sint_int_1 : FuncId := 74
def c_slices_Values_Sint_int_1_0 : MC := (.cond (.tmp 8) .skip (.exit 0))
@[go_sem] theorem c_slices_Values_Sint_int_1_0_at (rd : Option Nat) (K : Post3) (t : Fr) (m : Mem) : wpM E 74 16 rd c_slices_Values_Sint_int_1_0 K t m = wpM E 74 16 rd (.cond (.tmp 8) .skip (.exit 0)) K t m := rfl

def c_slices_Values_Sint_int_1_1 : MC := (.cond (.tmp 14) .ret .skip)
@[go_sem] theorem c_slices_Values_Sint_int_1_1_at (rd : Option Nat) (K : Post3) (t : Fr) (m : Mem) : wpM E 74 16 rd c_slices_Values_Sint_int_1_1 K t m = wpM E 74 16 rd (.cond (.tmp 14) .ret .skip) K t m := rfl

def c_slices_Values_Sint_int_1_2 : MC := (.seq (.ops [⟨(some 11), .move (.tmp 0), none⟩,
    ⟨(some 12), .move (.tmp 4), none⟩,
    ⟨(some 13), .call ⟨.value (.tmp 11), #[(.tmp 12)], #[3]⟩, none⟩,
    ⟨(some 14), .unOp .not 4 (.tmp 13), none⟩]) c_slices_Values_Sint_int_1_1)
@[go_sem] theorem c_slices_Values_Sint_int_1_2_at (rd : Option Nat) (K : Post3) (t : Fr) (m : Mem) : wpM E 74 16 rd c_slices_Values_Sint_int_1_2 K t m = wpM E 74 16 rd (.seq (.ops [⟨(some 11), .move (.tmp 0), none⟩,
    ⟨(some 12), .move (.tmp 4), none⟩,
    ⟨(some 13), .call ⟨.value (.tmp 11), #[(.tmp 12)], #[3]⟩, none⟩,
    ⟨(some 14), .unOp .not 4 (.tmp 13), none⟩]) c_slices_Values_Sint_int_1_1) K t m := rfl

def c_slices_Values_Sint_int_1_3 : MC := (.seq (.ops [⟨(some 9), .indexAddr 25 (.tmp 5) (.tmp 7), none⟩,
    ⟨(some 10), .load 3 (.tmp 9), none⟩,
    ⟨(some 4), .assign (.tmp 10), none⟩]) c_slices_Values_Sint_int_1_2)
@[go_sem] theorem c_slices_Values_Sint_int_1_3_at (rd : Option Nat) (K : Post3) (t : Fr) (m : Mem) : wpM E 74 16 rd c_slices_Values_Sint_int_1_3 K t m = wpM E 74 16 rd (.seq (.ops [⟨(some 9), .indexAddr 25 (.tmp 5) (.tmp 7), none⟩,
    ⟨(some 10), .load 3 (.tmp 9), none⟩,
    ⟨(some 4), .assign (.tmp 10), none⟩]) c_slices_Values_Sint_int_1_2) K t m := rfl

def c_slices_Values_Sint_int_1_4 : MC := (.block 1 c_slices_Values_Sint_int_1_3)
@[go_sem] theorem c_slices_Values_Sint_int_1_4_at (rd : Option Nat) (K : Post3) (t : Fr) (m : Mem) : wpM E 74 16 rd c_slices_Values_Sint_int_1_4 K t m = wpM E 74 16 rd (.block 1 c_slices_Values_Sint_int_1_3) K t m := rfl

def c_slices_Values_Sint_int_1_5 : MC := (.seq c_slices_Values_Sint_int_1_4 (.ops [⟨(some 15), .binOp .add 3 (.tmp 7) (.const (.int .i64 1)) 3, none⟩,
    ⟨(some 7), .move (.tmp 15), none⟩]))
@[go_sem] theorem c_slices_Values_Sint_int_1_5_at (rd : Option Nat) (K : Post3) (t : Fr) (m : Mem) : wpM E 74 16 rd c_slices_Values_Sint_int_1_5 K t m = wpM E 74 16 rd (.seq c_slices_Values_Sint_int_1_4 (.ops [⟨(some 15), .binOp .add 3 (.tmp 7) (.const (.int .i64 1)) 3, none⟩,
    ⟨(some 7), .move (.tmp 15), none⟩])) K t m := rfl

def c_slices_Values_Sint_int_1_6 : MC := (.seq c_slices_Values_Sint_int_1_0 c_slices_Values_Sint_int_1_5)
@[go_sem] theorem c_slices_Values_Sint_int_1_6_at (rd : Option Nat) (K : Post3) (t : Fr) (m : Mem) : wpM E 74 16 rd c_slices_Values_Sint_int_1_6 K t m = wpM E 74 16 rd (.seq c_slices_Values_Sint_int_1_0 c_slices_Values_Sint_int_1_5) K t m := rfl

def c_slices_Values_Sint_int_1_7 : MC := (.seq (.ops [⟨(some 8), .binOp .lss 3 (.tmp 7) (.tmp 6) 3, none⟩]) c_slices_Values_Sint_int_1_6)
@[go_sem] theorem c_slices_Values_Sint_int_1_7_at (rd : Option Nat) (K : Post3) (t : Fr) (m : Mem) : wpM E 74 16 rd c_slices_Values_Sint_int_1_7 K t m = wpM E 74 16 rd (.seq (.ops [⟨(some 8), .binOp .lss 3 (.tmp 7) (.tmp 6) 3, none⟩]) c_slices_Values_Sint_int_1_6) K t m := rfl

def c_slices_Values_Sint_int_1_8 : MC := (.loop c_slices_Values_Sint_int_1_7)
theorem c_slices_Values_Sint_int_1_8_at (rd : Option Nat) (K : Post3) (t : Fr) (m : Mem) : wpM E 74 16 rd c_slices_Values_Sint_int_1_8 K t m = wpM E 74 16 rd (.loop c_slices_Values_Sint_int_1_7) K t m := rfl

def c_slices_Values_Sint_int_1_9 : MC := (.block 0 c_slices_Values_Sint_int_1_8)
theorem c_slices_Values_Sint_int_1_9_at (rd : Option Nat) (K : Post3) (t : Fr) (m : Mem) : wpM E 74 16 rd c_slices_Values_Sint_int_1_9 K t m = wpM E 74 16 rd (.block 0 c_slices_Values_Sint_int_1_8) K t m := rfl

def c_slices_Values_Sint_int_1_10 : MC := (.seq (.ops [⟨(some 5), .load 25 (.tmp 1), none⟩,
    ⟨(some 6), .call ⟨.builtin .len, #[(.tmp 5)], #[25]⟩, none⟩,
    ⟨(some 7), .move (.const (.int .i64 0)), none⟩]) c_slices_Values_Sint_int_1_9)
@[go_sem] theorem c_slices_Values_Sint_int_1_10_at (rd : Option Nat) (K : Post3) (t : Fr) (m : Mem) : wpM E 74 16 rd c_slices_Values_Sint_int_1_10 K t m = wpM E 74 16 rd (.seq (.ops [⟨(some 5), .load 25 (.tmp 1), none⟩,
    ⟨(some 6), .call ⟨.builtin .len, #[(.tmp 5)], #[25]⟩, none⟩,
    ⟨(some 7), .move (.const (.int .i64 0)), none⟩]) c_slices_Values_Sint_int_1_9) K t m := rfl

@[go_sem] theorem some74 : (E.fn 74).isSome = true := by kernel_rfl
set_option maxRecDepth 100000 in
theorem fn_slices_Values_Sint_int_1 : FnIs E 74 16 [] c_slices_Values_Sint_int_1_10 := ⟨by kernel_rfl, by kernel_rfl⟩

end
end Go.Proofs.Ythlcbacmbcmgfaa.W
