/-
  Compact code, printed by a program of mine (wip/dev/AbsPrint.lean).
-/
import Derived.Test.YtgbpgkfmmhlkoaaTypes
set_option linter.unusedVariables false
namespace Go.Proofs.Ytgbpgkfmmhlkoaa.W
open Go.Abs
noncomputable section

/-! sheaf/flow.From[[]int] -/
abbrev F_flow_From_Sint : FuncId := 16
def c_flow_From_Sint_0 : MC := (.seq (.ops [⟨(some 3), .move (.tmp 0), none⟩,
    ⟨(some 4), .call ⟨.value (.func 53), #[(.tmp 3)], #[28]⟩, none⟩,
    ⟨(some 2), .assign (.tmp 4), none⟩]) .ret)
@[go_sem] theorem c_flow_From_Sint_0_at (rd : Option Nat) (K : Post3) (t : Fr) (m : Mem) : wpM E 16 5 rd c_flow_From_Sint_0 K t m = wpM E 16 5 rd (.seq (.ops [⟨(some 3), .move (.tmp 0), none⟩,
    ⟨(some 4), .call ⟨.value (.func 53), #[(.tmp 3)], #[28]⟩, none⟩,
    ⟨(some 2), .assign (.tmp 4), none⟩]) .ret) K t m := rfl

def c_flow_From_Sint_1 : MC := (.seq (.ops [⟨(some 2), .assign (.const .nilFunc), none⟩]) c_flow_From_Sint_0)
@[go_sem] theorem c_flow_From_Sint_1_at (rd : Option Nat) (K : Post3) (t : Fr) (m : Mem) : wpM E 16 5 rd c_flow_From_Sint_1 K t m = wpM E 16 5 rd (.seq (.ops [⟨(some 2), .assign (.const .nilFunc), none⟩]) c_flow_From_Sint_0) K t m := rfl

@[go_sem] theorem some16 : (E.fn 16).isSome = true := by kernel_rfl
set_option maxRecDepth 100000 in
theorem fn_flow_From_Sint : FnIs E 16 5 [.tmp 2] c_flow_From_Sint_1 := ⟨by kernel_rfl, by kernel_rfl⟩

/-! sheaf/flow.List[[]int] -/
abbrev F_flow_List_Sint : FuncId := 22
def c_flow_List_Sint_0 : MC := (.seq (.ops [⟨(some 3), .move (.tmp 0), none⟩,
    ⟨(some 4), .call ⟨.value (.func 56), #[(.tmp 3)], #[26]⟩, none⟩,
    ⟨(some 2), .assign (.tmp 4), none⟩]) .ret)
@[go_sem] theorem c_flow_List_Sint_0_at (rd : Option Nat) (K : Post3) (t : Fr) (m : Mem) : wpM E 22 5 rd c_flow_List_Sint_0 K t m = wpM E 22 5 rd (.seq (.ops [⟨(some 3), .move (.tmp 0), none⟩,
    ⟨(some 4), .call ⟨.value (.func 56), #[(.tmp 3)], #[26]⟩, none⟩,
    ⟨(some 2), .assign (.tmp 4), none⟩]) .ret) K t m := rfl

def c_flow_List_Sint_1 : MC := (.seq (.ops [⟨(some 2), .assign (.const (.slice none 0 0)), none⟩]) c_flow_List_Sint_0)
@[go_sem] theorem c_flow_List_Sint_1_at (rd : Option Nat) (K : Post3) (t : Fr) (m : Mem) : wpM E 22 5 rd c_flow_List_Sint_1 K t m = wpM E 22 5 rd (.seq (.ops [⟨(some 2), .assign (.const (.slice none 0 0)), none⟩]) c_flow_List_Sint_0) K t m := rfl

@[go_sem] theorem some22 : (E.fn 22).isSome = true := by kernel_rfl
set_option maxRecDepth 100000 in
theorem fn_flow_List_Sint : FnIs E 22 5 [.tmp 2] c_flow_List_Sint_1 := ⟨by kernel_rfl, by kernel_rfl⟩

/-! sheaf/flow.Groups[int] -/
abbrev F_flow_Groups_int : FuncId := 23
def c_flow_Groups_int_0 : MC := (.seq (.ops [⟨(some 5), .makeFunc (.func 57) #[] #[(.tmp 2), (.tmp 3)], none⟩,
    ⟨(some 4), .assign (.tmp 5), none⟩]) .ret)
@[go_sem] theorem c_flow_Groups_int_0_at (rd : Option Nat) (K : Post3) (t : Fr) (m : Mem) : wpM E 23 6 rd c_flow_Groups_int_0 K t m = wpM E 23 6 rd (.seq (.ops [⟨(some 5), .makeFunc (.func 57) #[] #[(.tmp 2), (.tmp 3)], none⟩,
    ⟨(some 4), .assign (.tmp 5), none⟩]) .ret) K t m := rfl

def c_flow_Groups_int_1 : MC := (.seq (.ops [⟨(some 2), .box 38 (.tmp 0), none⟩,
    ⟨(some 3), .box 34 (.tmp 1), none⟩,
    ⟨(some 4), .assign (.const .nilFunc), none⟩]) c_flow_Groups_int_0)
@[go_sem] theorem c_flow_Groups_int_1_at (rd : Option Nat) (K : Post3) (t : Fr) (m : Mem) : wpM E 23 6 rd c_flow_Groups_int_1 K t m = wpM E 23 6 rd (.seq (.ops [⟨(some 2), .box 38 (.tmp 0), none⟩,
    ⟨(some 3), .box 34 (.tmp 1), none⟩,
    ⟨(some 4), .assign (.const .nilFunc), none⟩]) c_flow_Groups_int_0) K t m := rfl

@[go_sem] theorem some23 : (E.fn 23).isSome = true := by kernel_rfl
set_option maxRecDepth 100000 in
theorem fn_flow_Groups_int : FnIs E 23 6 [.tmp 4] c_flow_Groups_int_1 := ⟨by kernel_rfl, by kernel_rfl⟩

/-! sheaf/flow.From[int] -/
abbrev F_flow_From_int : FuncId := 24
def c_flow_From_int_0 : MC := (.seq (.ops [⟨(some 3), .move (.tmp 0), none⟩,
    ⟨(some 4), .call ⟨.value (.func 58), #[(.tmp 3)], #[23]⟩, none⟩,
    ⟨(some 2), .assign (.tmp 4), none⟩]) .ret)
@[go_sem] theorem c_flow_From_int_0_at (rd : Option Nat) (K : Post3) (t : Fr) (m : Mem) : wpM E 24 5 rd c_flow_From_int_0 K t m = wpM E 24 5 rd (.seq (.ops [⟨(some 3), .move (.tmp 0), none⟩,
    ⟨(some 4), .call ⟨.value (.func 58), #[(.tmp 3)], #[23]⟩, none⟩,
    ⟨(some 2), .assign (.tmp 4), none⟩]) .ret) K t m := rfl

def c_flow_From_int_1 : MC := (.seq (.ops [⟨(some 2), .assign (.const .nilFunc), none⟩]) c_flow_From_int_0)
@[go_sem] theorem c_flow_From_int_1_at (rd : Option Nat) (K : Post3) (t : Fr) (m : Mem) : wpM E 24 5 rd c_flow_From_int_1 K t m = wpM E 24 5 rd (.seq (.ops [⟨(some 2), .assign (.const .nilFunc), none⟩]) c_flow_From_int_0) K t m := rfl

@[go_sem] theorem some24 : (E.fn 24).isSome = true := by kernel_rfl
set_option maxRecDepth 100000 in
theorem fn_flow_From_int : FnIs E 24 5 [.tmp 2] c_flow_From_int_1 := ⟨by kernel_rfl, by kernel_rfl⟩

/-! sheaf/flow.List[int] -/
abbrev F_flow_List_int : FuncId := 29
def c_flow_List_int_0 : MC := (.seq (.ops [⟨(some 3), .move (.tmp 0), none⟩,
    ⟨(some 4), .call ⟨.value (.func 59), #[(.tmp 3)], #[38]⟩, none⟩,
    ⟨(some 2), .assign (.tmp 4), none⟩]) .ret)
@[go_sem] theorem c_flow_List_int_0_at (rd : Option Nat) (K : Post3) (t : Fr) (m : Mem) : wpM E 29 5 rd c_flow_List_int_0 K t m = wpM E 29 5 rd (.seq (.ops [⟨(some 3), .move (.tmp 0), none⟩,
    ⟨(some 4), .call ⟨.value (.func 59), #[(.tmp 3)], #[38]⟩, none⟩,
    ⟨(some 2), .assign (.tmp 4), none⟩]) .ret) K t m := rfl

def c_flow_List_int_1 : MC := (.seq (.ops [⟨(some 2), .assign (.const (.slice none 0 0)), none⟩]) c_flow_List_int_0)
@[go_sem] theorem c_flow_List_int_1_at (rd : Option Nat) (K : Post3) (t : Fr) (m : Mem) : wpM E 29 5 rd c_flow_List_int_1 K t m = wpM E 29 5 rd (.seq (.ops [⟨(some 2), .assign (.const (.slice none 0 0)), none⟩]) c_flow_List_int_0) K t m := rfl

@[go_sem] theorem some29 : (E.fn 29).isSome = true := by kernel_rfl
set_option maxRecDepth 100000 in
theorem fn_flow_List_int : FnIs E 29 5 [.tmp 2] c_flow_List_int_1 := ⟨by kernel_rfl, by kernel_rfl⟩

/-! sheaf/flow.Cursor[int] -/
abbrev F_flow_Cursor_int : FuncId := 30
def c_flow_Cursor_int_0 : MC := (.seq (.ops [⟨(some 3), .makeFunc (.func 60) #[] #[(.tmp 1)], none⟩,
    ⟨(some 2), .assign (.tmp 3), none⟩]) .ret)
@[go_sem] theorem c_flow_Cursor_int_0_at (rd : Option Nat) (K : Post3) (t : Fr) (m : Mem) : wpM E 30 4 rd c_flow_Cursor_int_0 K t m = wpM E 30 4 rd (.seq (.ops [⟨(some 3), .makeFunc (.func 60) #[] #[(.tmp 1)], none⟩,
    ⟨(some 2), .assign (.tmp 3), none⟩]) .ret) K t m := rfl

def c_flow_Cursor_int_1 : MC := (.seq (.ops [⟨(some 1), .box 23 (.tmp 0), none⟩,
    ⟨(some 2), .assign (.const .nilFunc), none⟩]) c_flow_Cursor_int_0)
@[go_sem] theorem c_flow_Cursor_int_1_at (rd : Option Nat) (K : Post3) (t : Fr) (m : Mem) : wpM E 30 4 rd c_flow_Cursor_int_1 K t m = wpM E 30 4 rd (.seq (.ops [⟨(some 1), .box 23 (.tmp 0), none⟩,
    ⟨(some 2), .assign (.const .nilFunc), none⟩]) c_flow_Cursor_int_0) K t m := rfl

@[go_sem] theorem some30 : (E.fn 30).isSome = true := by kernel_rfl
set_option maxRecDepth 100000 in
theorem fn_flow_Cursor_int : FnIs E 30 4 [.tmp 2] c_flow_Cursor_int_1 := ⟨by kernel_rfl, by kernel_rfl⟩

/-! sheaf/flow.Join[int,int] -/
abbrev F_flow_Join_int_int : FuncId := 31
def c_flow_Join_int_int_0 : MC := (.seq (.ops [⟨(some 7), .makeFunc (.func 61) #[] #[(.tmp 3), (.tmp 5), (.tmp 4)], none⟩,
    ⟨(some 6), .assign (.tmp 7), none⟩]) .ret)
@[go_sem] theorem c_flow_Join_int_int_0_at (rd : Option Nat) (K : Post3) (t : Fr) (m : Mem) : wpM E 31 8 rd c_flow_Join_int_int_0 K t m = wpM E 31 8 rd (.seq (.ops [⟨(some 7), .makeFunc (.func 61) #[] #[(.tmp 3), (.tmp 5), (.tmp 4)], none⟩,
    ⟨(some 6), .assign (.tmp 7), none⟩]) .ret) K t m := rfl

def c_flow_Join_int_int_1 : MC := (.seq (.ops [⟨(some 3), .box 38 (.tmp 0), none⟩,
    ⟨(some 4), .box 44 (.tmp 1), none⟩,
    ⟨(some 5), .box 50 (.tmp 2), none⟩,
    ⟨(some 6), .assign (.const .nilFunc), none⟩]) c_flow_Join_int_int_0)
@[go_sem] theorem c_flow_Join_int_int_1_at (rd : Option Nat) (K : Post3) (t : Fr) (m : Mem) : wpM E 31 8 rd c_flow_Join_int_int_1 K t m = wpM E 31 8 rd (.seq (.ops [⟨(some 3), .box 38 (.tmp 0), none⟩,
    ⟨(some 4), .box 44 (.tmp 1), none⟩,
    ⟨(some 5), .box 50 (.tmp 2), none⟩,
    ⟨(some 6), .assign (.const .nilFunc), none⟩]) c_flow_Join_int_int_0) K t m := rfl

@[go_sem] theorem some31 : (E.fn 31).isSome = true := by kernel_rfl
set_option maxRecDepth 100000 in
theorem fn_flow_Join_int_int : FnIs E 31 8 [.tmp 6] c_flow_Join_int_int_1 := ⟨by kernel_rfl, by kernel_rfl⟩

/-! sheaf/flow.Map[int,int] -/
abbrev F_flow_Map_int_int : FuncId := 33
def c_flow_Map_int_int_0 : MC := (.seq (.ops [⟨(some 5), .makeFunc (.func 62) #[] #[(.tmp 2), (.tmp 3)], none⟩,
    ⟨(some 4), .assign (.tmp 5), none⟩]) .ret)
@[go_sem] theorem c_flow_Map_int_int_0_at (rd : Option Nat) (K : Post3) (t : Fr) (m : Mem) : wpM E 33 6 rd c_flow_Map_int_int_0 K t m = wpM E 33 6 rd (.seq (.ops [⟨(some 5), .makeFunc (.func 62) #[] #[(.tmp 2), (.tmp 3)], none⟩,
    ⟨(some 4), .assign (.tmp 5), none⟩]) .ret) K t m := rfl

def c_flow_Map_int_int_1 : MC := (.seq (.ops [⟨(some 2), .box 38 (.tmp 0), none⟩,
    ⟨(some 3), .box 56 (.tmp 1), none⟩,
    ⟨(some 4), .assign (.const .nilFunc), none⟩]) c_flow_Map_int_int_0)
@[go_sem] theorem c_flow_Map_int_int_1_at (rd : Option Nat) (K : Post3) (t : Fr) (m : Mem) : wpM E 33 6 rd c_flow_Map_int_int_1 K t m = wpM E 33 6 rd (.seq (.ops [⟨(some 2), .box 38 (.tmp 0), none⟩,
    ⟨(some 3), .box 56 (.tmp 1), none⟩,
    ⟨(some 4), .assign (.const .nilFunc), none⟩]) c_flow_Map_int_int_0) K t m := rfl

@[go_sem] theorem some33 : (E.fn 33).isSome = true := by kernel_rfl
set_option maxRecDepth 100000 in
theorem fn_flow_Map_int_int : FnIs E 33 6 [.tmp 4] c_flow_Map_int_int_1 := ⟨by kernel_rfl, by kernel_rfl⟩

/-! sheaf/flow.Keep[int] -/
abbrev F_flow_Keep_int : FuncId := 34
def c_flow_Keep_int_0 : MC := (.seq (.ops [⟨(some 5), .makeFunc (.func 63) #[] #[(.tmp 2), (.tmp 3)], none⟩,
    ⟨(some 4), .assign (.tmp 5), none⟩]) .ret)
@[go_sem] theorem c_flow_Keep_int_0_at (rd : Option Nat) (K : Post3) (t : Fr) (m : Mem) : wpM E 34 6 rd c_flow_Keep_int_0 K t m = wpM E 34 6 rd (.seq (.ops [⟨(some 5), .makeFunc (.func 63) #[] #[(.tmp 2), (.tmp 3)], none⟩,
    ⟨(some 4), .assign (.tmp 5), none⟩]) .ret) K t m := rfl

def c_flow_Keep_int_1 : MC := (.seq (.ops [⟨(some 2), .box 38 (.tmp 0), none⟩,
    ⟨(some 3), .box 55 (.tmp 1), none⟩,
    ⟨(some 4), .assign (.const .nilFunc), none⟩]) c_flow_Keep_int_0)
@[go_sem] theorem c_flow_Keep_int_1_at (rd : Option Nat) (K : Post3) (t : Fr) (m : Mem) : wpM E 34 6 rd c_flow_Keep_int_1 K t m = wpM E 34 6 rd (.seq (.ops [⟨(some 2), .box 38 (.tmp 0), none⟩,
    ⟨(some 3), .box 55 (.tmp 1), none⟩,
    ⟨(some 4), .assign (.const .nilFunc), none⟩]) c_flow_Keep_int_0) K t m := rfl

@[go_sem] theorem some34 : (E.fn 34).isSome = true := by kernel_rfl
set_option maxRecDepth 100000 in
theorem fn_flow_Keep_int : FnIs E 34 6 [.tmp 4] c_flow_Keep_int_1 := ⟨by kernel_rfl, by kernel_rfl⟩

/-! sheaf/flow.List[string] -/
abbrev F_flow_List_string : FuncId := 38
def c_flow_List_string_0 : MC := (.seq (.ops [⟨(some 3), .move (.tmp 0), none⟩,
    ⟨(some 4), .call ⟨.value (.func 65), #[(.tmp 3)], #[60]⟩, none⟩,
    ⟨(some 2), .assign (.tmp 4), none⟩]) .ret)
@[go_sem] theorem c_flow_List_string_0_at (rd : Option Nat) (K : Post3) (t : Fr) (m : Mem) : wpM E 38 5 rd c_flow_List_string_0 K t m = wpM E 38 5 rd (.seq (.ops [⟨(some 3), .move (.tmp 0), none⟩,
    ⟨(some 4), .call ⟨.value (.func 65), #[(.tmp 3)], #[60]⟩, none⟩,
    ⟨(some 2), .assign (.tmp 4), none⟩]) .ret) K t m := rfl

def c_flow_List_string_1 : MC := (.seq (.ops [⟨(some 2), .assign (.const (.slice none 0 0)), none⟩]) c_flow_List_string_0)
@[go_sem] theorem c_flow_List_string_1_at (rd : Option Nat) (K : Post3) (t : Fr) (m : Mem) : wpM E 38 5 rd c_flow_List_string_1 K t m = wpM E 38 5 rd (.seq (.ops [⟨(some 2), .assign (.const (.slice none 0 0)), none⟩]) c_flow_List_string_0) K t m := rfl

@[go_sem] theorem some38 : (E.fn 38).isSome = true := by kernel_rfl
set_option maxRecDepth 100000 in
theorem fn_flow_List_string : FnIs E 38 5 [.tmp 2] c_flow_List_string_1 := ⟨by kernel_rfl, by kernel_rfl⟩

/-! sheaf/flow.Map[int,string] -/
abbrev F_flow_Map_int_string : FuncId := 39
def c_flow_Map_int_string_0 : MC := (.seq (.ops [⟨(some 5), .makeFunc (.func 66) #[] #[(.tmp 2), (.tmp 3)], none⟩,
    ⟨(some 4), .assign (.tmp 5), none⟩]) .ret)
@[go_sem] theorem c_flow_Map_int_string_0_at (rd : Option Nat) (K : Post3) (t : Fr) (m : Mem) : wpM E 39 6 rd c_flow_Map_int_string_0 K t m = wpM E 39 6 rd (.seq (.ops [⟨(some 5), .makeFunc (.func 66) #[] #[(.tmp 2), (.tmp 3)], none⟩,
    ⟨(some 4), .assign (.tmp 5), none⟩]) .ret) K t m := rfl

def c_flow_Map_int_string_1 : MC := (.seq (.ops [⟨(some 2), .box 38 (.tmp 0), none⟩,
    ⟨(some 3), .box 63 (.tmp 1), none⟩,
    ⟨(some 4), .assign (.const .nilFunc), none⟩]) c_flow_Map_int_string_0)
@[go_sem] theorem c_flow_Map_int_string_1_at (rd : Option Nat) (K : Post3) (t : Fr) (m : Mem) : wpM E 39 6 rd c_flow_Map_int_string_1 K t m = wpM E 39 6 rd (.seq (.ops [⟨(some 2), .box 38 (.tmp 0), none⟩,
    ⟨(some 3), .box 63 (.tmp 1), none⟩,
    ⟨(some 4), .assign (.const .nilFunc), none⟩]) c_flow_Map_int_string_0) K t m := rfl

@[go_sem] theorem some39 : (E.fn 39).isSome = true := by kernel_rfl
set_option maxRecDepth 100000 in
theorem fn_flow_Map_int_string : FnIs E 39 6 [.tmp 4] c_flow_Map_int_string_1 := ⟨by kernel_rfl, by kernel_rfl⟩

/-! sheaf/flow.Fold[int,int] -/
abbrev F_flow_Fold_int_int : FuncId := 42
def c_flow_Fold_int_int_0 : MC := (.block 1 (.ops [⟨(some 10), .load 50 (.tmp 5), none⟩,
    ⟨(some 11), .load 3 (.tmp 4), none⟩,
    ⟨(some 12), .move (.tmp 7), none⟩,
    ⟨(some 13), .call ⟨.value (.tmp 10), #[(.tmp 11), (.tmp 12)], #[3, 3]⟩, none⟩,
    ⟨none, .store 3 (.tmp 4) (.tmp 13), none⟩]))
@[go_sem] theorem c_flow_Fold_int_int_0_at (rd : Option Nat) (K : Post3) (t : Fr) (m : Mem) : wpM E 42 15 rd c_flow_Fold_int_int_0 K t m = wpM E 42 15 rd (.block 1 (.ops [⟨(some 10), .load 50 (.tmp 5), none⟩,
    ⟨(some 11), .load 3 (.tmp 4), none⟩,
    ⟨(some 12), .move (.tmp 7), none⟩,
    ⟨(some 13), .call ⟨.value (.tmp 10), #[(.tmp 11), (.tmp 12)], #[3, 3]⟩, none⟩,
    ⟨none, .store 3 (.tmp 4) (.tmp 13), none⟩])) K t m := rfl

theorem asg_flow_Fold_int_int_0 : compile E 42 15 (asgAt E 42 0) = some (.ops [⟨(some 7), .assign (.tmp 9), none⟩]) := by kernel_rfl

theorem body_flow_Fold_int_int_0 : compile E 42 15 (bodyAt E 42 0) = some c_flow_Fold_int_int_0 := by kernel_rfl

def c_flow_Fold_int_int_1 : MC := (.range (.tmp 8) #[9] (asgAt E 42 0) (bodyAt E 42 0))
theorem c_flow_Fold_int_int_1_at (rd : Option Nat) (K : Post3) (t : Fr) (m : Mem) : wpM E 42 15 rd c_flow_Fold_int_int_1 K t m = wpM E 42 15 rd (.range (.tmp 8) #[9] (asgAt E 42 0) (bodyAt E 42 0)) K t m := rfl

def c_flow_Fold_int_int_2 : MC := (.block 0 c_flow_Fold_int_int_1)
@[go_sem] theorem c_flow_Fold_int_int_2_at (rd : Option Nat) (K : Post3) (t : Fr) (m : Mem) : wpM E 42 15 rd c_flow_Fold_int_int_2 K t m = wpM E 42 15 rd (.block 0 c_flow_Fold_int_int_1) K t m := rfl

def c_flow_Fold_int_int_3 : MC := (.seq (.ops [⟨(some 8), .move (.tmp 0), none⟩]) c_flow_Fold_int_int_2)
@[go_sem] theorem c_flow_Fold_int_int_3_at (rd : Option Nat) (K : Post3) (t : Fr) (m : Mem) : wpM E 42 15 rd c_flow_Fold_int_int_3 K t m = wpM E 42 15 rd (.seq (.ops [⟨(some 8), .move (.tmp 0), none⟩]) c_flow_Fold_int_int_2) K t m := rfl

def c_flow_Fold_int_int_4 : MC := (.seq (.ops [⟨(some 14), .load 3 (.tmp 4), none⟩,
    ⟨(some 6), .assign (.tmp 14), none⟩]) .ret)
@[go_sem] theorem c_flow_Fold_int_int_4_at (rd : Option Nat) (K : Post3) (t : Fr) (m : Mem) : wpM E 42 15 rd c_flow_Fold_int_int_4 K t m = wpM E 42 15 rd (.seq (.ops [⟨(some 14), .load 3 (.tmp 4), none⟩,
    ⟨(some 6), .assign (.tmp 14), none⟩]) .ret) K t m := rfl

def c_flow_Fold_int_int_5 : MC := (.seq c_flow_Fold_int_int_3 c_flow_Fold_int_int_4)
@[go_sem] theorem c_flow_Fold_int_int_5_at (rd : Option Nat) (K : Post3) (t : Fr) (m : Mem) : wpM E 42 15 rd c_flow_Fold_int_int_5 K t m = wpM E 42 15 rd (.seq c_flow_Fold_int_int_3 c_flow_Fold_int_int_4) K t m := rfl

def c_flow_Fold_int_int_6 : MC := (.seq (.ops [⟨(some 4), .box 3 (.tmp 1), none⟩,
    ⟨(some 5), .box 50 (.tmp 2), none⟩,
    ⟨(some 6), .assign (.const (.int .i64 0)), none⟩]) c_flow_Fold_int_int_5)
@[go_sem] theorem c_flow_Fold_int_int_6_at (rd : Option Nat) (K : Post3) (t : Fr) (m : Mem) : wpM E 42 15 rd c_flow_Fold_int_int_6 K t m = wpM E 42 15 rd (.seq (.ops [⟨(some 4), .box 3 (.tmp 1), none⟩,
    ⟨(some 5), .box 50 (.tmp 2), none⟩,
    ⟨(some 6), .assign (.const (.int .i64 0)), none⟩]) c_flow_Fold_int_int_5) K t m := rfl

@[go_sem] theorem some42 : (E.fn 42).isSome = true := by kernel_rfl
set_option maxRecDepth 100000 in
theorem fn_flow_Fold_int_int : FnIs E 42 15 [.tmp 6] c_flow_Fold_int_int_6 := ⟨by kernel_rfl, by kernel_rfl⟩

/-! sheaf/flow.Map[[]int,int] -/
abbrev F_flow_Map_Sint_int : FuncId := 49
def c_flow_Map_Sint_int_0 : MC := (.seq (.ops [⟨(some 5), .makeFunc (.func 67) #[] #[(.tmp 2), (.tmp 3)], none⟩,
    ⟨(some 4), .assign (.tmp 5), none⟩]) .ret)
@[go_sem] theorem c_flow_Map_Sint_int_0_at (rd : Option Nat) (K : Post3) (t : Fr) (m : Mem) : wpM E 49 6 rd c_flow_Map_Sint_int_0 K t m = wpM E 49 6 rd (.seq (.ops [⟨(some 5), .makeFunc (.func 67) #[] #[(.tmp 2), (.tmp 3)], none⟩,
    ⟨(some 4), .assign (.tmp 5), none⟩]) .ret) K t m := rfl

def c_flow_Map_Sint_int_1 : MC := (.seq (.ops [⟨(some 2), .box 26 (.tmp 0), none⟩,
    ⟨(some 3), .box 67 (.tmp 1), none⟩,
    ⟨(some 4), .assign (.const .nilFunc), none⟩]) c_flow_Map_Sint_int_0)
@[go_sem] theorem c_flow_Map_Sint_int_1_at (rd : Option Nat) (K : Post3) (t : Fr) (m : Mem) : wpM E 49 6 rd c_flow_Map_Sint_int_1 K t m = wpM E 49 6 rd (.seq (.ops [⟨(some 2), .box 26 (.tmp 0), none⟩,
    ⟨(some 3), .box 67 (.tmp 1), none⟩,
    ⟨(some 4), .assign (.const .nilFunc), none⟩]) c_flow_Map_Sint_int_0) K t m := rfl

@[go_sem] theorem some49 : (E.fn 49).isSome = true := by kernel_rfl
set_option maxRecDepth 100000 in
theorem fn_flow_Map_Sint_int : FnIs E 49 6 [.tmp 4] c_flow_Map_Sint_int_1 := ⟨by kernel_rfl, by kernel_rfl⟩

/-! slices.Values[[][]int,[]int] -/
abbrev F_slices_Values_SSint_Sint : FuncId := 53
def c_slices_Values_SSint_Sint_0 : MC := (.seq (.ops [⟨(some 3), .makeFunc (.func 68) #[] #[(.tmp 1)], none⟩,
    ⟨(some 2), .assign (.tmp 3), none⟩]) .ret)
@[go_sem] theorem c_slices_Values_SSint_Sint_0_at (rd : Option Nat) (K : Post3) (t : Fr) (m : Mem) : wpM E 53 4 rd c_slices_Values_SSint_Sint_0 K t m = wpM E 53 4 rd (.seq (.ops [⟨(some 3), .makeFunc (.func 68) #[] #[(.tmp 1)], none⟩,
    ⟨(some 2), .assign (.tmp 3), none⟩]) .ret) K t m := rfl

def c_slices_Values_SSint_Sint_1 : MC := (.seq (.ops [⟨(some 1), .box 28 (.tmp 0), none⟩,
    ⟨(some 2), .assign (.const .nilFunc), none⟩]) c_slices_Values_SSint_Sint_0)
@[go_sem] theorem c_slices_Values_SSint_Sint_1_at (rd : Option Nat) (K : Post3) (t : Fr) (m : Mem) : wpM E 53 4 rd c_slices_Values_SSint_Sint_1 K t m = wpM E 53 4 rd (.seq (.ops [⟨(some 1), .box 28 (.tmp 0), none⟩,
    ⟨(some 2), .assign (.const .nilFunc), none⟩]) c_slices_Values_SSint_Sint_0) K t m := rfl

@[go_sem] theorem some53 : (E.fn 53).isSome = true := by kernel_rfl
set_option maxRecDepth 100000 in
theorem fn_slices_Values_SSint_Sint : FnIs E 53 4 [.tmp 2] c_slices_Values_SSint_Sint_1 := ⟨by kernel_rfl, by kernel_rfl⟩

/-! slices.Collect[[]int] -/
abbrev F_slices_Collect_Sint : FuncId := 56
def c_slices_Collect_Sint_0 : MC := (.seq (.ops [⟨(some 3), .move (.tmp 0), none⟩,
    ⟨(some 4), .call ⟨.value (.func 69), #[(.const (.slice none 0 0)), (.tmp 3)], #[28, 26]⟩, none⟩,
    ⟨(some 2), .assign (.tmp 4), none⟩]) .ret)
@[go_sem] theorem c_slices_Collect_Sint_0_at (rd : Option Nat) (K : Post3) (t : Fr) (m : Mem) : wpM E 56 5 rd c_slices_Collect_Sint_0 K t m = wpM E 56 5 rd (.seq (.ops [⟨(some 3), .move (.tmp 0), none⟩,
    ⟨(some 4), .call ⟨.value (.func 69), #[(.const (.slice none 0 0)), (.tmp 3)], #[28, 26]⟩, none⟩,
    ⟨(some 2), .assign (.tmp 4), none⟩]) .ret) K t m := rfl

def c_slices_Collect_Sint_1 : MC := (.seq (.ops [⟨(some 2), .assign (.const (.slice none 0 0)), none⟩]) c_slices_Collect_Sint_0)
@[go_sem] theorem c_slices_Collect_Sint_1_at (rd : Option Nat) (K : Post3) (t : Fr) (m : Mem) : wpM E 56 5 rd c_slices_Collect_Sint_1 K t m = wpM E 56 5 rd (.seq (.ops [⟨(some 2), .assign (.const (.slice none 0 0)), none⟩]) c_slices_Collect_Sint_0) K t m := rfl

@[go_sem] theorem some56 : (E.fn 56).isSome = true := by kernel_rfl
set_option maxRecDepth 100000 in
theorem fn_slices_Collect_Sint : FnIs E 56 5 [.tmp 2] c_slices_Collect_Sint_1 := ⟨by kernel_rfl, by kernel_rfl⟩

/-! sheaf/flow.Groups[int]$1 -/
abbrev F_flow_Groups_int_1 : FuncId := 57
def c_flow_Groups_int_1_0 : MC := (.cond (.tmp 23) .ret .skip)
@[go_sem] theorem c_flow_Groups_int_1_0_at (rd : Option Nat) (K : Post3) (t : Fr) (m : Mem) : wpM E 57 34 rd c_flow_Groups_int_1_0 K t m = wpM E 57 34 rd (.cond (.tmp 23) .ret .skip) K t m := rfl

def c_flow_Groups_int_1_1 : MC := (.seq (.ops [⟨(some 20), .load 31 (.tmp 3), none⟩,
    ⟨(some 21), .load 23 (.tmp 4), none⟩,
    ⟨(some 22), .call ⟨.value (.tmp 20), #[(.tmp 21)], #[23]⟩, none⟩,
    ⟨(some 23), .unOp .not 4 (.tmp 22), none⟩]) c_flow_Groups_int_1_0)
@[go_sem] theorem c_flow_Groups_int_1_1_at (rd : Option Nat) (K : Post3) (t : Fr) (m : Mem) : wpM E 57 34 rd c_flow_Groups_int_1_1 K t m = wpM E 57 34 rd (.seq (.ops [⟨(some 20), .load 31 (.tmp 3), none⟩,
    ⟨(some 21), .load 23 (.tmp 4), none⟩,
    ⟨(some 22), .call ⟨.value (.tmp 20), #[(.tmp 21)], #[23]⟩, none⟩,
    ⟨(some 23), .unOp .not 4 (.tmp 22), none⟩]) c_flow_Groups_int_1_0) K t m := rfl

def c_flow_Groups_int_1_2 : MC := (.seq c_flow_Groups_int_1_1 (.ops [⟨none, .store 23 (.tmp 4) (.const (.slice none 0 0)), none⟩]))
@[go_sem] theorem c_flow_Groups_int_1_2_at (rd : Option Nat) (K : Post3) (t : Fr) (m : Mem) : wpM E 57 34 rd c_flow_Groups_int_1_2 K t m = wpM E 57 34 rd (.seq c_flow_Groups_int_1_1 (.ops [⟨none, .store 23 (.tmp 4) (.const (.slice none 0 0)), none⟩])) K t m := rfl

def c_flow_Groups_int_1_3 : MC := (.cond (.tmp 19) c_flow_Groups_int_1_2 .skip)
@[go_sem] theorem c_flow_Groups_int_1_3_at (rd : Option Nat) (K : Post3) (t : Fr) (m : Mem) : wpM E 57 34 rd c_flow_Groups_int_1_3 K t m = wpM E 57 34 rd (.cond (.tmp 19) c_flow_Groups_int_1_2 .skip) K t m := rfl

def c_flow_Groups_int_1_4 : MC := (.seq (.ops [⟨(some 8), .load 23 (.tmp 4), none⟩,
    ⟨(some 9), .call ⟨.builtin .len, #[(.tmp 8)], #[23]⟩, none⟩,
    ⟨(some 10), .binOp .gtr 3 (.tmp 9) (.const (.int .i64 0)) 3, none⟩,
    ⟨(some 11), .move (.tmp 10), none⟩,
    ⟨(some 12), .load 34 (.tmp 2), (some (some 11, true))⟩,
    ⟨(some 13), .load 23 (.tmp 4), (some (some 11, true))⟩,
    ⟨(some 14), .indexAddr 23 (.tmp 13) (.const (.int .i64 0)), (some (some 11, true))⟩,
    ⟨(some 15), .load 3 (.tmp 14), (some (some 11, true))⟩,
    ⟨(some 16), .move (.tmp 5), (some (some 11, true))⟩,
    ⟨(some 17), .call ⟨.value (.tmp 12), #[(.tmp 15), (.tmp 16)], #[3, 3]⟩, (some (some 11, true))⟩,
    ⟨(some 18), .unOp .not 4 (.tmp 17), (some (some 11, true))⟩,
    ⟨(some 19), .pick (.tmp 11) (.tmp 18) (.const (.bool false)), none⟩]) c_flow_Groups_int_1_3)
@[go_sem] theorem c_flow_Groups_int_1_4_at (rd : Option Nat) (K : Post3) (t : Fr) (m : Mem) : wpM E 57 34 rd c_flow_Groups_int_1_4 K t m = wpM E 57 34 rd (.seq (.ops [⟨(some 8), .load 23 (.tmp 4), none⟩,
    ⟨(some 9), .call ⟨.builtin .len, #[(.tmp 8)], #[23]⟩, none⟩,
    ⟨(some 10), .binOp .gtr 3 (.tmp 9) (.const (.int .i64 0)) 3, none⟩,
    ⟨(some 11), .move (.tmp 10), none⟩,
    ⟨(some 12), .load 34 (.tmp 2), (some (some 11, true))⟩,
    ⟨(some 13), .load 23 (.tmp 4), (some (some 11, true))⟩,
    ⟨(some 14), .indexAddr 23 (.tmp 13) (.const (.int .i64 0)), (some (some 11, true))⟩,
    ⟨(some 15), .load 3 (.tmp 14), (some (some 11, true))⟩,
    ⟨(some 16), .move (.tmp 5), (some (some 11, true))⟩,
    ⟨(some 17), .call ⟨.value (.tmp 12), #[(.tmp 15), (.tmp 16)], #[3, 3]⟩, (some (some 11, true))⟩,
    ⟨(some 18), .unOp .not 4 (.tmp 17), (some (some 11, true))⟩,
    ⟨(some 19), .pick (.tmp 11) (.tmp 18) (.const (.bool false)), none⟩]) c_flow_Groups_int_1_3) K t m := rfl

def c_flow_Groups_int_1_5 : MC := (.seq c_flow_Groups_int_1_4 (.ops [⟨(some 24), .load 23 (.tmp 4), none⟩,
    ⟨(some 25), .move (.tmp 5), none⟩,
    ⟨(some 26), .buildSlice 23 1 #[(0, (.tmp 25))], none⟩,
    ⟨(some 27), .call ⟨.builtin .append, #[(.tmp 24), (.tmp 26)], #[23, 23]⟩, none⟩,
    ⟨none, .store 23 (.tmp 4) (.tmp 27), none⟩]))
@[go_sem] theorem c_flow_Groups_int_1_5_at (rd : Option Nat) (K : Post3) (t : Fr) (m : Mem) : wpM E 57 34 rd c_flow_Groups_int_1_5 K t m = wpM E 57 34 rd (.seq c_flow_Groups_int_1_4 (.ops [⟨(some 24), .load 23 (.tmp 4), none⟩,
    ⟨(some 25), .move (.tmp 5), none⟩,
    ⟨(some 26), .buildSlice 23 1 #[(0, (.tmp 25))], none⟩,
    ⟨(some 27), .call ⟨.builtin .append, #[(.tmp 24), (.tmp 26)], #[23, 23]⟩, none⟩,
    ⟨none, .store 23 (.tmp 4) (.tmp 27), none⟩])) K t m := rfl

def c_flow_Groups_int_1_6 : MC := (.block 1 c_flow_Groups_int_1_5)
@[go_sem] theorem c_flow_Groups_int_1_6_at (rd : Option Nat) (K : Post3) (t : Fr) (m : Mem) : wpM E 57 34 rd c_flow_Groups_int_1_6 K t m = wpM E 57 34 rd (.block 1 c_flow_Groups_int_1_5) K t m := rfl

theorem asg_flow_Groups_int_1_0 : compile E 57 34 (asgAt E 57 0) = some (.ops [⟨(some 5), .assign (.tmp 7), none⟩]) := by kernel_rfl

theorem body_flow_Groups_int_1_0 : compile E 57 34 (bodyAt E 57 0) = some c_flow_Groups_int_1_6 := by kernel_rfl

def c_flow_Groups_int_1_7 : MC := (.range (.tmp 6) #[7] (asgAt E 57 0) (bodyAt E 57 0))
theorem c_flow_Groups_int_1_7_at (rd : Option Nat) (K : Post3) (t : Fr) (m : Mem) : wpM E 57 34 rd c_flow_Groups_int_1_7 K t m = wpM E 57 34 rd (.range (.tmp 6) #[7] (asgAt E 57 0) (bodyAt E 57 0)) K t m := rfl

def c_flow_Groups_int_1_8 : MC := (.block 0 c_flow_Groups_int_1_7)
@[go_sem] theorem c_flow_Groups_int_1_8_at (rd : Option Nat) (K : Post3) (t : Fr) (m : Mem) : wpM E 57 34 rd c_flow_Groups_int_1_8 K t m = wpM E 57 34 rd (.block 0 c_flow_Groups_int_1_7) K t m := rfl

def c_flow_Groups_int_1_9 : MC := (.seq (.ops [⟨(some 6), .load 38 (.tmp 1), none⟩]) c_flow_Groups_int_1_8)
@[go_sem] theorem c_flow_Groups_int_1_9_at (rd : Option Nat) (K : Post3) (t : Fr) (m : Mem) : wpM E 57 34 rd c_flow_Groups_int_1_9 K t m = wpM E 57 34 rd (.seq (.ops [⟨(some 6), .load 38 (.tmp 1), none⟩]) c_flow_Groups_int_1_8) K t m := rfl

def c_flow_Groups_int_1_10 : MC := (.cond (.tmp 30) (.ops [⟨(some 31), .load 31 (.tmp 3), none⟩,
    ⟨(some 32), .load 23 (.tmp 4), none⟩,
    ⟨(some 33), .call ⟨.value (.tmp 31), #[(.tmp 32)], #[23]⟩, none⟩]) .skip)
@[go_sem] theorem c_flow_Groups_int_1_10_at (rd : Option Nat) (K : Post3) (t : Fr) (m : Mem) : wpM E 57 34 rd c_flow_Groups_int_1_10 K t m = wpM E 57 34 rd (.cond (.tmp 30) (.ops [⟨(some 31), .load 31 (.tmp 3), none⟩,
    ⟨(some 32), .load 23 (.tmp 4), none⟩,
    ⟨(some 33), .call ⟨.value (.tmp 31), #[(.tmp 32)], #[23]⟩, none⟩]) .skip) K t m := rfl

def c_flow_Groups_int_1_11 : MC := (.seq (.ops [⟨(some 28), .load 23 (.tmp 4), none⟩,
    ⟨(some 29), .call ⟨.builtin .len, #[(.tmp 28)], #[23]⟩, none⟩,
    ⟨(some 30), .binOp .gtr 3 (.tmp 29) (.const (.int .i64 0)) 3, none⟩]) c_flow_Groups_int_1_10)
@[go_sem] theorem c_flow_Groups_int_1_11_at (rd : Option Nat) (K : Post3) (t : Fr) (m : Mem) : wpM E 57 34 rd c_flow_Groups_int_1_11 K t m = wpM E 57 34 rd (.seq (.ops [⟨(some 28), .load 23 (.tmp 4), none⟩,
    ⟨(some 29), .call ⟨.builtin .len, #[(.tmp 28)], #[23]⟩, none⟩,
    ⟨(some 30), .binOp .gtr 3 (.tmp 29) (.const (.int .i64 0)) 3, none⟩]) c_flow_Groups_int_1_10) K t m := rfl

def c_flow_Groups_int_1_12 : MC := (.seq c_flow_Groups_int_1_9 c_flow_Groups_int_1_11)
@[go_sem] theorem c_flow_Groups_int_1_12_at (rd : Option Nat) (K : Post3) (t : Fr) (m : Mem) : wpM E 57 34 rd c_flow_Groups_int_1_12 K t m = wpM E 57 34 rd (.seq c_flow_Groups_int_1_9 c_flow_Groups_int_1_11) K t m := rfl

def c_flow_Groups_int_1_13 : MC := (.seq (.ops [⟨(some 4), .alloc 23, none⟩]) c_flow_Groups_int_1_12)
@[go_sem] theorem c_flow_Groups_int_1_13_at (rd : Option Nat) (K : Post3) (t : Fr) (m : Mem) : wpM E 57 34 rd c_flow_Groups_int_1_13 K t m = wpM E 57 34 rd (.seq (.ops [⟨(some 4), .alloc 23, none⟩]) c_flow_Groups_int_1_12) K t m := rfl

def c_flow_Groups_int_1_14 : MC := (.seq (.ops [⟨(some 3), .box 31 (.tmp 0), none⟩]) c_flow_Groups_int_1_13)
@[go_sem] theorem c_flow_Groups_int_1_14_at (rd : Option Nat) (K : Post3) (t : Fr) (m : Mem) : wpM E 57 34 rd c_flow_Groups_int_1_14 K t m = wpM E 57 34 rd (.seq (.ops [⟨(some 3), .box 31 (.tmp 0), none⟩]) c_flow_Groups_int_1_13) K t m := rfl

@[go_sem] theorem some57 : (E.fn 57).isSome = true := by kernel_rfl
set_option maxRecDepth 100000 in
theorem fn_flow_Groups_int_1 : FnIs E 57 34 [] c_flow_Groups_int_1_14 := ⟨by kernel_rfl, by kernel_rfl⟩

/-! slices.Values[[]int,int] -/
abbrev F_slices_Values_Sint_int : FuncId := 58
def c_slices_Values_Sint_int_0 : MC := (.seq (.ops [⟨(some 3), .makeFunc (.func 70) #[] #[(.tmp 1)], none⟩,
    ⟨(some 2), .assign (.tmp 3), none⟩]) .ret)
@[go_sem] theorem c_slices_Values_Sint_int_0_at (rd : Option Nat) (K : Post3) (t : Fr) (m : Mem) : wpM E 58 4 rd c_slices_Values_Sint_int_0 K t m = wpM E 58 4 rd (.seq (.ops [⟨(some 3), .makeFunc (.func 70) #[] #[(.tmp 1)], none⟩,
    ⟨(some 2), .assign (.tmp 3), none⟩]) .ret) K t m := rfl

def c_slices_Values_Sint_int_1 : MC := (.seq (.ops [⟨(some 1), .box 23 (.tmp 0), none⟩,
    ⟨(some 2), .assign (.const .nilFunc), none⟩]) c_slices_Values_Sint_int_0)
@[go_sem] theorem c_slices_Values_Sint_int_1_at (rd : Option Nat) (K : Post3) (t : Fr) (m : Mem) : wpM E 58 4 rd c_slices_Values_Sint_int_1 K t m = wpM E 58 4 rd (.seq (.ops [⟨(some 1), .box 23 (.tmp 0), none⟩,
    ⟨(some 2), .assign (.const .nilFunc), none⟩]) c_slices_Values_Sint_int_0) K t m := rfl

@[go_sem] theorem some58 : (E.fn 58).isSome = true := by kernel_rfl
set_option maxRecDepth 100000 in
theorem fn_slices_Values_Sint_int : FnIs E 58 4 [.tmp 2] c_slices_Values_Sint_int_1 := ⟨by kernel_rfl, by kernel_rfl⟩

/-! slices.Collect[int] -/
abbrev F_slices_Collect_int : FuncId := 59
def c_slices_Collect_int_0 : MC := (.seq (.ops [⟨(some 3), .move (.tmp 0), none⟩,
    ⟨(some 4), .call ⟨.value (.func 71), #[(.const (.slice none 0 0)), (.tmp 3)], #[23, 38]⟩, none⟩,
    ⟨(some 2), .assign (.tmp 4), none⟩]) .ret)
@[go_sem] theorem c_slices_Collect_int_0_at (rd : Option Nat) (K : Post3) (t : Fr) (m : Mem) : wpM E 59 5 rd c_slices_Collect_int_0 K t m = wpM E 59 5 rd (.seq (.ops [⟨(some 3), .move (.tmp 0), none⟩,
    ⟨(some 4), .call ⟨.value (.func 71), #[(.const (.slice none 0 0)), (.tmp 3)], #[23, 38]⟩, none⟩,
    ⟨(some 2), .assign (.tmp 4), none⟩]) .ret) K t m := rfl

def c_slices_Collect_int_1 : MC := (.seq (.ops [⟨(some 2), .assign (.const (.slice none 0 0)), none⟩]) c_slices_Collect_int_0)
@[go_sem] theorem c_slices_Collect_int_1_at (rd : Option Nat) (K : Post3) (t : Fr) (m : Mem) : wpM E 59 5 rd c_slices_Collect_int_1 K t m = wpM E 59 5 rd (.seq (.ops [⟨(some 2), .assign (.const (.slice none 0 0)), none⟩]) c_slices_Collect_int_0) K t m := rfl

@[go_sem] theorem some59 : (E.fn 59).isSome = true := by kernel_rfl
set_option maxRecDepth 100000 in
theorem fn_slices_Collect_int : FnIs E 59 5 [.tmp 2] c_slices_Collect_int_1 := ⟨by kernel_rfl, by kernel_rfl⟩

/-! sheaf/flow.Cursor[int]$1 -/
abbrev F_flow_Cursor_int_1 : FuncId := 60
def c_flow_Cursor_int_1_0 : MC := (.seq (.ops [⟨(some 7), .move (.tmp 3), none⟩,
    ⟨(some 1), .assign (.tmp 7), none⟩,
    ⟨(some 2), .assign (.const (.bool false)), none⟩]) .ret)
@[go_sem] theorem c_flow_Cursor_int_1_0_at (rd : Option Nat) (K : Post3) (t : Fr) (m : Mem) : wpM E 60 14 rd c_flow_Cursor_int_1_0 K t m = wpM E 60 14 rd (.seq (.ops [⟨(some 7), .move (.tmp 3), none⟩,
    ⟨(some 1), .assign (.tmp 7), none⟩,
    ⟨(some 2), .assign (.const (.bool false)), none⟩]) .ret) K t m := rfl

def c_flow_Cursor_int_1_1 : MC := (.cond (.tmp 6) c_flow_Cursor_int_1_0 .skip)
@[go_sem] theorem c_flow_Cursor_int_1_1_at (rd : Option Nat) (K : Post3) (t : Fr) (m : Mem) : wpM E 60 14 rd c_flow_Cursor_int_1_1 K t m = wpM E 60 14 rd (.cond (.tmp 6) c_flow_Cursor_int_1_0 .skip) K t m := rfl

def c_flow_Cursor_int_1_2 : MC := (.seq (.ops [⟨(some 4), .load 23 (.tmp 0), none⟩,
    ⟨(some 5), .call ⟨.builtin .len, #[(.tmp 4)], #[23]⟩, none⟩,
    ⟨(some 6), .binOp .eql 3 (.tmp 5) (.const (.int .i64 0)) 3, none⟩]) c_flow_Cursor_int_1_1)
@[go_sem] theorem c_flow_Cursor_int_1_2_at (rd : Option Nat) (K : Post3) (t : Fr) (m : Mem) : wpM E 60 14 rd c_flow_Cursor_int_1_2 K t m = wpM E 60 14 rd (.seq (.ops [⟨(some 4), .load 23 (.tmp 0), none⟩,
    ⟨(some 5), .call ⟨.builtin .len, #[(.tmp 4)], #[23]⟩, none⟩,
    ⟨(some 6), .binOp .eql 3 (.tmp 5) (.const (.int .i64 0)) 3, none⟩]) c_flow_Cursor_int_1_1) K t m := rfl

def c_flow_Cursor_int_1_3 : MC := (.seq (.ops [⟨(some 13), .move (.tmp 3), none⟩,
    ⟨(some 1), .assign (.tmp 13), none⟩,
    ⟨(some 2), .assign (.const (.bool true)), none⟩]) .ret)
@[go_sem] theorem c_flow_Cursor_int_1_3_at (rd : Option Nat) (K : Post3) (t : Fr) (m : Mem) : wpM E 60 14 rd c_flow_Cursor_int_1_3 K t m = wpM E 60 14 rd (.seq (.ops [⟨(some 13), .move (.tmp 3), none⟩,
    ⟨(some 1), .assign (.tmp 13), none⟩,
    ⟨(some 2), .assign (.const (.bool true)), none⟩]) .ret) K t m := rfl

def c_flow_Cursor_int_1_4 : MC := (.seq (.ops [⟨(some 8), .load 23 (.tmp 0), none⟩,
    ⟨(some 9), .indexAddr 23 (.tmp 8) (.const (.int .i64 0)), none⟩,
    ⟨(some 10), .load 3 (.tmp 9), none⟩,
    ⟨(some 11), .load 23 (.tmp 0), none⟩,
    ⟨(some 12), .slice 23 (.tmp 11) (some (.const (.int .i64 1))) none none, none⟩,
    ⟨(some 3), .assign (.tmp 10), none⟩,
    ⟨none, .store 23 (.tmp 0) (.tmp 12), none⟩]) c_flow_Cursor_int_1_3)
@[go_sem] theorem c_flow_Cursor_int_1_4_at (rd : Option Nat) (K : Post3) (t : Fr) (m : Mem) : wpM E 60 14 rd c_flow_Cursor_int_1_4 K t m = wpM E 60 14 rd (.seq (.ops [⟨(some 8), .load 23 (.tmp 0), none⟩,
    ⟨(some 9), .indexAddr 23 (.tmp 8) (.const (.int .i64 0)), none⟩,
    ⟨(some 10), .load 3 (.tmp 9), none⟩,
    ⟨(some 11), .load 23 (.tmp 0), none⟩,
    ⟨(some 12), .slice 23 (.tmp 11) (some (.const (.int .i64 1))) none none, none⟩,
    ⟨(some 3), .assign (.tmp 10), none⟩,
    ⟨none, .store 23 (.tmp 0) (.tmp 12), none⟩]) c_flow_Cursor_int_1_3) K t m := rfl

def c_flow_Cursor_int_1_5 : MC := (.seq c_flow_Cursor_int_1_2 c_flow_Cursor_int_1_4)
@[go_sem] theorem c_flow_Cursor_int_1_5_at (rd : Option Nat) (K : Post3) (t : Fr) (m : Mem) : wpM E 60 14 rd c_flow_Cursor_int_1_5 K t m = wpM E 60 14 rd (.seq c_flow_Cursor_int_1_2 c_flow_Cursor_int_1_4) K t m := rfl

def c_flow_Cursor_int_1_6 : MC := (.seq (.ops [⟨(some 3), .assign (.const (.int .i64 0)), none⟩]) c_flow_Cursor_int_1_5)
@[go_sem] theorem c_flow_Cursor_int_1_6_at (rd : Option Nat) (K : Post3) (t : Fr) (m : Mem) : wpM E 60 14 rd c_flow_Cursor_int_1_6 K t m = wpM E 60 14 rd (.seq (.ops [⟨(some 3), .assign (.const (.int .i64 0)), none⟩]) c_flow_Cursor_int_1_5) K t m := rfl

def c_flow_Cursor_int_1_7 : MC := (.seq (.ops [⟨(some 1), .assign (.const (.int .i64 0)), none⟩,
    ⟨(some 2), .assign (.const (.bool false)), none⟩]) c_flow_Cursor_int_1_6)
@[go_sem] theorem c_flow_Cursor_int_1_7_at (rd : Option Nat) (K : Post3) (t : Fr) (m : Mem) : wpM E 60 14 rd c_flow_Cursor_int_1_7 K t m = wpM E 60 14 rd (.seq (.ops [⟨(some 1), .assign (.const (.int .i64 0)), none⟩,
    ⟨(some 2), .assign (.const (.bool false)), none⟩]) c_flow_Cursor_int_1_6) K t m := rfl

@[go_sem] theorem some60 : (E.fn 60).isSome = true := by kernel_rfl
set_option maxRecDepth 100000 in
theorem fn_flow_Cursor_int_1 : FnIs E 60 14 [.tmp 1, .tmp 2] c_flow_Cursor_int_1_7 := ⟨by kernel_rfl, by kernel_rfl⟩

/-! sheaf/flow.Join[int,int]$1 -/
abbrev F_flow_Join_int_int_1 : FuncId := 61
def c_flow_Join_int_int_1_0 : MC := (.cond (.tmp 24) .skip (.exit 2))
@[go_sem] theorem c_flow_Join_int_int_1_0_at (rd : Option Nat) (K : Post3) (t : Fr) (m : Mem) : wpM E 61 44 rd c_flow_Join_int_int_1_0 K t m = wpM E 61 44 rd (.cond (.tmp 24) .skip (.exit 2)) K t m := rfl

def c_flow_Join_int_int_1_1 : MC := (.seq (.ops [⟨(some 13), .load 4 (.tmp 6), none⟩,
    ⟨(some 14), .unOp .not 4 (.tmp 13), none⟩,
    ⟨(some 15), .move (.tmp 14), none⟩,
    ⟨(some 16), .load 4 (.tmp 7), (some (some 15, false))⟩,
    ⟨(some 17), .move (.tmp 16), (some (some 15, false))⟩,
    ⟨(some 18), .load 50 (.tmp 2), (some (some 17, true))⟩,
    ⟨(some 19), .move (.tmp 8), (some (some 17, true))⟩,
    ⟨(some 20), .load 3 (.tmp 5), (some (some 17, true))⟩,
    ⟨(some 21), .call ⟨.value (.tmp 18), #[(.tmp 19), (.tmp 20)], #[3, 3]⟩, (some (some 17, true))⟩,
    ⟨(some 22), .binOp .gtr 3 (.tmp 21) (.const (.int .i64 0)) 3, (some (some 17, true))⟩,
    ⟨(some 23), .pick (.tmp 17) (.tmp 22) (.const (.bool false)), (some (some 15, false))⟩,
    ⟨(some 24), .pick (.tmp 15) (.const (.bool true)) (.tmp 23), none⟩]) c_flow_Join_int_int_1_0)
@[go_sem] theorem c_flow_Join_int_int_1_1_at (rd : Option Nat) (K : Post3) (t : Fr) (m : Mem) : wpM E 61 44 rd c_flow_Join_int_int_1_1 K t m = wpM E 61 44 rd (.seq (.ops [⟨(some 13), .load 4 (.tmp 6), none⟩,
    ⟨(some 14), .unOp .not 4 (.tmp 13), none⟩,
    ⟨(some 15), .move (.tmp 14), none⟩,
    ⟨(some 16), .load 4 (.tmp 7), (some (some 15, false))⟩,
    ⟨(some 17), .move (.tmp 16), (some (some 15, false))⟩,
    ⟨(some 18), .load 50 (.tmp 2), (some (some 17, true))⟩,
    ⟨(some 19), .move (.tmp 8), (some (some 17, true))⟩,
    ⟨(some 20), .load 3 (.tmp 5), (some (some 17, true))⟩,
    ⟨(some 21), .call ⟨.value (.tmp 18), #[(.tmp 19), (.tmp 20)], #[3, 3]⟩, (some (some 17, true))⟩,
    ⟨(some 22), .binOp .gtr 3 (.tmp 21) (.const (.int .i64 0)) 3, (some (some 17, true))⟩,
    ⟨(some 23), .pick (.tmp 17) (.tmp 22) (.const (.bool false)), (some (some 15, false))⟩,
    ⟨(some 24), .pick (.tmp 15) (.const (.bool true)) (.tmp 23), none⟩]) c_flow_Join_int_int_1_0) K t m := rfl

def c_flow_Join_int_int_1_2 : MC := (.seq (.ops [⟨(some 26), .load 44 (.tmp 3), none⟩,
    ⟨(some 27), .call ⟨.value (.tmp 26), #[], #[]⟩, none⟩,
    ⟨(some 25), .move (.tmp 27), none⟩,
    ⟨(some 28), .extract (.tmp 25) 0, none⟩,
    ⟨(some 29), .extract (.tmp 25) 1, none⟩,
    ⟨none, .store 3 (.tmp 5) (.tmp 28), none⟩,
    ⟨none, .store 4 (.tmp 7) (.tmp 29), none⟩]) (.ops [⟨none, .store 4 (.tmp 6) (.const (.bool true)), none⟩]))
@[go_sem] theorem c_flow_Join_int_int_1_2_at (rd : Option Nat) (K : Post3) (t : Fr) (m : Mem) : wpM E 61 44 rd c_flow_Join_int_int_1_2 K t m = wpM E 61 44 rd (.seq (.ops [⟨(some 26), .load 44 (.tmp 3), none⟩,
    ⟨(some 27), .call ⟨.value (.tmp 26), #[], #[]⟩, none⟩,
    ⟨(some 25), .move (.tmp 27), none⟩,
    ⟨(some 28), .extract (.tmp 25) 0, none⟩,
    ⟨(some 29), .extract (.tmp 25) 1, none⟩,
    ⟨none, .store 3 (.tmp 5) (.tmp 28), none⟩,
    ⟨none, .store 4 (.tmp 7) (.tmp 29), none⟩]) (.ops [⟨none, .store 4 (.tmp 6) (.const (.bool true)), none⟩])) K t m := rfl

def c_flow_Join_int_int_1_3 : MC := (.block 3 c_flow_Join_int_int_1_2)
@[go_sem] theorem c_flow_Join_int_int_1_3_at (rd : Option Nat) (K : Post3) (t : Fr) (m : Mem) : wpM E 61 44 rd c_flow_Join_int_int_1_3 K t m = wpM E 61 44 rd (.block 3 c_flow_Join_int_int_1_2) K t m := rfl

def c_flow_Join_int_int_1_4 : MC := (.seq c_flow_Join_int_int_1_1 c_flow_Join_int_int_1_3)
@[go_sem] theorem c_flow_Join_int_int_1_4_at (rd : Option Nat) (K : Post3) (t : Fr) (m : Mem) : wpM E 61 44 rd c_flow_Join_int_int_1_4 K t m = wpM E 61 44 rd (.seq c_flow_Join_int_int_1_1 c_flow_Join_int_int_1_3) K t m := rfl

def c_flow_Join_int_int_1_5 : MC := (.loop c_flow_Join_int_int_1_4)
theorem c_flow_Join_int_int_1_5_at (rd : Option Nat) (K : Post3) (t : Fr) (m : Mem) : wpM E 61 44 rd c_flow_Join_int_int_1_5 K t m = wpM E 61 44 rd (.loop c_flow_Join_int_int_1_4) K t m := rfl

def c_flow_Join_int_int_1_6 : MC := (.block 2 c_flow_Join_int_int_1_5)
theorem c_flow_Join_int_int_1_6_at (rd : Option Nat) (K : Post3) (t : Fr) (m : Mem) : wpM E 61 44 rd c_flow_Join_int_int_1_6 K t m = wpM E 61 44 rd (.block 2 c_flow_Join_int_int_1_5) K t m := rfl

def c_flow_Join_int_int_1_7 : MC := (.seq (.ops [⟨(some 38), .load 3 (.tmp 5), none⟩,
    ⟨(some 10), .alloc 3, none⟩,
    ⟨none, .store 3 (.tmp 10) (.tmp 38), none⟩]) (.ops [⟨(some 9), .assign (.tmp 10), none⟩]))
@[go_sem] theorem c_flow_Join_int_int_1_7_at (rd : Option Nat) (K : Post3) (t : Fr) (m : Mem) : wpM E 61 44 rd c_flow_Join_int_int_1_7 K t m = wpM E 61 44 rd (.seq (.ops [⟨(some 38), .load 3 (.tmp 5), none⟩,
    ⟨(some 10), .alloc 3, none⟩,
    ⟨none, .store 3 (.tmp 10) (.tmp 38), none⟩]) (.ops [⟨(some 9), .assign (.tmp 10), none⟩])) K t m := rfl

def c_flow_Join_int_int_1_8 : MC := (.cond (.tmp 37) c_flow_Join_int_int_1_7 .skip)
@[go_sem] theorem c_flow_Join_int_int_1_8_at (rd : Option Nat) (K : Post3) (t : Fr) (m : Mem) : wpM E 61 44 rd c_flow_Join_int_int_1_8 K t m = wpM E 61 44 rd (.cond (.tmp 37) c_flow_Join_int_int_1_7 .skip) K t m := rfl

def c_flow_Join_int_int_1_9 : MC := (.seq (.ops [⟨(some 30), .load 4 (.tmp 7), none⟩,
    ⟨(some 31), .move (.tmp 30), none⟩,
    ⟨(some 32), .load 50 (.tmp 2), (some (some 31, true))⟩,
    ⟨(some 33), .move (.tmp 8), (some (some 31, true))⟩,
    ⟨(some 34), .load 3 (.tmp 5), (some (some 31, true))⟩,
    ⟨(some 35), .call ⟨.value (.tmp 32), #[(.tmp 33), (.tmp 34)], #[3, 3]⟩, (some (some 31, true))⟩,
    ⟨(some 36), .binOp .eql 3 (.tmp 35) (.const (.int .i64 0)) 3, (some (some 31, true))⟩,
    ⟨(some 37), .pick (.tmp 31) (.tmp 36) (.const (.bool false)), none⟩]) c_flow_Join_int_int_1_8)
@[go_sem] theorem c_flow_Join_int_int_1_9_at (rd : Option Nat) (K : Post3) (t : Fr) (m : Mem) : wpM E 61 44 rd c_flow_Join_int_int_1_9 K t m = wpM E 61 44 rd (.seq (.ops [⟨(some 30), .load 4 (.tmp 7), none⟩,
    ⟨(some 31), .move (.tmp 30), none⟩,
    ⟨(some 32), .load 50 (.tmp 2), (some (some 31, true))⟩,
    ⟨(some 33), .move (.tmp 8), (some (some 31, true))⟩,
    ⟨(some 34), .load 3 (.tmp 5), (some (some 31, true))⟩,
    ⟨(some 35), .call ⟨.value (.tmp 32), #[(.tmp 33), (.tmp 34)], #[3, 3]⟩, (some (some 31, true))⟩,
    ⟨(some 36), .binOp .eql 3 (.tmp 35) (.const (.int .i64 0)) 3, (some (some 31, true))⟩,
    ⟨(some 37), .pick (.tmp 31) (.tmp 36) (.const (.bool false)), none⟩]) c_flow_Join_int_int_1_8) K t m := rfl

def c_flow_Join_int_int_1_10 : MC := (.cond (.tmp 43) .ret .skip)
@[go_sem] theorem c_flow_Join_int_int_1_10_at (rd : Option Nat) (K : Post3) (t : Fr) (m : Mem) : wpM E 61 44 rd c_flow_Join_int_int_1_10 K t m = wpM E 61 44 rd (.cond (.tmp 43) .ret .skip) K t m := rfl

def c_flow_Join_int_int_1_11 : MC := (.seq (.ops [⟨(some 39), .load 72 (.tmp 4), none⟩,
    ⟨(some 40), .move (.tmp 8), none⟩,
    ⟨(some 41), .move (.tmp 9), none⟩,
    ⟨(some 42), .call ⟨.value (.tmp 39), #[(.tmp 40), (.tmp 41)], #[3, 51]⟩, none⟩,
    ⟨(some 43), .unOp .not 4 (.tmp 42), none⟩]) c_flow_Join_int_int_1_10)
@[go_sem] theorem c_flow_Join_int_int_1_11_at (rd : Option Nat) (K : Post3) (t : Fr) (m : Mem) : wpM E 61 44 rd c_flow_Join_int_int_1_11 K t m = wpM E 61 44 rd (.seq (.ops [⟨(some 39), .load 72 (.tmp 4), none⟩,
    ⟨(some 40), .move (.tmp 8), none⟩,
    ⟨(some 41), .move (.tmp 9), none⟩,
    ⟨(some 42), .call ⟨.value (.tmp 39), #[(.tmp 40), (.tmp 41)], #[3, 51]⟩, none⟩,
    ⟨(some 43), .unOp .not 4 (.tmp 42), none⟩]) c_flow_Join_int_int_1_10) K t m := rfl

def c_flow_Join_int_int_1_12 : MC := (.seq c_flow_Join_int_int_1_9 c_flow_Join_int_int_1_11)
@[go_sem] theorem c_flow_Join_int_int_1_12_at (rd : Option Nat) (K : Post3) (t : Fr) (m : Mem) : wpM E 61 44 rd c_flow_Join_int_int_1_12 K t m = wpM E 61 44 rd (.seq c_flow_Join_int_int_1_9 c_flow_Join_int_int_1_11) K t m := rfl

def c_flow_Join_int_int_1_13 : MC := (.seq (.ops [⟨(some 9), .assign (.const (.pointer none)), none⟩]) c_flow_Join_int_int_1_12)
@[go_sem] theorem c_flow_Join_int_int_1_13_at (rd : Option Nat) (K : Post3) (t : Fr) (m : Mem) : wpM E 61 44 rd c_flow_Join_int_int_1_13 K t m = wpM E 61 44 rd (.seq (.ops [⟨(some 9), .assign (.const (.pointer none)), none⟩]) c_flow_Join_int_int_1_12) K t m := rfl

def c_flow_Join_int_int_1_14 : MC := (.seq c_flow_Join_int_int_1_6 c_flow_Join_int_int_1_13)
@[go_sem] theorem c_flow_Join_int_int_1_14_at (rd : Option Nat) (K : Post3) (t : Fr) (m : Mem) : wpM E 61 44 rd c_flow_Join_int_int_1_14 K t m = wpM E 61 44 rd (.seq c_flow_Join_int_int_1_6 c_flow_Join_int_int_1_13) K t m := rfl

def c_flow_Join_int_int_1_15 : MC := (.block 1 c_flow_Join_int_int_1_14)
@[go_sem] theorem c_flow_Join_int_int_1_15_at (rd : Option Nat) (K : Post3) (t : Fr) (m : Mem) : wpM E 61 44 rd c_flow_Join_int_int_1_15 K t m = wpM E 61 44 rd (.block 1 c_flow_Join_int_int_1_14) K t m := rfl

theorem asg_flow_Join_int_int_1_0 : compile E 61 44 (asgAt E 61 0) = some (.ops [⟨(some 8), .assign (.tmp 12), none⟩]) := by kernel_rfl

theorem body_flow_Join_int_int_1_0 : compile E 61 44 (bodyAt E 61 0) = some c_flow_Join_int_int_1_15 := by kernel_rfl

def c_flow_Join_int_int_1_16 : MC := (.range (.tmp 11) #[12] (asgAt E 61 0) (bodyAt E 61 0))
theorem c_flow_Join_int_int_1_16_at (rd : Option Nat) (K : Post3) (t : Fr) (m : Mem) : wpM E 61 44 rd c_flow_Join_int_int_1_16 K t m = wpM E 61 44 rd (.range (.tmp 11) #[12] (asgAt E 61 0) (bodyAt E 61 0)) K t m := rfl

def c_flow_Join_int_int_1_17 : MC := (.block 0 c_flow_Join_int_int_1_16)
@[go_sem] theorem c_flow_Join_int_int_1_17_at (rd : Option Nat) (K : Post3) (t : Fr) (m : Mem) : wpM E 61 44 rd c_flow_Join_int_int_1_17 K t m = wpM E 61 44 rd (.block 0 c_flow_Join_int_int_1_16) K t m := rfl

def c_flow_Join_int_int_1_18 : MC := (.seq (.ops [⟨(some 11), .load 38 (.tmp 1), none⟩]) c_flow_Join_int_int_1_17)
@[go_sem] theorem c_flow_Join_int_int_1_18_at (rd : Option Nat) (K : Post3) (t : Fr) (m : Mem) : wpM E 61 44 rd c_flow_Join_int_int_1_18 K t m = wpM E 61 44 rd (.seq (.ops [⟨(some 11), .load 38 (.tmp 1), none⟩]) c_flow_Join_int_int_1_17) K t m := rfl

def c_flow_Join_int_int_1_19 : MC := (.seq (.ops [⟨(some 6), .alloc 4, none⟩,
    ⟨(some 7), .alloc 4, none⟩,
    ⟨none, .store 4 (.tmp 6) (.const (.bool false)), none⟩,
    ⟨none, .store 4 (.tmp 7) (.const (.bool false)), none⟩]) c_flow_Join_int_int_1_18)
@[go_sem] theorem c_flow_Join_int_int_1_19_at (rd : Option Nat) (K : Post3) (t : Fr) (m : Mem) : wpM E 61 44 rd c_flow_Join_int_int_1_19 K t m = wpM E 61 44 rd (.seq (.ops [⟨(some 6), .alloc 4, none⟩,
    ⟨(some 7), .alloc 4, none⟩,
    ⟨none, .store 4 (.tmp 6) (.const (.bool false)), none⟩,
    ⟨none, .store 4 (.tmp 7) (.const (.bool false)), none⟩]) c_flow_Join_int_int_1_18) K t m := rfl

def c_flow_Join_int_int_1_20 : MC := (.seq (.ops [⟨(some 5), .alloc 3, none⟩]) c_flow_Join_int_int_1_19)
@[go_sem] theorem c_flow_Join_int_int_1_20_at (rd : Option Nat) (K : Post3) (t : Fr) (m : Mem) : wpM E 61 44 rd c_flow_Join_int_int_1_20 K t m = wpM E 61 44 rd (.seq (.ops [⟨(some 5), .alloc 3, none⟩]) c_flow_Join_int_int_1_19) K t m := rfl

def c_flow_Join_int_int_1_21 : MC := (.seq (.ops [⟨(some 4), .box 72 (.tmp 0), none⟩]) c_flow_Join_int_int_1_20)
@[go_sem] theorem c_flow_Join_int_int_1_21_at (rd : Option Nat) (K : Post3) (t : Fr) (m : Mem) : wpM E 61 44 rd c_flow_Join_int_int_1_21 K t m = wpM E 61 44 rd (.seq (.ops [⟨(some 4), .box 72 (.tmp 0), none⟩]) c_flow_Join_int_int_1_20) K t m := rfl

@[go_sem] theorem some61 : (E.fn 61).isSome = true := by kernel_rfl
set_option maxRecDepth 100000 in
theorem fn_flow_Join_int_int_1 : FnIs E 61 44 [] c_flow_Join_int_int_1_21 := ⟨by kernel_rfl, by kernel_rfl⟩

/-! sheaf/flow.Map[int,int]$1 -/
abbrev F_flow_Map_int_int_1 : FuncId := 62
def c_flow_Map_int_int_1_0 : MC := (.cond (.tmp 12) .ret .skip)
@[go_sem] theorem c_flow_Map_int_int_1_0_at (rd : Option Nat) (K : Post3) (t : Fr) (m : Mem) : wpM E 62 13 rd c_flow_Map_int_int_1_0 K t m = wpM E 62 13 rd (.cond (.tmp 12) .ret .skip) K t m := rfl

def c_flow_Map_int_int_1_1 : MC := (.seq (.draw [(0, [], ⟨(some 7), .load 55 (.tmp 3), none⟩),
    (1, [], ⟨(some 8), .load 56 (.tmp 2), none⟩),
    (2, [], ⟨(some 9), .move (.tmp 4), none⟩),
    (3, [0], ⟨(some 10), .call ⟨.value (.tmp 8), #[(.tmp 9)], #[3]⟩, none⟩),
    (4, [], ⟨(some 11), .call ⟨.value (.tmp 7), #[(.tmp 10)], #[3]⟩, none⟩),
    (5, [], ⟨(some 12), .unOp .not 4 (.tmp 11), none⟩)]) c_flow_Map_int_int_1_0)
@[go_sem] theorem c_flow_Map_int_int_1_1_at (rd : Option Nat) (K : Post3) (t : Fr) (m : Mem) : wpM E 62 13 rd c_flow_Map_int_int_1_1 K t m = wpM E 62 13 rd (.seq (.draw [(0, [], ⟨(some 7), .load 55 (.tmp 3), none⟩),
    (1, [], ⟨(some 8), .load 56 (.tmp 2), none⟩),
    (2, [], ⟨(some 9), .move (.tmp 4), none⟩),
    (3, [0], ⟨(some 10), .call ⟨.value (.tmp 8), #[(.tmp 9)], #[3]⟩, none⟩),
    (4, [], ⟨(some 11), .call ⟨.value (.tmp 7), #[(.tmp 10)], #[3]⟩, none⟩),
    (5, [], ⟨(some 12), .unOp .not 4 (.tmp 11), none⟩)]) c_flow_Map_int_int_1_0) K t m := rfl

def c_flow_Map_int_int_1_2 : MC := (.block 1 c_flow_Map_int_int_1_1)
@[go_sem] theorem c_flow_Map_int_int_1_2_at (rd : Option Nat) (K : Post3) (t : Fr) (m : Mem) : wpM E 62 13 rd c_flow_Map_int_int_1_2 K t m = wpM E 62 13 rd (.block 1 c_flow_Map_int_int_1_1) K t m := rfl

theorem asg_flow_Map_int_int_1_0 : compile E 62 13 (asgAt E 62 0) = some (.ops [⟨(some 4), .assign (.tmp 6), none⟩]) := by kernel_rfl

theorem body_flow_Map_int_int_1_0 : compile E 62 13 (bodyAt E 62 0) = some c_flow_Map_int_int_1_2 := by kernel_rfl

def c_flow_Map_int_int_1_3 : MC := (.range (.tmp 5) #[6] (asgAt E 62 0) (bodyAt E 62 0))
theorem c_flow_Map_int_int_1_3_at (rd : Option Nat) (K : Post3) (t : Fr) (m : Mem) : wpM E 62 13 rd c_flow_Map_int_int_1_3 K t m = wpM E 62 13 rd (.range (.tmp 5) #[6] (asgAt E 62 0) (bodyAt E 62 0)) K t m := rfl

def c_flow_Map_int_int_1_4 : MC := (.block 0 c_flow_Map_int_int_1_3)
@[go_sem] theorem c_flow_Map_int_int_1_4_at (rd : Option Nat) (K : Post3) (t : Fr) (m : Mem) : wpM E 62 13 rd c_flow_Map_int_int_1_4 K t m = wpM E 62 13 rd (.block 0 c_flow_Map_int_int_1_3) K t m := rfl

def c_flow_Map_int_int_1_5 : MC := (.seq (.ops [⟨(some 5), .load 38 (.tmp 1), none⟩]) c_flow_Map_int_int_1_4)
@[go_sem] theorem c_flow_Map_int_int_1_5_at (rd : Option Nat) (K : Post3) (t : Fr) (m : Mem) : wpM E 62 13 rd c_flow_Map_int_int_1_5 K t m = wpM E 62 13 rd (.seq (.ops [⟨(some 5), .load 38 (.tmp 1), none⟩]) c_flow_Map_int_int_1_4) K t m := rfl

def c_flow_Map_int_int_1_6 : MC := (.seq (.ops [⟨(some 3), .box 55 (.tmp 0), none⟩]) c_flow_Map_int_int_1_5)
@[go_sem] theorem c_flow_Map_int_int_1_6_at (rd : Option Nat) (K : Post3) (t : Fr) (m : Mem) : wpM E 62 13 rd c_flow_Map_int_int_1_6 K t m = wpM E 62 13 rd (.seq (.ops [⟨(some 3), .box 55 (.tmp 0), none⟩]) c_flow_Map_int_int_1_5) K t m := rfl

@[go_sem] theorem some62 : (E.fn 62).isSome = true := by kernel_rfl
set_option maxRecDepth 100000 in
theorem fn_flow_Map_int_int_1 : FnIs E 62 13 [] c_flow_Map_int_int_1_6 := ⟨by kernel_rfl, by kernel_rfl⟩

/-! sheaf/flow.Keep[int]$1 -/
abbrev F_flow_Keep_int_1 : FuncId := 63
def c_flow_Keep_int_1_0 : MC := (.cond (.tmp 15) .ret .skip)
@[go_sem] theorem c_flow_Keep_int_1_0_at (rd : Option Nat) (K : Post3) (t : Fr) (m : Mem) : wpM E 63 16 rd c_flow_Keep_int_1_0 K t m = wpM E 63 16 rd (.cond (.tmp 15) .ret .skip) K t m := rfl

def c_flow_Keep_int_1_1 : MC := (.seq (.ops [⟨(some 7), .load 55 (.tmp 2), none⟩,
    ⟨(some 8), .move (.tmp 4), none⟩,
    ⟨(some 9), .call ⟨.value (.tmp 7), #[(.tmp 8)], #[3]⟩, none⟩,
    ⟨(some 10), .move (.tmp 9), none⟩,
    ⟨(some 11), .load 55 (.tmp 3), (some (some 10, true))⟩,
    ⟨(some 12), .move (.tmp 4), (some (some 10, true))⟩,
    ⟨(some 13), .call ⟨.value (.tmp 11), #[(.tmp 12)], #[3]⟩, (some (some 10, true))⟩,
    ⟨(some 14), .unOp .not 4 (.tmp 13), (some (some 10, true))⟩,
    ⟨(some 15), .pick (.tmp 10) (.tmp 14) (.const (.bool false)), none⟩]) c_flow_Keep_int_1_0)
@[go_sem] theorem c_flow_Keep_int_1_1_at (rd : Option Nat) (K : Post3) (t : Fr) (m : Mem) : wpM E 63 16 rd c_flow_Keep_int_1_1 K t m = wpM E 63 16 rd (.seq (.ops [⟨(some 7), .load 55 (.tmp 2), none⟩,
    ⟨(some 8), .move (.tmp 4), none⟩,
    ⟨(some 9), .call ⟨.value (.tmp 7), #[(.tmp 8)], #[3]⟩, none⟩,
    ⟨(some 10), .move (.tmp 9), none⟩,
    ⟨(some 11), .load 55 (.tmp 3), (some (some 10, true))⟩,
    ⟨(some 12), .move (.tmp 4), (some (some 10, true))⟩,
    ⟨(some 13), .call ⟨.value (.tmp 11), #[(.tmp 12)], #[3]⟩, (some (some 10, true))⟩,
    ⟨(some 14), .unOp .not 4 (.tmp 13), (some (some 10, true))⟩,
    ⟨(some 15), .pick (.tmp 10) (.tmp 14) (.const (.bool false)), none⟩]) c_flow_Keep_int_1_0) K t m := rfl

def c_flow_Keep_int_1_2 : MC := (.block 1 c_flow_Keep_int_1_1)
@[go_sem] theorem c_flow_Keep_int_1_2_at (rd : Option Nat) (K : Post3) (t : Fr) (m : Mem) : wpM E 63 16 rd c_flow_Keep_int_1_2 K t m = wpM E 63 16 rd (.block 1 c_flow_Keep_int_1_1) K t m := rfl

theorem asg_flow_Keep_int_1_0 : compile E 63 16 (asgAt E 63 0) = some (.ops [⟨(some 4), .assign (.tmp 6), none⟩]) := by kernel_rfl

theorem body_flow_Keep_int_1_0 : compile E 63 16 (bodyAt E 63 0) = some c_flow_Keep_int_1_2 := by kernel_rfl

def c_flow_Keep_int_1_3 : MC := (.range (.tmp 5) #[6] (asgAt E 63 0) (bodyAt E 63 0))
theorem c_flow_Keep_int_1_3_at (rd : Option Nat) (K : Post3) (t : Fr) (m : Mem) : wpM E 63 16 rd c_flow_Keep_int_1_3 K t m = wpM E 63 16 rd (.range (.tmp 5) #[6] (asgAt E 63 0) (bodyAt E 63 0)) K t m := rfl

def c_flow_Keep_int_1_4 : MC := (.block 0 c_flow_Keep_int_1_3)
@[go_sem] theorem c_flow_Keep_int_1_4_at (rd : Option Nat) (K : Post3) (t : Fr) (m : Mem) : wpM E 63 16 rd c_flow_Keep_int_1_4 K t m = wpM E 63 16 rd (.block 0 c_flow_Keep_int_1_3) K t m := rfl

def c_flow_Keep_int_1_5 : MC := (.seq (.ops [⟨(some 5), .load 38 (.tmp 1), none⟩]) c_flow_Keep_int_1_4)
@[go_sem] theorem c_flow_Keep_int_1_5_at (rd : Option Nat) (K : Post3) (t : Fr) (m : Mem) : wpM E 63 16 rd c_flow_Keep_int_1_5 K t m = wpM E 63 16 rd (.seq (.ops [⟨(some 5), .load 38 (.tmp 1), none⟩]) c_flow_Keep_int_1_4) K t m := rfl

def c_flow_Keep_int_1_6 : MC := (.seq (.ops [⟨(some 3), .box 55 (.tmp 0), none⟩]) c_flow_Keep_int_1_5)
@[go_sem] theorem c_flow_Keep_int_1_6_at (rd : Option Nat) (K : Post3) (t : Fr) (m : Mem) : wpM E 63 16 rd c_flow_Keep_int_1_6 K t m = wpM E 63 16 rd (.seq (.ops [⟨(some 3), .box 55 (.tmp 0), none⟩]) c_flow_Keep_int_1_5) K t m := rfl

@[go_sem] theorem some63 : (E.fn 63).isSome = true := by kernel_rfl
set_option maxRecDepth 100000 in
theorem fn_flow_Keep_int_1 : FnIs E 63 16 [] c_flow_Keep_int_1_6 := ⟨by kernel_rfl, by kernel_rfl⟩

/-! slices.Collect[string] -/
abbrev F_slices_Collect_string : FuncId := 65
def c_slices_Collect_string_0 : MC := (.seq (.ops [⟨(some 3), .move (.tmp 0), none⟩,
    ⟨(some 4), .call ⟨.value (.func 72), #[(.const (.slice none 0 0)), (.tmp 3)], #[57, 60]⟩, none⟩,
    ⟨(some 2), .assign (.tmp 4), none⟩]) .ret)
@[go_sem] theorem c_slices_Collect_string_0_at (rd : Option Nat) (K : Post3) (t : Fr) (m : Mem) : wpM E 65 5 rd c_slices_Collect_string_0 K t m = wpM E 65 5 rd (.seq (.ops [⟨(some 3), .move (.tmp 0), none⟩,
    ⟨(some 4), .call ⟨.value (.func 72), #[(.const (.slice none 0 0)), (.tmp 3)], #[57, 60]⟩, none⟩,
    ⟨(some 2), .assign (.tmp 4), none⟩]) .ret) K t m := rfl

def c_slices_Collect_string_1 : MC := (.seq (.ops [⟨(some 2), .assign (.const (.slice none 0 0)), none⟩]) c_slices_Collect_string_0)
@[go_sem] theorem c_slices_Collect_string_1_at (rd : Option Nat) (K : Post3) (t : Fr) (m : Mem) : wpM E 65 5 rd c_slices_Collect_string_1 K t m = wpM E 65 5 rd (.seq (.ops [⟨(some 2), .assign (.const (.slice none 0 0)), none⟩]) c_slices_Collect_string_0) K t m := rfl

@[go_sem] theorem some65 : (E.fn 65).isSome = true := by kernel_rfl
set_option maxRecDepth 100000 in
theorem fn_slices_Collect_string : FnIs E 65 5 [.tmp 2] c_slices_Collect_string_1 := ⟨by kernel_rfl, by kernel_rfl⟩

/-! sheaf/flow.Map[int,string]$1 -/
abbrev F_flow_Map_int_string_1 : FuncId := 66
def c_flow_Map_int_string_1_0 : MC := (.cond (.tmp 12) .ret .skip)
@[go_sem] theorem c_flow_Map_int_string_1_0_at (rd : Option Nat) (K : Post3) (t : Fr) (m : Mem) : wpM E 66 13 rd c_flow_Map_int_string_1_0 K t m = wpM E 66 13 rd (.cond (.tmp 12) .ret .skip) K t m := rfl

def c_flow_Map_int_string_1_1 : MC := (.seq (.draw [(0, [], ⟨(some 7), .load 73 (.tmp 3), none⟩),
    (1, [], ⟨(some 8), .load 63 (.tmp 2), none⟩),
    (2, [], ⟨(some 9), .move (.tmp 4), none⟩),
    (3, [0], ⟨(some 10), .call ⟨.value (.tmp 8), #[(.tmp 9)], #[3]⟩, none⟩),
    (4, [], ⟨(some 11), .call ⟨.value (.tmp 7), #[(.tmp 10)], #[9]⟩, none⟩),
    (5, [], ⟨(some 12), .unOp .not 4 (.tmp 11), none⟩)]) c_flow_Map_int_string_1_0)
@[go_sem] theorem c_flow_Map_int_string_1_1_at (rd : Option Nat) (K : Post3) (t : Fr) (m : Mem) : wpM E 66 13 rd c_flow_Map_int_string_1_1 K t m = wpM E 66 13 rd (.seq (.draw [(0, [], ⟨(some 7), .load 73 (.tmp 3), none⟩),
    (1, [], ⟨(some 8), .load 63 (.tmp 2), none⟩),
    (2, [], ⟨(some 9), .move (.tmp 4), none⟩),
    (3, [0], ⟨(some 10), .call ⟨.value (.tmp 8), #[(.tmp 9)], #[3]⟩, none⟩),
    (4, [], ⟨(some 11), .call ⟨.value (.tmp 7), #[(.tmp 10)], #[9]⟩, none⟩),
    (5, [], ⟨(some 12), .unOp .not 4 (.tmp 11), none⟩)]) c_flow_Map_int_string_1_0) K t m := rfl

def c_flow_Map_int_string_1_2 : MC := (.block 1 c_flow_Map_int_string_1_1)
@[go_sem] theorem c_flow_Map_int_string_1_2_at (rd : Option Nat) (K : Post3) (t : Fr) (m : Mem) : wpM E 66 13 rd c_flow_Map_int_string_1_2 K t m = wpM E 66 13 rd (.block 1 c_flow_Map_int_string_1_1) K t m := rfl

theorem asg_flow_Map_int_string_1_0 : compile E 66 13 (asgAt E 66 0) = some (.ops [⟨(some 4), .assign (.tmp 6), none⟩]) := by kernel_rfl

theorem body_flow_Map_int_string_1_0 : compile E 66 13 (bodyAt E 66 0) = some c_flow_Map_int_string_1_2 := by kernel_rfl

def c_flow_Map_int_string_1_3 : MC := (.range (.tmp 5) #[6] (asgAt E 66 0) (bodyAt E 66 0))
theorem c_flow_Map_int_string_1_3_at (rd : Option Nat) (K : Post3) (t : Fr) (m : Mem) : wpM E 66 13 rd c_flow_Map_int_string_1_3 K t m = wpM E 66 13 rd (.range (.tmp 5) #[6] (asgAt E 66 0) (bodyAt E 66 0)) K t m := rfl

def c_flow_Map_int_string_1_4 : MC := (.block 0 c_flow_Map_int_string_1_3)
@[go_sem] theorem c_flow_Map_int_string_1_4_at (rd : Option Nat) (K : Post3) (t : Fr) (m : Mem) : wpM E 66 13 rd c_flow_Map_int_string_1_4 K t m = wpM E 66 13 rd (.block 0 c_flow_Map_int_string_1_3) K t m := rfl

def c_flow_Map_int_string_1_5 : MC := (.seq (.ops [⟨(some 5), .load 38 (.tmp 1), none⟩]) c_flow_Map_int_string_1_4)
@[go_sem] theorem c_flow_Map_int_string_1_5_at (rd : Option Nat) (K : Post3) (t : Fr) (m : Mem) : wpM E 66 13 rd c_flow_Map_int_string_1_5 K t m = wpM E 66 13 rd (.seq (.ops [⟨(some 5), .load 38 (.tmp 1), none⟩]) c_flow_Map_int_string_1_4) K t m := rfl

def c_flow_Map_int_string_1_6 : MC := (.seq (.ops [⟨(some 3), .box 73 (.tmp 0), none⟩]) c_flow_Map_int_string_1_5)
@[go_sem] theorem c_flow_Map_int_string_1_6_at (rd : Option Nat) (K : Post3) (t : Fr) (m : Mem) : wpM E 66 13 rd c_flow_Map_int_string_1_6 K t m = wpM E 66 13 rd (.seq (.ops [⟨(some 3), .box 73 (.tmp 0), none⟩]) c_flow_Map_int_string_1_5) K t m := rfl

@[go_sem] theorem some66 : (E.fn 66).isSome = true := by kernel_rfl
set_option maxRecDepth 100000 in
theorem fn_flow_Map_int_string_1 : FnIs E 66 13 [] c_flow_Map_int_string_1_6 := ⟨by kernel_rfl, by kernel_rfl⟩

/-! sheaf/flow.Map[[]int,int]$1 -/
abbrev F_flow_Map_Sint_int_1 : FuncId := 67
def c_flow_Map_Sint_int_1_0 : MC := (.cond (.tmp 12) .ret .skip)
@[go_sem] theorem c_flow_Map_Sint_int_1_0_at (rd : Option Nat) (K : Post3) (t : Fr) (m : Mem) : wpM E 67 13 rd c_flow_Map_Sint_int_1_0 K t m = wpM E 67 13 rd (.cond (.tmp 12) .ret .skip) K t m := rfl

def c_flow_Map_Sint_int_1_1 : MC := (.seq (.draw [(0, [], ⟨(some 7), .load 55 (.tmp 3), none⟩),
    (1, [], ⟨(some 8), .load 67 (.tmp 2), none⟩),
    (2, [], ⟨(some 9), .move (.tmp 4), none⟩),
    (3, [0], ⟨(some 10), .call ⟨.value (.tmp 8), #[(.tmp 9)], #[23]⟩, none⟩),
    (4, [], ⟨(some 11), .call ⟨.value (.tmp 7), #[(.tmp 10)], #[3]⟩, none⟩),
    (5, [], ⟨(some 12), .unOp .not 4 (.tmp 11), none⟩)]) c_flow_Map_Sint_int_1_0)
@[go_sem] theorem c_flow_Map_Sint_int_1_1_at (rd : Option Nat) (K : Post3) (t : Fr) (m : Mem) : wpM E 67 13 rd c_flow_Map_Sint_int_1_1 K t m = wpM E 67 13 rd (.seq (.draw [(0, [], ⟨(some 7), .load 55 (.tmp 3), none⟩),
    (1, [], ⟨(some 8), .load 67 (.tmp 2), none⟩),
    (2, [], ⟨(some 9), .move (.tmp 4), none⟩),
    (3, [0], ⟨(some 10), .call ⟨.value (.tmp 8), #[(.tmp 9)], #[23]⟩, none⟩),
    (4, [], ⟨(some 11), .call ⟨.value (.tmp 7), #[(.tmp 10)], #[3]⟩, none⟩),
    (5, [], ⟨(some 12), .unOp .not 4 (.tmp 11), none⟩)]) c_flow_Map_Sint_int_1_0) K t m := rfl

def c_flow_Map_Sint_int_1_2 : MC := (.block 1 c_flow_Map_Sint_int_1_1)
@[go_sem] theorem c_flow_Map_Sint_int_1_2_at (rd : Option Nat) (K : Post3) (t : Fr) (m : Mem) : wpM E 67 13 rd c_flow_Map_Sint_int_1_2 K t m = wpM E 67 13 rd (.block 1 c_flow_Map_Sint_int_1_1) K t m := rfl

theorem asg_flow_Map_Sint_int_1_0 : compile E 67 13 (asgAt E 67 0) = some (.ops [⟨(some 4), .assign (.tmp 6), none⟩]) := by kernel_rfl

theorem body_flow_Map_Sint_int_1_0 : compile E 67 13 (bodyAt E 67 0) = some c_flow_Map_Sint_int_1_2 := by kernel_rfl

def c_flow_Map_Sint_int_1_3 : MC := (.range (.tmp 5) #[6] (asgAt E 67 0) (bodyAt E 67 0))
theorem c_flow_Map_Sint_int_1_3_at (rd : Option Nat) (K : Post3) (t : Fr) (m : Mem) : wpM E 67 13 rd c_flow_Map_Sint_int_1_3 K t m = wpM E 67 13 rd (.range (.tmp 5) #[6] (asgAt E 67 0) (bodyAt E 67 0)) K t m := rfl

def c_flow_Map_Sint_int_1_4 : MC := (.block 0 c_flow_Map_Sint_int_1_3)
@[go_sem] theorem c_flow_Map_Sint_int_1_4_at (rd : Option Nat) (K : Post3) (t : Fr) (m : Mem) : wpM E 67 13 rd c_flow_Map_Sint_int_1_4 K t m = wpM E 67 13 rd (.block 0 c_flow_Map_Sint_int_1_3) K t m := rfl

def c_flow_Map_Sint_int_1_5 : MC := (.seq (.ops [⟨(some 5), .load 26 (.tmp 1), none⟩]) c_flow_Map_Sint_int_1_4)
@[go_sem] theorem c_flow_Map_Sint_int_1_5_at (rd : Option Nat) (K : Post3) (t : Fr) (m : Mem) : wpM E 67 13 rd c_flow_Map_Sint_int_1_5 K t m = wpM E 67 13 rd (.seq (.ops [⟨(some 5), .load 26 (.tmp 1), none⟩]) c_flow_Map_Sint_int_1_4) K t m := rfl

def c_flow_Map_Sint_int_1_6 : MC := (.seq (.ops [⟨(some 3), .box 55 (.tmp 0), none⟩]) c_flow_Map_Sint_int_1_5)
@[go_sem] theorem c_flow_Map_Sint_int_1_6_at (rd : Option Nat) (K : Post3) (t : Fr) (m : Mem) : wpM E 67 13 rd c_flow_Map_Sint_int_1_6 K t m = wpM E 67 13 rd (.seq (.ops [⟨(some 3), .box 55 (.tmp 0), none⟩]) c_flow_Map_Sint_int_1_5) K t m := rfl

@[go_sem] theorem some67 : (E.fn 67).isSome = true := by kernel_rfl
set_option maxRecDepth 100000 in
theorem fn_flow_Map_Sint_int_1 : FnIs E 67 13 [] c_flow_Map_Sint_int_1_6 := ⟨by kernel_rfl, by kernel_rfl⟩

/-! slices.Values[[][]int,[]int]$1 -/
abbrev F_slices_Values_SSint_Sint_1 : FuncId := 68
def c_slices_Values_SSint_Sint_1_0 : MC := (.cond (.tmp 8) .skip (.exit 0))
@[go_sem] theorem c_slices_Values_SSint_Sint_1_0_at (rd : Option Nat) (K : Post3) (t : Fr) (m : Mem) : wpM E 68 16 rd c_slices_Values_SSint_Sint_1_0 K t m = wpM E 68 16 rd (.cond (.tmp 8) .skip (.exit 0)) K t m := rfl

def c_slices_Values_SSint_Sint_1_1 : MC := (.cond (.tmp 14) .ret .skip)
@[go_sem] theorem c_slices_Values_SSint_Sint_1_1_at (rd : Option Nat) (K : Post3) (t : Fr) (m : Mem) : wpM E 68 16 rd c_slices_Values_SSint_Sint_1_1 K t m = wpM E 68 16 rd (.cond (.tmp 14) .ret .skip) K t m := rfl

def c_slices_Values_SSint_Sint_1_2 : MC := (.seq (.ops [⟨(some 11), .move (.tmp 0), none⟩,
    ⟨(some 12), .move (.tmp 4), none⟩,
    ⟨(some 13), .call ⟨.value (.tmp 11), #[(.tmp 12)], #[23]⟩, none⟩,
    ⟨(some 14), .unOp .not 4 (.tmp 13), none⟩]) c_slices_Values_SSint_Sint_1_1)
@[go_sem] theorem c_slices_Values_SSint_Sint_1_2_at (rd : Option Nat) (K : Post3) (t : Fr) (m : Mem) : wpM E 68 16 rd c_slices_Values_SSint_Sint_1_2 K t m = wpM E 68 16 rd (.seq (.ops [⟨(some 11), .move (.tmp 0), none⟩,
    ⟨(some 12), .move (.tmp 4), none⟩,
    ⟨(some 13), .call ⟨.value (.tmp 11), #[(.tmp 12)], #[23]⟩, none⟩,
    ⟨(some 14), .unOp .not 4 (.tmp 13), none⟩]) c_slices_Values_SSint_Sint_1_1) K t m := rfl

def c_slices_Values_SSint_Sint_1_3 : MC := (.seq (.ops [⟨(some 9), .indexAddr 28 (.tmp 5) (.tmp 7), none⟩,
    ⟨(some 10), .load 23 (.tmp 9), none⟩,
    ⟨(some 4), .assign (.tmp 10), none⟩]) c_slices_Values_SSint_Sint_1_2)
@[go_sem] theorem c_slices_Values_SSint_Sint_1_3_at (rd : Option Nat) (K : Post3) (t : Fr) (m : Mem) : wpM E 68 16 rd c_slices_Values_SSint_Sint_1_3 K t m = wpM E 68 16 rd (.seq (.ops [⟨(some 9), .indexAddr 28 (.tmp 5) (.tmp 7), none⟩,
    ⟨(some 10), .load 23 (.tmp 9), none⟩,
    ⟨(some 4), .assign (.tmp 10), none⟩]) c_slices_Values_SSint_Sint_1_2) K t m := rfl

def c_slices_Values_SSint_Sint_1_4 : MC := (.block 1 c_slices_Values_SSint_Sint_1_3)
@[go_sem] theorem c_slices_Values_SSint_Sint_1_4_at (rd : Option Nat) (K : Post3) (t : Fr) (m : Mem) : wpM E 68 16 rd c_slices_Values_SSint_Sint_1_4 K t m = wpM E 68 16 rd (.block 1 c_slices_Values_SSint_Sint_1_3) K t m := rfl

def c_slices_Values_SSint_Sint_1_5 : MC := (.seq c_slices_Values_SSint_Sint_1_4 (.ops [⟨(some 15), .binOp .add 3 (.tmp 7) (.const (.int .i64 1)) 3, none⟩,
    ⟨(some 7), .move (.tmp 15), none⟩]))
@[go_sem] theorem c_slices_Values_SSint_Sint_1_5_at (rd : Option Nat) (K : Post3) (t : Fr) (m : Mem) : wpM E 68 16 rd c_slices_Values_SSint_Sint_1_5 K t m = wpM E 68 16 rd (.seq c_slices_Values_SSint_Sint_1_4 (.ops [⟨(some 15), .binOp .add 3 (.tmp 7) (.const (.int .i64 1)) 3, none⟩,
    ⟨(some 7), .move (.tmp 15), none⟩])) K t m := rfl

def c_slices_Values_SSint_Sint_1_6 : MC := (.seq c_slices_Values_SSint_Sint_1_0 c_slices_Values_SSint_Sint_1_5)
@[go_sem] theorem c_slices_Values_SSint_Sint_1_6_at (rd : Option Nat) (K : Post3) (t : Fr) (m : Mem) : wpM E 68 16 rd c_slices_Values_SSint_Sint_1_6 K t m = wpM E 68 16 rd (.seq c_slices_Values_SSint_Sint_1_0 c_slices_Values_SSint_Sint_1_5) K t m := rfl

def c_slices_Values_SSint_Sint_1_7 : MC := (.seq (.ops [⟨(some 8), .binOp .lss 3 (.tmp 7) (.tmp 6) 3, none⟩]) c_slices_Values_SSint_Sint_1_6)
@[go_sem] theorem c_slices_Values_SSint_Sint_1_7_at (rd : Option Nat) (K : Post3) (t : Fr) (m : Mem) : wpM E 68 16 rd c_slices_Values_SSint_Sint_1_7 K t m = wpM E 68 16 rd (.seq (.ops [⟨(some 8), .binOp .lss 3 (.tmp 7) (.tmp 6) 3, none⟩]) c_slices_Values_SSint_Sint_1_6) K t m := rfl

def c_slices_Values_SSint_Sint_1_8 : MC := (.loop c_slices_Values_SSint_Sint_1_7)
theorem c_slices_Values_SSint_Sint_1_8_at (rd : Option Nat) (K : Post3) (t : Fr) (m : Mem) : wpM E 68 16 rd c_slices_Values_SSint_Sint_1_8 K t m = wpM E 68 16 rd (.loop c_slices_Values_SSint_Sint_1_7) K t m := rfl

def c_slices_Values_SSint_Sint_1_9 : MC := (.block 0 c_slices_Values_SSint_Sint_1_8)
theorem c_slices_Values_SSint_Sint_1_9_at (rd : Option Nat) (K : Post3) (t : Fr) (m : Mem) : wpM E 68 16 rd c_slices_Values_SSint_Sint_1_9 K t m = wpM E 68 16 rd (.block 0 c_slices_Values_SSint_Sint_1_8) K t m := rfl

def c_slices_Values_SSint_Sint_1_10 : MC := (.seq (.ops [⟨(some 5), .load 28 (.tmp 1), none⟩,
    ⟨(some 6), .call ⟨.builtin .len, #[(.tmp 5)], #[28]⟩, none⟩,
    ⟨(some 7), .move (.const (.int .i64 0)), none⟩]) c_slices_Values_SSint_Sint_1_9)
@[go_sem] theorem c_slices_Values_SSint_Sint_1_10_at (rd : Option Nat) (K : Post3) (t : Fr) (m : Mem) : wpM E 68 16 rd c_slices_Values_SSint_Sint_1_10 K t m = wpM E 68 16 rd (.seq (.ops [⟨(some 5), .load 28 (.tmp 1), none⟩,
    ⟨(some 6), .call ⟨.builtin .len, #[(.tmp 5)], #[28]⟩, none⟩,
    ⟨(some 7), .move (.const (.int .i64 0)), none⟩]) c_slices_Values_SSint_Sint_1_9) K t m := rfl

@[go_sem] theorem some68 : (E.fn 68).isSome = true := by kernel_rfl
set_option maxRecDepth 100000 in
theorem fn_slices_Values_SSint_Sint_1 : FnIs E 68 16 [] c_slices_Values_SSint_Sint_1_10 := ⟨by kernel_rfl, by kernel_rfl⟩

/-! slices.AppendSeq[[][]int,[]int] -/
abbrev F_slices_AppendSeq_SSint_Sint : FuncId := 69
def c_slices_AppendSeq_SSint_Sint_0 : MC := (.block 1 (.ops [⟨(some 8), .load 28 (.tmp 2), none⟩,
    ⟨(some 9), .move (.tmp 5), none⟩,
    ⟨(some 10), .buildSlice 28 1 #[(0, (.tmp 9))], none⟩,
    ⟨(some 11), .call ⟨.builtin .append, #[(.tmp 8), (.tmp 10)], #[28, 28]⟩, none⟩,
    ⟨none, .store 28 (.tmp 2) (.tmp 11), none⟩]))
@[go_sem] theorem c_slices_AppendSeq_SSint_Sint_0_at (rd : Option Nat) (K : Post3) (t : Fr) (m : Mem) : wpM E 69 13 rd c_slices_AppendSeq_SSint_Sint_0 K t m = wpM E 69 13 rd (.block 1 (.ops [⟨(some 8), .load 28 (.tmp 2), none⟩,
    ⟨(some 9), .move (.tmp 5), none⟩,
    ⟨(some 10), .buildSlice 28 1 #[(0, (.tmp 9))], none⟩,
    ⟨(some 11), .call ⟨.builtin .append, #[(.tmp 8), (.tmp 10)], #[28, 28]⟩, none⟩,
    ⟨none, .store 28 (.tmp 2) (.tmp 11), none⟩])) K t m := rfl

theorem asg_slices_AppendSeq_SSint_Sint_0 : compile E 69 13 (asgAt E 69 0) = some (.ops [⟨(some 5), .assign (.tmp 7), none⟩]) := by kernel_rfl

theorem body_slices_AppendSeq_SSint_Sint_0 : compile E 69 13 (bodyAt E 69 0) = some c_slices_AppendSeq_SSint_Sint_0 := by kernel_rfl

def c_slices_AppendSeq_SSint_Sint_1 : MC := (.range (.tmp 6) #[7] (asgAt E 69 0) (bodyAt E 69 0))
theorem c_slices_AppendSeq_SSint_Sint_1_at (rd : Option Nat) (K : Post3) (t : Fr) (m : Mem) : wpM E 69 13 rd c_slices_AppendSeq_SSint_Sint_1 K t m = wpM E 69 13 rd (.range (.tmp 6) #[7] (asgAt E 69 0) (bodyAt E 69 0)) K t m := rfl

def c_slices_AppendSeq_SSint_Sint_2 : MC := (.block 0 c_slices_AppendSeq_SSint_Sint_1)
@[go_sem] theorem c_slices_AppendSeq_SSint_Sint_2_at (rd : Option Nat) (K : Post3) (t : Fr) (m : Mem) : wpM E 69 13 rd c_slices_AppendSeq_SSint_Sint_2 K t m = wpM E 69 13 rd (.block 0 c_slices_AppendSeq_SSint_Sint_1) K t m := rfl

def c_slices_AppendSeq_SSint_Sint_3 : MC := (.seq (.ops [⟨(some 6), .move (.tmp 1), none⟩]) c_slices_AppendSeq_SSint_Sint_2)
@[go_sem] theorem c_slices_AppendSeq_SSint_Sint_3_at (rd : Option Nat) (K : Post3) (t : Fr) (m : Mem) : wpM E 69 13 rd c_slices_AppendSeq_SSint_Sint_3 K t m = wpM E 69 13 rd (.seq (.ops [⟨(some 6), .move (.tmp 1), none⟩]) c_slices_AppendSeq_SSint_Sint_2) K t m := rfl

def c_slices_AppendSeq_SSint_Sint_4 : MC := (.seq (.ops [⟨(some 12), .load 28 (.tmp 2), none⟩,
    ⟨(some 4), .assign (.tmp 12), none⟩]) .ret)
@[go_sem] theorem c_slices_AppendSeq_SSint_Sint_4_at (rd : Option Nat) (K : Post3) (t : Fr) (m : Mem) : wpM E 69 13 rd c_slices_AppendSeq_SSint_Sint_4 K t m = wpM E 69 13 rd (.seq (.ops [⟨(some 12), .load 28 (.tmp 2), none⟩,
    ⟨(some 4), .assign (.tmp 12), none⟩]) .ret) K t m := rfl

def c_slices_AppendSeq_SSint_Sint_5 : MC := (.seq c_slices_AppendSeq_SSint_Sint_3 c_slices_AppendSeq_SSint_Sint_4)
@[go_sem] theorem c_slices_AppendSeq_SSint_Sint_5_at (rd : Option Nat) (K : Post3) (t : Fr) (m : Mem) : wpM E 69 13 rd c_slices_AppendSeq_SSint_Sint_5 K t m = wpM E 69 13 rd (.seq c_slices_AppendSeq_SSint_Sint_3 c_slices_AppendSeq_SSint_Sint_4) K t m := rfl

def c_slices_AppendSeq_SSint_Sint_6 : MC := (.seq (.ops [⟨(some 2), .box 28 (.tmp 0), none⟩,
    ⟨(some 4), .assign (.const (.slice none 0 0)), none⟩]) c_slices_AppendSeq_SSint_Sint_5)
@[go_sem] theorem c_slices_AppendSeq_SSint_Sint_6_at (rd : Option Nat) (K : Post3) (t : Fr) (m : Mem) : wpM E 69 13 rd c_slices_AppendSeq_SSint_Sint_6 K t m = wpM E 69 13 rd (.seq (.ops [⟨(some 2), .box 28 (.tmp 0), none⟩,
    ⟨(some 4), .assign (.const (.slice none 0 0)), none⟩]) c_slices_AppendSeq_SSint_Sint_5) K t m := rfl

@[go_sem] theorem some69 : (E.fn 69).isSome = true := by kernel_rfl
set_option maxRecDepth 100000 in
theorem fn_slices_AppendSeq_SSint_Sint : FnIs E 69 13 [.tmp 4] c_slices_AppendSeq_SSint_Sint_6 := ⟨by kernel_rfl, by kernel_rfl⟩

/-! slices.Values[[]int,int]$1 -/
abbrev F_slices_Values_Sint_int_1 : FuncId := 70
def c_slices_Values_Sint_int_1_0 : MC := (.cond (.tmp 8) .skip (.exit 0))
@[go_sem] theorem c_slices_Values_Sint_int_1_0_at (rd : Option Nat) (K : Post3) (t : Fr) (m : Mem) : wpM E 70 16 rd c_slices_Values_Sint_int_1_0 K t m = wpM E 70 16 rd (.cond (.tmp 8) .skip (.exit 0)) K t m := rfl

def c_slices_Values_Sint_int_1_1 : MC := (.cond (.tmp 14) .ret .skip)
@[go_sem] theorem c_slices_Values_Sint_int_1_1_at (rd : Option Nat) (K : Post3) (t : Fr) (m : Mem) : wpM E 70 16 rd c_slices_Values_Sint_int_1_1 K t m = wpM E 70 16 rd (.cond (.tmp 14) .ret .skip) K t m := rfl

def c_slices_Values_Sint_int_1_2 : MC := (.seq (.ops [⟨(some 11), .move (.tmp 0), none⟩,
    ⟨(some 12), .move (.tmp 4), none⟩,
    ⟨(some 13), .call ⟨.value (.tmp 11), #[(.tmp 12)], #[3]⟩, none⟩,
    ⟨(some 14), .unOp .not 4 (.tmp 13), none⟩]) c_slices_Values_Sint_int_1_1)
@[go_sem] theorem c_slices_Values_Sint_int_1_2_at (rd : Option Nat) (K : Post3) (t : Fr) (m : Mem) : wpM E 70 16 rd c_slices_Values_Sint_int_1_2 K t m = wpM E 70 16 rd (.seq (.ops [⟨(some 11), .move (.tmp 0), none⟩,
    ⟨(some 12), .move (.tmp 4), none⟩,
    ⟨(some 13), .call ⟨.value (.tmp 11), #[(.tmp 12)], #[3]⟩, none⟩,
    ⟨(some 14), .unOp .not 4 (.tmp 13), none⟩]) c_slices_Values_Sint_int_1_1) K t m := rfl

def c_slices_Values_Sint_int_1_3 : MC := (.seq (.ops [⟨(some 9), .indexAddr 23 (.tmp 5) (.tmp 7), none⟩,
    ⟨(some 10), .load 3 (.tmp 9), none⟩,
    ⟨(some 4), .assign (.tmp 10), none⟩]) c_slices_Values_Sint_int_1_2)
@[go_sem] theorem c_slices_Values_Sint_int_1_3_at (rd : Option Nat) (K : Post3) (t : Fr) (m : Mem) : wpM E 70 16 rd c_slices_Values_Sint_int_1_3 K t m = wpM E 70 16 rd (.seq (.ops [⟨(some 9), .indexAddr 23 (.tmp 5) (.tmp 7), none⟩,
    ⟨(some 10), .load 3 (.tmp 9), none⟩,
    ⟨(some 4), .assign (.tmp 10), none⟩]) c_slices_Values_Sint_int_1_2) K t m := rfl

def c_slices_Values_Sint_int_1_4 : MC := (.block 1 c_slices_Values_Sint_int_1_3)
@[go_sem] theorem c_slices_Values_Sint_int_1_4_at (rd : Option Nat) (K : Post3) (t : Fr) (m : Mem) : wpM E 70 16 rd c_slices_Values_Sint_int_1_4 K t m = wpM E 70 16 rd (.block 1 c_slices_Values_Sint_int_1_3) K t m := rfl

def c_slices_Values_Sint_int_1_5 : MC := (.seq c_slices_Values_Sint_int_1_4 (.ops [⟨(some 15), .binOp .add 3 (.tmp 7) (.const (.int .i64 1)) 3, none⟩,
    ⟨(some 7), .move (.tmp 15), none⟩]))
@[go_sem] theorem c_slices_Values_Sint_int_1_5_at (rd : Option Nat) (K : Post3) (t : Fr) (m : Mem) : wpM E 70 16 rd c_slices_Values_Sint_int_1_5 K t m = wpM E 70 16 rd (.seq c_slices_Values_Sint_int_1_4 (.ops [⟨(some 15), .binOp .add 3 (.tmp 7) (.const (.int .i64 1)) 3, none⟩,
    ⟨(some 7), .move (.tmp 15), none⟩])) K t m := rfl

def c_slices_Values_Sint_int_1_6 : MC := (.seq c_slices_Values_Sint_int_1_0 c_slices_Values_Sint_int_1_5)
@[go_sem] theorem c_slices_Values_Sint_int_1_6_at (rd : Option Nat) (K : Post3) (t : Fr) (m : Mem) : wpM E 70 16 rd c_slices_Values_Sint_int_1_6 K t m = wpM E 70 16 rd (.seq c_slices_Values_Sint_int_1_0 c_slices_Values_Sint_int_1_5) K t m := rfl

def c_slices_Values_Sint_int_1_7 : MC := (.seq (.ops [⟨(some 8), .binOp .lss 3 (.tmp 7) (.tmp 6) 3, none⟩]) c_slices_Values_Sint_int_1_6)
@[go_sem] theorem c_slices_Values_Sint_int_1_7_at (rd : Option Nat) (K : Post3) (t : Fr) (m : Mem) : wpM E 70 16 rd c_slices_Values_Sint_int_1_7 K t m = wpM E 70 16 rd (.seq (.ops [⟨(some 8), .binOp .lss 3 (.tmp 7) (.tmp 6) 3, none⟩]) c_slices_Values_Sint_int_1_6) K t m := rfl

def c_slices_Values_Sint_int_1_8 : MC := (.loop c_slices_Values_Sint_int_1_7)
theorem c_slices_Values_Sint_int_1_8_at (rd : Option Nat) (K : Post3) (t : Fr) (m : Mem) : wpM E 70 16 rd c_slices_Values_Sint_int_1_8 K t m = wpM E 70 16 rd (.loop c_slices_Values_Sint_int_1_7) K t m := rfl

def c_slices_Values_Sint_int_1_9 : MC := (.block 0 c_slices_Values_Sint_int_1_8)
theorem c_slices_Values_Sint_int_1_9_at (rd : Option Nat) (K : Post3) (t : Fr) (m : Mem) : wpM E 70 16 rd c_slices_Values_Sint_int_1_9 K t m = wpM E 70 16 rd (.block 0 c_slices_Values_Sint_int_1_8) K t m := rfl

def c_slices_Values_Sint_int_1_10 : MC := (.seq (.ops [⟨(some 5), .load 23 (.tmp 1), none⟩,
    ⟨(some 6), .call ⟨.builtin .len, #[(.tmp 5)], #[23]⟩, none⟩,
    ⟨(some 7), .move (.const (.int .i64 0)), none⟩]) c_slices_Values_Sint_int_1_9)
@[go_sem] theorem c_slices_Values_Sint_int_1_10_at (rd : Option Nat) (K : Post3) (t : Fr) (m : Mem) : wpM E 70 16 rd c_slices_Values_Sint_int_1_10 K t m = wpM E 70 16 rd (.seq (.ops [⟨(some 5), .load 23 (.tmp 1), none⟩,
    ⟨(some 6), .call ⟨.builtin .len, #[(.tmp 5)], #[23]⟩, none⟩,
    ⟨(some 7), .move (.const (.int .i64 0)), none⟩]) c_slices_Values_Sint_int_1_9) K t m := rfl

@[go_sem] theorem some70 : (E.fn 70).isSome = true := by kernel_rfl
set_option maxRecDepth 100000 in
theorem fn_slices_Values_Sint_int_1 : FnIs E 70 16 [] c_slices_Values_Sint_int_1_10 := ⟨by kernel_rfl, by kernel_rfl⟩

/-! slices.AppendSeq[[]int,int] -/
abbrev F_slices_AppendSeq_Sint_int : FuncId := 71
def c_slices_AppendSeq_Sint_int_0 : MC := (.block 1 (.ops [⟨(some 8), .load 23 (.tmp 2), none⟩,
    ⟨(some 9), .move (.tmp 5), none⟩,
    ⟨(some 10), .buildSlice 23 1 #[(0, (.tmp 9))], none⟩,
    ⟨(some 11), .call ⟨.builtin .append, #[(.tmp 8), (.tmp 10)], #[23, 23]⟩, none⟩,
    ⟨none, .store 23 (.tmp 2) (.tmp 11), none⟩]))
@[go_sem] theorem c_slices_AppendSeq_Sint_int_0_at (rd : Option Nat) (K : Post3) (t : Fr) (m : Mem) : wpM E 71 13 rd c_slices_AppendSeq_Sint_int_0 K t m = wpM E 71 13 rd (.block 1 (.ops [⟨(some 8), .load 23 (.tmp 2), none⟩,
    ⟨(some 9), .move (.tmp 5), none⟩,
    ⟨(some 10), .buildSlice 23 1 #[(0, (.tmp 9))], none⟩,
    ⟨(some 11), .call ⟨.builtin .append, #[(.tmp 8), (.tmp 10)], #[23, 23]⟩, none⟩,
    ⟨none, .store 23 (.tmp 2) (.tmp 11), none⟩])) K t m := rfl

theorem asg_slices_AppendSeq_Sint_int_0 : compile E 71 13 (asgAt E 71 0) = some (.ops [⟨(some 5), .assign (.tmp 7), none⟩]) := by kernel_rfl

theorem body_slices_AppendSeq_Sint_int_0 : compile E 71 13 (bodyAt E 71 0) = some c_slices_AppendSeq_Sint_int_0 := by kernel_rfl

def c_slices_AppendSeq_Sint_int_1 : MC := (.range (.tmp 6) #[7] (asgAt E 71 0) (bodyAt E 71 0))
theorem c_slices_AppendSeq_Sint_int_1_at (rd : Option Nat) (K : Post3) (t : Fr) (m : Mem) : wpM E 71 13 rd c_slices_AppendSeq_Sint_int_1 K t m = wpM E 71 13 rd (.range (.tmp 6) #[7] (asgAt E 71 0) (bodyAt E 71 0)) K t m := rfl

def c_slices_AppendSeq_Sint_int_2 : MC := (.block 0 c_slices_AppendSeq_Sint_int_1)
@[go_sem] theorem c_slices_AppendSeq_Sint_int_2_at (rd : Option Nat) (K : Post3) (t : Fr) (m : Mem) : wpM E 71 13 rd c_slices_AppendSeq_Sint_int_2 K t m = wpM E 71 13 rd (.block 0 c_slices_AppendSeq_Sint_int_1) K t m := rfl

def c_slices_AppendSeq_Sint_int_3 : MC := (.seq (.ops [⟨(some 6), .move (.tmp 1), none⟩]) c_slices_AppendSeq_Sint_int_2)
@[go_sem] theorem c_slices_AppendSeq_Sint_int_3_at (rd : Option Nat) (K : Post3) (t : Fr) (m : Mem) : wpM E 71 13 rd c_slices_AppendSeq_Sint_int_3 K t m = wpM E 71 13 rd (.seq (.ops [⟨(some 6), .move (.tmp 1), none⟩]) c_slices_AppendSeq_Sint_int_2) K t m := rfl

def c_slices_AppendSeq_Sint_int_4 : MC := (.seq (.ops [⟨(some 12), .load 23 (.tmp 2), none⟩,
    ⟨(some 4), .assign (.tmp 12), none⟩]) .ret)
@[go_sem] theorem c_slices_AppendSeq_Sint_int_4_at (rd : Option Nat) (K : Post3) (t : Fr) (m : Mem) : wpM E 71 13 rd c_slices_AppendSeq_Sint_int_4 K t m = wpM E 71 13 rd (.seq (.ops [⟨(some 12), .load 23 (.tmp 2), none⟩,
    ⟨(some 4), .assign (.tmp 12), none⟩]) .ret) K t m := rfl

def c_slices_AppendSeq_Sint_int_5 : MC := (.seq c_slices_AppendSeq_Sint_int_3 c_slices_AppendSeq_Sint_int_4)
@[go_sem] theorem c_slices_AppendSeq_Sint_int_5_at (rd : Option Nat) (K : Post3) (t : Fr) (m : Mem) : wpM E 71 13 rd c_slices_AppendSeq_Sint_int_5 K t m = wpM E 71 13 rd (.seq c_slices_AppendSeq_Sint_int_3 c_slices_AppendSeq_Sint_int_4) K t m := rfl

def c_slices_AppendSeq_Sint_int_6 : MC := (.seq (.ops [⟨(some 2), .box 23 (.tmp 0), none⟩,
    ⟨(some 4), .assign (.const (.slice none 0 0)), none⟩]) c_slices_AppendSeq_Sint_int_5)
@[go_sem] theorem c_slices_AppendSeq_Sint_int_6_at (rd : Option Nat) (K : Post3) (t : Fr) (m : Mem) : wpM E 71 13 rd c_slices_AppendSeq_Sint_int_6 K t m = wpM E 71 13 rd (.seq (.ops [⟨(some 2), .box 23 (.tmp 0), none⟩,
    ⟨(some 4), .assign (.const (.slice none 0 0)), none⟩]) c_slices_AppendSeq_Sint_int_5) K t m := rfl

@[go_sem] theorem some71 : (E.fn 71).isSome = true := by kernel_rfl
set_option maxRecDepth 100000 in
theorem fn_slices_AppendSeq_Sint_int : FnIs E 71 13 [.tmp 4] c_slices_AppendSeq_Sint_int_6 := ⟨by kernel_rfl, by kernel_rfl⟩

/-! slices.AppendSeq[[]string,string] -/
abbrev F_slices_AppendSeq_Sstring_string : FuncId := 72
def c_slices_AppendSeq_Sstring_string_0 : MC := (.block 1 (.ops [⟨(some 8), .load 57 (.tmp 2), none⟩,
    ⟨(some 9), .move (.tmp 5), none⟩,
    ⟨(some 10), .buildSlice 57 1 #[(0, (.tmp 9))], none⟩,
    ⟨(some 11), .call ⟨.builtin .append, #[(.tmp 8), (.tmp 10)], #[57, 57]⟩, none⟩,
    ⟨none, .store 57 (.tmp 2) (.tmp 11), none⟩]))
@[go_sem] theorem c_slices_AppendSeq_Sstring_string_0_at (rd : Option Nat) (K : Post3) (t : Fr) (m : Mem) : wpM E 72 13 rd c_slices_AppendSeq_Sstring_string_0 K t m = wpM E 72 13 rd (.block 1 (.ops [⟨(some 8), .load 57 (.tmp 2), none⟩,
    ⟨(some 9), .move (.tmp 5), none⟩,
    ⟨(some 10), .buildSlice 57 1 #[(0, (.tmp 9))], none⟩,
    ⟨(some 11), .call ⟨.builtin .append, #[(.tmp 8), (.tmp 10)], #[57, 57]⟩, none⟩,
    ⟨none, .store 57 (.tmp 2) (.tmp 11), none⟩])) K t m := rfl

theorem asg_slices_AppendSeq_Sstring_string_0 : compile E 72 13 (asgAt E 72 0) = some (.ops [⟨(some 5), .assign (.tmp 7), none⟩]) := by kernel_rfl

theorem body_slices_AppendSeq_Sstring_string_0 : compile E 72 13 (bodyAt E 72 0) = some c_slices_AppendSeq_Sstring_string_0 := by kernel_rfl

def c_slices_AppendSeq_Sstring_string_1 : MC := (.range (.tmp 6) #[7] (asgAt E 72 0) (bodyAt E 72 0))
theorem c_slices_AppendSeq_Sstring_string_1_at (rd : Option Nat) (K : Post3) (t : Fr) (m : Mem) : wpM E 72 13 rd c_slices_AppendSeq_Sstring_string_1 K t m = wpM E 72 13 rd (.range (.tmp 6) #[7] (asgAt E 72 0) (bodyAt E 72 0)) K t m := rfl

def c_slices_AppendSeq_Sstring_string_2 : MC := (.block 0 c_slices_AppendSeq_Sstring_string_1)
@[go_sem] theorem c_slices_AppendSeq_Sstring_string_2_at (rd : Option Nat) (K : Post3) (t : Fr) (m : Mem) : wpM E 72 13 rd c_slices_AppendSeq_Sstring_string_2 K t m = wpM E 72 13 rd (.block 0 c_slices_AppendSeq_Sstring_string_1) K t m := rfl

def c_slices_AppendSeq_Sstring_string_3 : MC := (.seq (.ops [⟨(some 6), .move (.tmp 1), none⟩]) c_slices_AppendSeq_Sstring_string_2)
@[go_sem] theorem c_slices_AppendSeq_Sstring_string_3_at (rd : Option Nat) (K : Post3) (t : Fr) (m : Mem) : wpM E 72 13 rd c_slices_AppendSeq_Sstring_string_3 K t m = wpM E 72 13 rd (.seq (.ops [⟨(some 6), .move (.tmp 1), none⟩]) c_slices_AppendSeq_Sstring_string_2) K t m := rfl

def c_slices_AppendSeq_Sstring_string_4 : MC := (.seq (.ops [⟨(some 12), .load 57 (.tmp 2), none⟩,
    ⟨(some 4), .assign (.tmp 12), none⟩]) .ret)
@[go_sem] theorem c_slices_AppendSeq_Sstring_string_4_at (rd : Option Nat) (K : Post3) (t : Fr) (m : Mem) : wpM E 72 13 rd c_slices_AppendSeq_Sstring_string_4 K t m = wpM E 72 13 rd (.seq (.ops [⟨(some 12), .load 57 (.tmp 2), none⟩,
    ⟨(some 4), .assign (.tmp 12), none⟩]) .ret) K t m := rfl

def c_slices_AppendSeq_Sstring_string_5 : MC := (.seq c_slices_AppendSeq_Sstring_string_3 c_slices_AppendSeq_Sstring_string_4)
@[go_sem] theorem c_slices_AppendSeq_Sstring_string_5_at (rd : Option Nat) (K : Post3) (t : Fr) (m : Mem) : wpM E 72 13 rd c_slices_AppendSeq_Sstring_string_5 K t m = wpM E 72 13 rd (.seq c_slices_AppendSeq_Sstring_string_3 c_slices_AppendSeq_Sstring_string_4) K t m := rfl

def c_slices_AppendSeq_Sstring_string_6 : MC := (.seq (.ops [⟨(some 2), .box 57 (.tmp 0), none⟩,
    ⟨(some 4), .assign (.const (.slice none 0 0)), none⟩]) c_slices_AppendSeq_Sstring_string_5)
@[go_sem] theorem c_slices_AppendSeq_Sstring_string_6_at (rd : Option Nat) (K : Post3) (t : Fr) (m : Mem) : wpM E 72 13 rd c_slices_AppendSeq_Sstring_string_6 K t m = wpM E 72 13 rd (.seq (.ops [⟨(some 2), .box 57 (.tmp 0), none⟩,
    ⟨(some 4), .assign (.const (.slice none 0 0)), none⟩]) c_slices_AppendSeq_Sstring_string_5) K t m := rfl

@[go_sem] theorem some72 : (E.fn 72).isSome = true := by kernel_rfl
set_option maxRecDepth 100000 in
theorem fn_slices_AppendSeq_Sstring_string : FnIs E 72 13 [.tmp 4] c_slices_AppendSeq_Sstring_string_6 := ⟨by kernel_rfl, by kernel_rfl⟩

end
end Go.Proofs.Ytgbpgkfmmhlkoaa.W
