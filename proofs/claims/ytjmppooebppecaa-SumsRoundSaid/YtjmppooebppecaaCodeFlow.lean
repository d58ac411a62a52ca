/-
  Compact code, printed by a program of mine (wip/dev/AbsPrint.lean).
-/
import Derived.Test.YtjmppooebppecaaTypes
set_option linter.unusedVariables false
namespace Go.Proofs.Ytjmppooebppecaa.W
open Go.Abs
noncomputable section

/-! sheaf/flow.From[[]int] -/
abbrev F_flow_From_Sint : FuncId := 28
def c_flow_From_Sint_0 : MC := (.seq (.ops [⟨(some 3), .move (.tmp 0), none⟩,
    ⟨(some 4), .call ⟨.value (.func 50), #[(.tmp 3)], #[40]⟩, none⟩,
    ⟨(some 2), .assign (.tmp 4), none⟩]) .ret)
@[go_sem] theorem c_flow_From_Sint_0_at (rd : Option Nat) (K : Post3) (t : Fr) (m : Mem) : wpM E 28 5 rd c_flow_From_Sint_0 K t m = wpM E 28 5 rd (.seq (.ops [⟨(some 3), .move (.tmp 0), none⟩,
    ⟨(some 4), .call ⟨.value (.func 50), #[(.tmp 3)], #[40]⟩, none⟩,
    ⟨(some 2), .assign (.tmp 4), none⟩]) .ret) K t m := rfl

def c_flow_From_Sint_1 : MC := (.seq (.ops [⟨(some 2), .assign (.const .nilFunc), none⟩]) c_flow_From_Sint_0)
@[go_sem] theorem c_flow_From_Sint_1_at (rd : Option Nat) (K : Post3) (t : Fr) (m : Mem) : wpM E 28 5 rd c_flow_From_Sint_1 K t m = wpM E 28 5 rd (.seq (.ops [⟨(some 2), .assign (.const .nilFunc), none⟩]) c_flow_From_Sint_0) K t m := rfl

@[go_sem] theorem some28 : (E.fn 28).isSome = true := by kernel_rfl
set_option maxRecDepth 100000 in
theorem fn_flow_From_Sint : FnIs E 28 5 [.tmp 2] c_flow_From_Sint_1 := ⟨by kernel_rfl, by kernel_rfl⟩

/-! slices.Values[[][]int,[]int] -/
abbrev F_slices_Values_SSint_Sint : FuncId := 50
def c_slices_Values_SSint_Sint_0 : MC := (.seq (.ops [⟨(some 3), .makeFunc (.func 62) #[] #[(.tmp 1)], none⟩,
    ⟨(some 2), .assign (.tmp 3), none⟩]) .ret)
@[go_sem] theorem c_slices_Values_SSint_Sint_0_at (rd : Option Nat) (K : Post3) (t : Fr) (m : Mem) : wpM E 50 4 rd c_slices_Values_SSint_Sint_0 K t m = wpM E 50 4 rd (.seq (.ops [⟨(some 3), .makeFunc (.func 62) #[] #[(.tmp 1)], none⟩,
    ⟨(some 2), .assign (.tmp 3), none⟩]) .ret) K t m := rfl

def c_slices_Values_SSint_Sint_1 : MC := (.seq (.ops [⟨(some 1), .box 40 (.tmp 0), none⟩,
    ⟨(some 2), .assign (.const .nilFunc), none⟩]) c_slices_Values_SSint_Sint_0)
@[go_sem] theorem c_slices_Values_SSint_Sint_1_at (rd : Option Nat) (K : Post3) (t : Fr) (m : Mem) : wpM E 50 4 rd c_slices_Values_SSint_Sint_1 K t m = wpM E 50 4 rd (.seq (.ops [⟨(some 1), .box 40 (.tmp 0), none⟩,
    ⟨(some 2), .assign (.const .nilFunc), none⟩]) c_slices_Values_SSint_Sint_0) K t m := rfl

@[go_sem] theorem some50 : (E.fn 50).isSome = true := by kernel_rfl
set_option maxRecDepth 100000 in
theorem fn_slices_Values_SSint_Sint : FnIs E 50 4 [.tmp 2] c_slices_Values_SSint_Sint_1 := ⟨by kernel_rfl, by kernel_rfl⟩

/-! slices.Values[[][]int,[]int]$1 -/
abbrev F_slices_Values_SSint_Sint_1 : FuncId := 62
def c_slices_Values_SSint_Sint_1_0 : MC := (.cond (.tmp 8) .skip (.exit 0))
@[go_sem] theorem c_slices_Values_SSint_Sint_1_0_at (rd : Option Nat) (K : Post3) (t : Fr) (m : Mem) : wpM E 62 16 rd c_slices_Values_SSint_Sint_1_0 K t m = wpM E 62 16 rd (.cond (.tmp 8) .skip (.exit 0)) K t m := rfl

def c_slices_Values_SSint_Sint_1_1 : MC := (.cond (.tmp 14) .ret .skip)
@[go_sem] theorem c_slices_Values_SSint_Sint_1_1_at (rd : Option Nat) (K : Post3) (t : Fr) (m : Mem) : wpM E 62 16 rd c_slices_Values_SSint_Sint_1_1 K t m = wpM E 62 16 rd (.cond (.tmp 14) .ret .skip) K t m := rfl

def c_slices_Values_SSint_Sint_1_2 : MC := (.seq (.ops [⟨(some 11), .move (.tmp 0), none⟩,
    ⟨(some 12), .move (.tmp 4), none⟩,
    ⟨(some 13), .call ⟨.value (.tmp 11), #[(.tmp 12)], #[22]⟩, none⟩,
    ⟨(some 14), .unOp .not 4 (.tmp 13), none⟩]) c_slices_Values_SSint_Sint_1_1)
@[go_sem] theorem c_slices_Values_SSint_Sint_1_2_at (rd : Option Nat) (K : Post3) (t : Fr) (m : Mem) : wpM E 62 16 rd c_slices_Values_SSint_Sint_1_2 K t m = wpM E 62 16 rd (.seq (.ops [⟨(some 11), .move (.tmp 0), none⟩,
    ⟨(some 12), .move (.tmp 4), none⟩,
    ⟨(some 13), .call ⟨.value (.tmp 11), #[(.tmp 12)], #[22]⟩, none⟩,
    ⟨(some 14), .unOp .not 4 (.tmp 13), none⟩]) c_slices_Values_SSint_Sint_1_1) K t m := rfl

def c_slices_Values_SSint_Sint_1_3 : MC := (.seq (.ops [⟨(some 9), .indexAddr 40 (.tmp 5) (.tmp 7), none⟩,
    ⟨(some 10), .load 22 (.tmp 9), none⟩,
    ⟨(some 4), .assign (.tmp 10), none⟩]) c_slices_Values_SSint_Sint_1_2)
@[go_sem] theorem c_slices_Values_SSint_Sint_1_3_at (rd : Option Nat) (K : Post3) (t : Fr) (m : Mem) : wpM E 62 16 rd c_slices_Values_SSint_Sint_1_3 K t m = wpM E 62 16 rd (.seq (.ops [⟨(some 9), .indexAddr 40 (.tmp 5) (.tmp 7), none⟩,
    ⟨(some 10), .load 22 (.tmp 9), none⟩,
    ⟨(some 4), .assign (.tmp 10), none⟩]) c_slices_Values_SSint_Sint_1_2) K t m := rfl

def c_slices_Values_SSint_Sint_1_4 : MC := (.block 1 c_slices_Values_SSint_Sint_1_3)
@[go_sem] theorem c_slices_Values_SSint_Sint_1_4_at (rd : Option Nat) (K : Post3) (t : Fr) (m : Mem) : wpM E 62 16 rd c_slices_Values_SSint_Sint_1_4 K t m = wpM E 62 16 rd (.block 1 c_slices_Values_SSint_Sint_1_3) K t m := rfl

def c_slices_Values_SSint_Sint_1_5 : MC := (.seq c_slices_Values_SSint_Sint_1_4 (.ops [⟨(some 15), .binOp .add 3 (.tmp 7) (.const (.int .i64 1)) 3, none⟩,
    ⟨(some 7), .move (.tmp 15), none⟩]))
@[go_sem] theorem c_slices_Values_SSint_Sint_1_5_at (rd : Option Nat) (K : Post3) (t : Fr) (m : Mem) : wpM E 62 16 rd c_slices_Values_SSint_Sint_1_5 K t m = wpM E 62 16 rd (.seq c_slices_Values_SSint_Sint_1_4 (.ops [⟨(some 15), .binOp .add 3 (.tmp 7) (.const (.int .i64 1)) 3, none⟩,
    ⟨(some 7), .move (.tmp 15), none⟩])) K t m := rfl

def c_slices_Values_SSint_Sint_1_6 : MC := (.seq c_slices_Values_SSint_Sint_1_0 c_slices_Values_SSint_Sint_1_5)
@[go_sem] theorem c_slices_Values_SSint_Sint_1_6_at (rd : Option Nat) (K : Post3) (t : Fr) (m : Mem) : wpM E 62 16 rd c_slices_Values_SSint_Sint_1_6 K t m = wpM E 62 16 rd (.seq c_slices_Values_SSint_Sint_1_0 c_slices_Values_SSint_Sint_1_5) K t m := rfl

def c_slices_Values_SSint_Sint_1_7 : MC := (.seq (.ops [⟨(some 8), .binOp .lss 3 (.tmp 7) (.tmp 6) 3, none⟩]) c_slices_Values_SSint_Sint_1_6)
@[go_sem] theorem c_slices_Values_SSint_Sint_1_7_at (rd : Option Nat) (K : Post3) (t : Fr) (m : Mem) : wpM E 62 16 rd c_slices_Values_SSint_Sint_1_7 K t m = wpM E 62 16 rd (.seq (.ops [⟨(some 8), .binOp .lss 3 (.tmp 7) (.tmp 6) 3, none⟩]) c_slices_Values_SSint_Sint_1_6) K t m := rfl

def c_slices_Values_SSint_Sint_1_8 : MC := (.loop c_slices_Values_SSint_Sint_1_7)
theorem c_slices_Values_SSint_Sint_1_8_at (rd : Option Nat) (K : Post3) (t : Fr) (m : Mem) : wpM E 62 16 rd c_slices_Values_SSint_Sint_1_8 K t m = wpM E 62 16 rd (.loop c_slices_Values_SSint_Sint_1_7) K t m := rfl

def c_slices_Values_SSint_Sint_1_9 : MC := (.block 0 c_slices_Values_SSint_Sint_1_8)
theorem c_slices_Values_SSint_Sint_1_9_at (rd : Option Nat) (K : Post3) (t : Fr) (m : Mem) : wpM E 62 16 rd c_slices_Values_SSint_Sint_1_9 K t m = wpM E 62 16 rd (.block 0 c_slices_Values_SSint_Sint_1_8) K t m := rfl

def c_slices_Values_SSint_Sint_1_10 : MC := (.seq (.ops [⟨(some 5), .load 40 (.tmp 1), none⟩,
    ⟨(some 6), .call ⟨.builtin .len, #[(.tmp 5)], #[40]⟩, none⟩,
    ⟨(some 7), .move (.const (.int .i64 0)), none⟩]) c_slices_Values_SSint_Sint_1_9)
@[go_sem] theorem c_slices_Values_SSint_Sint_1_10_at (rd : Option Nat) (K : Post3) (t : Fr) (m : Mem) : wpM E 62 16 rd c_slices_Values_SSint_Sint_1_10 K t m = wpM E 62 16 rd (.seq (.ops [⟨(some 5), .load 40 (.tmp 1), none⟩,
    ⟨(some 6), .call ⟨.builtin .len, #[(.tmp 5)], #[40]⟩, none⟩,
    ⟨(some 7), .move (.const (.int .i64 0)), none⟩]) c_slices_Values_SSint_Sint_1_9) K t m := rfl

@[go_sem] theorem some62 : (E.fn 62).isSome = true := by kernel_rfl
set_option maxRecDepth 100000 in
theorem fn_slices_Values_SSint_Sint_1 : FnIs E 62 16 [] c_slices_Values_SSint_Sint_1_10 := ⟨by kernel_rfl, by kernel_rfl⟩

end
end Go.Proofs.Ytjmppooebppecaa.W
