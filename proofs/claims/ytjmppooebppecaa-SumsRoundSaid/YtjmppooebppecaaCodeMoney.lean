/-
  Compact code, printed by a program of mine (wip/dev/AbsPrint.lean).
-/
import Derived.Test.YtjmppooebppecaaTypes
set_option linter.unusedVariables false
namespace Go.Proofs.Ytjmppooebppecaa.W
open Go.Abs
noncomputable section

/-! (*sheaf/money.Sum).Add -/
abbrev F_money_Sum_Add : FuncId := 36

@[go_sem] theorem some36 : (E.fn 36).isSome = true := by kernel_rfl
set_option maxRecDepth 100000 in
theorem fn_money_Sum_Add : FnIs E 36 14 [] (.draw [(0, [], ⟨(some 4), .move (.tmp 0), none⟩),
    (1, [], ⟨(some 5), .move (.tmp 0), none⟩),
    (2, [], ⟨(some 6), .nilCheck (.tmp 5), none⟩),
    (3, [], ⟨(some 7), .fieldAddr 71 (.tmp 6) 0, none⟩),
    (4, [], ⟨(some 8), .load 27 (.tmp 7), none⟩),
    (5, [], ⟨(some 9), .move (.tmp 1), none⟩),
    (6, [4], ⟨(some 10), .call ⟨.value (.func 16), #[(.tmp 9)], #[3]⟩, none⟩),
    (7, [], ⟨(some 11), .call ⟨.value (.func 31), #[(.tmp 8), (.tmp 10)], #[27, 27]⟩, none⟩),
    (8, [], ⟨(some 12), .nilCheck (.tmp 4), none⟩),
    (9, [], ⟨(some 13), .fieldAddr 71 (.tmp 12) 0, none⟩),
    (10, [], ⟨none, .store 27 (.tmp 13) (.tmp 11), none⟩)]) := ⟨by kernel_rfl, by kernel_rfl⟩

/-! (*sheaf/money.Sum).Wide -/
abbrev F_money_Sum_Wide : FuncId := 37
def c_money_Sum_Wide_0 : MC := (.seq (.ops [⟨(some 3), .move (.tmp 0), none⟩,
    ⟨(some 4), .nilCheck (.tmp 3), none⟩,
    ⟨(some 5), .fieldAddr 71 (.tmp 4) 0, none⟩,
    ⟨(some 6), .load 27 (.tmp 5), none⟩,
    ⟨none, .store 27 (.tmp 2) (.tmp 6), none⟩]) .ret)
@[go_sem] theorem c_money_Sum_Wide_0_at (rd : Option Nat) (K : Post3) (t : Fr) (m : Mem) : wpM E 37 7 rd c_money_Sum_Wide_0 K t m = wpM E 37 7 rd (.seq (.ops [⟨(some 3), .move (.tmp 0), none⟩,
    ⟨(some 4), .nilCheck (.tmp 3), none⟩,
    ⟨(some 5), .fieldAddr 71 (.tmp 4) 0, none⟩,
    ⟨(some 6), .load 27 (.tmp 5), none⟩,
    ⟨none, .store 27 (.tmp 2) (.tmp 6), none⟩]) .ret) K t m := rfl

def c_money_Sum_Wide_1 : MC := (.seq (.ops [⟨(some 2), .alloc 27, none⟩]) c_money_Sum_Wide_0)
@[go_sem] theorem c_money_Sum_Wide_1_at (rd : Option Nat) (K : Post3) (t : Fr) (m : Mem) : wpM E 37 7 rd c_money_Sum_Wide_1 K t m = wpM E 37 7 rd (.seq (.ops [⟨(some 2), .alloc 27, none⟩]) c_money_Sum_Wide_0) K t m := rfl

@[go_sem] theorem some37 : (E.fn 37).isSome = true := by kernel_rfl
set_option maxRecDepth 100000 in
theorem fn_money_Sum_Wide : FnIs E 37 7 [.cell 2 27] c_money_Sum_Wide_1 := ⟨by kernel_rfl, by kernel_rfl⟩

/-! (*sheaf/money.Sum).Value -/
abbrev F_money_Sum_Value : FuncId := 46
def c_money_Sum_Value_0 : MC := (.seq (.ops [⟨(some 4), .move (.tmp 0), none⟩,
    ⟨(some 5), .nilCheck (.tmp 4), none⟩,
    ⟨(some 6), .fieldAddr 71 (.tmp 5) 0, none⟩,
    ⟨(some 7), .load 27 (.tmp 6), none⟩,
    ⟨(some 8), .call ⟨.value (.func 17), #[(.tmp 7)], #[27]⟩, none⟩,
    ⟨(some 9), .extract (.tmp 8) 0, none⟩,
    ⟨(some 10), .extract (.tmp 8) 1, none⟩,
    ⟨(some 2), .assign (.tmp 9), none⟩,
    ⟨(some 3), .assign (.tmp 10), none⟩]) .ret)
@[go_sem] theorem c_money_Sum_Value_0_at (rd : Option Nat) (K : Post3) (t : Fr) (m : Mem) : wpM E 46 11 rd c_money_Sum_Value_0 K t m = wpM E 46 11 rd (.seq (.ops [⟨(some 4), .move (.tmp 0), none⟩,
    ⟨(some 5), .nilCheck (.tmp 4), none⟩,
    ⟨(some 6), .fieldAddr 71 (.tmp 5) 0, none⟩,
    ⟨(some 7), .load 27 (.tmp 6), none⟩,
    ⟨(some 8), .call ⟨.value (.func 17), #[(.tmp 7)], #[27]⟩, none⟩,
    ⟨(some 9), .extract (.tmp 8) 0, none⟩,
    ⟨(some 10), .extract (.tmp 8) 1, none⟩,
    ⟨(some 2), .assign (.tmp 9), none⟩,
    ⟨(some 3), .assign (.tmp 10), none⟩]) .ret) K t m := rfl

def c_money_Sum_Value_1 : MC := (.seq (.ops [⟨(some 2), .assign (.const (.int .i64 0)), none⟩,
    ⟨(some 3), .assign (.const (.bool false)), none⟩]) c_money_Sum_Value_0)
@[go_sem] theorem c_money_Sum_Value_1_at (rd : Option Nat) (K : Post3) (t : Fr) (m : Mem) : wpM E 46 11 rd c_money_Sum_Value_1 K t m = wpM E 46 11 rd (.seq (.ops [⟨(some 2), .assign (.const (.int .i64 0)), none⟩,
    ⟨(some 3), .assign (.const (.bool false)), none⟩]) c_money_Sum_Value_0) K t m := rfl

@[go_sem] theorem some46 : (E.fn 46).isSome = true := by kernel_rfl
set_option maxRecDepth 100000 in
theorem fn_money_Sum_Value : FnIs E 46 11 [.tmp 2, .tmp 3] c_money_Sum_Value_1 := ⟨by kernel_rfl, by kernel_rfl⟩

end
end Go.Proofs.Ytjmppooebppecaa.W
