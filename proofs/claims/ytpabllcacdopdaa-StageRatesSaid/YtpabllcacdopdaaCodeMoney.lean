/-
  Compact code, printed by a program of mine (wip/dev/AbsPrint.lean).
-/
import Derived.Test.YtpabllcacdopdaaTypes
set_option linter.unusedVariables false
namespace Go.Proofs.Ytpabllcacdopdaa.W
open Go.Abs
noncomputable section

/-! sheaf/money.Scale -/
abbrev F_money_Scale : FuncId := 37
def c_money_Scale_0 : MC := (.seq (.ops [⟨(some 8), .move (.tmp 0), none⟩,
    ⟨(some 9), .move (.tmp 1), none⟩,
    ⟨(some 10), .call ⟨.value (.func 57), #[(.tmp 8), (.tmp 9)], #[3, 3]⟩, none⟩,
    ⟨(some 11), .move (.tmp 2), none⟩,
    ⟨(some 12), .call ⟨.value (.func 56), #[(.tmp 10), (.tmp 11)], #[83, 3]⟩, none⟩,
    ⟨(some 13), .extract (.tmp 12) 0, none⟩,
    ⟨(some 14), .extract (.tmp 12) 1, none⟩,
    ⟨(some 6), .assign (.tmp 13), none⟩,
    ⟨(some 7), .assign (.tmp 14), none⟩]) .ret)
@[go_sem] theorem c_money_Scale_0_at (rd : Option Nat) (K : Post3) (t : Fr) (m : Mem) : wpM E 37 15 rd c_money_Scale_0 K t m = wpM E 37 15 rd (.seq (.ops [⟨(some 8), .move (.tmp 0), none⟩,
    ⟨(some 9), .move (.tmp 1), none⟩,
    ⟨(some 10), .call ⟨.value (.func 57), #[(.tmp 8), (.tmp 9)], #[3, 3]⟩, none⟩,
    ⟨(some 11), .move (.tmp 2), none⟩,
    ⟨(some 12), .call ⟨.value (.func 56), #[(.tmp 10), (.tmp 11)], #[83, 3]⟩, none⟩,
    ⟨(some 13), .extract (.tmp 12) 0, none⟩,
    ⟨(some 14), .extract (.tmp 12) 1, none⟩,
    ⟨(some 6), .assign (.tmp 13), none⟩,
    ⟨(some 7), .assign (.tmp 14), none⟩]) .ret) K t m := rfl

def c_money_Scale_1 : MC := (.seq (.ops [⟨(some 6), .assign (.const (.int .i64 0)), none⟩,
    ⟨(some 7), .assign (.const (.bool false)), none⟩]) c_money_Scale_0)
@[go_sem] theorem c_money_Scale_1_at (rd : Option Nat) (K : Post3) (t : Fr) (m : Mem) : wpM E 37 15 rd c_money_Scale_1 K t m = wpM E 37 15 rd (.seq (.ops [⟨(some 6), .assign (.const (.int .i64 0)), none⟩,
    ⟨(some 7), .assign (.const (.bool false)), none⟩]) c_money_Scale_0) K t m := rfl

@[go_sem] theorem some37 : (E.fn 37).isSome = true := by kernel_rfl
set_option maxRecDepth 100000 in
theorem fn_money_Scale : FnIs E 37 15 [.tmp 6, .tmp 7] c_money_Scale_1 := ⟨by kernel_rfl, by kernel_rfl⟩

end
end Go.Proofs.Ytpabllcacdopdaa.W
