/-
  Compact code, printed by a program of mine (wip/dev/AbsPrint.lean).
-/
import Derived.Test.YtmgdmldmialiiaaTypes
set_option linter.unusedVariables false
namespace Go.Proofs.Ytmgdmldmialiiaa.W
open Go.Abs

/-! sheaf/sheaflaw1.WideFits -/
abbrev F_sheaflaw1_WideFits : FuncId := 4
def c_sheaflaw1_WideFits_0 : MC := (.seq (.ops [⟨(some 45), .move (.tmp 9), none⟩,
    ⟨(some 46), .move (.tmp 45), none⟩,
    ⟨(some 47), .move (.tmp 8), (some (some 46, true))⟩,
    ⟨(some 48), .move (.tmp 5), (some (some 46, true))⟩,
    ⟨(some 49), .binOp .eql 3 (.tmp 47) (.tmp 48) 3, (some (some 46, true))⟩,
    ⟨(some 50), .pick (.tmp 46) (.tmp 49) (.const (.bool false)), none⟩,
    ⟨(some 51), .move (.tmp 50), none⟩,
    ⟨(some 52), .move (.tmp 11), (some (some 51, true))⟩,
    ⟨(some 53), .pick (.tmp 51) (.tmp 52) (.const (.bool false)), none⟩,
    ⟨(some 54), .move (.tmp 53), none⟩,
    ⟨(some 55), .move (.tmp 10), (some (some 54, true))⟩,
    ⟨(some 56), .move (.tmp 0), (some (some 54, true))⟩,
    ⟨(some 57), .binOp .eql 3 (.tmp 55) (.tmp 56) 3, (some (some 54, true))⟩,
    ⟨(some 58), .pick (.tmp 54) (.tmp 57) (.const (.bool false)), none⟩,
    ⟨(some 59), .move (.tmp 58), none⟩,
    ⟨(some 60), .move (.tmp 13), (some (some 59, true))⟩,
    ⟨(some 61), .move (.tmp 15), (some (some 59, true))⟩,
    ⟨(some 62), .binOp .eql 4 (.tmp 60) (.tmp 61) 4, (some (some 59, true))⟩,
    ⟨(some 63), .pick (.tmp 59) (.tmp 62) (.const (.bool false)), none⟩,
    ⟨(some 64), .move (.tmp 63), none⟩,
    ⟨(some 65), .move (.tmp 12), (some (some 64, true))⟩,
    ⟨(some 66), .move (.tmp 14), (some (some 64, true))⟩,
    ⟨(some 67), .binOp .eql 3 (.tmp 65) (.tmp 66) 3, (some (some 64, true))⟩,
    ⟨(some 68), .pick (.tmp 64) (.tmp 67) (.const (.bool false)), none⟩,
    ⟨(some 69), .move (.tmp 68), none⟩,
    ⟨(some 70), .call ⟨.value (.func 3), #[], #[]⟩, (some (some 69, true))⟩,
    ⟨(some 71), .pick (.tmp 69) (.tmp 70) (.const (.bool false)), none⟩,
    ⟨(some 4), .assign (.tmp 71), none⟩]) .ret)
@[go_sem] theorem c_sheaflaw1_WideFits_0_at (rd : Option Nat) (K : Post3) (t : Fr) (m : Mem) : wpM E 4 72 rd c_sheaflaw1_WideFits_0 K t m = wpM E 4 72 rd (.seq (.ops [⟨(some 45), .move (.tmp 9), none⟩,
    ⟨(some 46), .move (.tmp 45), none⟩,
    ⟨(some 47), .move (.tmp 8), (some (some 46, true))⟩,
    ⟨(some 48), .move (.tmp 5), (some (some 46, true))⟩,
    ⟨(some 49), .binOp .eql 3 (.tmp 47) (.tmp 48) 3, (some (some 46, true))⟩,
    ⟨(some 50), .pick (.tmp 46) (.tmp 49) (.const (.bool false)), none⟩,
    ⟨(some 51), .move (.tmp 50), none⟩,
    ⟨(some 52), .move (.tmp 11), (some (some 51, true))⟩,
    ⟨(some 53), .pick (.tmp 51) (.tmp 52) (.const (.bool false)), none⟩,
    ⟨(some 54), .move (.tmp 53), none⟩,
    ⟨(some 55), .move (.tmp 10), (some (some 54, true))⟩,
    ⟨(some 56), .move (.tmp 0), (some (some 54, true))⟩,
    ⟨(some 57), .binOp .eql 3 (.tmp 55) (.tmp 56) 3, (some (some 54, true))⟩,
    ⟨(some 58), .pick (.tmp 54) (.tmp 57) (.const (.bool false)), none⟩,
    ⟨(some 59), .move (.tmp 58), none⟩,
    ⟨(some 60), .move (.tmp 13), (some (some 59, true))⟩,
    ⟨(some 61), .move (.tmp 15), (some (some 59, true))⟩,
    ⟨(some 62), .binOp .eql 4 (.tmp 60) (.tmp 61) 4, (some (some 59, true))⟩,
    ⟨(some 63), .pick (.tmp 59) (.tmp 62) (.const (.bool false)), none⟩,
    ⟨(some 64), .move (.tmp 63), none⟩,
    ⟨(some 65), .move (.tmp 12), (some (some 64, true))⟩,
    ⟨(some 66), .move (.tmp 14), (some (some 64, true))⟩,
    ⟨(some 67), .binOp .eql 3 (.tmp 65) (.tmp 66) 3, (some (some 64, true))⟩,
    ⟨(some 68), .pick (.tmp 64) (.tmp 67) (.const (.bool false)), none⟩,
    ⟨(some 69), .move (.tmp 68), none⟩,
    ⟨(some 70), .call ⟨.value (.func 3), #[], #[]⟩, (some (some 69, true))⟩,
    ⟨(some 71), .pick (.tmp 69) (.tmp 70) (.const (.bool false)), none⟩,
    ⟨(some 4), .assign (.tmp 71), none⟩]) .ret) K t m := rfl

def c_sheaflaw1_WideFits_1 : MC := (.seq (.ops [⟨(some 41), .load 24 (.tmp 7), none⟩,
    ⟨(some 42), .call ⟨.value (.func 16), #[(.tmp 41), (.const (.int .i64 1))], #[24, 3]⟩, none⟩,
    ⟨(some 40), .move (.tmp 42), none⟩,
    ⟨(some 43), .extract (.tmp 40) 0, none⟩,
    ⟨(some 44), .extract (.tmp 40) 1, none⟩,
    ⟨(some 14), .assign (.tmp 43), none⟩,
    ⟨(some 15), .assign (.tmp 44), none⟩]) c_sheaflaw1_WideFits_0)
@[go_sem] theorem c_sheaflaw1_WideFits_1_at (rd : Option Nat) (K : Post3) (t : Fr) (m : Mem) : wpM E 4 72 rd c_sheaflaw1_WideFits_1 K t m = wpM E 4 72 rd (.seq (.ops [⟨(some 41), .load 24 (.tmp 7), none⟩,
    ⟨(some 42), .call ⟨.value (.func 16), #[(.tmp 41), (.const (.int .i64 1))], #[24, 3]⟩, none⟩,
    ⟨(some 40), .move (.tmp 42), none⟩,
    ⟨(some 43), .extract (.tmp 40) 0, none⟩,
    ⟨(some 44), .extract (.tmp 40) 1, none⟩,
    ⟨(some 14), .assign (.tmp 43), none⟩,
    ⟨(some 15), .assign (.tmp 44), none⟩]) c_sheaflaw1_WideFits_0) K t m := rfl

def c_sheaflaw1_WideFits_2 : MC := (.seq (.ops [⟨(some 36), .load 24 (.tmp 7), none⟩,
    ⟨(some 37), .call ⟨.value (.func 15), #[(.tmp 36)], #[24]⟩, none⟩,
    ⟨(some 35), .move (.tmp 37), none⟩,
    ⟨(some 38), .extract (.tmp 35) 0, none⟩,
    ⟨(some 39), .extract (.tmp 35) 1, none⟩,
    ⟨(some 12), .assign (.tmp 38), none⟩,
    ⟨(some 13), .assign (.tmp 39), none⟩]) c_sheaflaw1_WideFits_1)
@[go_sem] theorem c_sheaflaw1_WideFits_2_at (rd : Option Nat) (K : Post3) (t : Fr) (m : Mem) : wpM E 4 72 rd c_sheaflaw1_WideFits_2 K t m = wpM E 4 72 rd (.seq (.ops [⟨(some 36), .load 24 (.tmp 7), none⟩,
    ⟨(some 37), .call ⟨.value (.func 15), #[(.tmp 36)], #[24]⟩, none⟩,
    ⟨(some 35), .move (.tmp 37), none⟩,
    ⟨(some 38), .extract (.tmp 35) 0, none⟩,
    ⟨(some 39), .extract (.tmp 35) 1, none⟩,
    ⟨(some 12), .assign (.tmp 38), none⟩,
    ⟨(some 13), .assign (.tmp 39), none⟩]) c_sheaflaw1_WideFits_1) K t m := rfl

def c_sheaflaw1_WideFits_3 : MC := (.seq (.ops [⟨(some 30), .move (.tmp 0), none⟩,
    ⟨(some 31), .call ⟨.value (.func 17), #[(.tmp 30)], #[3]⟩, none⟩,
    ⟨(some 32), .call ⟨.value (.func 16), #[(.tmp 31), (.const (.int .i64 1))], #[24, 3]⟩, none⟩,
    ⟨(some 29), .move (.tmp 32), none⟩,
    ⟨(some 33), .extract (.tmp 29) 0, none⟩,
    ⟨(some 34), .extract (.tmp 29) 1, none⟩,
    ⟨(some 10), .assign (.tmp 33), none⟩,
    ⟨(some 11), .assign (.tmp 34), none⟩]) c_sheaflaw1_WideFits_2)
@[go_sem] theorem c_sheaflaw1_WideFits_3_at (rd : Option Nat) (K : Post3) (t : Fr) (m : Mem) : wpM E 4 72 rd c_sheaflaw1_WideFits_3 K t m = wpM E 4 72 rd (.seq (.ops [⟨(some 30), .move (.tmp 0), none⟩,
    ⟨(some 31), .call ⟨.value (.func 17), #[(.tmp 30)], #[3]⟩, none⟩,
    ⟨(some 32), .call ⟨.value (.func 16), #[(.tmp 31), (.const (.int .i64 1))], #[24, 3]⟩, none⟩,
    ⟨(some 29), .move (.tmp 32), none⟩,
    ⟨(some 33), .extract (.tmp 29) 0, none⟩,
    ⟨(some 34), .extract (.tmp 29) 1, none⟩,
    ⟨(some 10), .assign (.tmp 33), none⟩,
    ⟨(some 11), .assign (.tmp 34), none⟩]) c_sheaflaw1_WideFits_2) K t m := rfl

def c_sheaflaw1_WideFits_4 : MC := (.seq (.ops [⟨(some 24), .load 24 (.tmp 7), none⟩,
    ⟨(some 25), .move (.tmp 6), none⟩,
    ⟨(some 26), .call ⟨.value (.func 16), #[(.tmp 24), (.tmp 25)], #[24, 3]⟩, none⟩,
    ⟨(some 23), .move (.tmp 26), none⟩,
    ⟨(some 27), .extract (.tmp 23) 0, none⟩,
    ⟨(some 28), .extract (.tmp 23) 1, none⟩,
    ⟨(some 8), .assign (.tmp 27), none⟩,
    ⟨(some 9), .assign (.tmp 28), none⟩]) c_sheaflaw1_WideFits_3)
@[go_sem] theorem c_sheaflaw1_WideFits_4_at (rd : Option Nat) (K : Post3) (t : Fr) (m : Mem) : wpM E 4 72 rd c_sheaflaw1_WideFits_4 K t m = wpM E 4 72 rd (.seq (.ops [⟨(some 24), .load 24 (.tmp 7), none⟩,
    ⟨(some 25), .move (.tmp 6), none⟩,
    ⟨(some 26), .call ⟨.value (.func 16), #[(.tmp 24), (.tmp 25)], #[24, 3]⟩, none⟩,
    ⟨(some 23), .move (.tmp 26), none⟩,
    ⟨(some 27), .extract (.tmp 23) 0, none⟩,
    ⟨(some 28), .extract (.tmp 23) 1, none⟩,
    ⟨(some 8), .assign (.tmp 27), none⟩,
    ⟨(some 9), .assign (.tmp 28), none⟩]) c_sheaflaw1_WideFits_3) K t m := rfl

def c_sheaflaw1_WideFits_5 : MC := (.seq (.ops [⟨(some 20), .move (.tmp 5), none⟩,
    ⟨(some 21), .move (.tmp 6), none⟩,
    ⟨(some 22), .call ⟨.value (.func 14), #[(.tmp 20), (.tmp 21)], #[3, 3]⟩, none⟩,
    ⟨(some 7), .alloc 24, none⟩,
    ⟨none, .store 24 (.tmp 7) (.tmp 22), none⟩]) c_sheaflaw1_WideFits_4)
@[go_sem] theorem c_sheaflaw1_WideFits_5_at (rd : Option Nat) (K : Post3) (t : Fr) (m : Mem) : wpM E 4 72 rd c_sheaflaw1_WideFits_5 K t m = wpM E 4 72 rd (.seq (.ops [⟨(some 20), .move (.tmp 5), none⟩,
    ⟨(some 21), .move (.tmp 6), none⟩,
    ⟨(some 22), .call ⟨.value (.func 14), #[(.tmp 20), (.tmp 21)], #[3, 3]⟩, none⟩,
    ⟨(some 7), .alloc 24, none⟩,
    ⟨none, .store 24 (.tmp 7) (.tmp 22), none⟩]) c_sheaflaw1_WideFits_4) K t m := rfl

def c_sheaflaw1_WideFits_6 : MC := (.seq (.ops [⟨(some 16), .move (.tmp 0), none⟩,
    ⟨(some 17), .call ⟨.value (.func 19), #[(.tmp 16), (.const (.int .i64 (-4611686018427387904))), (.const (.int .i64 4611686018427387904))], #[3, 3, 3]⟩, none⟩,
    ⟨(some 18), .move (.tmp 1), none⟩,
    ⟨(some 19), .call ⟨.value (.func 19), #[(.tmp 18), (.const (.int .i64 1)), (.const (.int .i64 4611686018427387904))], #[3, 3, 3]⟩, none⟩,
    ⟨(some 5), .assign (.tmp 17), none⟩,
    ⟨(some 6), .assign (.tmp 19), none⟩]) c_sheaflaw1_WideFits_5)
@[go_sem] theorem c_sheaflaw1_WideFits_6_at (rd : Option Nat) (K : Post3) (t : Fr) (m : Mem) : wpM E 4 72 rd c_sheaflaw1_WideFits_6 K t m = wpM E 4 72 rd (.seq (.ops [⟨(some 16), .move (.tmp 0), none⟩,
    ⟨(some 17), .call ⟨.value (.func 19), #[(.tmp 16), (.const (.int .i64 (-4611686018427387904))), (.const (.int .i64 4611686018427387904))], #[3, 3, 3]⟩, none⟩,
    ⟨(some 18), .move (.tmp 1), none⟩,
    ⟨(some 19), .call ⟨.value (.func 19), #[(.tmp 18), (.const (.int .i64 1)), (.const (.int .i64 4611686018427387904))], #[3, 3, 3]⟩, none⟩,
    ⟨(some 5), .assign (.tmp 17), none⟩,
    ⟨(some 6), .assign (.tmp 19), none⟩]) c_sheaflaw1_WideFits_5) K t m := rfl

def c_sheaflaw1_WideFits_7 : MC := (.seq (.ops [⟨(some 4), .assign (.const (.bool false)), none⟩]) c_sheaflaw1_WideFits_6)
@[go_sem] theorem c_sheaflaw1_WideFits_7_at (rd : Option Nat) (K : Post3) (t : Fr) (m : Mem) : wpM E 4 72 rd c_sheaflaw1_WideFits_7 K t m = wpM E 4 72 rd (.seq (.ops [⟨(some 4), .assign (.const (.bool false)), none⟩]) c_sheaflaw1_WideFits_6) K t m := rfl

@[go_sem] theorem some4 : (E.fn 4).isSome = true := by kernel_rfl
set_option maxRecDepth 100000 in
theorem fn_sheaflaw1_WideFits : FnIs E 4 72 [.tmp 4] c_sheaflaw1_WideFits_7 := ⟨by kernel_rfl, by kernel_rfl⟩

/-! sheaf/sheaflaw1.WideRing -/
abbrev F_sheaflaw1_WideRing : FuncId := 5
def c_sheaflaw1_WideRing_0 : MC := (.seq (.ops [⟨(some 8), .assign (.const (.bool false)), none⟩]) .ret)
@[go_sem] theorem c_sheaflaw1_WideRing_0_at (rd : Option Nat) (K : Post3) (t : Fr) (m : Mem) : wpM E 5 105 rd c_sheaflaw1_WideRing_0 K t m = wpM E 5 105 rd (.seq (.ops [⟨(some 8), .assign (.const (.bool false)), none⟩]) .ret) K t m := rfl

def c_sheaflaw1_WideRing_1 : MC := (.cond (.tmp 53) c_sheaflaw1_WideRing_0 .skip)
@[go_sem] theorem c_sheaflaw1_WideRing_1_at (rd : Option Nat) (K : Post3) (t : Fr) (m : Mem) : wpM E 5 105 rd c_sheaflaw1_WideRing_1 K t m = wpM E 5 105 rd (.cond (.tmp 53) c_sheaflaw1_WideRing_0 .skip) K t m := rfl

def c_sheaflaw1_WideRing_2 : MC := (.seq (.ops [⟨(some 19), .move (.tmp 0), none⟩,
    ⟨(some 20), .move (.tmp 1), none⟩,
    ⟨(some 21), .call ⟨.value (.func 14), #[(.tmp 19), (.tmp 20)], #[3, 3]⟩, none⟩,
    ⟨(some 22), .move (.tmp 1), none⟩,
    ⟨(some 23), .move (.tmp 0), none⟩,
    ⟨(some 24), .call ⟨.value (.func 14), #[(.tmp 22), (.tmp 23)], #[3, 3]⟩, none⟩,
    ⟨(some 25), .binOp .neq 24 (.tmp 21) (.tmp 24) 24, none⟩,
    ⟨(some 26), .move (.tmp 25), none⟩,
    ⟨(some 27), .move (.tmp 0), (some (some 26, false))⟩,
    ⟨(some 28), .move (.tmp 9), (some (some 26, false))⟩,
    ⟨(some 29), .move (.tmp 10), (some (some 26, false))⟩,
    ⟨(some 30), .binOp .add 3 (.tmp 28) (.tmp 29) 3, (some (some 26, false))⟩,
    ⟨(some 31), .call ⟨.value (.func 14), #[(.tmp 27), (.tmp 30)], #[3, 3]⟩, (some (some 26, false))⟩,
    ⟨(some 32), .move (.tmp 0), (some (some 26, false))⟩,
    ⟨(some 33), .move (.tmp 9), (some (some 26, false))⟩,
    ⟨(some 34), .call ⟨.value (.func 14), #[(.tmp 32), (.tmp 33)], #[3, 3]⟩, (some (some 26, false))⟩,
    ⟨(some 35), .move (.tmp 0), (some (some 26, false))⟩,
    ⟨(some 36), .move (.tmp 10), (some (some 26, false))⟩,
    ⟨(some 37), .call ⟨.value (.func 14), #[(.tmp 35), (.tmp 36)], #[3, 3]⟩, (some (some 26, false))⟩,
    ⟨(some 38), .call ⟨.value (.func 20), #[(.tmp 34), (.tmp 37)], #[24, 24]⟩, (some (some 26, false))⟩,
    ⟨(some 39), .binOp .neq 24 (.tmp 31) (.tmp 38) 24, (some (some 26, false))⟩,
    ⟨(some 40), .pick (.tmp 26) (.const (.bool true)) (.tmp 39), none⟩,
    ⟨(some 41), .move (.tmp 40), none⟩,
    ⟨(some 42), .move (.tmp 0), (some (some 41, false))⟩,
    ⟨(some 43), .call ⟨.value (.func 14), #[(.tmp 42), (.const (.int .i64 1))], #[3, 3]⟩, (some (some 41, false))⟩,
    ⟨(some 44), .move (.tmp 0), (some (some 41, false))⟩,
    ⟨(some 45), .call ⟨.value (.func 17), #[(.tmp 44)], #[3]⟩, (some (some 41, false))⟩,
    ⟨(some 46), .binOp .neq 24 (.tmp 43) (.tmp 45) 24, (some (some 41, false))⟩,
    ⟨(some 47), .pick (.tmp 41) (.const (.bool true)) (.tmp 46), none⟩,
    ⟨(some 48), .move (.tmp 47), none⟩,
    ⟨(some 49), .move (.tmp 0), (some (some 48, false))⟩,
    ⟨(some 50), .call ⟨.value (.func 14), #[(.tmp 49), (.const (.int .i64 0))], #[3, 3]⟩, (some (some 48, false))⟩,
    ⟨(some 51), .build 24 #[], (some (some 48, false))⟩,
    ⟨(some 52), .binOp .neq 24 (.tmp 50) (.tmp 51) 24, (some (some 48, false))⟩,
    ⟨(some 53), .pick (.tmp 48) (.const (.bool true)) (.tmp 52), none⟩]) c_sheaflaw1_WideRing_1)
@[go_sem] theorem c_sheaflaw1_WideRing_2_at (rd : Option Nat) (K : Post3) (t : Fr) (m : Mem) : wpM E 5 105 rd c_sheaflaw1_WideRing_2 K t m = wpM E 5 105 rd (.seq (.ops [⟨(some 19), .move (.tmp 0), none⟩,
    ⟨(some 20), .move (.tmp 1), none⟩,
    ⟨(some 21), .call ⟨.value (.func 14), #[(.tmp 19), (.tmp 20)], #[3, 3]⟩, none⟩,
    ⟨(some 22), .move (.tmp 1), none⟩,
    ⟨(some 23), .move (.tmp 0), none⟩,
    ⟨(some 24), .call ⟨.value (.func 14), #[(.tmp 22), (.tmp 23)], #[3, 3]⟩, none⟩,
    ⟨(some 25), .binOp .neq 24 (.tmp 21) (.tmp 24) 24, none⟩,
    ⟨(some 26), .move (.tmp 25), none⟩,
    ⟨(some 27), .move (.tmp 0), (some (some 26, false))⟩,
    ⟨(some 28), .move (.tmp 9), (some (some 26, false))⟩,
    ⟨(some 29), .move (.tmp 10), (some (some 26, false))⟩,
    ⟨(some 30), .binOp .add 3 (.tmp 28) (.tmp 29) 3, (some (some 26, false))⟩,
    ⟨(some 31), .call ⟨.value (.func 14), #[(.tmp 27), (.tmp 30)], #[3, 3]⟩, (some (some 26, false))⟩,
    ⟨(some 32), .move (.tmp 0), (some (some 26, false))⟩,
    ⟨(some 33), .move (.tmp 9), (some (some 26, false))⟩,
    ⟨(some 34), .call ⟨.value (.func 14), #[(.tmp 32), (.tmp 33)], #[3, 3]⟩, (some (some 26, false))⟩,
    ⟨(some 35), .move (.tmp 0), (some (some 26, false))⟩,
    ⟨(some 36), .move (.tmp 10), (some (some 26, false))⟩,
    ⟨(some 37), .call ⟨.value (.func 14), #[(.tmp 35), (.tmp 36)], #[3, 3]⟩, (some (some 26, false))⟩,
    ⟨(some 38), .call ⟨.value (.func 20), #[(.tmp 34), (.tmp 37)], #[24, 24]⟩, (some (some 26, false))⟩,
    ⟨(some 39), .binOp .neq 24 (.tmp 31) (.tmp 38) 24, (some (some 26, false))⟩,
    ⟨(some 40), .pick (.tmp 26) (.const (.bool true)) (.tmp 39), none⟩,
    ⟨(some 41), .move (.tmp 40), none⟩,
    ⟨(some 42), .move (.tmp 0), (some (some 41, false))⟩,
    ⟨(some 43), .call ⟨.value (.func 14), #[(.tmp 42), (.const (.int .i64 1))], #[3, 3]⟩, (some (some 41, false))⟩,
    ⟨(some 44), .move (.tmp 0), (some (some 41, false))⟩,
    ⟨(some 45), .call ⟨.value (.func 17), #[(.tmp 44)], #[3]⟩, (some (some 41, false))⟩,
    ⟨(some 46), .binOp .neq 24 (.tmp 43) (.tmp 45) 24, (some (some 41, false))⟩,
    ⟨(some 47), .pick (.tmp 41) (.const (.bool true)) (.tmp 46), none⟩,
    ⟨(some 48), .move (.tmp 47), none⟩,
    ⟨(some 49), .move (.tmp 0), (some (some 48, false))⟩,
    ⟨(some 50), .call ⟨.value (.func 14), #[(.tmp 49), (.const (.int .i64 0))], #[3, 3]⟩, (some (some 48, false))⟩,
    ⟨(some 51), .build 24 #[], (some (some 48, false))⟩,
    ⟨(some 52), .binOp .neq 24 (.tmp 50) (.tmp 51) 24, (some (some 48, false))⟩,
    ⟨(some 53), .pick (.tmp 48) (.const (.bool true)) (.tmp 52), none⟩]) c_sheaflaw1_WideRing_1) K t m := rfl

def c_sheaflaw1_WideRing_3 : MC := (.seq (.ops [⟨(some 8), .assign (.const (.bool false)), none⟩]) .ret)
@[go_sem] theorem c_sheaflaw1_WideRing_3_at (rd : Option Nat) (K : Post3) (t : Fr) (m : Mem) : wpM E 5 105 rd c_sheaflaw1_WideRing_3 K t m = wpM E 5 105 rd (.seq (.ops [⟨(some 8), .assign (.const (.bool false)), none⟩]) .ret) K t m := rfl

def c_sheaflaw1_WideRing_4 : MC := (.cond (.tmp 67) c_sheaflaw1_WideRing_3 .skip)
@[go_sem] theorem c_sheaflaw1_WideRing_4_at (rd : Option Nat) (K : Post3) (t : Fr) (m : Mem) : wpM E 5 105 rd c_sheaflaw1_WideRing_4 K t m = wpM E 5 105 rd (.cond (.tmp 67) c_sheaflaw1_WideRing_3 .skip) K t m := rfl

def c_sheaflaw1_WideRing_5 : MC := (.seq (.ops [⟨(some 54), .move (.tmp 0), none⟩,
    ⟨(some 55), .binOp .neq 3 (.tmp 54) (.const (.int .i64 (-9223372036854775808))) 3, none⟩,
    ⟨(some 56), .move (.tmp 55), none⟩,
    ⟨(some 57), .move (.tmp 0), (some (some 56, true))⟩,
    ⟨(some 58), .move (.tmp 1), (some (some 56, true))⟩,
    ⟨(some 59), .call ⟨.value (.func 14), #[(.tmp 57), (.tmp 58)], #[3, 3]⟩, (some (some 56, true))⟩,
    ⟨(some 60), .move (.tmp 0), (some (some 56, true))⟩,
    ⟨(some 61), .unOp .neg 3 (.tmp 60), (some (some 56, true))⟩,
    ⟨(some 62), .move (.tmp 1), (some (some 56, true))⟩,
    ⟨(some 63), .call ⟨.value (.func 14), #[(.tmp 61), (.tmp 62)], #[3, 3]⟩, (some (some 56, true))⟩,
    ⟨(some 64), .call ⟨.value (.func 20), #[(.tmp 59), (.tmp 63)], #[24, 24]⟩, (some (some 56, true))⟩,
    ⟨(some 65), .build 24 #[], (some (some 56, true))⟩,
    ⟨(some 66), .binOp .neq 24 (.tmp 64) (.tmp 65) 24, (some (some 56, true))⟩,
    ⟨(some 67), .pick (.tmp 56) (.tmp 66) (.const (.bool false)), none⟩]) c_sheaflaw1_WideRing_4)
@[go_sem] theorem c_sheaflaw1_WideRing_5_at (rd : Option Nat) (K : Post3) (t : Fr) (m : Mem) : wpM E 5 105 rd c_sheaflaw1_WideRing_5 K t m = wpM E 5 105 rd (.seq (.ops [⟨(some 54), .move (.tmp 0), none⟩,
    ⟨(some 55), .binOp .neq 3 (.tmp 54) (.const (.int .i64 (-9223372036854775808))) 3, none⟩,
    ⟨(some 56), .move (.tmp 55), none⟩,
    ⟨(some 57), .move (.tmp 0), (some (some 56, true))⟩,
    ⟨(some 58), .move (.tmp 1), (some (some 56, true))⟩,
    ⟨(some 59), .call ⟨.value (.func 14), #[(.tmp 57), (.tmp 58)], #[3, 3]⟩, (some (some 56, true))⟩,
    ⟨(some 60), .move (.tmp 0), (some (some 56, true))⟩,
    ⟨(some 61), .unOp .neg 3 (.tmp 60), (some (some 56, true))⟩,
    ⟨(some 62), .move (.tmp 1), (some (some 56, true))⟩,
    ⟨(some 63), .call ⟨.value (.func 14), #[(.tmp 61), (.tmp 62)], #[3, 3]⟩, (some (some 56, true))⟩,
    ⟨(some 64), .call ⟨.value (.func 20), #[(.tmp 59), (.tmp 63)], #[24, 24]⟩, (some (some 56, true))⟩,
    ⟨(some 65), .build 24 #[], (some (some 56, true))⟩,
    ⟨(some 66), .binOp .neq 24 (.tmp 64) (.tmp 65) 24, (some (some 56, true))⟩,
    ⟨(some 67), .pick (.tmp 56) (.tmp 66) (.const (.bool false)), none⟩]) c_sheaflaw1_WideRing_4) K t m := rfl

def c_sheaflaw1_WideRing_6 : MC := (.cond (.tmp 76) .skip (.exit 0))
@[go_sem] theorem c_sheaflaw1_WideRing_6_at (rd : Option Nat) (K : Post3) (t : Fr) (m : Mem) : wpM E 5 105 rd c_sheaflaw1_WideRing_6 K t m = wpM E 5 105 rd (.cond (.tmp 76) .skip (.exit 0)) K t m := rfl

def c_sheaflaw1_WideRing_7 : MC := (.seq (.draw [(0, [], ⟨(some 78), .load 24 (.tmp 11), none⟩),
    (1, [], ⟨(some 79), .move (.tmp 13), none⟩),
    (2, [], ⟨(some 80), .move (.tmp 14), none⟩),
    (3, [], ⟨(some 81), .indexAddr 28 (.tmp 79) (.tmp 80), none⟩),
    (4, [], ⟨(some 82), .load 3 (.tmp 81), none⟩),
    (5, [], ⟨(some 83), .move (.tmp 0), none⟩),
    (6, [0], ⟨(some 84), .call ⟨.value (.func 14), #[(.tmp 82), (.tmp 83)], #[3, 3]⟩, none⟩),
    (7, [], ⟨(some 85), .call ⟨.value (.func 20), #[(.tmp 78), (.tmp 84)], #[24, 24]⟩, none⟩),
    (8, [], ⟨none, .store 24 (.tmp 11) (.tmp 85), none⟩)]) (.draw [(0, [], ⟨(some 86), .load 24 (.tmp 12), none⟩),
    (1, [], ⟨(some 87), .move (.tmp 13), none⟩),
    (2, [], ⟨(some 88), .move (.tmp 13), none⟩),
    (3, [], ⟨(some 89), .call ⟨.builtin .len, #[(.tmp 88)], #[28]⟩, none⟩),
    (4, [], ⟨(some 90), .binOp .sub 3 (.tmp 89) (.const (.int .i64 1)) 3, none⟩),
    (5, [], ⟨(some 91), .move (.tmp 14), none⟩),
    (6, [], ⟨(some 92), .binOp .sub 3 (.tmp 90) (.tmp 91) 3, none⟩),
    (7, [], ⟨(some 93), .indexAddr 28 (.tmp 87) (.tmp 92), none⟩),
    (8, [], ⟨(some 94), .load 3 (.tmp 93), none⟩),
    (9, [], ⟨(some 95), .move (.tmp 0), none⟩),
    (10, [0], ⟨(some 96), .call ⟨.value (.func 14), #[(.tmp 94), (.tmp 95)], #[3, 3]⟩, none⟩),
    (11, [], ⟨(some 97), .call ⟨.value (.func 20), #[(.tmp 86), (.tmp 96)], #[24, 24]⟩, none⟩),
    (12, [], ⟨none, .store 24 (.tmp 12) (.tmp 97), none⟩)]))
@[go_sem] theorem c_sheaflaw1_WideRing_7_at (rd : Option Nat) (K : Post3) (t : Fr) (m : Mem) : wpM E 5 105 rd c_sheaflaw1_WideRing_7 K t m = wpM E 5 105 rd (.seq (.draw [(0, [], ⟨(some 78), .load 24 (.tmp 11), none⟩),
    (1, [], ⟨(some 79), .move (.tmp 13), none⟩),
    (2, [], ⟨(some 80), .move (.tmp 14), none⟩),
    (3, [], ⟨(some 81), .indexAddr 28 (.tmp 79) (.tmp 80), none⟩),
    (4, [], ⟨(some 82), .load 3 (.tmp 81), none⟩),
    (5, [], ⟨(some 83), .move (.tmp 0), none⟩),
    (6, [0], ⟨(some 84), .call ⟨.value (.func 14), #[(.tmp 82), (.tmp 83)], #[3, 3]⟩, none⟩),
    (7, [], ⟨(some 85), .call ⟨.value (.func 20), #[(.tmp 78), (.tmp 84)], #[24, 24]⟩, none⟩),
    (8, [], ⟨none, .store 24 (.tmp 11) (.tmp 85), none⟩)]) (.draw [(0, [], ⟨(some 86), .load 24 (.tmp 12), none⟩),
    (1, [], ⟨(some 87), .move (.tmp 13), none⟩),
    (2, [], ⟨(some 88), .move (.tmp 13), none⟩),
    (3, [], ⟨(some 89), .call ⟨.builtin .len, #[(.tmp 88)], #[28]⟩, none⟩),
    (4, [], ⟨(some 90), .binOp .sub 3 (.tmp 89) (.const (.int .i64 1)) 3, none⟩),
    (5, [], ⟨(some 91), .move (.tmp 14), none⟩),
    (6, [], ⟨(some 92), .binOp .sub 3 (.tmp 90) (.tmp 91) 3, none⟩),
    (7, [], ⟨(some 93), .indexAddr 28 (.tmp 87) (.tmp 92), none⟩),
    (8, [], ⟨(some 94), .load 3 (.tmp 93), none⟩),
    (9, [], ⟨(some 95), .move (.tmp 0), none⟩),
    (10, [0], ⟨(some 96), .call ⟨.value (.func 14), #[(.tmp 94), (.tmp 95)], #[3, 3]⟩, none⟩),
    (11, [], ⟨(some 97), .call ⟨.value (.func 20), #[(.tmp 86), (.tmp 96)], #[24, 24]⟩, none⟩),
    (12, [], ⟨none, .store 24 (.tmp 12) (.tmp 97), none⟩)])) K t m := rfl

def c_sheaflaw1_WideRing_8 : MC := (.seq (.ops [⟨(some 77), .move (.tmp 75), none⟩,
    ⟨(some 14), .assign (.tmp 77), none⟩]) c_sheaflaw1_WideRing_7)
@[go_sem] theorem c_sheaflaw1_WideRing_8_at (rd : Option Nat) (K : Post3) (t : Fr) (m : Mem) : wpM E 5 105 rd c_sheaflaw1_WideRing_8 K t m = wpM E 5 105 rd (.seq (.ops [⟨(some 77), .move (.tmp 75), none⟩,
    ⟨(some 14), .assign (.tmp 77), none⟩]) c_sheaflaw1_WideRing_7) K t m := rfl

def c_sheaflaw1_WideRing_9 : MC := (.block 1 c_sheaflaw1_WideRing_8)
@[go_sem] theorem c_sheaflaw1_WideRing_9_at (rd : Option Nat) (K : Post3) (t : Fr) (m : Mem) : wpM E 5 105 rd c_sheaflaw1_WideRing_9 K t m = wpM E 5 105 rd (.block 1 c_sheaflaw1_WideRing_8) K t m := rfl

def c_sheaflaw1_WideRing_10 : MC := (.seq c_sheaflaw1_WideRing_9 (.ops [⟨(some 98), .binOp .add 3 (.tmp 75) (.const (.int .i64 1)) 3, none⟩,
    ⟨(some 75), .move (.tmp 98), none⟩]))
@[go_sem] theorem c_sheaflaw1_WideRing_10_at (rd : Option Nat) (K : Post3) (t : Fr) (m : Mem) : wpM E 5 105 rd c_sheaflaw1_WideRing_10 K t m = wpM E 5 105 rd (.seq c_sheaflaw1_WideRing_9 (.ops [⟨(some 98), .binOp .add 3 (.tmp 75) (.const (.int .i64 1)) 3, none⟩,
    ⟨(some 75), .move (.tmp 98), none⟩])) K t m := rfl

def c_sheaflaw1_WideRing_11 : MC := (.seq c_sheaflaw1_WideRing_6 c_sheaflaw1_WideRing_10)
@[go_sem] theorem c_sheaflaw1_WideRing_11_at (rd : Option Nat) (K : Post3) (t : Fr) (m : Mem) : wpM E 5 105 rd c_sheaflaw1_WideRing_11 K t m = wpM E 5 105 rd (.seq c_sheaflaw1_WideRing_6 c_sheaflaw1_WideRing_10) K t m := rfl

def c_sheaflaw1_WideRing_12 : MC := (.seq (.ops [⟨(some 76), .binOp .lss 3 (.tmp 75) (.tmp 74) 3, none⟩]) c_sheaflaw1_WideRing_11)
@[go_sem] theorem c_sheaflaw1_WideRing_12_at (rd : Option Nat) (K : Post3) (t : Fr) (m : Mem) : wpM E 5 105 rd c_sheaflaw1_WideRing_12 K t m = wpM E 5 105 rd (.seq (.ops [⟨(some 76), .binOp .lss 3 (.tmp 75) (.tmp 74) 3, none⟩]) c_sheaflaw1_WideRing_11) K t m := rfl

def c_sheaflaw1_WideRing_13 : MC := (.loop c_sheaflaw1_WideRing_12)
theorem c_sheaflaw1_WideRing_13_at (rd : Option Nat) (K : Post3) (t : Fr) (m : Mem) : wpM E 5 105 rd c_sheaflaw1_WideRing_13 K t m = wpM E 5 105 rd (.loop c_sheaflaw1_WideRing_12) K t m := rfl

def c_sheaflaw1_WideRing_14 : MC := (.block 0 c_sheaflaw1_WideRing_13)
theorem c_sheaflaw1_WideRing_14_at (rd : Option Nat) (K : Post3) (t : Fr) (m : Mem) : wpM E 5 105 rd c_sheaflaw1_WideRing_14 K t m = wpM E 5 105 rd (.block 0 c_sheaflaw1_WideRing_13) K t m := rfl

def c_sheaflaw1_WideRing_15 : MC := (.seq (.ops [⟨(some 73), .move (.tmp 13), none⟩,
    ⟨(some 74), .call ⟨.builtin .len, #[(.tmp 73)], #[28]⟩, none⟩,
    ⟨(some 75), .move (.const (.int .i64 0)), none⟩]) c_sheaflaw1_WideRing_14)
@[go_sem] theorem c_sheaflaw1_WideRing_15_at (rd : Option Nat) (K : Post3) (t : Fr) (m : Mem) : wpM E 5 105 rd c_sheaflaw1_WideRing_15 K t m = wpM E 5 105 rd (.seq (.ops [⟨(some 73), .move (.tmp 13), none⟩,
    ⟨(some 74), .call ⟨.builtin .len, #[(.tmp 73)], #[28]⟩, none⟩,
    ⟨(some 75), .move (.const (.int .i64 0)), none⟩]) c_sheaflaw1_WideRing_14) K t m := rfl

def c_sheaflaw1_WideRing_16 : MC := (.seq (.ops [⟨(some 99), .load 24 (.tmp 11), none⟩,
    ⟨(some 100), .load 24 (.tmp 12), none⟩,
    ⟨(some 101), .binOp .eql 24 (.tmp 99) (.tmp 100) 24, none⟩,
    ⟨(some 102), .move (.tmp 101), none⟩,
    ⟨(some 103), .call ⟨.value (.func 3), #[], #[]⟩, (some (some 102, true))⟩,
    ⟨(some 104), .pick (.tmp 102) (.tmp 103) (.const (.bool false)), none⟩,
    ⟨(some 8), .assign (.tmp 104), none⟩]) .ret)
@[go_sem] theorem c_sheaflaw1_WideRing_16_at (rd : Option Nat) (K : Post3) (t : Fr) (m : Mem) : wpM E 5 105 rd c_sheaflaw1_WideRing_16 K t m = wpM E 5 105 rd (.seq (.ops [⟨(some 99), .load 24 (.tmp 11), none⟩,
    ⟨(some 100), .load 24 (.tmp 12), none⟩,
    ⟨(some 101), .binOp .eql 24 (.tmp 99) (.tmp 100) 24, none⟩,
    ⟨(some 102), .move (.tmp 101), none⟩,
    ⟨(some 103), .call ⟨.value (.func 3), #[], #[]⟩, (some (some 102, true))⟩,
    ⟨(some 104), .pick (.tmp 102) (.tmp 103) (.const (.bool false)), none⟩,
    ⟨(some 8), .assign (.tmp 104), none⟩]) .ret) K t m := rfl

def c_sheaflaw1_WideRing_17 : MC := (.seq c_sheaflaw1_WideRing_15 c_sheaflaw1_WideRing_16)
@[go_sem] theorem c_sheaflaw1_WideRing_17_at (rd : Option Nat) (K : Post3) (t : Fr) (m : Mem) : wpM E 5 105 rd c_sheaflaw1_WideRing_17 K t m = wpM E 5 105 rd (.seq c_sheaflaw1_WideRing_15 c_sheaflaw1_WideRing_16) K t m := rfl

def c_sheaflaw1_WideRing_18 : MC := (.seq (.ops [⟨(some 68), .move (.tmp 3), none⟩,
    ⟨(some 69), .move (.tmp 3), none⟩,
    ⟨(some 70), .call ⟨.builtin .len, #[(.tmp 69)], #[28]⟩, none⟩,
    ⟨(some 71), .call ⟨.builtin .min, #[(.tmp 70), (.const (.int .i64 30))], #[3, 3]⟩, none⟩,
    ⟨(some 72), .slice 28 (.tmp 68) none (some (.tmp 71)) none, none⟩,
    ⟨(some 13), .assign (.tmp 72), none⟩]) c_sheaflaw1_WideRing_17)
@[go_sem] theorem c_sheaflaw1_WideRing_18_at (rd : Option Nat) (K : Post3) (t : Fr) (m : Mem) : wpM E 5 105 rd c_sheaflaw1_WideRing_18 K t m = wpM E 5 105 rd (.seq (.ops [⟨(some 68), .move (.tmp 3), none⟩,
    ⟨(some 69), .move (.tmp 3), none⟩,
    ⟨(some 70), .call ⟨.builtin .len, #[(.tmp 69)], #[28]⟩, none⟩,
    ⟨(some 71), .call ⟨.builtin .min, #[(.tmp 70), (.const (.int .i64 30))], #[3, 3]⟩, none⟩,
    ⟨(some 72), .slice 28 (.tmp 68) none (some (.tmp 71)) none, none⟩,
    ⟨(some 13), .assign (.tmp 72), none⟩]) c_sheaflaw1_WideRing_17) K t m := rfl

def c_sheaflaw1_WideRing_19 : MC := (.seq (.ops [⟨(some 11), .alloc 24, none⟩,
    ⟨(some 12), .alloc 24, none⟩]) c_sheaflaw1_WideRing_18)
@[go_sem] theorem c_sheaflaw1_WideRing_19_at (rd : Option Nat) (K : Post3) (t : Fr) (m : Mem) : wpM E 5 105 rd c_sheaflaw1_WideRing_19 K t m = wpM E 5 105 rd (.seq (.ops [⟨(some 11), .alloc 24, none⟩,
    ⟨(some 12), .alloc 24, none⟩]) c_sheaflaw1_WideRing_18) K t m := rfl

def c_sheaflaw1_WideRing_20 : MC := (.seq c_sheaflaw1_WideRing_5 c_sheaflaw1_WideRing_19)
@[go_sem] theorem c_sheaflaw1_WideRing_20_at (rd : Option Nat) (K : Post3) (t : Fr) (m : Mem) : wpM E 5 105 rd c_sheaflaw1_WideRing_20 K t m = wpM E 5 105 rd (.seq c_sheaflaw1_WideRing_5 c_sheaflaw1_WideRing_19) K t m := rfl

def c_sheaflaw1_WideRing_21 : MC := (.seq c_sheaflaw1_WideRing_2 c_sheaflaw1_WideRing_20)
@[go_sem] theorem c_sheaflaw1_WideRing_21_at (rd : Option Nat) (K : Post3) (t : Fr) (m : Mem) : wpM E 5 105 rd c_sheaflaw1_WideRing_21 K t m = wpM E 5 105 rd (.seq c_sheaflaw1_WideRing_2 c_sheaflaw1_WideRing_20) K t m := rfl

def c_sheaflaw1_WideRing_22 : MC := (.seq (.ops [⟨(some 15), .move (.tmp 1), none⟩,
    ⟨(some 16), .call ⟨.value (.func 19), #[(.tmp 15), (.const (.int .i64 (-2305843009213693952))), (.const (.int .i64 2305843009213693952))], #[3, 3, 3]⟩, none⟩,
    ⟨(some 17), .move (.tmp 2), none⟩,
    ⟨(some 18), .call ⟨.value (.func 19), #[(.tmp 17), (.const (.int .i64 (-2305843009213693952))), (.const (.int .i64 2305843009213693952))], #[3, 3, 3]⟩, none⟩,
    ⟨(some 9), .assign (.tmp 16), none⟩,
    ⟨(some 10), .assign (.tmp 18), none⟩]) c_sheaflaw1_WideRing_21)
@[go_sem] theorem c_sheaflaw1_WideRing_22_at (rd : Option Nat) (K : Post3) (t : Fr) (m : Mem) : wpM E 5 105 rd c_sheaflaw1_WideRing_22 K t m = wpM E 5 105 rd (.seq (.ops [⟨(some 15), .move (.tmp 1), none⟩,
    ⟨(some 16), .call ⟨.value (.func 19), #[(.tmp 15), (.const (.int .i64 (-2305843009213693952))), (.const (.int .i64 2305843009213693952))], #[3, 3, 3]⟩, none⟩,
    ⟨(some 17), .move (.tmp 2), none⟩,
    ⟨(some 18), .call ⟨.value (.func 19), #[(.tmp 17), (.const (.int .i64 (-2305843009213693952))), (.const (.int .i64 2305843009213693952))], #[3, 3, 3]⟩, none⟩,
    ⟨(some 9), .assign (.tmp 16), none⟩,
    ⟨(some 10), .assign (.tmp 18), none⟩]) c_sheaflaw1_WideRing_21) K t m := rfl

def c_sheaflaw1_WideRing_23 : MC := (.seq (.ops [⟨(some 8), .assign (.const (.bool false)), none⟩]) c_sheaflaw1_WideRing_22)
@[go_sem] theorem c_sheaflaw1_WideRing_23_at (rd : Option Nat) (K : Post3) (t : Fr) (m : Mem) : wpM E 5 105 rd c_sheaflaw1_WideRing_23 K t m = wpM E 5 105 rd (.seq (.ops [⟨(some 8), .assign (.const (.bool false)), none⟩]) c_sheaflaw1_WideRing_22) K t m := rfl

@[go_sem] theorem some5 : (E.fn 5).isSome = true := by kernel_rfl
set_option maxRecDepth 100000 in
theorem fn_sheaflaw1_WideRing : FnIs E 5 105 [.tmp 8] c_sheaflaw1_WideRing_23 := ⟨by kernel_rfl, by kernel_rfl⟩

/-! sheaf/sheaflaw2.MoneySplits -/
abbrev F_sheaflaw2_MoneySplits : FuncId := 7
def c_sheaflaw2_MoneySplits_0 : MC := (.seq (.ops [⟨(some 4), .assign (.const (.bool false)), none⟩]) .ret)
@[go_sem] theorem c_sheaflaw2_MoneySplits_0_at (rd : Option Nat) (K : Post3) (t : Fr) (m : Mem) : wpM E 7 107 rd c_sheaflaw2_MoneySplits_0 K t m = wpM E 7 107 rd (.seq (.ops [⟨(some 4), .assign (.const (.bool false)), none⟩]) .ret) K t m := rfl

def c_sheaflaw2_MoneySplits_1 : MC := (.cond (.tmp 51) c_sheaflaw2_MoneySplits_0 .skip)
@[go_sem] theorem c_sheaflaw2_MoneySplits_1_at (rd : Option Nat) (K : Post3) (t : Fr) (m : Mem) : wpM E 7 107 rd c_sheaflaw2_MoneySplits_1 K t m = wpM E 7 107 rd (.cond (.tmp 51) c_sheaflaw2_MoneySplits_0 .skip) K t m := rfl

def c_sheaflaw2_MoneySplits_2 : MC := (.seq (.ops [⟨(some 29), .move (.tmp 5), none⟩,
    ⟨(some 30), .move (.tmp 6), none⟩,
    ⟨(some 31), .binOp .add 3 (.tmp 29) (.tmp 30) 3, none⟩,
    ⟨(some 32), .move (.tmp 0), none⟩,
    ⟨(some 33), .binOp .neq 3 (.tmp 31) (.tmp 32) 3, none⟩,
    ⟨(some 34), .move (.tmp 33), none⟩,
    ⟨(some 35), .move (.tmp 7), (some (some 34, false))⟩,
    ⟨(some 36), .binOp .neq 3 (.tmp 35) (.const (.int .i64 0)) 3, (some (some 34, false))⟩,
    ⟨(some 37), .pick (.tmp 34) (.const (.bool true)) (.tmp 36), none⟩,
    ⟨(some 38), .move (.tmp 37), none⟩,
    ⟨(some 39), .move (.tmp 8), (some (some 38, false))⟩,
    ⟨(some 40), .move (.tmp 0), (some (some 38, false))⟩,
    ⟨(some 41), .binOp .neq 3 (.tmp 39) (.tmp 40) 3, (some (some 38, false))⟩,
    ⟨(some 42), .pick (.tmp 38) (.const (.bool true)) (.tmp 41), none⟩,
    ⟨(some 43), .move (.tmp 42), none⟩,
    ⟨(some 44), .move (.tmp 9), (some (some 43, false))⟩,
    ⟨(some 45), .move (.tmp 0), (some (some 43, false))⟩,
    ⟨(some 46), .binOp .neq 3 (.tmp 44) (.tmp 45) 3, (some (some 43, false))⟩,
    ⟨(some 47), .pick (.tmp 43) (.const (.bool true)) (.tmp 46), none⟩,
    ⟨(some 48), .move (.tmp 47), none⟩,
    ⟨(some 49), .move (.tmp 10), (some (some 48, false))⟩,
    ⟨(some 50), .binOp .neq 3 (.tmp 49) (.const (.int .i64 0)) 3, (some (some 48, false))⟩,
    ⟨(some 51), .pick (.tmp 48) (.const (.bool true)) (.tmp 50), none⟩]) c_sheaflaw2_MoneySplits_1)
@[go_sem] theorem c_sheaflaw2_MoneySplits_2_at (rd : Option Nat) (K : Post3) (t : Fr) (m : Mem) : wpM E 7 107 rd c_sheaflaw2_MoneySplits_2 K t m = wpM E 7 107 rd (.seq (.ops [⟨(some 29), .move (.tmp 5), none⟩,
    ⟨(some 30), .move (.tmp 6), none⟩,
    ⟨(some 31), .binOp .add 3 (.tmp 29) (.tmp 30) 3, none⟩,
    ⟨(some 32), .move (.tmp 0), none⟩,
    ⟨(some 33), .binOp .neq 3 (.tmp 31) (.tmp 32) 3, none⟩,
    ⟨(some 34), .move (.tmp 33), none⟩,
    ⟨(some 35), .move (.tmp 7), (some (some 34, false))⟩,
    ⟨(some 36), .binOp .neq 3 (.tmp 35) (.const (.int .i64 0)) 3, (some (some 34, false))⟩,
    ⟨(some 37), .pick (.tmp 34) (.const (.bool true)) (.tmp 36), none⟩,
    ⟨(some 38), .move (.tmp 37), none⟩,
    ⟨(some 39), .move (.tmp 8), (some (some 38, false))⟩,
    ⟨(some 40), .move (.tmp 0), (some (some 38, false))⟩,
    ⟨(some 41), .binOp .neq 3 (.tmp 39) (.tmp 40) 3, (some (some 38, false))⟩,
    ⟨(some 42), .pick (.tmp 38) (.const (.bool true)) (.tmp 41), none⟩,
    ⟨(some 43), .move (.tmp 42), none⟩,
    ⟨(some 44), .move (.tmp 9), (some (some 43, false))⟩,
    ⟨(some 45), .move (.tmp 0), (some (some 43, false))⟩,
    ⟨(some 46), .binOp .neq 3 (.tmp 44) (.tmp 45) 3, (some (some 43, false))⟩,
    ⟨(some 47), .pick (.tmp 43) (.const (.bool true)) (.tmp 46), none⟩,
    ⟨(some 48), .move (.tmp 47), none⟩,
    ⟨(some 49), .move (.tmp 10), (some (some 48, false))⟩,
    ⟨(some 50), .binOp .neq 3 (.tmp 49) (.const (.int .i64 0)) 3, (some (some 48, false))⟩,
    ⟨(some 51), .pick (.tmp 48) (.const (.bool true)) (.tmp 50), none⟩]) c_sheaflaw2_MoneySplits_1) K t m := rfl

def c_sheaflaw2_MoneySplits_3 : MC := (.seq (.ops [⟨(some 4), .assign (.const (.bool false)), none⟩]) .ret)
@[go_sem] theorem c_sheaflaw2_MoneySplits_3_at (rd : Option Nat) (K : Post3) (t : Fr) (m : Mem) : wpM E 7 107 rd c_sheaflaw2_MoneySplits_3 K t m = wpM E 7 107 rd (.seq (.ops [⟨(some 4), .assign (.const (.bool false)), none⟩]) .ret) K t m := rfl

def c_sheaflaw2_MoneySplits_4 : MC := (.cond (.tmp 73) c_sheaflaw2_MoneySplits_3 .skip)
@[go_sem] theorem c_sheaflaw2_MoneySplits_4_at (rd : Option Nat) (K : Post3) (t : Fr) (m : Mem) : wpM E 7 107 rd c_sheaflaw2_MoneySplits_4 K t m = wpM E 7 107 rd (.cond (.tmp 73) c_sheaflaw2_MoneySplits_3 .skip) K t m := rfl

def c_sheaflaw2_MoneySplits_5 : MC := (.seq (.ops [⟨(some 52), .move (.tmp 0), none⟩,
    ⟨(some 53), .binOp .geq 3 (.tmp 52) (.const (.int .i64 0)) 3, none⟩,
    ⟨(some 54), .move (.tmp 53), none⟩,
    ⟨(some 55), .move (.tmp 5), (some (some 54, true))⟩,
    ⟨(some 56), .binOp .lss 3 (.tmp 55) (.const (.int .i64 0)) 3, (some (some 54, true))⟩,
    ⟨(some 57), .move (.tmp 56), (some (some 54, true))⟩,
    ⟨(some 58), .move (.tmp 6), (some (some 57, false))⟩,
    ⟨(some 59), .binOp .lss 3 (.tmp 58) (.const (.int .i64 0)) 3, (some (some 57, false))⟩,
    ⟨(some 60), .pick (.tmp 57) (.const (.bool true)) (.tmp 59), (some (some 54, true))⟩,
    ⟨(some 61), .pick (.tmp 54) (.tmp 60) (.const (.bool false)), none⟩,
    ⟨(some 62), .move (.tmp 61), none⟩,
    ⟨(some 63), .move (.tmp 0), (some (some 62, false))⟩,
    ⟨(some 64), .binOp .leq 3 (.tmp 63) (.const (.int .i64 0)) 3, (some (some 62, false))⟩,
    ⟨(some 65), .move (.tmp 64), (some (some 62, false))⟩,
    ⟨(some 66), .move (.tmp 5), (some (some 65, true))⟩,
    ⟨(some 67), .binOp .gtr 3 (.tmp 66) (.const (.int .i64 0)) 3, (some (some 65, true))⟩,
    ⟨(some 68), .move (.tmp 67), (some (some 65, true))⟩,
    ⟨(some 69), .move (.tmp 6), (some (some 68, false))⟩,
    ⟨(some 70), .binOp .gtr 3 (.tmp 69) (.const (.int .i64 0)) 3, (some (some 68, false))⟩,
    ⟨(some 71), .pick (.tmp 68) (.const (.bool true)) (.tmp 70), (some (some 65, true))⟩,
    ⟨(some 72), .pick (.tmp 65) (.tmp 71) (.const (.bool false)), (some (some 62, false))⟩,
    ⟨(some 73), .pick (.tmp 62) (.const (.bool true)) (.tmp 72), none⟩]) c_sheaflaw2_MoneySplits_4)
@[go_sem] theorem c_sheaflaw2_MoneySplits_5_at (rd : Option Nat) (K : Post3) (t : Fr) (m : Mem) : wpM E 7 107 rd c_sheaflaw2_MoneySplits_5 K t m = wpM E 7 107 rd (.seq (.ops [⟨(some 52), .move (.tmp 0), none⟩,
    ⟨(some 53), .binOp .geq 3 (.tmp 52) (.const (.int .i64 0)) 3, none⟩,
    ⟨(some 54), .move (.tmp 53), none⟩,
    ⟨(some 55), .move (.tmp 5), (some (some 54, true))⟩,
    ⟨(some 56), .binOp .lss 3 (.tmp 55) (.const (.int .i64 0)) 3, (some (some 54, true))⟩,
    ⟨(some 57), .move (.tmp 56), (some (some 54, true))⟩,
    ⟨(some 58), .move (.tmp 6), (some (some 57, false))⟩,
    ⟨(some 59), .binOp .lss 3 (.tmp 58) (.const (.int .i64 0)) 3, (some (some 57, false))⟩,
    ⟨(some 60), .pick (.tmp 57) (.const (.bool true)) (.tmp 59), (some (some 54, true))⟩,
    ⟨(some 61), .pick (.tmp 54) (.tmp 60) (.const (.bool false)), none⟩,
    ⟨(some 62), .move (.tmp 61), none⟩,
    ⟨(some 63), .move (.tmp 0), (some (some 62, false))⟩,
    ⟨(some 64), .binOp .leq 3 (.tmp 63) (.const (.int .i64 0)) 3, (some (some 62, false))⟩,
    ⟨(some 65), .move (.tmp 64), (some (some 62, false))⟩,
    ⟨(some 66), .move (.tmp 5), (some (some 65, true))⟩,
    ⟨(some 67), .binOp .gtr 3 (.tmp 66) (.const (.int .i64 0)) 3, (some (some 65, true))⟩,
    ⟨(some 68), .move (.tmp 67), (some (some 65, true))⟩,
    ⟨(some 69), .move (.tmp 6), (some (some 68, false))⟩,
    ⟨(some 70), .binOp .gtr 3 (.tmp 69) (.const (.int .i64 0)) 3, (some (some 68, false))⟩,
    ⟨(some 71), .pick (.tmp 68) (.const (.bool true)) (.tmp 70), (some (some 65, true))⟩,
    ⟨(some 72), .pick (.tmp 65) (.tmp 71) (.const (.bool false)), (some (some 62, false))⟩,
    ⟨(some 73), .pick (.tmp 62) (.const (.bool true)) (.tmp 72), none⟩]) c_sheaflaw2_MoneySplits_4) K t m := rfl

def c_sheaflaw2_MoneySplits_6 : MC := (.seq (.ops [⟨(some 82), .move (.tmp 11), none⟩,
    ⟨(some 83), .move (.tmp 6), none⟩,
    ⟨(some 84), .binOp .sub 3 (.tmp 82) (.tmp 83) 3, none⟩,
    ⟨(some 85), .binOp .geq 3 (.tmp 84) (.const (.int .i64 (-1))) 3, none⟩,
    ⟨(some 86), .move (.tmp 85), none⟩,
    ⟨(some 87), .move (.tmp 11), (some (some 86, true))⟩,
    ⟨(some 88), .move (.tmp 6), (some (some 86, true))⟩,
    ⟨(some 89), .binOp .sub 3 (.tmp 87) (.tmp 88) 3, (some (some 86, true))⟩,
    ⟨(some 90), .binOp .leq 3 (.tmp 89) (.const (.int .i64 1)) 3, (some (some 86, true))⟩,
    ⟨(some 91), .pick (.tmp 86) (.tmp 90) (.const (.bool false)), none⟩,
    ⟨(some 92), .move (.tmp 91), none⟩,
    ⟨(some 93), .move (.tmp 12), (some (some 92, true))⟩,
    ⟨(some 94), .move (.tmp 5), (some (some 92, true))⟩,
    ⟨(some 95), .binOp .sub 3 (.tmp 93) (.tmp 94) 3, (some (some 92, true))⟩,
    ⟨(some 96), .binOp .geq 3 (.tmp 95) (.const (.int .i64 (-1))) 3, (some (some 92, true))⟩,
    ⟨(some 97), .pick (.tmp 92) (.tmp 96) (.const (.bool false)), none⟩,
    ⟨(some 98), .move (.tmp 97), none⟩,
    ⟨(some 99), .move (.tmp 12), (some (some 98, true))⟩,
    ⟨(some 100), .move (.tmp 5), (some (some 98, true))⟩,
    ⟨(some 101), .binOp .sub 3 (.tmp 99) (.tmp 100) 3, (some (some 98, true))⟩,
    ⟨(some 102), .binOp .leq 3 (.tmp 101) (.const (.int .i64 1)) 3, (some (some 98, true))⟩,
    ⟨(some 103), .pick (.tmp 98) (.tmp 102) (.const (.bool false)), none⟩,
    ⟨(some 104), .move (.tmp 103), none⟩,
    ⟨(some 105), .call ⟨.value (.func 6), #[], #[]⟩, (some (some 104, true))⟩,
    ⟨(some 106), .pick (.tmp 104) (.tmp 105) (.const (.bool false)), none⟩,
    ⟨(some 4), .assign (.tmp 106), none⟩]) .ret)
@[go_sem] theorem c_sheaflaw2_MoneySplits_6_at (rd : Option Nat) (K : Post3) (t : Fr) (m : Mem) : wpM E 7 107 rd c_sheaflaw2_MoneySplits_6 K t m = wpM E 7 107 rd (.seq (.ops [⟨(some 82), .move (.tmp 11), none⟩,
    ⟨(some 83), .move (.tmp 6), none⟩,
    ⟨(some 84), .binOp .sub 3 (.tmp 82) (.tmp 83) 3, none⟩,
    ⟨(some 85), .binOp .geq 3 (.tmp 84) (.const (.int .i64 (-1))) 3, none⟩,
    ⟨(some 86), .move (.tmp 85), none⟩,
    ⟨(some 87), .move (.tmp 11), (some (some 86, true))⟩,
    ⟨(some 88), .move (.tmp 6), (some (some 86, true))⟩,
    ⟨(some 89), .binOp .sub 3 (.tmp 87) (.tmp 88) 3, (some (some 86, true))⟩,
    ⟨(some 90), .binOp .leq 3 (.tmp 89) (.const (.int .i64 1)) 3, (some (some 86, true))⟩,
    ⟨(some 91), .pick (.tmp 86) (.tmp 90) (.const (.bool false)), none⟩,
    ⟨(some 92), .move (.tmp 91), none⟩,
    ⟨(some 93), .move (.tmp 12), (some (some 92, true))⟩,
    ⟨(some 94), .move (.tmp 5), (some (some 92, true))⟩,
    ⟨(some 95), .binOp .sub 3 (.tmp 93) (.tmp 94) 3, (some (some 92, true))⟩,
    ⟨(some 96), .binOp .geq 3 (.tmp 95) (.const (.int .i64 (-1))) 3, (some (some 92, true))⟩,
    ⟨(some 97), .pick (.tmp 92) (.tmp 96) (.const (.bool false)), none⟩,
    ⟨(some 98), .move (.tmp 97), none⟩,
    ⟨(some 99), .move (.tmp 12), (some (some 98, true))⟩,
    ⟨(some 100), .move (.tmp 5), (some (some 98, true))⟩,
    ⟨(some 101), .binOp .sub 3 (.tmp 99) (.tmp 100) 3, (some (some 98, true))⟩,
    ⟨(some 102), .binOp .leq 3 (.tmp 101) (.const (.int .i64 1)) 3, (some (some 98, true))⟩,
    ⟨(some 103), .pick (.tmp 98) (.tmp 102) (.const (.bool false)), none⟩,
    ⟨(some 104), .move (.tmp 103), none⟩,
    ⟨(some 105), .call ⟨.value (.func 6), #[], #[]⟩, (some (some 104, true))⟩,
    ⟨(some 106), .pick (.tmp 104) (.tmp 105) (.const (.bool false)), none⟩,
    ⟨(some 4), .assign (.tmp 106), none⟩]) .ret) K t m := rfl

def c_sheaflaw2_MoneySplits_7 : MC := (.seq (.ops [⟨(some 75), .move (.tmp 0), none⟩,
    ⟨(some 76), .move (.tmp 1), none⟩,
    ⟨(some 77), .call ⟨.value (.func 25), #[(.tmp 76), (.const (.int .i64 0)), (.const (.int .i64 10000))], #[3, 3, 3]⟩, none⟩,
    ⟨(some 78), .binOp .sub 3 (.const (.int .i64 10000)) (.tmp 77) 3, none⟩,
    ⟨(some 79), .call ⟨.value (.func 22), #[(.tmp 75), (.tmp 78)], #[3, 3]⟩, none⟩,
    ⟨(some 74), .move (.tmp 79), none⟩,
    ⟨(some 80), .extract (.tmp 74) 0, none⟩,
    ⟨(some 81), .extract (.tmp 74) 1, none⟩,
    ⟨(some 11), .assign (.tmp 80), none⟩,
    ⟨(some 12), .assign (.tmp 81), none⟩]) c_sheaflaw2_MoneySplits_6)
@[go_sem] theorem c_sheaflaw2_MoneySplits_7_at (rd : Option Nat) (K : Post3) (t : Fr) (m : Mem) : wpM E 7 107 rd c_sheaflaw2_MoneySplits_7 K t m = wpM E 7 107 rd (.seq (.ops [⟨(some 75), .move (.tmp 0), none⟩,
    ⟨(some 76), .move (.tmp 1), none⟩,
    ⟨(some 77), .call ⟨.value (.func 25), #[(.tmp 76), (.const (.int .i64 0)), (.const (.int .i64 10000))], #[3, 3, 3]⟩, none⟩,
    ⟨(some 78), .binOp .sub 3 (.const (.int .i64 10000)) (.tmp 77) 3, none⟩,
    ⟨(some 79), .call ⟨.value (.func 22), #[(.tmp 75), (.tmp 78)], #[3, 3]⟩, none⟩,
    ⟨(some 74), .move (.tmp 79), none⟩,
    ⟨(some 80), .extract (.tmp 74) 0, none⟩,
    ⟨(some 81), .extract (.tmp 74) 1, none⟩,
    ⟨(some 11), .assign (.tmp 80), none⟩,
    ⟨(some 12), .assign (.tmp 81), none⟩]) c_sheaflaw2_MoneySplits_6) K t m := rfl

def c_sheaflaw2_MoneySplits_8 : MC := (.seq c_sheaflaw2_MoneySplits_5 c_sheaflaw2_MoneySplits_7)
@[go_sem] theorem c_sheaflaw2_MoneySplits_8_at (rd : Option Nat) (K : Post3) (t : Fr) (m : Mem) : wpM E 7 107 rd c_sheaflaw2_MoneySplits_8 K t m = wpM E 7 107 rd (.seq c_sheaflaw2_MoneySplits_5 c_sheaflaw2_MoneySplits_7) K t m := rfl

def c_sheaflaw2_MoneySplits_9 : MC := (.seq c_sheaflaw2_MoneySplits_2 c_sheaflaw2_MoneySplits_8)
@[go_sem] theorem c_sheaflaw2_MoneySplits_9_at (rd : Option Nat) (K : Post3) (t : Fr) (m : Mem) : wpM E 7 107 rd c_sheaflaw2_MoneySplits_9 K t m = wpM E 7 107 rd (.seq c_sheaflaw2_MoneySplits_2 c_sheaflaw2_MoneySplits_8) K t m := rfl

def c_sheaflaw2_MoneySplits_10 : MC := (.seq (.ops [⟨(some 25), .move (.tmp 0), none⟩,
    ⟨(some 26), .call ⟨.value (.func 22), #[(.tmp 25), (.const (.int .i64 10000))], #[3, 3]⟩, none⟩,
    ⟨(some 24), .move (.tmp 26), none⟩,
    ⟨(some 27), .extract (.tmp 24) 0, none⟩,
    ⟨(some 28), .extract (.tmp 24) 1, none⟩,
    ⟨(some 9), .assign (.tmp 27), none⟩,
    ⟨(some 10), .assign (.tmp 28), none⟩]) c_sheaflaw2_MoneySplits_9)
@[go_sem] theorem c_sheaflaw2_MoneySplits_10_at (rd : Option Nat) (K : Post3) (t : Fr) (m : Mem) : wpM E 7 107 rd c_sheaflaw2_MoneySplits_10 K t m = wpM E 7 107 rd (.seq (.ops [⟨(some 25), .move (.tmp 0), none⟩,
    ⟨(some 26), .call ⟨.value (.func 22), #[(.tmp 25), (.const (.int .i64 10000))], #[3, 3]⟩, none⟩,
    ⟨(some 24), .move (.tmp 26), none⟩,
    ⟨(some 27), .extract (.tmp 24) 0, none⟩,
    ⟨(some 28), .extract (.tmp 24) 1, none⟩,
    ⟨(some 9), .assign (.tmp 27), none⟩,
    ⟨(some 10), .assign (.tmp 28), none⟩]) c_sheaflaw2_MoneySplits_9) K t m := rfl

def c_sheaflaw2_MoneySplits_11 : MC := (.seq (.ops [⟨(some 20), .move (.tmp 0), none⟩,
    ⟨(some 21), .call ⟨.value (.func 22), #[(.tmp 20), (.const (.int .i64 0))], #[3, 3]⟩, none⟩,
    ⟨(some 19), .move (.tmp 21), none⟩,
    ⟨(some 22), .extract (.tmp 19) 0, none⟩,
    ⟨(some 23), .extract (.tmp 19) 1, none⟩,
    ⟨(some 7), .assign (.tmp 22), none⟩,
    ⟨(some 8), .assign (.tmp 23), none⟩]) c_sheaflaw2_MoneySplits_10)
@[go_sem] theorem c_sheaflaw2_MoneySplits_11_at (rd : Option Nat) (K : Post3) (t : Fr) (m : Mem) : wpM E 7 107 rd c_sheaflaw2_MoneySplits_11 K t m = wpM E 7 107 rd (.seq (.ops [⟨(some 20), .move (.tmp 0), none⟩,
    ⟨(some 21), .call ⟨.value (.func 22), #[(.tmp 20), (.const (.int .i64 0))], #[3, 3]⟩, none⟩,
    ⟨(some 19), .move (.tmp 21), none⟩,
    ⟨(some 22), .extract (.tmp 19) 0, none⟩,
    ⟨(some 23), .extract (.tmp 19) 1, none⟩,
    ⟨(some 7), .assign (.tmp 22), none⟩,
    ⟨(some 8), .assign (.tmp 23), none⟩]) c_sheaflaw2_MoneySplits_10) K t m := rfl

def c_sheaflaw2_MoneySplits_12 : MC := (.seq (.ops [⟨(some 14), .move (.tmp 0), none⟩,
    ⟨(some 15), .move (.tmp 1), none⟩,
    ⟨(some 16), .call ⟨.value (.func 22), #[(.tmp 14), (.tmp 15)], #[3, 3]⟩, none⟩,
    ⟨(some 13), .move (.tmp 16), none⟩,
    ⟨(some 17), .extract (.tmp 13) 0, none⟩,
    ⟨(some 18), .extract (.tmp 13) 1, none⟩,
    ⟨(some 5), .assign (.tmp 17), none⟩,
    ⟨(some 6), .assign (.tmp 18), none⟩]) c_sheaflaw2_MoneySplits_11)
@[go_sem] theorem c_sheaflaw2_MoneySplits_12_at (rd : Option Nat) (K : Post3) (t : Fr) (m : Mem) : wpM E 7 107 rd c_sheaflaw2_MoneySplits_12 K t m = wpM E 7 107 rd (.seq (.ops [⟨(some 14), .move (.tmp 0), none⟩,
    ⟨(some 15), .move (.tmp 1), none⟩,
    ⟨(some 16), .call ⟨.value (.func 22), #[(.tmp 14), (.tmp 15)], #[3, 3]⟩, none⟩,
    ⟨(some 13), .move (.tmp 16), none⟩,
    ⟨(some 17), .extract (.tmp 13) 0, none⟩,
    ⟨(some 18), .extract (.tmp 13) 1, none⟩,
    ⟨(some 5), .assign (.tmp 17), none⟩,
    ⟨(some 6), .assign (.tmp 18), none⟩]) c_sheaflaw2_MoneySplits_11) K t m := rfl

def c_sheaflaw2_MoneySplits_13 : MC := (.seq (.ops [⟨(some 4), .assign (.const (.bool false)), none⟩]) c_sheaflaw2_MoneySplits_12)
@[go_sem] theorem c_sheaflaw2_MoneySplits_13_at (rd : Option Nat) (K : Post3) (t : Fr) (m : Mem) : wpM E 7 107 rd c_sheaflaw2_MoneySplits_13 K t m = wpM E 7 107 rd (.seq (.ops [⟨(some 4), .assign (.const (.bool false)), none⟩]) c_sheaflaw2_MoneySplits_12) K t m := rfl

@[go_sem] theorem some7 : (E.fn 7).isSome = true := by kernel_rfl
set_option maxRecDepth 100000 in
theorem fn_sheaflaw2_MoneySplits : FnIs E 7 107 [.tmp 4] c_sheaflaw2_MoneySplits_13 := ⟨by kernel_rfl, by kernel_rfl⟩

/-! sheaf/sheaflaw2.MoneyBack -/
abbrev F_sheaflaw2_MoneyBack : FuncId := 8
def c_sheaflaw2_MoneyBack_0 : MC := (.seq (.ops [⟨(some 75), .move (.tmp 10), none⟩,
    ⟨(some 76), .move (.tmp 75), none⟩,
    ⟨(some 77), .move (.tmp 9), (some (some 76, true))⟩,
    ⟨(some 78), .move (.tmp 7), (some (some 76, true))⟩,
    ⟨(some 79), .move (.tmp 8), (some (some 76, true))⟩,
    ⟨(some 80), .binOp .mul 3 (.tmp 78) (.tmp 79) 3, (some (some 76, true))⟩,
    ⟨(some 81), .binOp .eql 3 (.tmp 77) (.tmp 80) 3, (some (some 76, true))⟩,
    ⟨(some 82), .pick (.tmp 76) (.tmp 81) (.const (.bool false)), none⟩,
    ⟨(some 83), .move (.tmp 82), none⟩,
    ⟨(some 84), .move (.tmp 12), (some (some 83, true))⟩,
    ⟨(some 85), .pick (.tmp 83) (.tmp 84) (.const (.bool false)), none⟩,
    ⟨(some 86), .move (.tmp 85), none⟩,
    ⟨(some 87), .move (.tmp 11), (some (some 86, true))⟩,
    ⟨(some 88), .move (.tmp 7), (some (some 86, true))⟩,
    ⟨(some 89), .binOp .eql 3 (.tmp 87) (.tmp 88) 3, (some (some 86, true))⟩,
    ⟨(some 90), .pick (.tmp 86) (.tmp 89) (.const (.bool false)), none⟩,
    ⟨(some 91), .move (.tmp 90), none⟩,
    ⟨(some 92), .move (.tmp 14), (some (some 91, true))⟩,
    ⟨(some 93), .pick (.tmp 91) (.tmp 92) (.const (.bool false)), none⟩,
    ⟨(some 94), .move (.tmp 93), none⟩,
    ⟨(some 95), .move (.tmp 13), (some (some 94, true))⟩,
    ⟨(some 96), .move (.tmp 0), (some (some 94, true))⟩,
    ⟨(some 97), .binOp .eql 3 (.tmp 95) (.tmp 96) 3, (some (some 94, true))⟩,
    ⟨(some 98), .pick (.tmp 94) (.tmp 97) (.const (.bool false)), none⟩,
    ⟨(some 99), .move (.tmp 98), none⟩,
    ⟨(some 100), .move (.tmp 16), (some (some 99, true))⟩,
    ⟨(some 101), .unOp .not 4 (.tmp 100), (some (some 99, true))⟩,
    ⟨(some 102), .pick (.tmp 99) (.tmp 101) (.const (.bool false)), none⟩,
    ⟨(some 103), .move (.tmp 102), none⟩,
    ⟨(some 104), .move (.tmp 18), (some (some 103, true))⟩,
    ⟨(some 105), .unOp .not 4 (.tmp 104), (some (some 103, true))⟩,
    ⟨(some 106), .pick (.tmp 103) (.tmp 105) (.const (.bool false)), none⟩,
    ⟨(some 107), .move (.tmp 106), none⟩,
    ⟨(some 108), .move (.tmp 20), (some (some 107, true))⟩,
    ⟨(some 109), .unOp .not 4 (.tmp 108), (some (some 107, true))⟩,
    ⟨(some 110), .pick (.tmp 107) (.tmp 109) (.const (.bool false)), none⟩,
    ⟨(some 111), .move (.tmp 110), none⟩,
    ⟨(some 112), .move (.tmp 22), (some (some 111, true))⟩,
    ⟨(some 113), .pick (.tmp 111) (.tmp 112) (.const (.bool false)), none⟩,
    ⟨(some 114), .move (.tmp 113), none⟩,
    ⟨(some 115), .move (.tmp 21), (some (some 114, true))⟩,
    ⟨(some 116), .binOp .and 3 (.tmp 115) (.const (.int .i64 1)) 3, (some (some 114, true))⟩,
    ⟨(some 117), .binOp .eql 3 (.tmp 116) (.const (.int .i64 0)) 3, (some (some 114, true))⟩,
    ⟨(some 118), .pick (.tmp 114) (.tmp 117) (.const (.bool false)), none⟩,
    ⟨(some 119), .move (.tmp 118), none⟩,
    ⟨(some 120), .move (.tmp 21), (some (some 119, true))⟩,
    ⟨(some 121), .move (.tmp 7), (some (some 119, true))⟩,
    ⟨(some 122), .binOp .eql 3 (.tmp 120) (.tmp 121) 3, (some (some 119, true))⟩,
    ⟨(some 123), .move (.tmp 122), (some (some 119, true))⟩,
    ⟨(some 124), .move (.tmp 21), (some (some 123, false))⟩,
    ⟨(some 125), .move (.tmp 7), (some (some 123, false))⟩,
    ⟨(some 126), .binOp .add 3 (.tmp 125) (.const (.int .i64 1)) 3, (some (some 123, false))⟩,
    ⟨(some 127), .binOp .eql 3 (.tmp 124) (.tmp 126) 3, (some (some 123, false))⟩,
    ⟨(some 128), .pick (.tmp 123) (.const (.bool true)) (.tmp 127), (some (some 119, true))⟩,
    ⟨(some 129), .pick (.tmp 119) (.tmp 128) (.const (.bool false)), none⟩,
    ⟨(some 130), .move (.tmp 129), none⟩,
    ⟨(some 131), .call ⟨.value (.func 6), #[], #[]⟩, (some (some 130, true))⟩,
    ⟨(some 132), .pick (.tmp 130) (.tmp 131) (.const (.bool false)), none⟩,
    ⟨(some 6), .assign (.tmp 132), none⟩]) .ret)
@[go_sem] theorem c_sheaflaw2_MoneyBack_0_at (rd : Option Nat) (K : Post3) (t : Fr) (m : Mem) : wpM E 8 133 rd c_sheaflaw2_MoneyBack_0 K t m = wpM E 8 133 rd (.seq (.ops [⟨(some 75), .move (.tmp 10), none⟩,
    ⟨(some 76), .move (.tmp 75), none⟩,
    ⟨(some 77), .move (.tmp 9), (some (some 76, true))⟩,
    ⟨(some 78), .move (.tmp 7), (some (some 76, true))⟩,
    ⟨(some 79), .move (.tmp 8), (some (some 76, true))⟩,
    ⟨(some 80), .binOp .mul 3 (.tmp 78) (.tmp 79) 3, (some (some 76, true))⟩,
    ⟨(some 81), .binOp .eql 3 (.tmp 77) (.tmp 80) 3, (some (some 76, true))⟩,
    ⟨(some 82), .pick (.tmp 76) (.tmp 81) (.const (.bool false)), none⟩,
    ⟨(some 83), .move (.tmp 82), none⟩,
    ⟨(some 84), .move (.tmp 12), (some (some 83, true))⟩,
    ⟨(some 85), .pick (.tmp 83) (.tmp 84) (.const (.bool false)), none⟩,
    ⟨(some 86), .move (.tmp 85), none⟩,
    ⟨(some 87), .move (.tmp 11), (some (some 86, true))⟩,
    ⟨(some 88), .move (.tmp 7), (some (some 86, true))⟩,
    ⟨(some 89), .binOp .eql 3 (.tmp 87) (.tmp 88) 3, (some (some 86, true))⟩,
    ⟨(some 90), .pick (.tmp 86) (.tmp 89) (.const (.bool false)), none⟩,
    ⟨(some 91), .move (.tmp 90), none⟩,
    ⟨(some 92), .move (.tmp 14), (some (some 91, true))⟩,
    ⟨(some 93), .pick (.tmp 91) (.tmp 92) (.const (.bool false)), none⟩,
    ⟨(some 94), .move (.tmp 93), none⟩,
    ⟨(some 95), .move (.tmp 13), (some (some 94, true))⟩,
    ⟨(some 96), .move (.tmp 0), (some (some 94, true))⟩,
    ⟨(some 97), .binOp .eql 3 (.tmp 95) (.tmp 96) 3, (some (some 94, true))⟩,
    ⟨(some 98), .pick (.tmp 94) (.tmp 97) (.const (.bool false)), none⟩,
    ⟨(some 99), .move (.tmp 98), none⟩,
    ⟨(some 100), .move (.tmp 16), (some (some 99, true))⟩,
    ⟨(some 101), .unOp .not 4 (.tmp 100), (some (some 99, true))⟩,
    ⟨(some 102), .pick (.tmp 99) (.tmp 101) (.const (.bool false)), none⟩,
    ⟨(some 103), .move (.tmp 102), none⟩,
    ⟨(some 104), .move (.tmp 18), (some (some 103, true))⟩,
    ⟨(some 105), .unOp .not 4 (.tmp 104), (some (some 103, true))⟩,
    ⟨(some 106), .pick (.tmp 103) (.tmp 105) (.const (.bool false)), none⟩,
    ⟨(some 107), .move (.tmp 106), none⟩,
    ⟨(some 108), .move (.tmp 20), (some (some 107, true))⟩,
    ⟨(some 109), .unOp .not 4 (.tmp 108), (some (some 107, true))⟩,
    ⟨(some 110), .pick (.tmp 107) (.tmp 109) (.const (.bool false)), none⟩,
    ⟨(some 111), .move (.tmp 110), none⟩,
    ⟨(some 112), .move (.tmp 22), (some (some 111, true))⟩,
    ⟨(some 113), .pick (.tmp 111) (.tmp 112) (.const (.bool false)), none⟩,
    ⟨(some 114), .move (.tmp 113), none⟩,
    ⟨(some 115), .move (.tmp 21), (some (some 114, true))⟩,
    ⟨(some 116), .binOp .and 3 (.tmp 115) (.const (.int .i64 1)) 3, (some (some 114, true))⟩,
    ⟨(some 117), .binOp .eql 3 (.tmp 116) (.const (.int .i64 0)) 3, (some (some 114, true))⟩,
    ⟨(some 118), .pick (.tmp 114) (.tmp 117) (.const (.bool false)), none⟩,
    ⟨(some 119), .move (.tmp 118), none⟩,
    ⟨(some 120), .move (.tmp 21), (some (some 119, true))⟩,
    ⟨(some 121), .move (.tmp 7), (some (some 119, true))⟩,
    ⟨(some 122), .binOp .eql 3 (.tmp 120) (.tmp 121) 3, (some (some 119, true))⟩,
    ⟨(some 123), .move (.tmp 122), (some (some 119, true))⟩,
    ⟨(some 124), .move (.tmp 21), (some (some 123, false))⟩,
    ⟨(some 125), .move (.tmp 7), (some (some 123, false))⟩,
    ⟨(some 126), .binOp .add 3 (.tmp 125) (.const (.int .i64 1)) 3, (some (some 123, false))⟩,
    ⟨(some 127), .binOp .eql 3 (.tmp 124) (.tmp 126) 3, (some (some 123, false))⟩,
    ⟨(some 128), .pick (.tmp 123) (.const (.bool true)) (.tmp 127), (some (some 119, true))⟩,
    ⟨(some 129), .pick (.tmp 119) (.tmp 128) (.const (.bool false)), none⟩,
    ⟨(some 130), .move (.tmp 129), none⟩,
    ⟨(some 131), .call ⟨.value (.func 6), #[], #[]⟩, (some (some 130, true))⟩,
    ⟨(some 132), .pick (.tmp 130) (.tmp 131) (.const (.bool false)), none⟩,
    ⟨(some 6), .assign (.tmp 132), none⟩]) .ret) K t m := rfl

def c_sheaflaw2_MoneyBack_1 : MC := (.seq (.ops [⟨(some 69), .move (.tmp 7), none⟩,
    ⟨(some 70), .binOp .mul 3 (.const (.int .i64 2)) (.tmp 69) 3, none⟩,
    ⟨(some 71), .binOp .add 3 (.tmp 70) (.const (.int .i64 1)) 3, none⟩,
    ⟨(some 72), .call ⟨.value (.func 21), #[(.tmp 71), (.const (.int .i64 1)), (.const (.int .i64 2))], #[3, 3, 3]⟩, none⟩,
    ⟨(some 68), .move (.tmp 72), none⟩,
    ⟨(some 73), .extract (.tmp 68) 0, none⟩,
    ⟨(some 74), .extract (.tmp 68) 1, none⟩,
    ⟨(some 21), .assign (.tmp 73), none⟩,
    ⟨(some 22), .assign (.tmp 74), none⟩]) c_sheaflaw2_MoneyBack_0)
@[go_sem] theorem c_sheaflaw2_MoneyBack_1_at (rd : Option Nat) (K : Post3) (t : Fr) (m : Mem) : wpM E 8 133 rd c_sheaflaw2_MoneyBack_1 K t m = wpM E 8 133 rd (.seq (.ops [⟨(some 69), .move (.tmp 7), none⟩,
    ⟨(some 70), .binOp .mul 3 (.const (.int .i64 2)) (.tmp 69) 3, none⟩,
    ⟨(some 71), .binOp .add 3 (.tmp 70) (.const (.int .i64 1)) 3, none⟩,
    ⟨(some 72), .call ⟨.value (.func 21), #[(.tmp 71), (.const (.int .i64 1)), (.const (.int .i64 2))], #[3, 3, 3]⟩, none⟩,
    ⟨(some 68), .move (.tmp 72), none⟩,
    ⟨(some 73), .extract (.tmp 68) 0, none⟩,
    ⟨(some 74), .extract (.tmp 68) 1, none⟩,
    ⟨(some 21), .assign (.tmp 73), none⟩,
    ⟨(some 22), .assign (.tmp 74), none⟩]) c_sheaflaw2_MoneyBack_0) K t m := rfl

def c_sheaflaw2_MoneyBack_2 : MC := (.seq (.ops [⟨(some 62), .move (.tmp 8), none⟩,
    ⟨(some 63), .binOp .and 3 (.tmp 62) (.const (.int .i64 1023)) 3, none⟩,
    ⟨(some 64), .binOp .add 3 (.tmp 63) (.const (.int .i64 1)) 3, none⟩,
    ⟨(some 65), .call ⟨.value (.func 21), #[(.const (.int .i64 4611686018427387904)), (.const (.int .i64 1048576)), (.tmp 64)], #[3, 3, 3]⟩, none⟩,
    ⟨(some 61), .move (.tmp 65), none⟩,
    ⟨(some 66), .extract (.tmp 61) 0, none⟩,
    ⟨(some 67), .extract (.tmp 61) 1, none⟩,
    ⟨(some 19), .assign (.tmp 66), none⟩,
    ⟨(some 20), .assign (.tmp 67), none⟩]) c_sheaflaw2_MoneyBack_1)
@[go_sem] theorem c_sheaflaw2_MoneyBack_2_at (rd : Option Nat) (K : Post3) (t : Fr) (m : Mem) : wpM E 8 133 rd c_sheaflaw2_MoneyBack_2 K t m = wpM E 8 133 rd (.seq (.ops [⟨(some 62), .move (.tmp 8), none⟩,
    ⟨(some 63), .binOp .and 3 (.tmp 62) (.const (.int .i64 1023)) 3, none⟩,
    ⟨(some 64), .binOp .add 3 (.tmp 63) (.const (.int .i64 1)) 3, none⟩,
    ⟨(some 65), .call ⟨.value (.func 21), #[(.const (.int .i64 4611686018427387904)), (.const (.int .i64 1048576)), (.tmp 64)], #[3, 3, 3]⟩, none⟩,
    ⟨(some 61), .move (.tmp 65), none⟩,
    ⟨(some 66), .extract (.tmp 61) 0, none⟩,
    ⟨(some 67), .extract (.tmp 61) 1, none⟩,
    ⟨(some 19), .assign (.tmp 66), none⟩,
    ⟨(some 20), .assign (.tmp 67), none⟩]) c_sheaflaw2_MoneyBack_1) K t m := rfl

def c_sheaflaw2_MoneyBack_3 : MC := (.seq (.ops [⟨(some 53), .move (.tmp 7), none⟩,
    ⟨(some 54), .move (.tmp 8), none⟩,
    ⟨(some 55), .move (.tmp 2), none⟩,
    ⟨(some 56), .call ⟨.value (.func 19), #[(.tmp 55), (.const (.int .i64 0)), (.const (.int .i64 99))], #[3, 3, 3]⟩, none⟩,
    ⟨(some 57), .binOp .sub 3 (.const (.int .i64 (-1))) (.tmp 56) 3, none⟩,
    ⟨(some 58), .call ⟨.value (.func 21), #[(.tmp 53), (.tmp 54), (.tmp 57)], #[3, 3, 3]⟩, none⟩,
    ⟨(some 52), .move (.tmp 58), none⟩,
    ⟨(some 59), .extract (.tmp 52) 0, none⟩,
    ⟨(some 60), .extract (.tmp 52) 1, none⟩,
    ⟨(some 17), .assign (.tmp 59), none⟩,
    ⟨(some 18), .assign (.tmp 60), none⟩]) c_sheaflaw2_MoneyBack_2)
@[go_sem] theorem c_sheaflaw2_MoneyBack_3_at (rd : Option Nat) (K : Post3) (t : Fr) (m : Mem) : wpM E 8 133 rd c_sheaflaw2_MoneyBack_3 K t m = wpM E 8 133 rd (.seq (.ops [⟨(some 53), .move (.tmp 7), none⟩,
    ⟨(some 54), .move (.tmp 8), none⟩,
    ⟨(some 55), .move (.tmp 2), none⟩,
    ⟨(some 56), .call ⟨.value (.func 19), #[(.tmp 55), (.const (.int .i64 0)), (.const (.int .i64 99))], #[3, 3, 3]⟩, none⟩,
    ⟨(some 57), .binOp .sub 3 (.const (.int .i64 (-1))) (.tmp 56) 3, none⟩,
    ⟨(some 58), .call ⟨.value (.func 21), #[(.tmp 53), (.tmp 54), (.tmp 57)], #[3, 3, 3]⟩, none⟩,
    ⟨(some 52), .move (.tmp 58), none⟩,
    ⟨(some 59), .extract (.tmp 52) 0, none⟩,
    ⟨(some 60), .extract (.tmp 52) 1, none⟩,
    ⟨(some 17), .assign (.tmp 59), none⟩,
    ⟨(some 18), .assign (.tmp 60), none⟩]) c_sheaflaw2_MoneyBack_2) K t m := rfl

def c_sheaflaw2_MoneyBack_4 : MC := (.seq (.ops [⟨(some 47), .move (.tmp 7), none⟩,
    ⟨(some 48), .move (.tmp 8), none⟩,
    ⟨(some 49), .call ⟨.value (.func 21), #[(.tmp 47), (.tmp 48), (.const (.int .i64 0))], #[3, 3, 3]⟩, none⟩,
    ⟨(some 46), .move (.tmp 49), none⟩,
    ⟨(some 50), .extract (.tmp 46) 0, none⟩,
    ⟨(some 51), .extract (.tmp 46) 1, none⟩,
    ⟨(some 15), .assign (.tmp 50), none⟩,
    ⟨(some 16), .assign (.tmp 51), none⟩]) c_sheaflaw2_MoneyBack_3)
@[go_sem] theorem c_sheaflaw2_MoneyBack_4_at (rd : Option Nat) (K : Post3) (t : Fr) (m : Mem) : wpM E 8 133 rd c_sheaflaw2_MoneyBack_4 K t m = wpM E 8 133 rd (.seq (.ops [⟨(some 47), .move (.tmp 7), none⟩,
    ⟨(some 48), .move (.tmp 8), none⟩,
    ⟨(some 49), .call ⟨.value (.func 21), #[(.tmp 47), (.tmp 48), (.const (.int .i64 0))], #[3, 3, 3]⟩, none⟩,
    ⟨(some 46), .move (.tmp 49), none⟩,
    ⟨(some 50), .extract (.tmp 46) 0, none⟩,
    ⟨(some 51), .extract (.tmp 46) 1, none⟩,
    ⟨(some 15), .assign (.tmp 50), none⟩,
    ⟨(some 16), .assign (.tmp 51), none⟩]) c_sheaflaw2_MoneyBack_3) K t m := rfl

def c_sheaflaw2_MoneyBack_5 : MC := (.seq (.ops [⟨(some 40), .move (.tmp 0), none⟩,
    ⟨(some 41), .move (.tmp 8), none⟩,
    ⟨(some 42), .move (.tmp 8), none⟩,
    ⟨(some 43), .call ⟨.value (.func 21), #[(.tmp 40), (.tmp 41), (.tmp 42)], #[3, 3, 3]⟩, none⟩,
    ⟨(some 39), .move (.tmp 43), none⟩,
    ⟨(some 44), .extract (.tmp 39) 0, none⟩,
    ⟨(some 45), .extract (.tmp 39) 1, none⟩,
    ⟨(some 13), .assign (.tmp 44), none⟩,
    ⟨(some 14), .assign (.tmp 45), none⟩]) c_sheaflaw2_MoneyBack_4)
@[go_sem] theorem c_sheaflaw2_MoneyBack_5_at (rd : Option Nat) (K : Post3) (t : Fr) (m : Mem) : wpM E 8 133 rd c_sheaflaw2_MoneyBack_5 K t m = wpM E 8 133 rd (.seq (.ops [⟨(some 40), .move (.tmp 0), none⟩,
    ⟨(some 41), .move (.tmp 8), none⟩,
    ⟨(some 42), .move (.tmp 8), none⟩,
    ⟨(some 43), .call ⟨.value (.func 21), #[(.tmp 40), (.tmp 41), (.tmp 42)], #[3, 3, 3]⟩, none⟩,
    ⟨(some 39), .move (.tmp 43), none⟩,
    ⟨(some 44), .extract (.tmp 39) 0, none⟩,
    ⟨(some 45), .extract (.tmp 39) 1, none⟩,
    ⟨(some 13), .assign (.tmp 44), none⟩,
    ⟨(some 14), .assign (.tmp 45), none⟩]) c_sheaflaw2_MoneyBack_4) K t m := rfl

def c_sheaflaw2_MoneyBack_6 : MC := (.seq (.ops [⟨(some 34), .move (.tmp 9), none⟩,
    ⟨(some 35), .move (.tmp 8), none⟩,
    ⟨(some 36), .call ⟨.value (.func 21), #[(.tmp 34), (.const (.int .i64 1)), (.tmp 35)], #[3, 3, 3]⟩, none⟩,
    ⟨(some 33), .move (.tmp 36), none⟩,
    ⟨(some 37), .extract (.tmp 33) 0, none⟩,
    ⟨(some 38), .extract (.tmp 33) 1, none⟩,
    ⟨(some 11), .assign (.tmp 37), none⟩,
    ⟨(some 12), .assign (.tmp 38), none⟩]) c_sheaflaw2_MoneyBack_5)
@[go_sem] theorem c_sheaflaw2_MoneyBack_6_at (rd : Option Nat) (K : Post3) (t : Fr) (m : Mem) : wpM E 8 133 rd c_sheaflaw2_MoneyBack_6 K t m = wpM E 8 133 rd (.seq (.ops [⟨(some 34), .move (.tmp 9), none⟩,
    ⟨(some 35), .move (.tmp 8), none⟩,
    ⟨(some 36), .call ⟨.value (.func 21), #[(.tmp 34), (.const (.int .i64 1)), (.tmp 35)], #[3, 3, 3]⟩, none⟩,
    ⟨(some 33), .move (.tmp 36), none⟩,
    ⟨(some 37), .extract (.tmp 33) 0, none⟩,
    ⟨(some 38), .extract (.tmp 33) 1, none⟩,
    ⟨(some 11), .assign (.tmp 37), none⟩,
    ⟨(some 12), .assign (.tmp 38), none⟩]) c_sheaflaw2_MoneyBack_5) K t m := rfl

def c_sheaflaw2_MoneyBack_7 : MC := (.seq (.ops [⟨(some 28), .move (.tmp 7), none⟩,
    ⟨(some 29), .move (.tmp 8), none⟩,
    ⟨(some 30), .call ⟨.value (.func 21), #[(.tmp 28), (.tmp 29), (.const (.int .i64 1))], #[3, 3, 3]⟩, none⟩,
    ⟨(some 27), .move (.tmp 30), none⟩,
    ⟨(some 31), .extract (.tmp 27) 0, none⟩,
    ⟨(some 32), .extract (.tmp 27) 1, none⟩,
    ⟨(some 9), .assign (.tmp 31), none⟩,
    ⟨(some 10), .assign (.tmp 32), none⟩]) c_sheaflaw2_MoneyBack_6)
@[go_sem] theorem c_sheaflaw2_MoneyBack_7_at (rd : Option Nat) (K : Post3) (t : Fr) (m : Mem) : wpM E 8 133 rd c_sheaflaw2_MoneyBack_7 K t m = wpM E 8 133 rd (.seq (.ops [⟨(some 28), .move (.tmp 7), none⟩,
    ⟨(some 29), .move (.tmp 8), none⟩,
    ⟨(some 30), .call ⟨.value (.func 21), #[(.tmp 28), (.tmp 29), (.const (.int .i64 1))], #[3, 3, 3]⟩, none⟩,
    ⟨(some 27), .move (.tmp 30), none⟩,
    ⟨(some 31), .extract (.tmp 27) 0, none⟩,
    ⟨(some 32), .extract (.tmp 27) 1, none⟩,
    ⟨(some 9), .assign (.tmp 31), none⟩,
    ⟨(some 10), .assign (.tmp 32), none⟩]) c_sheaflaw2_MoneyBack_6) K t m := rfl

def c_sheaflaw2_MoneyBack_8 : MC := (.seq (.ops [⟨(some 23), .move (.tmp 0), none⟩,
    ⟨(some 24), .call ⟨.value (.func 19), #[(.tmp 23), (.const (.int .i64 (-1099511627776))), (.const (.int .i64 1099511627776))], #[3, 3, 3]⟩, none⟩,
    ⟨(some 25), .move (.tmp 1), none⟩,
    ⟨(some 26), .call ⟨.value (.func 19), #[(.tmp 25), (.const (.int .i64 1)), (.const (.int .i64 1048576))], #[3, 3, 3]⟩, none⟩,
    ⟨(some 7), .assign (.tmp 24), none⟩,
    ⟨(some 8), .assign (.tmp 26), none⟩]) c_sheaflaw2_MoneyBack_7)
@[go_sem] theorem c_sheaflaw2_MoneyBack_8_at (rd : Option Nat) (K : Post3) (t : Fr) (m : Mem) : wpM E 8 133 rd c_sheaflaw2_MoneyBack_8 K t m = wpM E 8 133 rd (.seq (.ops [⟨(some 23), .move (.tmp 0), none⟩,
    ⟨(some 24), .call ⟨.value (.func 19), #[(.tmp 23), (.const (.int .i64 (-1099511627776))), (.const (.int .i64 1099511627776))], #[3, 3, 3]⟩, none⟩,
    ⟨(some 25), .move (.tmp 1), none⟩,
    ⟨(some 26), .call ⟨.value (.func 19), #[(.tmp 25), (.const (.int .i64 1)), (.const (.int .i64 1048576))], #[3, 3, 3]⟩, none⟩,
    ⟨(some 7), .assign (.tmp 24), none⟩,
    ⟨(some 8), .assign (.tmp 26), none⟩]) c_sheaflaw2_MoneyBack_7) K t m := rfl

def c_sheaflaw2_MoneyBack_9 : MC := (.seq (.ops [⟨(some 6), .assign (.const (.bool false)), none⟩]) c_sheaflaw2_MoneyBack_8)
@[go_sem] theorem c_sheaflaw2_MoneyBack_9_at (rd : Option Nat) (K : Post3) (t : Fr) (m : Mem) : wpM E 8 133 rd c_sheaflaw2_MoneyBack_9 K t m = wpM E 8 133 rd (.seq (.ops [⟨(some 6), .assign (.const (.bool false)), none⟩]) c_sheaflaw2_MoneyBack_8) K t m := rfl

@[go_sem] theorem some8 : (E.fn 8).isSome = true := by kernel_rfl
set_option maxRecDepth 100000 in
theorem fn_sheaflaw2_MoneyBack : FnIs E 8 133 [.tmp 6] c_sheaflaw2_MoneyBack_9 := ⟨by kernel_rfl, by kernel_rfl⟩

/-! sheaf/sheaflaw2.MoneyTells -/
abbrev F_sheaflaw2_MoneyTells : FuncId := 9
def c_sheaflaw2_MoneyTells_0 : MC := (.cond (.tmp 61) .skip (.exit 0))
@[go_sem] theorem c_sheaflaw2_MoneyTells_0_at (rd : Option Nat) (K : Post3) (t : Fr) (m : Mem) : wpM E 9 123 rd c_sheaflaw2_MoneyTells_0 K t m = wpM E 9 123 rd (.cond (.tmp 61) .skip (.exit 0)) K t m := rfl

def c_sheaflaw2_MoneyTells_1 : MC := (.seq (.ops [⟨(some 54), .move (.tmp 21), none⟩,
    ⟨(some 55), .move (.tmp 4), none⟩,
    ⟨(some 56), .call ⟨.builtin .len, #[(.tmp 55)], #[28]⟩, none⟩,
    ⟨(some 57), .binOp .lss 3 (.tmp 54) (.tmp 56) 3, none⟩,
    ⟨(some 58), .move (.tmp 57), none⟩,
    ⟨(some 59), .move (.tmp 21), (some (some 58, true))⟩,
    ⟨(some 60), .binOp .lss 3 (.tmp 59) (.const (.int .i64 40)) 3, (some (some 58, true))⟩,
    ⟨(some 61), .pick (.tmp 58) (.tmp 60) (.const (.bool false)), none⟩]) c_sheaflaw2_MoneyTells_0)
@[go_sem] theorem c_sheaflaw2_MoneyTells_1_at (rd : Option Nat) (K : Post3) (t : Fr) (m : Mem) : wpM E 9 123 rd c_sheaflaw2_MoneyTells_1 K t m = wpM E 9 123 rd (.seq (.ops [⟨(some 54), .move (.tmp 21), none⟩,
    ⟨(some 55), .move (.tmp 4), none⟩,
    ⟨(some 56), .call ⟨.builtin .len, #[(.tmp 55)], #[28]⟩, none⟩,
    ⟨(some 57), .binOp .lss 3 (.tmp 54) (.tmp 56) 3, none⟩,
    ⟨(some 58), .move (.tmp 57), none⟩,
    ⟨(some 59), .move (.tmp 21), (some (some 58, true))⟩,
    ⟨(some 60), .binOp .lss 3 (.tmp 59) (.const (.int .i64 40)) 3, (some (some 58, true))⟩,
    ⟨(some 61), .pick (.tmp 58) (.tmp 60) (.const (.bool false)), none⟩]) c_sheaflaw2_MoneyTells_0) K t m := rfl

def c_sheaflaw2_MoneyTells_2 : MC := (.seq (.ops [⟨(some 64), .move (.tmp 4), none⟩,
    ⟨(some 65), .move (.tmp 21), none⟩,
    ⟨(some 66), .indexAddr 28 (.tmp 64) (.tmp 65), none⟩,
    ⟨(some 67), .load 3 (.tmp 66), none⟩,
    ⟨(some 68), .call ⟨.value (.func 23), #[(.tmp 19), (.tmp 67)], #[41, 3]⟩, none⟩]) (.draw [(0, [], ⟨(some 69), .load 24 (.tmp 20), none⟩),
    (1, [], ⟨(some 70), .move (.tmp 4), none⟩),
    (2, [], ⟨(some 71), .move (.tmp 21), none⟩),
    (3, [], ⟨(some 72), .indexAddr 28 (.tmp 70) (.tmp 71), none⟩),
    (4, [], ⟨(some 73), .load 3 (.tmp 72), none⟩),
    (5, [0], ⟨(some 74), .call ⟨.value (.func 28), #[(.tmp 73)], #[3]⟩, none⟩),
    (6, [], ⟨(some 75), .call ⟨.value (.func 27), #[(.tmp 69), (.tmp 74)], #[24, 24]⟩, none⟩),
    (7, [], ⟨none, .store 24 (.tmp 20) (.tmp 75), none⟩)]))
@[go_sem] theorem c_sheaflaw2_MoneyTells_2_at (rd : Option Nat) (K : Post3) (t : Fr) (m : Mem) : wpM E 9 123 rd c_sheaflaw2_MoneyTells_2 K t m = wpM E 9 123 rd (.seq (.ops [⟨(some 64), .move (.tmp 4), none⟩,
    ⟨(some 65), .move (.tmp 21), none⟩,
    ⟨(some 66), .indexAddr 28 (.tmp 64) (.tmp 65), none⟩,
    ⟨(some 67), .load 3 (.tmp 66), none⟩,
    ⟨(some 68), .call ⟨.value (.func 23), #[(.tmp 19), (.tmp 67)], #[41, 3]⟩, none⟩]) (.draw [(0, [], ⟨(some 69), .load 24 (.tmp 20), none⟩),
    (1, [], ⟨(some 70), .move (.tmp 4), none⟩),
    (2, [], ⟨(some 71), .move (.tmp 21), none⟩),
    (3, [], ⟨(some 72), .indexAddr 28 (.tmp 70) (.tmp 71), none⟩),
    (4, [], ⟨(some 73), .load 3 (.tmp 72), none⟩),
    (5, [0], ⟨(some 74), .call ⟨.value (.func 28), #[(.tmp 73)], #[3]⟩, none⟩),
    (6, [], ⟨(some 75), .call ⟨.value (.func 27), #[(.tmp 69), (.tmp 74)], #[24, 24]⟩, none⟩),
    (7, [], ⟨none, .store 24 (.tmp 20) (.tmp 75), none⟩)])) K t m := rfl

def c_sheaflaw2_MoneyTells_3 : MC := (.block 1 c_sheaflaw2_MoneyTells_2)
@[go_sem] theorem c_sheaflaw2_MoneyTells_3_at (rd : Option Nat) (K : Post3) (t : Fr) (m : Mem) : wpM E 9 123 rd c_sheaflaw2_MoneyTells_3 K t m = wpM E 9 123 rd (.block 1 c_sheaflaw2_MoneyTells_2) K t m := rfl

def c_sheaflaw2_MoneyTells_4 : MC := (.seq c_sheaflaw2_MoneyTells_3 (.ops [⟨(some 62), .move (.tmp 21), none⟩,
    ⟨(some 63), .binOp .add 3 (.tmp 62) (.const (.int .i64 1)) 3, none⟩,
    ⟨(some 21), .assign (.tmp 63), none⟩]))
@[go_sem] theorem c_sheaflaw2_MoneyTells_4_at (rd : Option Nat) (K : Post3) (t : Fr) (m : Mem) : wpM E 9 123 rd c_sheaflaw2_MoneyTells_4 K t m = wpM E 9 123 rd (.seq c_sheaflaw2_MoneyTells_3 (.ops [⟨(some 62), .move (.tmp 21), none⟩,
    ⟨(some 63), .binOp .add 3 (.tmp 62) (.const (.int .i64 1)) 3, none⟩,
    ⟨(some 21), .assign (.tmp 63), none⟩])) K t m := rfl

def c_sheaflaw2_MoneyTells_5 : MC := (.seq c_sheaflaw2_MoneyTells_1 c_sheaflaw2_MoneyTells_4)
@[go_sem] theorem c_sheaflaw2_MoneyTells_5_at (rd : Option Nat) (K : Post3) (t : Fr) (m : Mem) : wpM E 9 123 rd c_sheaflaw2_MoneyTells_5 K t m = wpM E 9 123 rd (.seq c_sheaflaw2_MoneyTells_1 c_sheaflaw2_MoneyTells_4) K t m := rfl

def c_sheaflaw2_MoneyTells_6 : MC := (.loop c_sheaflaw2_MoneyTells_5)
theorem c_sheaflaw2_MoneyTells_6_at (rd : Option Nat) (K : Post3) (t : Fr) (m : Mem) : wpM E 9 123 rd c_sheaflaw2_MoneyTells_6 K t m = wpM E 9 123 rd (.loop c_sheaflaw2_MoneyTells_5) K t m := rfl

def c_sheaflaw2_MoneyTells_7 : MC := (.block 0 c_sheaflaw2_MoneyTells_6)
theorem c_sheaflaw2_MoneyTells_7_at (rd : Option Nat) (K : Post3) (t : Fr) (m : Mem) : wpM E 9 123 rd c_sheaflaw2_MoneyTells_7 K t m = wpM E 9 123 rd (.block 0 c_sheaflaw2_MoneyTells_6) K t m := rfl

def c_sheaflaw2_MoneyTells_8 : MC := (.seq (.ops [⟨(some 21), .assign (.const (.int .i64 0)), none⟩]) c_sheaflaw2_MoneyTells_7)
@[go_sem] theorem c_sheaflaw2_MoneyTells_8_at (rd : Option Nat) (K : Post3) (t : Fr) (m : Mem) : wpM E 9 123 rd c_sheaflaw2_MoneyTells_8 K t m = wpM E 9 123 rd (.seq (.ops [⟨(some 21), .assign (.const (.int .i64 0)), none⟩]) c_sheaflaw2_MoneyTells_7) K t m := rfl

def c_sheaflaw2_MoneyTells_9 : MC := (.seq (.draw [(0, [], ⟨(some 85), .move (.tmp 11), none⟩),
    (1, [], ⟨(some 86), .move (.tmp 13), none⟩),
    (2, [], ⟨(some 87), .binOp .eql 3 (.tmp 85) (.tmp 86) 3, none⟩),
    (3, [], ⟨(some 88), .move (.tmp 87), none⟩),
    (4, [], ⟨(some 89), .move (.tmp 12), (some (some 88, true))⟩),
    (5, [], ⟨(some 90), .move (.tmp 14), (some (some 88, true))⟩),
    (6, [], ⟨(some 91), .binOp .eql 4 (.tmp 89) (.tmp 90) 4, (some (some 88, true))⟩),
    (7, [], ⟨(some 92), .pick (.tmp 88) (.tmp 91) (.const (.bool false)), none⟩),
    (8, [], ⟨(some 93), .move (.tmp 92), none⟩),
    (9, [], ⟨(some 94), .move (.tmp 15), (some (some 93, true))⟩),
    (10, [], ⟨(some 95), .move (.tmp 17), (some (some 93, true))⟩),
    (11, [], ⟨(some 96), .binOp .eql 3 (.tmp 94) (.tmp 95) 3, (some (some 93, true))⟩),
    (12, [], ⟨(some 97), .pick (.tmp 93) (.tmp 96) (.const (.bool false)), none⟩),
    (13, [], ⟨(some 98), .move (.tmp 97), none⟩),
    (14, [], ⟨(some 99), .move (.tmp 16), (some (some 98, true))⟩),
    (15, [], ⟨(some 100), .move (.tmp 0), (some (some 98, true))⟩),
    (16, [], ⟨(some 101), .move (.tmp 17), (some (some 98, true))⟩),
    (17, [], ⟨(some 102), .binOp .sub 3 (.tmp 100) (.tmp 101) 3, (some (some 98, true))⟩),
    (18, [], ⟨(some 103), .binOp .eql 3 (.tmp 99) (.tmp 102) 3, (some (some 98, true))⟩),
    (19, [], ⟨(some 104), .pick (.tmp 98) (.tmp 103) (.const (.bool false)), none⟩),
    (20, [], ⟨(some 105), .move (.tmp 104), none⟩),
    (22, [], ⟨(some 107), .load 24 (.tmp 20), (some (some 105, true))⟩),
    (21, [22], ⟨(some 106), .call ⟨.value (.func 30), #[(.tmp 19)], #[41]⟩, (some (some 105, true))⟩),
    (23, [], ⟨(some 108), .binOp .eql 24 (.tmp 106) (.tmp 107) 24, (some (some 105, true))⟩),
    (24, [], ⟨(some 109), .pick (.tmp 105) (.tmp 108) (.const (.bool false)), none⟩),
    (25, [], ⟨(some 110), .move (.tmp 109), none⟩),
    (26, [], ⟨(some 111), .move (.tmp 22), (some (some 110, true))⟩),
    (27, [], ⟨(some 112), .move (.tmp 24), (some (some 110, true))⟩),
    (28, [], ⟨(some 113), .binOp .eql 3 (.tmp 111) (.tmp 112) 3, (some (some 110, true))⟩),
    (29, [], ⟨(some 114), .pick (.tmp 110) (.tmp 113) (.const (.bool false)), none⟩),
    (30, [], ⟨(some 115), .move (.tmp 114), none⟩),
    (31, [], ⟨(some 116), .move (.tmp 23), (some (some 115, true))⟩),
    (32, [], ⟨(some 117), .move (.tmp 25), (some (some 115, true))⟩),
    (33, [], ⟨(some 118), .binOp .eql 4 (.tmp 116) (.tmp 117) 4, (some (some 115, true))⟩),
    (34, [], ⟨(some 119), .pick (.tmp 115) (.tmp 118) (.const (.bool false)), none⟩),
    (35, [], ⟨(some 120), .move (.tmp 119), none⟩),
    (36, [], ⟨(some 121), .call ⟨.value (.func 6), #[], #[]⟩, (some (some 120, true))⟩),
    (37, [], ⟨(some 122), .pick (.tmp 120) (.tmp 121) (.const (.bool false)), none⟩),
    (38, [], ⟨(some 10), .assign (.tmp 122), none⟩)]) .ret)
@[go_sem] theorem c_sheaflaw2_MoneyTells_9_at (rd : Option Nat) (K : Post3) (t : Fr) (m : Mem) : wpM E 9 123 rd c_sheaflaw2_MoneyTells_9 K t m = wpM E 9 123 rd (.seq (.draw [(0, [], ⟨(some 85), .move (.tmp 11), none⟩),
    (1, [], ⟨(some 86), .move (.tmp 13), none⟩),
    (2, [], ⟨(some 87), .binOp .eql 3 (.tmp 85) (.tmp 86) 3, none⟩),
    (3, [], ⟨(some 88), .move (.tmp 87), none⟩),
    (4, [], ⟨(some 89), .move (.tmp 12), (some (some 88, true))⟩),
    (5, [], ⟨(some 90), .move (.tmp 14), (some (some 88, true))⟩),
    (6, [], ⟨(some 91), .binOp .eql 4 (.tmp 89) (.tmp 90) 4, (some (some 88, true))⟩),
    (7, [], ⟨(some 92), .pick (.tmp 88) (.tmp 91) (.const (.bool false)), none⟩),
    (8, [], ⟨(some 93), .move (.tmp 92), none⟩),
    (9, [], ⟨(some 94), .move (.tmp 15), (some (some 93, true))⟩),
    (10, [], ⟨(some 95), .move (.tmp 17), (some (some 93, true))⟩),
    (11, [], ⟨(some 96), .binOp .eql 3 (.tmp 94) (.tmp 95) 3, (some (some 93, true))⟩),
    (12, [], ⟨(some 97), .pick (.tmp 93) (.tmp 96) (.const (.bool false)), none⟩),
    (13, [], ⟨(some 98), .move (.tmp 97), none⟩),
    (14, [], ⟨(some 99), .move (.tmp 16), (some (some 98, true))⟩),
    (15, [], ⟨(some 100), .move (.tmp 0), (some (some 98, true))⟩),
    (16, [], ⟨(some 101), .move (.tmp 17), (some (some 98, true))⟩),
    (17, [], ⟨(some 102), .binOp .sub 3 (.tmp 100) (.tmp 101) 3, (some (some 98, true))⟩),
    (18, [], ⟨(some 103), .binOp .eql 3 (.tmp 99) (.tmp 102) 3, (some (some 98, true))⟩),
    (19, [], ⟨(some 104), .pick (.tmp 98) (.tmp 103) (.const (.bool false)), none⟩),
    (20, [], ⟨(some 105), .move (.tmp 104), none⟩),
    (22, [], ⟨(some 107), .load 24 (.tmp 20), (some (some 105, true))⟩),
    (21, [22], ⟨(some 106), .call ⟨.value (.func 30), #[(.tmp 19)], #[41]⟩, (some (some 105, true))⟩),
    (23, [], ⟨(some 108), .binOp .eql 24 (.tmp 106) (.tmp 107) 24, (some (some 105, true))⟩),
    (24, [], ⟨(some 109), .pick (.tmp 105) (.tmp 108) (.const (.bool false)), none⟩),
    (25, [], ⟨(some 110), .move (.tmp 109), none⟩),
    (26, [], ⟨(some 111), .move (.tmp 22), (some (some 110, true))⟩),
    (27, [], ⟨(some 112), .move (.tmp 24), (some (some 110, true))⟩),
    (28, [], ⟨(some 113), .binOp .eql 3 (.tmp 111) (.tmp 112) 3, (some (some 110, true))⟩),
    (29, [], ⟨(some 114), .pick (.tmp 110) (.tmp 113) (.const (.bool false)), none⟩),
    (30, [], ⟨(some 115), .move (.tmp 114), none⟩),
    (31, [], ⟨(some 116), .move (.tmp 23), (some (some 115, true))⟩),
    (32, [], ⟨(some 117), .move (.tmp 25), (some (some 115, true))⟩),
    (33, [], ⟨(some 118), .binOp .eql 4 (.tmp 116) (.tmp 117) 4, (some (some 115, true))⟩),
    (34, [], ⟨(some 119), .pick (.tmp 115) (.tmp 118) (.const (.bool false)), none⟩),
    (35, [], ⟨(some 120), .move (.tmp 119), none⟩),
    (36, [], ⟨(some 121), .call ⟨.value (.func 6), #[], #[]⟩, (some (some 120, true))⟩),
    (37, [], ⟨(some 122), .pick (.tmp 120) (.tmp 121) (.const (.bool false)), none⟩),
    (38, [], ⟨(some 10), .assign (.tmp 122), none⟩)]) .ret) K t m := rfl

def c_sheaflaw2_MoneyTells_10 : MC := (.seq (.ops [⟨(some 81), .load 24 (.tmp 20), none⟩,
    ⟨(some 82), .call ⟨.value (.func 29), #[(.tmp 81)], #[24]⟩, none⟩,
    ⟨(some 80), .move (.tmp 82), none⟩,
    ⟨(some 83), .extract (.tmp 80) 0, none⟩,
    ⟨(some 84), .extract (.tmp 80) 1, none⟩,
    ⟨(some 24), .assign (.tmp 83), none⟩,
    ⟨(some 25), .assign (.tmp 84), none⟩]) c_sheaflaw2_MoneyTells_9)
@[go_sem] theorem c_sheaflaw2_MoneyTells_10_at (rd : Option Nat) (K : Post3) (t : Fr) (m : Mem) : wpM E 9 123 rd c_sheaflaw2_MoneyTells_10 K t m = wpM E 9 123 rd (.seq (.ops [⟨(some 81), .load 24 (.tmp 20), none⟩,
    ⟨(some 82), .call ⟨.value (.func 29), #[(.tmp 81)], #[24]⟩, none⟩,
    ⟨(some 80), .move (.tmp 82), none⟩,
    ⟨(some 83), .extract (.tmp 80) 0, none⟩,
    ⟨(some 84), .extract (.tmp 80) 1, none⟩,
    ⟨(some 24), .assign (.tmp 83), none⟩,
    ⟨(some 25), .assign (.tmp 84), none⟩]) c_sheaflaw2_MoneyTells_9) K t m := rfl

def c_sheaflaw2_MoneyTells_11 : MC := (.seq (.ops [⟨(some 77), .call ⟨.value (.func 24), #[(.tmp 19)], #[41]⟩, none⟩,
    ⟨(some 76), .move (.tmp 77), none⟩,
    ⟨(some 78), .extract (.tmp 76) 0, none⟩,
    ⟨(some 79), .extract (.tmp 76) 1, none⟩,
    ⟨(some 22), .assign (.tmp 78), none⟩,
    ⟨(some 23), .assign (.tmp 79), none⟩]) c_sheaflaw2_MoneyTells_10)
@[go_sem] theorem c_sheaflaw2_MoneyTells_11_at (rd : Option Nat) (K : Post3) (t : Fr) (m : Mem) : wpM E 9 123 rd c_sheaflaw2_MoneyTells_11 K t m = wpM E 9 123 rd (.seq (.ops [⟨(some 77), .call ⟨.value (.func 24), #[(.tmp 19)], #[41]⟩, none⟩,
    ⟨(some 76), .move (.tmp 77), none⟩,
    ⟨(some 78), .extract (.tmp 76) 0, none⟩,
    ⟨(some 79), .extract (.tmp 76) 1, none⟩,
    ⟨(some 22), .assign (.tmp 78), none⟩,
    ⟨(some 23), .assign (.tmp 79), none⟩]) c_sheaflaw2_MoneyTells_10) K t m := rfl

def c_sheaflaw2_MoneyTells_12 : MC := (.seq c_sheaflaw2_MoneyTells_8 c_sheaflaw2_MoneyTells_11)
@[go_sem] theorem c_sheaflaw2_MoneyTells_12_at (rd : Option Nat) (K : Post3) (t : Fr) (m : Mem) : wpM E 9 123 rd c_sheaflaw2_MoneyTells_12 K t m = wpM E 9 123 rd (.seq c_sheaflaw2_MoneyTells_8 c_sheaflaw2_MoneyTells_11) K t m := rfl

def c_sheaflaw2_MoneyTells_13 : MC := (.seq (.ops [⟨(some 20), .alloc 24, none⟩]) c_sheaflaw2_MoneyTells_12)
@[go_sem] theorem c_sheaflaw2_MoneyTells_13_at (rd : Option Nat) (K : Post3) (t : Fr) (m : Mem) : wpM E 9 123 rd c_sheaflaw2_MoneyTells_13 K t m = wpM E 9 123 rd (.seq (.ops [⟨(some 20), .alloc 24, none⟩]) c_sheaflaw2_MoneyTells_12) K t m := rfl

def c_sheaflaw2_MoneyTells_14 : MC := (.seq (.ops [⟨(some 19), .alloc 41, none⟩]) c_sheaflaw2_MoneyTells_13)
@[go_sem] theorem c_sheaflaw2_MoneyTells_14_at (rd : Option Nat) (K : Post3) (t : Fr) (m : Mem) : wpM E 9 123 rd c_sheaflaw2_MoneyTells_14 K t m = wpM E 9 123 rd (.seq (.ops [⟨(some 19), .alloc 41, none⟩]) c_sheaflaw2_MoneyTells_13) K t m := rfl

def c_sheaflaw2_MoneyTells_15 : MC := (.seq (.ops [⟨(some 47), .move (.tmp 0), none⟩,
    ⟨(some 48), .move (.tmp 3), none⟩,
    ⟨(some 49), .call ⟨.builtin .max, #[(.tmp 48), (.const (.int .i64 0))], #[3, 3]⟩, none⟩,
    ⟨(some 50), .call ⟨.builtin .min, #[(.tmp 49), (.const (.int .i64 10000))], #[3, 3]⟩, none⟩,
    ⟨(some 51), .call ⟨.value (.func 26), #[(.tmp 47), (.tmp 50), (.const (.int .i64 10000))], #[3, 3, 3]⟩, none⟩,
    ⟨(some 46), .move (.tmp 51), none⟩,
    ⟨(some 52), .extract (.tmp 46) 0, none⟩,
    ⟨(some 53), .extract (.tmp 46) 1, none⟩,
    ⟨(some 17), .assign (.tmp 52), none⟩,
    ⟨(some 18), .assign (.tmp 53), none⟩]) c_sheaflaw2_MoneyTells_14)
@[go_sem] theorem c_sheaflaw2_MoneyTells_15_at (rd : Option Nat) (K : Post3) (t : Fr) (m : Mem) : wpM E 9 123 rd c_sheaflaw2_MoneyTells_15 K t m = wpM E 9 123 rd (.seq (.ops [⟨(some 47), .move (.tmp 0), none⟩,
    ⟨(some 48), .move (.tmp 3), none⟩,
    ⟨(some 49), .call ⟨.builtin .max, #[(.tmp 48), (.const (.int .i64 0))], #[3, 3]⟩, none⟩,
    ⟨(some 50), .call ⟨.builtin .min, #[(.tmp 49), (.const (.int .i64 10000))], #[3, 3]⟩, none⟩,
    ⟨(some 51), .call ⟨.value (.func 26), #[(.tmp 47), (.tmp 50), (.const (.int .i64 10000))], #[3, 3, 3]⟩, none⟩,
    ⟨(some 46), .move (.tmp 51), none⟩,
    ⟨(some 52), .extract (.tmp 46) 0, none⟩,
    ⟨(some 53), .extract (.tmp 46) 1, none⟩,
    ⟨(some 17), .assign (.tmp 52), none⟩,
    ⟨(some 18), .assign (.tmp 53), none⟩]) c_sheaflaw2_MoneyTells_14) K t m := rfl

def c_sheaflaw2_MoneyTells_16 : MC := (.seq (.ops [⟨(some 41), .move (.tmp 0), none⟩,
    ⟨(some 42), .move (.tmp 3), none⟩,
    ⟨(some 43), .call ⟨.value (.func 22), #[(.tmp 41), (.tmp 42)], #[3, 3]⟩, none⟩,
    ⟨(some 40), .move (.tmp 43), none⟩,
    ⟨(some 44), .extract (.tmp 40) 0, none⟩,
    ⟨(some 45), .extract (.tmp 40) 1, none⟩,
    ⟨(some 15), .assign (.tmp 44), none⟩,
    ⟨(some 16), .assign (.tmp 45), none⟩]) c_sheaflaw2_MoneyTells_15)
@[go_sem] theorem c_sheaflaw2_MoneyTells_16_at (rd : Option Nat) (K : Post3) (t : Fr) (m : Mem) : wpM E 9 123 rd c_sheaflaw2_MoneyTells_16 K t m = wpM E 9 123 rd (.seq (.ops [⟨(some 41), .move (.tmp 0), none⟩,
    ⟨(some 42), .move (.tmp 3), none⟩,
    ⟨(some 43), .call ⟨.value (.func 22), #[(.tmp 41), (.tmp 42)], #[3, 3]⟩, none⟩,
    ⟨(some 40), .move (.tmp 43), none⟩,
    ⟨(some 44), .extract (.tmp 40) 0, none⟩,
    ⟨(some 45), .extract (.tmp 40) 1, none⟩,
    ⟨(some 15), .assign (.tmp 44), none⟩,
    ⟨(some 16), .assign (.tmp 45), none⟩]) c_sheaflaw2_MoneyTells_15) K t m := rfl

def c_sheaflaw2_MoneyTells_17 : MC := (.seq (.ops [⟨(some 34), .move (.tmp 0), none⟩,
    ⟨(some 35), .move (.tmp 1), none⟩,
    ⟨(some 36), .move (.tmp 2), none⟩,
    ⟨(some 37), .call ⟨.value (.func 26), #[(.tmp 34), (.tmp 35), (.tmp 36)], #[3, 3, 3]⟩, none⟩,
    ⟨(some 33), .move (.tmp 37), none⟩,
    ⟨(some 38), .extract (.tmp 33) 0, none⟩,
    ⟨(some 39), .extract (.tmp 33) 1, none⟩,
    ⟨(some 13), .assign (.tmp 38), none⟩,
    ⟨(some 14), .assign (.tmp 39), none⟩]) c_sheaflaw2_MoneyTells_16)
@[go_sem] theorem c_sheaflaw2_MoneyTells_17_at (rd : Option Nat) (K : Post3) (t : Fr) (m : Mem) : wpM E 9 123 rd c_sheaflaw2_MoneyTells_17 K t m = wpM E 9 123 rd (.seq (.ops [⟨(some 34), .move (.tmp 0), none⟩,
    ⟨(some 35), .move (.tmp 1), none⟩,
    ⟨(some 36), .move (.tmp 2), none⟩,
    ⟨(some 37), .call ⟨.value (.func 26), #[(.tmp 34), (.tmp 35), (.tmp 36)], #[3, 3, 3]⟩, none⟩,
    ⟨(some 33), .move (.tmp 37), none⟩,
    ⟨(some 38), .extract (.tmp 33) 0, none⟩,
    ⟨(some 39), .extract (.tmp 33) 1, none⟩,
    ⟨(some 13), .assign (.tmp 38), none⟩,
    ⟨(some 14), .assign (.tmp 39), none⟩]) c_sheaflaw2_MoneyTells_16) K t m := rfl

def c_sheaflaw2_MoneyTells_18 : MC := (.seq (.ops [⟨(some 27), .move (.tmp 0), none⟩,
    ⟨(some 28), .move (.tmp 1), none⟩,
    ⟨(some 29), .move (.tmp 2), none⟩,
    ⟨(some 30), .call ⟨.value (.func 21), #[(.tmp 27), (.tmp 28), (.tmp 29)], #[3, 3, 3]⟩, none⟩,
    ⟨(some 26), .move (.tmp 30), none⟩,
    ⟨(some 31), .extract (.tmp 26) 0, none⟩,
    ⟨(some 32), .extract (.tmp 26) 1, none⟩,
    ⟨(some 11), .assign (.tmp 31), none⟩,
    ⟨(some 12), .assign (.tmp 32), none⟩]) c_sheaflaw2_MoneyTells_17)
@[go_sem] theorem c_sheaflaw2_MoneyTells_18_at (rd : Option Nat) (K : Post3) (t : Fr) (m : Mem) : wpM E 9 123 rd c_sheaflaw2_MoneyTells_18 K t m = wpM E 9 123 rd (.seq (.ops [⟨(some 27), .move (.tmp 0), none⟩,
    ⟨(some 28), .move (.tmp 1), none⟩,
    ⟨(some 29), .move (.tmp 2), none⟩,
    ⟨(some 30), .call ⟨.value (.func 21), #[(.tmp 27), (.tmp 28), (.tmp 29)], #[3, 3, 3]⟩, none⟩,
    ⟨(some 26), .move (.tmp 30), none⟩,
    ⟨(some 31), .extract (.tmp 26) 0, none⟩,
    ⟨(some 32), .extract (.tmp 26) 1, none⟩,
    ⟨(some 11), .assign (.tmp 31), none⟩,
    ⟨(some 12), .assign (.tmp 32), none⟩]) c_sheaflaw2_MoneyTells_17) K t m := rfl

def c_sheaflaw2_MoneyTells_19 : MC := (.seq (.ops [⟨(some 10), .assign (.const (.bool false)), none⟩]) c_sheaflaw2_MoneyTells_18)
@[go_sem] theorem c_sheaflaw2_MoneyTells_19_at (rd : Option Nat) (K : Post3) (t : Fr) (m : Mem) : wpM E 9 123 rd c_sheaflaw2_MoneyTells_19 K t m = wpM E 9 123 rd (.seq (.ops [⟨(some 10), .assign (.const (.bool false)), none⟩]) c_sheaflaw2_MoneyTells_18) K t m := rfl

@[go_sem] theorem some9 : (E.fn 9).isSome = true := by kernel_rfl
set_option maxRecDepth 100000 in
theorem fn_sheaflaw2_MoneyTells : FnIs E 9 123 [.tmp 10] c_sheaflaw2_MoneyTells_19 := ⟨by kernel_rfl, by kernel_rfl⟩

/-! sheaf/sheaflaw2.MoneySums -/
abbrev F_sheaflaw2_MoneySums : FuncId := 10
def c_sheaflaw2_MoneySums_0 : MC := (.cond (.tmp 28) .skip (.exit 0))
@[go_sem] theorem c_sheaflaw2_MoneySums_0_at (rd : Option Nat) (K : Post3) (t : Fr) (m : Mem) : wpM E 10 89 rd c_sheaflaw2_MoneySums_0 K t m = wpM E 10 89 rd (.cond (.tmp 28) .skip (.exit 0)) K t m := rfl

def c_sheaflaw2_MoneySums_1 : MC := (.cond (.tmp 46) (.ops [⟨(some 47), .move (.tmp 5), none⟩,
    ⟨(some 48), .move (.tmp 11), none⟩,
    ⟨(some 49), .indexAddr 28 (.tmp 47) (.tmp 48), none⟩,
    ⟨(some 50), .load 3 (.tmp 49), none⟩,
    ⟨(some 51), .call ⟨.value (.func 23), #[(.tmp 9), (.tmp 50)], #[41, 3]⟩, none⟩]) (.ops [⟨(some 52), .move (.tmp 5), none⟩,
    ⟨(some 53), .move (.tmp 11), none⟩,
    ⟨(some 54), .indexAddr 28 (.tmp 52) (.tmp 53), none⟩,
    ⟨(some 55), .load 3 (.tmp 54), none⟩,
    ⟨(some 56), .call ⟨.value (.func 23), #[(.tmp 10), (.tmp 55)], #[41, 3]⟩, none⟩]))
@[go_sem] theorem c_sheaflaw2_MoneySums_1_at (rd : Option Nat) (K : Post3) (t : Fr) (m : Mem) : wpM E 10 89 rd c_sheaflaw2_MoneySums_1 K t m = wpM E 10 89 rd (.cond (.tmp 46) (.ops [⟨(some 47), .move (.tmp 5), none⟩,
    ⟨(some 48), .move (.tmp 11), none⟩,
    ⟨(some 49), .indexAddr 28 (.tmp 47) (.tmp 48), none⟩,
    ⟨(some 50), .load 3 (.tmp 49), none⟩,
    ⟨(some 51), .call ⟨.value (.func 23), #[(.tmp 9), (.tmp 50)], #[41, 3]⟩, none⟩]) (.ops [⟨(some 52), .move (.tmp 5), none⟩,
    ⟨(some 53), .move (.tmp 11), none⟩,
    ⟨(some 54), .indexAddr 28 (.tmp 52) (.tmp 53), none⟩,
    ⟨(some 55), .load 3 (.tmp 54), none⟩,
    ⟨(some 56), .call ⟨.value (.func 23), #[(.tmp 10), (.tmp 55)], #[41, 3]⟩, none⟩])) K t m := rfl

def c_sheaflaw2_MoneySums_2 : MC := (.seq (.ops [⟨(some 44), .move (.tmp 11), none⟩,
    ⟨(some 45), .move (.tmp 6), none⟩,
    ⟨(some 46), .binOp .lss 3 (.tmp 44) (.tmp 45) 3, none⟩]) c_sheaflaw2_MoneySums_1)
@[go_sem] theorem c_sheaflaw2_MoneySums_2_at (rd : Option Nat) (K : Post3) (t : Fr) (m : Mem) : wpM E 10 89 rd c_sheaflaw2_MoneySums_2 K t m = wpM E 10 89 rd (.seq (.ops [⟨(some 44), .move (.tmp 11), none⟩,
    ⟨(some 45), .move (.tmp 6), none⟩,
    ⟨(some 46), .binOp .lss 3 (.tmp 44) (.tmp 45) 3, none⟩]) c_sheaflaw2_MoneySums_1) K t m := rfl

def c_sheaflaw2_MoneySums_3 : MC := (.seq (.ops [⟨(some 35), .move (.tmp 5), none⟩,
    ⟨(some 36), .move (.tmp 5), none⟩,
    ⟨(some 37), .call ⟨.builtin .len, #[(.tmp 36)], #[28]⟩, none⟩,
    ⟨(some 38), .binOp .sub 3 (.tmp 37) (.const (.int .i64 1)) 3, none⟩,
    ⟨(some 39), .move (.tmp 11), none⟩,
    ⟨(some 40), .binOp .sub 3 (.tmp 38) (.tmp 39) 3, none⟩,
    ⟨(some 41), .indexAddr 28 (.tmp 35) (.tmp 40), none⟩,
    ⟨(some 42), .load 3 (.tmp 41), none⟩,
    ⟨(some 43), .call ⟨.value (.func 23), #[(.tmp 8), (.tmp 42)], #[41, 3]⟩, none⟩]) c_sheaflaw2_MoneySums_2)
@[go_sem] theorem c_sheaflaw2_MoneySums_3_at (rd : Option Nat) (K : Post3) (t : Fr) (m : Mem) : wpM E 10 89 rd c_sheaflaw2_MoneySums_3 K t m = wpM E 10 89 rd (.seq (.ops [⟨(some 35), .move (.tmp 5), none⟩,
    ⟨(some 36), .move (.tmp 5), none⟩,
    ⟨(some 37), .call ⟨.builtin .len, #[(.tmp 36)], #[28]⟩, none⟩,
    ⟨(some 38), .binOp .sub 3 (.tmp 37) (.const (.int .i64 1)) 3, none⟩,
    ⟨(some 39), .move (.tmp 11), none⟩,
    ⟨(some 40), .binOp .sub 3 (.tmp 38) (.tmp 39) 3, none⟩,
    ⟨(some 41), .indexAddr 28 (.tmp 35) (.tmp 40), none⟩,
    ⟨(some 42), .load 3 (.tmp 41), none⟩,
    ⟨(some 43), .call ⟨.value (.func 23), #[(.tmp 8), (.tmp 42)], #[41, 3]⟩, none⟩]) c_sheaflaw2_MoneySums_2) K t m := rfl

def c_sheaflaw2_MoneySums_4 : MC := (.seq (.ops [⟨(some 30), .move (.tmp 5), none⟩,
    ⟨(some 31), .move (.tmp 11), none⟩,
    ⟨(some 32), .indexAddr 28 (.tmp 30) (.tmp 31), none⟩,
    ⟨(some 33), .load 3 (.tmp 32), none⟩,
    ⟨(some 34), .call ⟨.value (.func 23), #[(.tmp 7), (.tmp 33)], #[41, 3]⟩, none⟩]) c_sheaflaw2_MoneySums_3)
@[go_sem] theorem c_sheaflaw2_MoneySums_4_at (rd : Option Nat) (K : Post3) (t : Fr) (m : Mem) : wpM E 10 89 rd c_sheaflaw2_MoneySums_4 K t m = wpM E 10 89 rd (.seq (.ops [⟨(some 30), .move (.tmp 5), none⟩,
    ⟨(some 31), .move (.tmp 11), none⟩,
    ⟨(some 32), .indexAddr 28 (.tmp 30) (.tmp 31), none⟩,
    ⟨(some 33), .load 3 (.tmp 32), none⟩,
    ⟨(some 34), .call ⟨.value (.func 23), #[(.tmp 7), (.tmp 33)], #[41, 3]⟩, none⟩]) c_sheaflaw2_MoneySums_3) K t m := rfl

def c_sheaflaw2_MoneySums_5 : MC := (.seq (.ops [⟨(some 29), .move (.tmp 27), none⟩,
    ⟨(some 11), .assign (.tmp 29), none⟩]) c_sheaflaw2_MoneySums_4)
@[go_sem] theorem c_sheaflaw2_MoneySums_5_at (rd : Option Nat) (K : Post3) (t : Fr) (m : Mem) : wpM E 10 89 rd c_sheaflaw2_MoneySums_5 K t m = wpM E 10 89 rd (.seq (.ops [⟨(some 29), .move (.tmp 27), none⟩,
    ⟨(some 11), .assign (.tmp 29), none⟩]) c_sheaflaw2_MoneySums_4) K t m := rfl

def c_sheaflaw2_MoneySums_6 : MC := (.block 1 c_sheaflaw2_MoneySums_5)
@[go_sem] theorem c_sheaflaw2_MoneySums_6_at (rd : Option Nat) (K : Post3) (t : Fr) (m : Mem) : wpM E 10 89 rd c_sheaflaw2_MoneySums_6 K t m = wpM E 10 89 rd (.block 1 c_sheaflaw2_MoneySums_5) K t m := rfl

def c_sheaflaw2_MoneySums_7 : MC := (.seq c_sheaflaw2_MoneySums_6 (.ops [⟨(some 57), .binOp .add 3 (.tmp 27) (.const (.int .i64 1)) 3, none⟩,
    ⟨(some 27), .move (.tmp 57), none⟩]))
@[go_sem] theorem c_sheaflaw2_MoneySums_7_at (rd : Option Nat) (K : Post3) (t : Fr) (m : Mem) : wpM E 10 89 rd c_sheaflaw2_MoneySums_7 K t m = wpM E 10 89 rd (.seq c_sheaflaw2_MoneySums_6 (.ops [⟨(some 57), .binOp .add 3 (.tmp 27) (.const (.int .i64 1)) 3, none⟩,
    ⟨(some 27), .move (.tmp 57), none⟩])) K t m := rfl

def c_sheaflaw2_MoneySums_8 : MC := (.seq c_sheaflaw2_MoneySums_0 c_sheaflaw2_MoneySums_7)
@[go_sem] theorem c_sheaflaw2_MoneySums_8_at (rd : Option Nat) (K : Post3) (t : Fr) (m : Mem) : wpM E 10 89 rd c_sheaflaw2_MoneySums_8 K t m = wpM E 10 89 rd (.seq c_sheaflaw2_MoneySums_0 c_sheaflaw2_MoneySums_7) K t m := rfl

def c_sheaflaw2_MoneySums_9 : MC := (.seq (.ops [⟨(some 28), .binOp .lss 3 (.tmp 27) (.tmp 26) 3, none⟩]) c_sheaflaw2_MoneySums_8)
@[go_sem] theorem c_sheaflaw2_MoneySums_9_at (rd : Option Nat) (K : Post3) (t : Fr) (m : Mem) : wpM E 10 89 rd c_sheaflaw2_MoneySums_9 K t m = wpM E 10 89 rd (.seq (.ops [⟨(some 28), .binOp .lss 3 (.tmp 27) (.tmp 26) 3, none⟩]) c_sheaflaw2_MoneySums_8) K t m := rfl

def c_sheaflaw2_MoneySums_10 : MC := (.loop c_sheaflaw2_MoneySums_9)
theorem c_sheaflaw2_MoneySums_10_at (rd : Option Nat) (K : Post3) (t : Fr) (m : Mem) : wpM E 10 89 rd c_sheaflaw2_MoneySums_10 K t m = wpM E 10 89 rd (.loop c_sheaflaw2_MoneySums_9) K t m := rfl

def c_sheaflaw2_MoneySums_11 : MC := (.block 0 c_sheaflaw2_MoneySums_10)
theorem c_sheaflaw2_MoneySums_11_at (rd : Option Nat) (K : Post3) (t : Fr) (m : Mem) : wpM E 10 89 rd c_sheaflaw2_MoneySums_11 K t m = wpM E 10 89 rd (.block 0 c_sheaflaw2_MoneySums_10) K t m := rfl

def c_sheaflaw2_MoneySums_12 : MC := (.seq (.ops [⟨(some 25), .move (.tmp 5), none⟩,
    ⟨(some 26), .call ⟨.builtin .len, #[(.tmp 25)], #[28]⟩, none⟩,
    ⟨(some 27), .move (.const (.int .i64 0)), none⟩]) c_sheaflaw2_MoneySums_11)
@[go_sem] theorem c_sheaflaw2_MoneySums_12_at (rd : Option Nat) (K : Post3) (t : Fr) (m : Mem) : wpM E 10 89 rd c_sheaflaw2_MoneySums_12 K t m = wpM E 10 89 rd (.seq (.ops [⟨(some 25), .move (.tmp 5), none⟩,
    ⟨(some 26), .call ⟨.builtin .len, #[(.tmp 25)], #[28]⟩, none⟩,
    ⟨(some 27), .move (.const (.int .i64 0)), none⟩]) c_sheaflaw2_MoneySums_11) K t m := rfl

def c_sheaflaw2_MoneySums_13 : MC := (.seq (.ops [⟨(some 68), .call ⟨.value (.func 30), #[(.tmp 7)], #[41]⟩, none⟩,
    ⟨(some 69), .call ⟨.value (.func 30), #[(.tmp 8)], #[41]⟩, none⟩,
    ⟨(some 70), .binOp .eql 24 (.tmp 68) (.tmp 69) 24, none⟩,
    ⟨(some 71), .move (.tmp 70), none⟩,
    ⟨(some 72), .call ⟨.value (.func 30), #[(.tmp 10)], #[41]⟩, (some (some 71, true))⟩,
    ⟨(some 73), .call ⟨.value (.func 30), #[(.tmp 7)], #[41]⟩, (some (some 71, true))⟩,
    ⟨(some 74), .binOp .eql 24 (.tmp 72) (.tmp 73) 24, (some (some 71, true))⟩,
    ⟨(some 75), .pick (.tmp 71) (.tmp 74) (.const (.bool false)), none⟩,
    ⟨(some 76), .move (.tmp 75), none⟩,
    ⟨(some 77), .move (.tmp 12), (some (some 76, true))⟩,
    ⟨(some 78), .move (.tmp 14), (some (some 76, true))⟩,
    ⟨(some 79), .binOp .eql 3 (.tmp 77) (.tmp 78) 3, (some (some 76, true))⟩,
    ⟨(some 80), .pick (.tmp 76) (.tmp 79) (.const (.bool false)), none⟩,
    ⟨(some 81), .move (.tmp 80), none⟩,
    ⟨(some 82), .move (.tmp 13), (some (some 81, true))⟩,
    ⟨(some 83), .move (.tmp 15), (some (some 81, true))⟩,
    ⟨(some 84), .binOp .eql 4 (.tmp 82) (.tmp 83) 4, (some (some 81, true))⟩,
    ⟨(some 85), .pick (.tmp 81) (.tmp 84) (.const (.bool false)), none⟩,
    ⟨(some 86), .move (.tmp 85), none⟩,
    ⟨(some 87), .call ⟨.value (.func 6), #[], #[]⟩, (some (some 86, true))⟩,
    ⟨(some 88), .pick (.tmp 86) (.tmp 87) (.const (.bool false)), none⟩,
    ⟨(some 4), .assign (.tmp 88), none⟩]) .ret)
@[go_sem] theorem c_sheaflaw2_MoneySums_13_at (rd : Option Nat) (K : Post3) (t : Fr) (m : Mem) : wpM E 10 89 rd c_sheaflaw2_MoneySums_13 K t m = wpM E 10 89 rd (.seq (.ops [⟨(some 68), .call ⟨.value (.func 30), #[(.tmp 7)], #[41]⟩, none⟩,
    ⟨(some 69), .call ⟨.value (.func 30), #[(.tmp 8)], #[41]⟩, none⟩,
    ⟨(some 70), .binOp .eql 24 (.tmp 68) (.tmp 69) 24, none⟩,
    ⟨(some 71), .move (.tmp 70), none⟩,
    ⟨(some 72), .call ⟨.value (.func 30), #[(.tmp 10)], #[41]⟩, (some (some 71, true))⟩,
    ⟨(some 73), .call ⟨.value (.func 30), #[(.tmp 7)], #[41]⟩, (some (some 71, true))⟩,
    ⟨(some 74), .binOp .eql 24 (.tmp 72) (.tmp 73) 24, (some (some 71, true))⟩,
    ⟨(some 75), .pick (.tmp 71) (.tmp 74) (.const (.bool false)), none⟩,
    ⟨(some 76), .move (.tmp 75), none⟩,
    ⟨(some 77), .move (.tmp 12), (some (some 76, true))⟩,
    ⟨(some 78), .move (.tmp 14), (some (some 76, true))⟩,
    ⟨(some 79), .binOp .eql 3 (.tmp 77) (.tmp 78) 3, (some (some 76, true))⟩,
    ⟨(some 80), .pick (.tmp 76) (.tmp 79) (.const (.bool false)), none⟩,
    ⟨(some 81), .move (.tmp 80), none⟩,
    ⟨(some 82), .move (.tmp 13), (some (some 81, true))⟩,
    ⟨(some 83), .move (.tmp 15), (some (some 81, true))⟩,
    ⟨(some 84), .binOp .eql 4 (.tmp 82) (.tmp 83) 4, (some (some 81, true))⟩,
    ⟨(some 85), .pick (.tmp 81) (.tmp 84) (.const (.bool false)), none⟩,
    ⟨(some 86), .move (.tmp 85), none⟩,
    ⟨(some 87), .call ⟨.value (.func 6), #[], #[]⟩, (some (some 86, true))⟩,
    ⟨(some 88), .pick (.tmp 86) (.tmp 87) (.const (.bool false)), none⟩,
    ⟨(some 4), .assign (.tmp 88), none⟩]) .ret) K t m := rfl

def c_sheaflaw2_MoneySums_14 : MC := (.seq (.ops [⟨(some 65), .call ⟨.value (.func 24), #[(.tmp 10)], #[41]⟩, none⟩,
    ⟨(some 64), .move (.tmp 65), none⟩,
    ⟨(some 66), .extract (.tmp 64) 0, none⟩,
    ⟨(some 67), .extract (.tmp 64) 1, none⟩,
    ⟨(some 14), .assign (.tmp 66), none⟩,
    ⟨(some 15), .assign (.tmp 67), none⟩]) c_sheaflaw2_MoneySums_13)
@[go_sem] theorem c_sheaflaw2_MoneySums_14_at (rd : Option Nat) (K : Post3) (t : Fr) (m : Mem) : wpM E 10 89 rd c_sheaflaw2_MoneySums_14 K t m = wpM E 10 89 rd (.seq (.ops [⟨(some 65), .call ⟨.value (.func 24), #[(.tmp 10)], #[41]⟩, none⟩,
    ⟨(some 64), .move (.tmp 65), none⟩,
    ⟨(some 66), .extract (.tmp 64) 0, none⟩,
    ⟨(some 67), .extract (.tmp 64) 1, none⟩,
    ⟨(some 14), .assign (.tmp 66), none⟩,
    ⟨(some 15), .assign (.tmp 67), none⟩]) c_sheaflaw2_MoneySums_13) K t m := rfl

def c_sheaflaw2_MoneySums_15 : MC := (.seq (.ops [⟨(some 61), .call ⟨.value (.func 24), #[(.tmp 7)], #[41]⟩, none⟩,
    ⟨(some 60), .move (.tmp 61), none⟩,
    ⟨(some 62), .extract (.tmp 60) 0, none⟩,
    ⟨(some 63), .extract (.tmp 60) 1, none⟩,
    ⟨(some 12), .assign (.tmp 62), none⟩,
    ⟨(some 13), .assign (.tmp 63), none⟩]) c_sheaflaw2_MoneySums_14)
@[go_sem] theorem c_sheaflaw2_MoneySums_15_at (rd : Option Nat) (K : Post3) (t : Fr) (m : Mem) : wpM E 10 89 rd c_sheaflaw2_MoneySums_15 K t m = wpM E 10 89 rd (.seq (.ops [⟨(some 61), .call ⟨.value (.func 24), #[(.tmp 7)], #[41]⟩, none⟩,
    ⟨(some 60), .move (.tmp 61), none⟩,
    ⟨(some 62), .extract (.tmp 60) 0, none⟩,
    ⟨(some 63), .extract (.tmp 60) 1, none⟩,
    ⟨(some 12), .assign (.tmp 62), none⟩,
    ⟨(some 13), .assign (.tmp 63), none⟩]) c_sheaflaw2_MoneySums_14) K t m := rfl

def c_sheaflaw2_MoneySums_16 : MC := (.seq (.ops [⟨(some 58), .load 41 (.tmp 9), none⟩,
    ⟨(some 59), .call ⟨.value (.func 31), #[(.tmp 10), (.tmp 58)], #[41, 41]⟩, none⟩]) c_sheaflaw2_MoneySums_15)
@[go_sem] theorem c_sheaflaw2_MoneySums_16_at (rd : Option Nat) (K : Post3) (t : Fr) (m : Mem) : wpM E 10 89 rd c_sheaflaw2_MoneySums_16 K t m = wpM E 10 89 rd (.seq (.ops [⟨(some 58), .load 41 (.tmp 9), none⟩,
    ⟨(some 59), .call ⟨.value (.func 31), #[(.tmp 10), (.tmp 58)], #[41, 41]⟩, none⟩]) c_sheaflaw2_MoneySums_15) K t m := rfl

def c_sheaflaw2_MoneySums_17 : MC := (.seq c_sheaflaw2_MoneySums_12 c_sheaflaw2_MoneySums_16)
@[go_sem] theorem c_sheaflaw2_MoneySums_17_at (rd : Option Nat) (K : Post3) (t : Fr) (m : Mem) : wpM E 10 89 rd c_sheaflaw2_MoneySums_17 K t m = wpM E 10 89 rd (.seq c_sheaflaw2_MoneySums_12 c_sheaflaw2_MoneySums_16) K t m := rfl

def c_sheaflaw2_MoneySums_18 : MC := (.seq (.ops [⟨(some 7), .alloc 41, none⟩,
    ⟨(some 8), .alloc 41, none⟩,
    ⟨(some 9), .alloc 41, none⟩,
    ⟨(some 10), .alloc 41, none⟩]) c_sheaflaw2_MoneySums_17)
@[go_sem] theorem c_sheaflaw2_MoneySums_18_at (rd : Option Nat) (K : Post3) (t : Fr) (m : Mem) : wpM E 10 89 rd c_sheaflaw2_MoneySums_18 K t m = wpM E 10 89 rd (.seq (.ops [⟨(some 7), .alloc 41, none⟩,
    ⟨(some 8), .alloc 41, none⟩,
    ⟨(some 9), .alloc 41, none⟩,
    ⟨(some 10), .alloc 41, none⟩]) c_sheaflaw2_MoneySums_17) K t m := rfl

def c_sheaflaw2_MoneySums_19 : MC := (.seq (.ops [⟨(some 21), .move (.tmp 1), none⟩,
    ⟨(some 22), .move (.tmp 5), none⟩,
    ⟨(some 23), .call ⟨.builtin .len, #[(.tmp 22)], #[28]⟩, none⟩,
    ⟨(some 24), .call ⟨.value (.func 19), #[(.tmp 21), (.const (.int .i64 0)), (.tmp 23)], #[3, 3, 3]⟩, none⟩,
    ⟨(some 6), .assign (.tmp 24), none⟩]) c_sheaflaw2_MoneySums_18)
@[go_sem] theorem c_sheaflaw2_MoneySums_19_at (rd : Option Nat) (K : Post3) (t : Fr) (m : Mem) : wpM E 10 89 rd c_sheaflaw2_MoneySums_19 K t m = wpM E 10 89 rd (.seq (.ops [⟨(some 21), .move (.tmp 1), none⟩,
    ⟨(some 22), .move (.tmp 5), none⟩,
    ⟨(some 23), .call ⟨.builtin .len, #[(.tmp 22)], #[28]⟩, none⟩,
    ⟨(some 24), .call ⟨.value (.func 19), #[(.tmp 21), (.const (.int .i64 0)), (.tmp 23)], #[3, 3, 3]⟩, none⟩,
    ⟨(some 6), .assign (.tmp 24), none⟩]) c_sheaflaw2_MoneySums_18) K t m := rfl

def c_sheaflaw2_MoneySums_20 : MC := (.seq (.ops [⟨(some 16), .move (.tmp 0), none⟩,
    ⟨(some 17), .move (.tmp 0), none⟩,
    ⟨(some 18), .call ⟨.builtin .len, #[(.tmp 17)], #[28]⟩, none⟩,
    ⟨(some 19), .call ⟨.builtin .min, #[(.tmp 18), (.const (.int .i64 40))], #[3, 3]⟩, none⟩,
    ⟨(some 20), .slice 28 (.tmp 16) none (some (.tmp 19)) none, none⟩,
    ⟨(some 5), .assign (.tmp 20), none⟩]) c_sheaflaw2_MoneySums_19)
@[go_sem] theorem c_sheaflaw2_MoneySums_20_at (rd : Option Nat) (K : Post3) (t : Fr) (m : Mem) : wpM E 10 89 rd c_sheaflaw2_MoneySums_20 K t m = wpM E 10 89 rd (.seq (.ops [⟨(some 16), .move (.tmp 0), none⟩,
    ⟨(some 17), .move (.tmp 0), none⟩,
    ⟨(some 18), .call ⟨.builtin .len, #[(.tmp 17)], #[28]⟩, none⟩,
    ⟨(some 19), .call ⟨.builtin .min, #[(.tmp 18), (.const (.int .i64 40))], #[3, 3]⟩, none⟩,
    ⟨(some 20), .slice 28 (.tmp 16) none (some (.tmp 19)) none, none⟩,
    ⟨(some 5), .assign (.tmp 20), none⟩]) c_sheaflaw2_MoneySums_19) K t m := rfl

def c_sheaflaw2_MoneySums_21 : MC := (.seq (.ops [⟨(some 4), .assign (.const (.bool false)), none⟩]) c_sheaflaw2_MoneySums_20)
@[go_sem] theorem c_sheaflaw2_MoneySums_21_at (rd : Option Nat) (K : Post3) (t : Fr) (m : Mem) : wpM E 10 89 rd c_sheaflaw2_MoneySums_21 K t m = wpM E 10 89 rd (.seq (.ops [⟨(some 4), .assign (.const (.bool false)), none⟩]) c_sheaflaw2_MoneySums_20) K t m := rfl

@[go_sem] theorem some10 : (E.fn 10).isSome = true := by kernel_rfl
set_option maxRecDepth 100000 in
theorem fn_sheaflaw2_MoneySums : FnIs E 10 89 [.tmp 4] c_sheaflaw2_MoneySums_21 := ⟨by kernel_rfl, by kernel_rfl⟩

/-! sheaf/sheaflaw1.WideOrder -/
abbrev F_sheaflaw1_WideOrder : FuncId := 11
def c_sheaflaw1_WideOrder_0 : MC := (.cond (.tmp 37) (.ops [⟨(some 14), .assign (.const (.int .i64 1)), none⟩]) .skip)
@[go_sem] theorem c_sheaflaw1_WideOrder_0_at (rd : Option Nat) (K : Post3) (t : Fr) (m : Mem) : wpM E 11 137 rd c_sheaflaw1_WideOrder_0 K t m = wpM E 11 137 rd (.cond (.tmp 37) (.ops [⟨(some 14), .assign (.const (.int .i64 1)), none⟩]) .skip) K t m := rfl

def c_sheaflaw1_WideOrder_1 : MC := (.seq (.ops [⟨(some 38), .move (.tmp 0), none⟩,
    ⟨(some 39), .move (.tmp 1), none⟩,
    ⟨(some 40), .binOp .gtr 3 (.tmp 38) (.tmp 39) 3, none⟩,
    ⟨(some 37), .assign (.tmp 40), none⟩]) c_sheaflaw1_WideOrder_0)
@[go_sem] theorem c_sheaflaw1_WideOrder_1_at (rd : Option Nat) (K : Post3) (t : Fr) (m : Mem) : wpM E 11 137 rd c_sheaflaw1_WideOrder_1 K t m = wpM E 11 137 rd (.seq (.ops [⟨(some 38), .move (.tmp 0), none⟩,
    ⟨(some 39), .move (.tmp 1), none⟩,
    ⟨(some 40), .binOp .gtr 3 (.tmp 38) (.tmp 39) 3, none⟩,
    ⟨(some 37), .assign (.tmp 40), none⟩]) c_sheaflaw1_WideOrder_0) K t m := rfl

def c_sheaflaw1_WideOrder_2 : MC := (.cond (.tmp 33) (.ops [⟨(some 14), .assign (.const (.int .i64 (-1))), none⟩]) c_sheaflaw1_WideOrder_1)
@[go_sem] theorem c_sheaflaw1_WideOrder_2_at (rd : Option Nat) (K : Post3) (t : Fr) (m : Mem) : wpM E 11 137 rd c_sheaflaw1_WideOrder_2 K t m = wpM E 11 137 rd (.cond (.tmp 33) (.ops [⟨(some 14), .assign (.const (.int .i64 (-1))), none⟩]) c_sheaflaw1_WideOrder_1) K t m := rfl

def c_sheaflaw1_WideOrder_3 : MC := (.seq (.ops [⟨(some 34), .move (.tmp 0), none⟩,
    ⟨(some 35), .move (.tmp 1), none⟩,
    ⟨(some 36), .binOp .lss 3 (.tmp 34) (.tmp 35) 3, none⟩,
    ⟨(some 33), .assign (.tmp 36), none⟩]) c_sheaflaw1_WideOrder_2)
@[go_sem] theorem c_sheaflaw1_WideOrder_3_at (rd : Option Nat) (K : Post3) (t : Fr) (m : Mem) : wpM E 11 137 rd c_sheaflaw1_WideOrder_3 K t m = wpM E 11 137 rd (.seq (.ops [⟨(some 34), .move (.tmp 0), none⟩,
    ⟨(some 35), .move (.tmp 1), none⟩,
    ⟨(some 36), .binOp .lss 3 (.tmp 34) (.tmp 35) 3, none⟩,
    ⟨(some 33), .assign (.tmp 36), none⟩]) c_sheaflaw1_WideOrder_2) K t m := rfl

def c_sheaflaw1_WideOrder_4 : MC := (.block 0 c_sheaflaw1_WideOrder_3)
@[go_sem] theorem c_sheaflaw1_WideOrder_4_at (rd : Option Nat) (K : Post3) (t : Fr) (m : Mem) : wpM E 11 137 rd c_sheaflaw1_WideOrder_4 K t m = wpM E 11 137 rd (.block 0 c_sheaflaw1_WideOrder_3) K t m := rfl

def c_sheaflaw1_WideOrder_5 : MC := (.seq (.ops [⟨(some 8), .assign (.const (.bool false)), none⟩]) .ret)
@[go_sem] theorem c_sheaflaw1_WideOrder_5_at (rd : Option Nat) (K : Post3) (t : Fr) (m : Mem) : wpM E 11 137 rd c_sheaflaw1_WideOrder_5 K t m = wpM E 11 137 rd (.seq (.ops [⟨(some 8), .assign (.const (.bool false)), none⟩]) .ret) K t m := rfl

def c_sheaflaw1_WideOrder_6 : MC := (.cond (.tmp 72) c_sheaflaw1_WideOrder_5 .skip)
@[go_sem] theorem c_sheaflaw1_WideOrder_6_at (rd : Option Nat) (K : Post3) (t : Fr) (m : Mem) : wpM E 11 137 rd c_sheaflaw1_WideOrder_6 K t m = wpM E 11 137 rd (.cond (.tmp 72) c_sheaflaw1_WideOrder_5 .skip) K t m := rfl

def c_sheaflaw1_WideOrder_7 : MC := (.seq (.draw [(0, [], ⟨(some 41), .move (.tmp 9), none⟩),
    (1, [], ⟨(some 42), .move (.tmp 0), none⟩),
    (2, [], ⟨(some 43), .binOp .neq 3 (.tmp 41) (.tmp 42) 3, none⟩),
    (3, [], ⟨(some 44), .move (.tmp 43), none⟩),
    (4, [], ⟨(some 45), .move (.tmp 10), (some (some 44, false))⟩),
    (5, [], ⟨(some 46), .unOp .not 4 (.tmp 45), (some (some 44, false))⟩),
    (6, [], ⟨(some 47), .pick (.tmp 44) (.const (.bool true)) (.tmp 46), none⟩),
    (7, [], ⟨(some 48), .move (.tmp 47), none⟩),
    (8, [], ⟨(some 49), .move (.tmp 0), (some (some 48, false))⟩),
    (9, [], ⟨(some 50), .call ⟨.value (.func 17), #[(.tmp 49)], #[3]⟩, (some (some 48, false))⟩),
    (10, [], ⟨(some 51), .move (.tmp 1), (some (some 48, false))⟩),
    (11, [], ⟨(some 52), .call ⟨.value (.func 17), #[(.tmp 51)], #[3]⟩, (some (some 48, false))⟩),
    (12, [], ⟨(some 53), .call ⟨.value (.func 32), #[(.tmp 50), (.tmp 52)], #[24, 24]⟩, (some (some 48, false))⟩),
    (13, [], ⟨(some 54), .move (.tmp 14), (some (some 48, false))⟩),
    (14, [], ⟨(some 55), .binOp .neq 3 (.tmp 53) (.tmp 54) 3, (some (some 48, false))⟩),
    (15, [], ⟨(some 56), .pick (.tmp 48) (.const (.bool true)) (.tmp 55), none⟩),
    (16, [], ⟨(some 57), .move (.tmp 56), none⟩),
    (17, [], ⟨(some 58), .load 24 (.tmp 11), (some (some 57, false))⟩),
    (18, [], ⟨(some 59), .load 24 (.tmp 12), (some (some 57, false))⟩),
    (20, [], ⟨(some 61), .load 24 (.tmp 12), (some (some 57, false))⟩),
    (21, [], ⟨(some 62), .load 24 (.tmp 11), (some (some 57, false))⟩),
    (19, [20, 21], ⟨(some 60), .call ⟨.value (.func 32), #[(.tmp 58), (.tmp 59)], #[24, 24]⟩, (some (some 57, false))⟩),
    (22, [], ⟨(some 63), .call ⟨.value (.func 32), #[(.tmp 61), (.tmp 62)], #[24, 24]⟩, (some (some 57, false))⟩),
    (23, [], ⟨(some 64), .unOp .neg 3 (.tmp 63), (some (some 57, false))⟩),
    (24, [], ⟨(some 65), .binOp .neq 3 (.tmp 60) (.tmp 64) 3, (some (some 57, false))⟩),
    (25, [], ⟨(some 66), .pick (.tmp 57) (.const (.bool true)) (.tmp 65), none⟩),
    (26, [], ⟨(some 67), .move (.tmp 66), none⟩),
    (27, [], ⟨(some 68), .load 24 (.tmp 11), (some (some 67, false))⟩),
    (28, [], ⟨(some 69), .load 24 (.tmp 11), (some (some 67, false))⟩),
    (29, [], ⟨(some 70), .call ⟨.value (.func 32), #[(.tmp 68), (.tmp 69)], #[24, 24]⟩, (some (some 67, false))⟩),
    (30, [], ⟨(some 71), .binOp .neq 3 (.tmp 70) (.const (.int .i64 0)) 3, (some (some 67, false))⟩),
    (31, [], ⟨(some 72), .pick (.tmp 67) (.const (.bool true)) (.tmp 71), none⟩)]) c_sheaflaw1_WideOrder_6)
@[go_sem] theorem c_sheaflaw1_WideOrder_7_at (rd : Option Nat) (K : Post3) (t : Fr) (m : Mem) : wpM E 11 137 rd c_sheaflaw1_WideOrder_7 K t m = wpM E 11 137 rd (.seq (.draw [(0, [], ⟨(some 41), .move (.tmp 9), none⟩),
    (1, [], ⟨(some 42), .move (.tmp 0), none⟩),
    (2, [], ⟨(some 43), .binOp .neq 3 (.tmp 41) (.tmp 42) 3, none⟩),
    (3, [], ⟨(some 44), .move (.tmp 43), none⟩),
    (4, [], ⟨(some 45), .move (.tmp 10), (some (some 44, false))⟩),
    (5, [], ⟨(some 46), .unOp .not 4 (.tmp 45), (some (some 44, false))⟩),
    (6, [], ⟨(some 47), .pick (.tmp 44) (.const (.bool true)) (.tmp 46), none⟩),
    (7, [], ⟨(some 48), .move (.tmp 47), none⟩),
    (8, [], ⟨(some 49), .move (.tmp 0), (some (some 48, false))⟩),
    (9, [], ⟨(some 50), .call ⟨.value (.func 17), #[(.tmp 49)], #[3]⟩, (some (some 48, false))⟩),
    (10, [], ⟨(some 51), .move (.tmp 1), (some (some 48, false))⟩),
    (11, [], ⟨(some 52), .call ⟨.value (.func 17), #[(.tmp 51)], #[3]⟩, (some (some 48, false))⟩),
    (12, [], ⟨(some 53), .call ⟨.value (.func 32), #[(.tmp 50), (.tmp 52)], #[24, 24]⟩, (some (some 48, false))⟩),
    (13, [], ⟨(some 54), .move (.tmp 14), (some (some 48, false))⟩),
    (14, [], ⟨(some 55), .binOp .neq 3 (.tmp 53) (.tmp 54) 3, (some (some 48, false))⟩),
    (15, [], ⟨(some 56), .pick (.tmp 48) (.const (.bool true)) (.tmp 55), none⟩),
    (16, [], ⟨(some 57), .move (.tmp 56), none⟩),
    (17, [], ⟨(some 58), .load 24 (.tmp 11), (some (some 57, false))⟩),
    (18, [], ⟨(some 59), .load 24 (.tmp 12), (some (some 57, false))⟩),
    (20, [], ⟨(some 61), .load 24 (.tmp 12), (some (some 57, false))⟩),
    (21, [], ⟨(some 62), .load 24 (.tmp 11), (some (some 57, false))⟩),
    (19, [20, 21], ⟨(some 60), .call ⟨.value (.func 32), #[(.tmp 58), (.tmp 59)], #[24, 24]⟩, (some (some 57, false))⟩),
    (22, [], ⟨(some 63), .call ⟨.value (.func 32), #[(.tmp 61), (.tmp 62)], #[24, 24]⟩, (some (some 57, false))⟩),
    (23, [], ⟨(some 64), .unOp .neg 3 (.tmp 63), (some (some 57, false))⟩),
    (24, [], ⟨(some 65), .binOp .neq 3 (.tmp 60) (.tmp 64) 3, (some (some 57, false))⟩),
    (25, [], ⟨(some 66), .pick (.tmp 57) (.const (.bool true)) (.tmp 65), none⟩),
    (26, [], ⟨(some 67), .move (.tmp 66), none⟩),
    (27, [], ⟨(some 68), .load 24 (.tmp 11), (some (some 67, false))⟩),
    (28, [], ⟨(some 69), .load 24 (.tmp 11), (some (some 67, false))⟩),
    (29, [], ⟨(some 70), .call ⟨.value (.func 32), #[(.tmp 68), (.tmp 69)], #[24, 24]⟩, (some (some 67, false))⟩),
    (30, [], ⟨(some 71), .binOp .neq 3 (.tmp 70) (.const (.int .i64 0)) 3, (some (some 67, false))⟩),
    (31, [], ⟨(some 72), .pick (.tmp 67) (.const (.bool true)) (.tmp 71), none⟩)]) c_sheaflaw1_WideOrder_6) K t m := rfl

def c_sheaflaw1_WideOrder_8 : MC := (.seq (.ops [⟨(some 8), .assign (.const (.bool false)), none⟩]) .ret)
@[go_sem] theorem c_sheaflaw1_WideOrder_8_at (rd : Option Nat) (K : Post3) (t : Fr) (m : Mem) : wpM E 11 137 rd c_sheaflaw1_WideOrder_8 K t m = wpM E 11 137 rd (.seq (.ops [⟨(some 8), .assign (.const (.bool false)), none⟩]) .ret) K t m := rfl

def c_sheaflaw1_WideOrder_9 : MC := (.cond (.tmp 88) c_sheaflaw1_WideOrder_8 .skip)
@[go_sem] theorem c_sheaflaw1_WideOrder_9_at (rd : Option Nat) (K : Post3) (t : Fr) (m : Mem) : wpM E 11 137 rd c_sheaflaw1_WideOrder_9 K t m = wpM E 11 137 rd (.cond (.tmp 88) c_sheaflaw1_WideOrder_8 .skip) K t m := rfl

def c_sheaflaw1_WideOrder_10 : MC := (.seq (.ops [⟨(some 73), .load 24 (.tmp 11), none⟩,
    ⟨(some 74), .load 24 (.tmp 12), none⟩,
    ⟨(some 75), .call ⟨.value (.func 32), #[(.tmp 73), (.tmp 74)], #[24, 24]⟩, none⟩,
    ⟨(some 76), .binOp .leq 3 (.tmp 75) (.const (.int .i64 0)) 3, none⟩,
    ⟨(some 77), .move (.tmp 76), none⟩,
    ⟨(some 78), .load 24 (.tmp 12), (some (some 77, true))⟩,
    ⟨(some 79), .load 24 (.tmp 13), (some (some 77, true))⟩,
    ⟨(some 80), .call ⟨.value (.func 32), #[(.tmp 78), (.tmp 79)], #[24, 24]⟩, (some (some 77, true))⟩,
    ⟨(some 81), .binOp .leq 3 (.tmp 80) (.const (.int .i64 0)) 3, (some (some 77, true))⟩,
    ⟨(some 82), .pick (.tmp 77) (.tmp 81) (.const (.bool false)), none⟩,
    ⟨(some 83), .move (.tmp 82), none⟩,
    ⟨(some 84), .load 24 (.tmp 11), (some (some 83, true))⟩,
    ⟨(some 85), .load 24 (.tmp 13), (some (some 83, true))⟩,
    ⟨(some 86), .call ⟨.value (.func 32), #[(.tmp 84), (.tmp 85)], #[24, 24]⟩, (some (some 83, true))⟩,
    ⟨(some 87), .binOp .gtr 3 (.tmp 86) (.const (.int .i64 0)) 3, (some (some 83, true))⟩,
    ⟨(some 88), .pick (.tmp 83) (.tmp 87) (.const (.bool false)), none⟩]) c_sheaflaw1_WideOrder_9)
@[go_sem] theorem c_sheaflaw1_WideOrder_10_at (rd : Option Nat) (K : Post3) (t : Fr) (m : Mem) : wpM E 11 137 rd c_sheaflaw1_WideOrder_10 K t m = wpM E 11 137 rd (.seq (.ops [⟨(some 73), .load 24 (.tmp 11), none⟩,
    ⟨(some 74), .load 24 (.tmp 12), none⟩,
    ⟨(some 75), .call ⟨.value (.func 32), #[(.tmp 73), (.tmp 74)], #[24, 24]⟩, none⟩,
    ⟨(some 76), .binOp .leq 3 (.tmp 75) (.const (.int .i64 0)) 3, none⟩,
    ⟨(some 77), .move (.tmp 76), none⟩,
    ⟨(some 78), .load 24 (.tmp 12), (some (some 77, true))⟩,
    ⟨(some 79), .load 24 (.tmp 13), (some (some 77, true))⟩,
    ⟨(some 80), .call ⟨.value (.func 32), #[(.tmp 78), (.tmp 79)], #[24, 24]⟩, (some (some 77, true))⟩,
    ⟨(some 81), .binOp .leq 3 (.tmp 80) (.const (.int .i64 0)) 3, (some (some 77, true))⟩,
    ⟨(some 82), .pick (.tmp 77) (.tmp 81) (.const (.bool false)), none⟩,
    ⟨(some 83), .move (.tmp 82), none⟩,
    ⟨(some 84), .load 24 (.tmp 11), (some (some 83, true))⟩,
    ⟨(some 85), .load 24 (.tmp 13), (some (some 83, true))⟩,
    ⟨(some 86), .call ⟨.value (.func 32), #[(.tmp 84), (.tmp 85)], #[24, 24]⟩, (some (some 83, true))⟩,
    ⟨(some 87), .binOp .gtr 3 (.tmp 86) (.const (.int .i64 0)) 3, (some (some 83, true))⟩,
    ⟨(some 88), .pick (.tmp 83) (.tmp 87) (.const (.bool false)), none⟩]) c_sheaflaw1_WideOrder_9) K t m := rfl

def c_sheaflaw1_WideOrder_11 : MC := (.seq (.draw [(0, [], ⟨(some 104), .move (.tmp 16), none⟩),
    (1, [], ⟨(some 105), .move (.tmp 17), none⟩),
    (2, [], ⟨(some 106), .binOp .eql 4 (.tmp 104) (.tmp 105) 4, none⟩),
    (3, [], ⟨(some 107), .move (.tmp 106), none⟩),
    (4, [], ⟨(some 108), .move (.tmp 16), (some (some 107, true))⟩),
    (5, [], ⟨(some 109), .unOp .not 4 (.tmp 108), (some (some 107, true))⟩),
    (6, [], ⟨(some 110), .move (.tmp 109), (some (some 107, true))⟩),
    (7, [], ⟨(some 111), .move (.tmp 15), (some (some 110, false))⟩),
    (9, [], ⟨(some 113), .load 24 (.tmp 11), (some (some 110, false))⟩),
    (8, [9], ⟨(some 112), .call ⟨.value (.func 17), #[(.tmp 111)], #[3]⟩, (some (some 110, false))⟩),
    (10, [], ⟨(some 114), .binOp .eql 24 (.tmp 112) (.tmp 113) 24, (some (some 110, false))⟩),
    (11, [], ⟨(some 115), .pick (.tmp 110) (.const (.bool true)) (.tmp 114), (some (some 107, true))⟩),
    (12, [], ⟨(some 116), .pick (.tmp 107) (.tmp 115) (.const (.bool false)), none⟩),
    (13, [], ⟨(some 117), .move (.tmp 116), none⟩),
    (14, [], ⟨(some 118), .move (.tmp 16), (some (some 117, true))⟩),
    (15, [], ⟨(some 119), .move (.tmp 118), (some (some 117, true))⟩),
    (16, [], ⟨(some 120), .move (.tmp 15), (some (some 119, false))⟩),
    (17, [], ⟨(some 121), .binOp .eql 3 (.tmp 120) (.const (.int .i64 0)) 3, (some (some 119, false))⟩),
    (18, [], ⟨(some 122), .pick (.tmp 119) (.const (.bool true)) (.tmp 121), (some (some 117, true))⟩),
    (19, [], ⟨(some 123), .pick (.tmp 117) (.tmp 122) (.const (.bool false)), none⟩),
    (20, [], ⟨(some 124), .move (.tmp 123), none⟩),
    (21, [], ⟨(some 125), .load 24 (.tmp 11), (some (some 124, true))⟩),
    (22, [], ⟨(some 126), .load 24 (.tmp 12), (some (some 124, true))⟩),
    (25, [], ⟨(some 129), .load 24 (.tmp 11), (some (some 124, true))⟩),
    (26, [], ⟨(some 130), .load 24 (.tmp 12), (some (some 124, true))⟩),
    (23, [25, 26], ⟨(some 127), .call ⟨.value (.func 32), #[(.tmp 125), (.tmp 126)], #[24, 24]⟩, (some (some 124, true))⟩),
    (24, [], ⟨(some 128), .binOp .eql 3 (.tmp 127) (.const (.int .i64 0)) 3, (some (some 124, true))⟩),
    (27, [], ⟨(some 131), .binOp .eql 24 (.tmp 129) (.tmp 130) 24, (some (some 124, true))⟩),
    (28, [], ⟨(some 132), .binOp .eql 4 (.tmp 128) (.tmp 131) 4, (some (some 124, true))⟩),
    (29, [], ⟨(some 133), .pick (.tmp 124) (.tmp 132) (.const (.bool false)), none⟩),
    (30, [], ⟨(some 134), .move (.tmp 133), none⟩),
    (31, [], ⟨(some 135), .call ⟨.value (.func 3), #[], #[]⟩, (some (some 134, true))⟩),
    (32, [], ⟨(some 136), .pick (.tmp 134) (.tmp 135) (.const (.bool false)), none⟩),
    (33, [], ⟨(some 8), .assign (.tmp 136), none⟩)]) .ret)
@[go_sem] theorem c_sheaflaw1_WideOrder_11_at (rd : Option Nat) (K : Post3) (t : Fr) (m : Mem) : wpM E 11 137 rd c_sheaflaw1_WideOrder_11 K t m = wpM E 11 137 rd (.seq (.draw [(0, [], ⟨(some 104), .move (.tmp 16), none⟩),
    (1, [], ⟨(some 105), .move (.tmp 17), none⟩),
    (2, [], ⟨(some 106), .binOp .eql 4 (.tmp 104) (.tmp 105) 4, none⟩),
    (3, [], ⟨(some 107), .move (.tmp 106), none⟩),
    (4, [], ⟨(some 108), .move (.tmp 16), (some (some 107, true))⟩),
    (5, [], ⟨(some 109), .unOp .not 4 (.tmp 108), (some (some 107, true))⟩),
    (6, [], ⟨(some 110), .move (.tmp 109), (some (some 107, true))⟩),
    (7, [], ⟨(some 111), .move (.tmp 15), (some (some 110, false))⟩),
    (9, [], ⟨(some 113), .load 24 (.tmp 11), (some (some 110, false))⟩),
    (8, [9], ⟨(some 112), .call ⟨.value (.func 17), #[(.tmp 111)], #[3]⟩, (some (some 110, false))⟩),
    (10, [], ⟨(some 114), .binOp .eql 24 (.tmp 112) (.tmp 113) 24, (some (some 110, false))⟩),
    (11, [], ⟨(some 115), .pick (.tmp 110) (.const (.bool true)) (.tmp 114), (some (some 107, true))⟩),
    (12, [], ⟨(some 116), .pick (.tmp 107) (.tmp 115) (.const (.bool false)), none⟩),
    (13, [], ⟨(some 117), .move (.tmp 116), none⟩),
    (14, [], ⟨(some 118), .move (.tmp 16), (some (some 117, true))⟩),
    (15, [], ⟨(some 119), .move (.tmp 118), (some (some 117, true))⟩),
    (16, [], ⟨(some 120), .move (.tmp 15), (some (some 119, false))⟩),
    (17, [], ⟨(some 121), .binOp .eql 3 (.tmp 120) (.const (.int .i64 0)) 3, (some (some 119, false))⟩),
    (18, [], ⟨(some 122), .pick (.tmp 119) (.const (.bool true)) (.tmp 121), (some (some 117, true))⟩),
    (19, [], ⟨(some 123), .pick (.tmp 117) (.tmp 122) (.const (.bool false)), none⟩),
    (20, [], ⟨(some 124), .move (.tmp 123), none⟩),
    (21, [], ⟨(some 125), .load 24 (.tmp 11), (some (some 124, true))⟩),
    (22, [], ⟨(some 126), .load 24 (.tmp 12), (some (some 124, true))⟩),
    (25, [], ⟨(some 129), .load 24 (.tmp 11), (some (some 124, true))⟩),
    (26, [], ⟨(some 130), .load 24 (.tmp 12), (some (some 124, true))⟩),
    (23, [25, 26], ⟨(some 127), .call ⟨.value (.func 32), #[(.tmp 125), (.tmp 126)], #[24, 24]⟩, (some (some 124, true))⟩),
    (24, [], ⟨(some 128), .binOp .eql 3 (.tmp 127) (.const (.int .i64 0)) 3, (some (some 124, true))⟩),
    (27, [], ⟨(some 131), .binOp .eql 24 (.tmp 129) (.tmp 130) 24, (some (some 124, true))⟩),
    (28, [], ⟨(some 132), .binOp .eql 4 (.tmp 128) (.tmp 131) 4, (some (some 124, true))⟩),
    (29, [], ⟨(some 133), .pick (.tmp 124) (.tmp 132) (.const (.bool false)), none⟩),
    (30, [], ⟨(some 134), .move (.tmp 133), none⟩),
    (31, [], ⟨(some 135), .call ⟨.value (.func 3), #[], #[]⟩, (some (some 134, true))⟩),
    (32, [], ⟨(some 136), .pick (.tmp 134) (.tmp 135) (.const (.bool false)), none⟩),
    (33, [], ⟨(some 8), .assign (.tmp 136), none⟩)]) .ret) K t m := rfl

def c_sheaflaw1_WideOrder_12 : MC := (.seq (.draw [(0, [], ⟨(some 94), .load 24 (.tmp 11), none⟩),
    (1, [0], ⟨(some 95), .call ⟨.value (.func 17), #[(.const (.int .i64 (-9223372036854775808)))], #[3]⟩, none⟩),
    (2, [], ⟨(some 96), .call ⟨.value (.func 32), #[(.tmp 94), (.tmp 95)], #[24, 24]⟩, none⟩),
    (3, [], ⟨(some 97), .binOp .geq 3 (.tmp 96) (.const (.int .i64 0)) 3, none⟩),
    (4, [], ⟨(some 98), .move (.tmp 97), none⟩),
    (5, [], ⟨(some 99), .load 24 (.tmp 11), (some (some 98, true))⟩),
    (6, [5], ⟨(some 100), .call ⟨.value (.func 17), #[(.const (.int .i64 9223372036854775807))], #[3]⟩, (some (some 98, true))⟩),
    (7, [], ⟨(some 101), .call ⟨.value (.func 32), #[(.tmp 99), (.tmp 100)], #[24, 24]⟩, (some (some 98, true))⟩),
    (8, [], ⟨(some 102), .binOp .leq 3 (.tmp 101) (.const (.int .i64 0)) 3, (some (some 98, true))⟩),
    (9, [], ⟨(some 103), .pick (.tmp 98) (.tmp 102) (.const (.bool false)), none⟩),
    (10, [], ⟨(some 17), .assign (.tmp 103), none⟩)]) c_sheaflaw1_WideOrder_11)
@[go_sem] theorem c_sheaflaw1_WideOrder_12_at (rd : Option Nat) (K : Post3) (t : Fr) (m : Mem) : wpM E 11 137 rd c_sheaflaw1_WideOrder_12 K t m = wpM E 11 137 rd (.seq (.draw [(0, [], ⟨(some 94), .load 24 (.tmp 11), none⟩),
    (1, [0], ⟨(some 95), .call ⟨.value (.func 17), #[(.const (.int .i64 (-9223372036854775808)))], #[3]⟩, none⟩),
    (2, [], ⟨(some 96), .call ⟨.value (.func 32), #[(.tmp 94), (.tmp 95)], #[24, 24]⟩, none⟩),
    (3, [], ⟨(some 97), .binOp .geq 3 (.tmp 96) (.const (.int .i64 0)) 3, none⟩),
    (4, [], ⟨(some 98), .move (.tmp 97), none⟩),
    (5, [], ⟨(some 99), .load 24 (.tmp 11), (some (some 98, true))⟩),
    (6, [5], ⟨(some 100), .call ⟨.value (.func 17), #[(.const (.int .i64 9223372036854775807))], #[3]⟩, (some (some 98, true))⟩),
    (7, [], ⟨(some 101), .call ⟨.value (.func 32), #[(.tmp 99), (.tmp 100)], #[24, 24]⟩, (some (some 98, true))⟩),
    (8, [], ⟨(some 102), .binOp .leq 3 (.tmp 101) (.const (.int .i64 0)) 3, (some (some 98, true))⟩),
    (9, [], ⟨(some 103), .pick (.tmp 98) (.tmp 102) (.const (.bool false)), none⟩),
    (10, [], ⟨(some 17), .assign (.tmp 103), none⟩)]) c_sheaflaw1_WideOrder_11) K t m := rfl

def c_sheaflaw1_WideOrder_13 : MC := (.seq (.ops [⟨(some 90), .load 24 (.tmp 11), none⟩,
    ⟨(some 91), .call ⟨.value (.func 15), #[(.tmp 90)], #[24]⟩, none⟩,
    ⟨(some 89), .move (.tmp 91), none⟩,
    ⟨(some 92), .extract (.tmp 89) 0, none⟩,
    ⟨(some 93), .extract (.tmp 89) 1, none⟩,
    ⟨(some 15), .assign (.tmp 92), none⟩,
    ⟨(some 16), .assign (.tmp 93), none⟩]) c_sheaflaw1_WideOrder_12)
@[go_sem] theorem c_sheaflaw1_WideOrder_13_at (rd : Option Nat) (K : Post3) (t : Fr) (m : Mem) : wpM E 11 137 rd c_sheaflaw1_WideOrder_13 K t m = wpM E 11 137 rd (.seq (.ops [⟨(some 90), .load 24 (.tmp 11), none⟩,
    ⟨(some 91), .call ⟨.value (.func 15), #[(.tmp 90)], #[24]⟩, none⟩,
    ⟨(some 89), .move (.tmp 91), none⟩,
    ⟨(some 92), .extract (.tmp 89) 0, none⟩,
    ⟨(some 93), .extract (.tmp 89) 1, none⟩,
    ⟨(some 15), .assign (.tmp 92), none⟩,
    ⟨(some 16), .assign (.tmp 93), none⟩]) c_sheaflaw1_WideOrder_12) K t m := rfl

def c_sheaflaw1_WideOrder_14 : MC := (.seq c_sheaflaw1_WideOrder_10 c_sheaflaw1_WideOrder_13)
@[go_sem] theorem c_sheaflaw1_WideOrder_14_at (rd : Option Nat) (K : Post3) (t : Fr) (m : Mem) : wpM E 11 137 rd c_sheaflaw1_WideOrder_14 K t m = wpM E 11 137 rd (.seq c_sheaflaw1_WideOrder_10 c_sheaflaw1_WideOrder_13) K t m := rfl

def c_sheaflaw1_WideOrder_15 : MC := (.seq c_sheaflaw1_WideOrder_7 c_sheaflaw1_WideOrder_14)
@[go_sem] theorem c_sheaflaw1_WideOrder_15_at (rd : Option Nat) (K : Post3) (t : Fr) (m : Mem) : wpM E 11 137 rd c_sheaflaw1_WideOrder_15 K t m = wpM E 11 137 rd (.seq c_sheaflaw1_WideOrder_7 c_sheaflaw1_WideOrder_14) K t m := rfl

def c_sheaflaw1_WideOrder_16 : MC := (.seq c_sheaflaw1_WideOrder_4 c_sheaflaw1_WideOrder_15)
@[go_sem] theorem c_sheaflaw1_WideOrder_16_at (rd : Option Nat) (K : Post3) (t : Fr) (m : Mem) : wpM E 11 137 rd c_sheaflaw1_WideOrder_16 K t m = wpM E 11 137 rd (.seq c_sheaflaw1_WideOrder_4 c_sheaflaw1_WideOrder_15) K t m := rfl

def c_sheaflaw1_WideOrder_17 : MC := (.seq (.ops [⟨(some 14), .assign (.const (.int .i64 0)), none⟩]) c_sheaflaw1_WideOrder_16)
@[go_sem] theorem c_sheaflaw1_WideOrder_17_at (rd : Option Nat) (K : Post3) (t : Fr) (m : Mem) : wpM E 11 137 rd c_sheaflaw1_WideOrder_17 K t m = wpM E 11 137 rd (.seq (.ops [⟨(some 14), .assign (.const (.int .i64 0)), none⟩]) c_sheaflaw1_WideOrder_16) K t m := rfl

def c_sheaflaw1_WideOrder_18 : MC := (.seq (.ops [⟨(some 24), .move (.tmp 0), none⟩,
    ⟨(some 25), .move (.tmp 1), none⟩,
    ⟨(some 26), .call ⟨.value (.func 14), #[(.tmp 24), (.tmp 25)], #[3, 3]⟩, none⟩,
    ⟨(some 27), .move (.tmp 1), none⟩,
    ⟨(some 28), .move (.tmp 2), none⟩,
    ⟨(some 29), .call ⟨.value (.func 14), #[(.tmp 27), (.tmp 28)], #[3, 3]⟩, none⟩,
    ⟨(some 30), .move (.tmp 2), none⟩,
    ⟨(some 31), .move (.tmp 3), none⟩,
    ⟨(some 32), .call ⟨.value (.func 14), #[(.tmp 30), (.tmp 31)], #[3, 3]⟩, none⟩,
    ⟨(some 11), .alloc 24, none⟩,
    ⟨(some 12), .alloc 24, none⟩,
    ⟨(some 13), .alloc 24, none⟩,
    ⟨none, .store 24 (.tmp 11) (.tmp 26), none⟩,
    ⟨none, .store 24 (.tmp 12) (.tmp 29), none⟩,
    ⟨none, .store 24 (.tmp 13) (.tmp 32), none⟩]) c_sheaflaw1_WideOrder_17)
@[go_sem] theorem c_sheaflaw1_WideOrder_18_at (rd : Option Nat) (K : Post3) (t : Fr) (m : Mem) : wpM E 11 137 rd c_sheaflaw1_WideOrder_18 K t m = wpM E 11 137 rd (.seq (.ops [⟨(some 24), .move (.tmp 0), none⟩,
    ⟨(some 25), .move (.tmp 1), none⟩,
    ⟨(some 26), .call ⟨.value (.func 14), #[(.tmp 24), (.tmp 25)], #[3, 3]⟩, none⟩,
    ⟨(some 27), .move (.tmp 1), none⟩,
    ⟨(some 28), .move (.tmp 2), none⟩,
    ⟨(some 29), .call ⟨.value (.func 14), #[(.tmp 27), (.tmp 28)], #[3, 3]⟩, none⟩,
    ⟨(some 30), .move (.tmp 2), none⟩,
    ⟨(some 31), .move (.tmp 3), none⟩,
    ⟨(some 32), .call ⟨.value (.func 14), #[(.tmp 30), (.tmp 31)], #[3, 3]⟩, none⟩,
    ⟨(some 11), .alloc 24, none⟩,
    ⟨(some 12), .alloc 24, none⟩,
    ⟨(some 13), .alloc 24, none⟩,
    ⟨none, .store 24 (.tmp 11) (.tmp 26), none⟩,
    ⟨none, .store 24 (.tmp 12) (.tmp 29), none⟩,
    ⟨none, .store 24 (.tmp 13) (.tmp 32), none⟩]) c_sheaflaw1_WideOrder_17) K t m := rfl

def c_sheaflaw1_WideOrder_19 : MC := (.seq (.ops [⟨(some 19), .move (.tmp 0), none⟩,
    ⟨(some 20), .call ⟨.value (.func 17), #[(.tmp 19)], #[3]⟩, none⟩,
    ⟨(some 21), .call ⟨.value (.func 15), #[(.tmp 20)], #[24]⟩, none⟩,
    ⟨(some 18), .move (.tmp 21), none⟩,
    ⟨(some 22), .extract (.tmp 18) 0, none⟩,
    ⟨(some 23), .extract (.tmp 18) 1, none⟩,
    ⟨(some 9), .assign (.tmp 22), none⟩,
    ⟨(some 10), .assign (.tmp 23), none⟩]) c_sheaflaw1_WideOrder_18)
@[go_sem] theorem c_sheaflaw1_WideOrder_19_at (rd : Option Nat) (K : Post3) (t : Fr) (m : Mem) : wpM E 11 137 rd c_sheaflaw1_WideOrder_19 K t m = wpM E 11 137 rd (.seq (.ops [⟨(some 19), .move (.tmp 0), none⟩,
    ⟨(some 20), .call ⟨.value (.func 17), #[(.tmp 19)], #[3]⟩, none⟩,
    ⟨(some 21), .call ⟨.value (.func 15), #[(.tmp 20)], #[24]⟩, none⟩,
    ⟨(some 18), .move (.tmp 21), none⟩,
    ⟨(some 22), .extract (.tmp 18) 0, none⟩,
    ⟨(some 23), .extract (.tmp 18) 1, none⟩,
    ⟨(some 9), .assign (.tmp 22), none⟩,
    ⟨(some 10), .assign (.tmp 23), none⟩]) c_sheaflaw1_WideOrder_18) K t m := rfl

def c_sheaflaw1_WideOrder_20 : MC := (.seq (.ops [⟨(some 8), .assign (.const (.bool false)), none⟩]) c_sheaflaw1_WideOrder_19)
@[go_sem] theorem c_sheaflaw1_WideOrder_20_at (rd : Option Nat) (K : Post3) (t : Fr) (m : Mem) : wpM E 11 137 rd c_sheaflaw1_WideOrder_20 K t m = wpM E 11 137 rd (.seq (.ops [⟨(some 8), .assign (.const (.bool false)), none⟩]) c_sheaflaw1_WideOrder_19) K t m := rfl

@[go_sem] theorem some11 : (E.fn 11).isSome = true := by kernel_rfl
set_option maxRecDepth 100000 in
theorem fn_sheaflaw1_WideOrder : FnIs E 11 137 [.tmp 8] c_sheaflaw1_WideOrder_20 := ⟨by kernel_rfl, by kernel_rfl⟩

/-! sheaf/sheaflaw1.WideTells -/
abbrev F_sheaflaw1_WideTells : FuncId := 12
def c_sheaflaw1_WideTells_0 : MC := (.seq (.draw [(0, [], ⟨(some 57), .load 24 (.tmp 9), none⟩),
    (1, [], ⟨(some 58), .move (.tmp 0), none⟩),
    (2, [], ⟨(some 59), .move (.tmp 1), none⟩),
    (3, [0], ⟨(some 60), .call ⟨.value (.func 33), #[(.tmp 58), (.tmp 59)], #[3, 3]⟩, none⟩),
    (4, [], ⟨(some 61), .binOp .eql 24 (.tmp 57) (.tmp 60) 24, none⟩),
    (5, [], ⟨(some 62), .move (.tmp 61), none⟩),
    (6, [], ⟨(some 63), .move (.tmp 2), (some (some 62, true))⟩),
    (7, [], ⟨(some 64), .call ⟨.value (.func 17), #[(.tmp 63)], #[3]⟩, (some (some 62, true))⟩),
    (8, [], ⟨(some 65), .move (.tmp 2), (some (some 62, true))⟩),
    (9, [], ⟨(some 66), .call ⟨.value (.func 28), #[(.tmp 65)], #[3]⟩, (some (some 62, true))⟩),
    (10, [], ⟨(some 67), .binOp .eql 24 (.tmp 64) (.tmp 66) 24, (some (some 62, true))⟩),
    (11, [], ⟨(some 68), .pick (.tmp 62) (.tmp 67) (.const (.bool false)), none⟩),
    (12, [], ⟨(some 69), .move (.tmp 68), none⟩),
    (13, [], ⟨(some 70), .load 24 (.tmp 10), (some (some 69, true))⟩),
    (14, [], ⟨(some 71), .load 24 (.tmp 11), (some (some 69, true))⟩),
    (15, [], ⟨(some 72), .binOp .eql 24 (.tmp 70) (.tmp 71) 24, (some (some 69, true))⟩),
    (16, [], ⟨(some 73), .pick (.tmp 69) (.tmp 72) (.const (.bool false)), none⟩),
    (17, [], ⟨(some 74), .move (.tmp 73), none⟩),
    (18, [], ⟨(some 75), .move (.tmp 12), (some (some 74, true))⟩),
    (19, [], ⟨(some 76), .move (.tmp 14), (some (some 74, true))⟩),
    (20, [], ⟨(some 77), .binOp .eql 3 (.tmp 75) (.tmp 76) 3, (some (some 74, true))⟩),
    (21, [], ⟨(some 78), .pick (.tmp 74) (.tmp 77) (.const (.bool false)), none⟩),
    (22, [], ⟨(some 79), .move (.tmp 78), none⟩),
    (23, [], ⟨(some 80), .move (.tmp 13), (some (some 79, true))⟩),
    (24, [], ⟨(some 81), .move (.tmp 15), (some (some 79, true))⟩),
    (25, [], ⟨(some 82), .binOp .eql 4 (.tmp 80) (.tmp 81) 4, (some (some 79, true))⟩),
    (26, [], ⟨(some 83), .pick (.tmp 79) (.tmp 82) (.const (.bool false)), none⟩),
    (27, [], ⟨(some 84), .move (.tmp 83), none⟩),
    (28, [], ⟨(some 85), .move (.tmp 16), (some (some 84, true))⟩),
    (29, [], ⟨(some 86), .move (.tmp 18), (some (some 84, true))⟩),
    (30, [], ⟨(some 87), .binOp .eql 3 (.tmp 85) (.tmp 86) 3, (some (some 84, true))⟩),
    (31, [], ⟨(some 88), .pick (.tmp 84) (.tmp 87) (.const (.bool false)), none⟩),
    (32, [], ⟨(some 89), .move (.tmp 88), none⟩),
    (33, [], ⟨(some 90), .move (.tmp 17), (some (some 89, true))⟩),
    (34, [], ⟨(some 91), .move (.tmp 19), (some (some 89, true))⟩),
    (35, [], ⟨(some 92), .binOp .eql 4 (.tmp 90) (.tmp 91) 4, (some (some 89, true))⟩),
    (36, [], ⟨(some 93), .pick (.tmp 89) (.tmp 92) (.const (.bool false)), none⟩),
    (37, [], ⟨(some 94), .move (.tmp 93), none⟩),
    (38, [], ⟨(some 95), .load 24 (.tmp 9), (some (some 94, true))⟩),
    (39, [], ⟨(some 96), .load 24 (.tmp 10), (some (some 94, true))⟩),
    (41, [], ⟨(some 98), .load 24 (.tmp 9), (some (some 94, true))⟩),
    (42, [], ⟨(some 99), .load 24 (.tmp 11), (some (some 94, true))⟩),
    (40, [41, 42], ⟨(some 97), .call ⟨.value (.func 32), #[(.tmp 95), (.tmp 96)], #[24, 24]⟩, (some (some 94, true))⟩),
    (43, [], ⟨(some 100), .call ⟨.value (.func 35), #[(.tmp 98), (.tmp 99)], #[24, 24]⟩, (some (some 94, true))⟩),
    (44, [], ⟨(some 101), .binOp .eql 3 (.tmp 97) (.tmp 100) 3, (some (some 94, true))⟩),
    (45, [], ⟨(some 102), .pick (.tmp 94) (.tmp 101) (.const (.bool false)), none⟩),
    (46, [], ⟨(some 103), .move (.tmp 102), none⟩),
    (47, [], ⟨(some 104), .call ⟨.value (.func 3), #[], #[]⟩, (some (some 103, true))⟩),
    (48, [], ⟨(some 105), .pick (.tmp 103) (.tmp 104) (.const (.bool false)), none⟩),
    (49, [], ⟨(some 8), .assign (.tmp 105), none⟩)]) .ret)
@[go_sem] theorem c_sheaflaw1_WideTells_0_at (rd : Option Nat) (K : Post3) (t : Fr) (m : Mem) : wpM E 12 106 rd c_sheaflaw1_WideTells_0 K t m = wpM E 12 106 rd (.seq (.draw [(0, [], ⟨(some 57), .load 24 (.tmp 9), none⟩),
    (1, [], ⟨(some 58), .move (.tmp 0), none⟩),
    (2, [], ⟨(some 59), .move (.tmp 1), none⟩),
    (3, [0], ⟨(some 60), .call ⟨.value (.func 33), #[(.tmp 58), (.tmp 59)], #[3, 3]⟩, none⟩),
    (4, [], ⟨(some 61), .binOp .eql 24 (.tmp 57) (.tmp 60) 24, none⟩),
    (5, [], ⟨(some 62), .move (.tmp 61), none⟩),
    (6, [], ⟨(some 63), .move (.tmp 2), (some (some 62, true))⟩),
    (7, [], ⟨(some 64), .call ⟨.value (.func 17), #[(.tmp 63)], #[3]⟩, (some (some 62, true))⟩),
    (8, [], ⟨(some 65), .move (.tmp 2), (some (some 62, true))⟩),
    (9, [], ⟨(some 66), .call ⟨.value (.func 28), #[(.tmp 65)], #[3]⟩, (some (some 62, true))⟩),
    (10, [], ⟨(some 67), .binOp .eql 24 (.tmp 64) (.tmp 66) 24, (some (some 62, true))⟩),
    (11, [], ⟨(some 68), .pick (.tmp 62) (.tmp 67) (.const (.bool false)), none⟩),
    (12, [], ⟨(some 69), .move (.tmp 68), none⟩),
    (13, [], ⟨(some 70), .load 24 (.tmp 10), (some (some 69, true))⟩),
    (14, [], ⟨(some 71), .load 24 (.tmp 11), (some (some 69, true))⟩),
    (15, [], ⟨(some 72), .binOp .eql 24 (.tmp 70) (.tmp 71) 24, (some (some 69, true))⟩),
    (16, [], ⟨(some 73), .pick (.tmp 69) (.tmp 72) (.const (.bool false)), none⟩),
    (17, [], ⟨(some 74), .move (.tmp 73), none⟩),
    (18, [], ⟨(some 75), .move (.tmp 12), (some (some 74, true))⟩),
    (19, [], ⟨(some 76), .move (.tmp 14), (some (some 74, true))⟩),
    (20, [], ⟨(some 77), .binOp .eql 3 (.tmp 75) (.tmp 76) 3, (some (some 74, true))⟩),
    (21, [], ⟨(some 78), .pick (.tmp 74) (.tmp 77) (.const (.bool false)), none⟩),
    (22, [], ⟨(some 79), .move (.tmp 78), none⟩),
    (23, [], ⟨(some 80), .move (.tmp 13), (some (some 79, true))⟩),
    (24, [], ⟨(some 81), .move (.tmp 15), (some (some 79, true))⟩),
    (25, [], ⟨(some 82), .binOp .eql 4 (.tmp 80) (.tmp 81) 4, (some (some 79, true))⟩),
    (26, [], ⟨(some 83), .pick (.tmp 79) (.tmp 82) (.const (.bool false)), none⟩),
    (27, [], ⟨(some 84), .move (.tmp 83), none⟩),
    (28, [], ⟨(some 85), .move (.tmp 16), (some (some 84, true))⟩),
    (29, [], ⟨(some 86), .move (.tmp 18), (some (some 84, true))⟩),
    (30, [], ⟨(some 87), .binOp .eql 3 (.tmp 85) (.tmp 86) 3, (some (some 84, true))⟩),
    (31, [], ⟨(some 88), .pick (.tmp 84) (.tmp 87) (.const (.bool false)), none⟩),
    (32, [], ⟨(some 89), .move (.tmp 88), none⟩),
    (33, [], ⟨(some 90), .move (.tmp 17), (some (some 89, true))⟩),
    (34, [], ⟨(some 91), .move (.tmp 19), (some (some 89, true))⟩),
    (35, [], ⟨(some 92), .binOp .eql 4 (.tmp 90) (.tmp 91) 4, (some (some 89, true))⟩),
    (36, [], ⟨(some 93), .pick (.tmp 89) (.tmp 92) (.const (.bool false)), none⟩),
    (37, [], ⟨(some 94), .move (.tmp 93), none⟩),
    (38, [], ⟨(some 95), .load 24 (.tmp 9), (some (some 94, true))⟩),
    (39, [], ⟨(some 96), .load 24 (.tmp 10), (some (some 94, true))⟩),
    (41, [], ⟨(some 98), .load 24 (.tmp 9), (some (some 94, true))⟩),
    (42, [], ⟨(some 99), .load 24 (.tmp 11), (some (some 94, true))⟩),
    (40, [41, 42], ⟨(some 97), .call ⟨.value (.func 32), #[(.tmp 95), (.tmp 96)], #[24, 24]⟩, (some (some 94, true))⟩),
    (43, [], ⟨(some 100), .call ⟨.value (.func 35), #[(.tmp 98), (.tmp 99)], #[24, 24]⟩, (some (some 94, true))⟩),
    (44, [], ⟨(some 101), .binOp .eql 3 (.tmp 97) (.tmp 100) 3, (some (some 94, true))⟩),
    (45, [], ⟨(some 102), .pick (.tmp 94) (.tmp 101) (.const (.bool false)), none⟩),
    (46, [], ⟨(some 103), .move (.tmp 102), none⟩),
    (47, [], ⟨(some 104), .call ⟨.value (.func 3), #[], #[]⟩, (some (some 103, true))⟩),
    (48, [], ⟨(some 105), .pick (.tmp 103) (.tmp 104) (.const (.bool false)), none⟩),
    (49, [], ⟨(some 8), .assign (.tmp 105), none⟩)]) .ret) K t m := rfl

def c_sheaflaw1_WideTells_1 : MC := (.seq (.ops [⟨(some 52), .load 24 (.tmp 11), none⟩,
    ⟨(some 53), .move (.tmp 3), none⟩,
    ⟨(some 54), .call ⟨.value (.func 34), #[(.tmp 52), (.tmp 53)], #[24, 3]⟩, none⟩,
    ⟨(some 51), .move (.tmp 54), none⟩,
    ⟨(some 55), .extract (.tmp 51) 0, none⟩,
    ⟨(some 56), .extract (.tmp 51) 1, none⟩,
    ⟨(some 18), .assign (.tmp 55), none⟩,
    ⟨(some 19), .assign (.tmp 56), none⟩]) c_sheaflaw1_WideTells_0)
@[go_sem] theorem c_sheaflaw1_WideTells_1_at (rd : Option Nat) (K : Post3) (t : Fr) (m : Mem) : wpM E 12 106 rd c_sheaflaw1_WideTells_1 K t m = wpM E 12 106 rd (.seq (.ops [⟨(some 52), .load 24 (.tmp 11), none⟩,
    ⟨(some 53), .move (.tmp 3), none⟩,
    ⟨(some 54), .call ⟨.value (.func 34), #[(.tmp 52), (.tmp 53)], #[24, 3]⟩, none⟩,
    ⟨(some 51), .move (.tmp 54), none⟩,
    ⟨(some 55), .extract (.tmp 51) 0, none⟩,
    ⟨(some 56), .extract (.tmp 51) 1, none⟩,
    ⟨(some 18), .assign (.tmp 55), none⟩,
    ⟨(some 19), .assign (.tmp 56), none⟩]) c_sheaflaw1_WideTells_0) K t m := rfl

def c_sheaflaw1_WideTells_2 : MC := (.seq (.ops [⟨(some 46), .load 24 (.tmp 10), none⟩,
    ⟨(some 47), .move (.tmp 3), none⟩,
    ⟨(some 48), .call ⟨.value (.func 16), #[(.tmp 46), (.tmp 47)], #[24, 3]⟩, none⟩,
    ⟨(some 45), .move (.tmp 48), none⟩,
    ⟨(some 49), .extract (.tmp 45) 0, none⟩,
    ⟨(some 50), .extract (.tmp 45) 1, none⟩,
    ⟨(some 16), .assign (.tmp 49), none⟩,
    ⟨(some 17), .assign (.tmp 50), none⟩]) c_sheaflaw1_WideTells_1)
@[go_sem] theorem c_sheaflaw1_WideTells_2_at (rd : Option Nat) (K : Post3) (t : Fr) (m : Mem) : wpM E 12 106 rd c_sheaflaw1_WideTells_2 K t m = wpM E 12 106 rd (.seq (.ops [⟨(some 46), .load 24 (.tmp 10), none⟩,
    ⟨(some 47), .move (.tmp 3), none⟩,
    ⟨(some 48), .call ⟨.value (.func 16), #[(.tmp 46), (.tmp 47)], #[24, 3]⟩, none⟩,
    ⟨(some 45), .move (.tmp 48), none⟩,
    ⟨(some 49), .extract (.tmp 45) 0, none⟩,
    ⟨(some 50), .extract (.tmp 45) 1, none⟩,
    ⟨(some 16), .assign (.tmp 49), none⟩,
    ⟨(some 17), .assign (.tmp 50), none⟩]) c_sheaflaw1_WideTells_1) K t m := rfl

def c_sheaflaw1_WideTells_3 : MC := (.seq (.ops [⟨(some 41), .load 24 (.tmp 11), none⟩,
    ⟨(some 42), .call ⟨.value (.func 29), #[(.tmp 41)], #[24]⟩, none⟩,
    ⟨(some 40), .move (.tmp 42), none⟩,
    ⟨(some 43), .extract (.tmp 40) 0, none⟩,
    ⟨(some 44), .extract (.tmp 40) 1, none⟩,
    ⟨(some 14), .assign (.tmp 43), none⟩,
    ⟨(some 15), .assign (.tmp 44), none⟩]) c_sheaflaw1_WideTells_2)
@[go_sem] theorem c_sheaflaw1_WideTells_3_at (rd : Option Nat) (K : Post3) (t : Fr) (m : Mem) : wpM E 12 106 rd c_sheaflaw1_WideTells_3 K t m = wpM E 12 106 rd (.seq (.ops [⟨(some 41), .load 24 (.tmp 11), none⟩,
    ⟨(some 42), .call ⟨.value (.func 29), #[(.tmp 41)], #[24]⟩, none⟩,
    ⟨(some 40), .move (.tmp 42), none⟩,
    ⟨(some 43), .extract (.tmp 40) 0, none⟩,
    ⟨(some 44), .extract (.tmp 40) 1, none⟩,
    ⟨(some 14), .assign (.tmp 43), none⟩,
    ⟨(some 15), .assign (.tmp 44), none⟩]) c_sheaflaw1_WideTells_2) K t m := rfl

def c_sheaflaw1_WideTells_4 : MC := (.seq (.ops [⟨(some 36), .load 24 (.tmp 10), none⟩,
    ⟨(some 37), .call ⟨.value (.func 15), #[(.tmp 36)], #[24]⟩, none⟩,
    ⟨(some 35), .move (.tmp 37), none⟩,
    ⟨(some 38), .extract (.tmp 35) 0, none⟩,
    ⟨(some 39), .extract (.tmp 35) 1, none⟩,
    ⟨(some 12), .assign (.tmp 38), none⟩,
    ⟨(some 13), .assign (.tmp 39), none⟩]) c_sheaflaw1_WideTells_3)
@[go_sem] theorem c_sheaflaw1_WideTells_4_at (rd : Option Nat) (K : Post3) (t : Fr) (m : Mem) : wpM E 12 106 rd c_sheaflaw1_WideTells_4 K t m = wpM E 12 106 rd (.seq (.ops [⟨(some 36), .load 24 (.tmp 10), none⟩,
    ⟨(some 37), .call ⟨.value (.func 15), #[(.tmp 36)], #[24]⟩, none⟩,
    ⟨(some 35), .move (.tmp 37), none⟩,
    ⟨(some 38), .extract (.tmp 35) 0, none⟩,
    ⟨(some 39), .extract (.tmp 35) 1, none⟩,
    ⟨(some 12), .assign (.tmp 38), none⟩,
    ⟨(some 13), .assign (.tmp 39), none⟩]) c_sheaflaw1_WideTells_3) K t m := rfl

def c_sheaflaw1_WideTells_5 : MC := (.seq (.ops [⟨(some 29), .move (.tmp 0), none⟩,
    ⟨(some 30), .move (.tmp 1), none⟩,
    ⟨(some 31), .call ⟨.value (.func 33), #[(.tmp 29), (.tmp 30)], #[3, 3]⟩, none⟩,
    ⟨(some 32), .move (.tmp 2), none⟩,
    ⟨(some 33), .call ⟨.value (.func 28), #[(.tmp 32)], #[3]⟩, none⟩,
    ⟨(some 34), .call ⟨.value (.func 27), #[(.tmp 31), (.tmp 33)], #[24, 24]⟩, none⟩,
    ⟨(some 11), .alloc 24, none⟩,
    ⟨none, .store 24 (.tmp 11) (.tmp 34), none⟩]) c_sheaflaw1_WideTells_4)
@[go_sem] theorem c_sheaflaw1_WideTells_5_at (rd : Option Nat) (K : Post3) (t : Fr) (m : Mem) : wpM E 12 106 rd c_sheaflaw1_WideTells_5 K t m = wpM E 12 106 rd (.seq (.ops [⟨(some 29), .move (.tmp 0), none⟩,
    ⟨(some 30), .move (.tmp 1), none⟩,
    ⟨(some 31), .call ⟨.value (.func 33), #[(.tmp 29), (.tmp 30)], #[3, 3]⟩, none⟩,
    ⟨(some 32), .move (.tmp 2), none⟩,
    ⟨(some 33), .call ⟨.value (.func 28), #[(.tmp 32)], #[3]⟩, none⟩,
    ⟨(some 34), .call ⟨.value (.func 27), #[(.tmp 31), (.tmp 33)], #[24, 24]⟩, none⟩,
    ⟨(some 11), .alloc 24, none⟩,
    ⟨none, .store 24 (.tmp 11) (.tmp 34), none⟩]) c_sheaflaw1_WideTells_4) K t m := rfl

def c_sheaflaw1_WideTells_6 : MC := (.seq (.ops [⟨(some 20), .move (.tmp 0), none⟩,
    ⟨(some 21), .move (.tmp 1), none⟩,
    ⟨(some 22), .call ⟨.value (.func 14), #[(.tmp 20), (.tmp 21)], #[3, 3]⟩, none⟩,
    ⟨(some 23), .move (.tmp 0), none⟩,
    ⟨(some 24), .move (.tmp 1), none⟩,
    ⟨(some 25), .call ⟨.value (.func 14), #[(.tmp 23), (.tmp 24)], #[3, 3]⟩, none⟩,
    ⟨(some 26), .move (.tmp 2), none⟩,
    ⟨(some 27), .call ⟨.value (.func 17), #[(.tmp 26)], #[3]⟩, none⟩,
    ⟨(some 28), .call ⟨.value (.func 20), #[(.tmp 25), (.tmp 27)], #[24, 24]⟩, none⟩,
    ⟨(some 9), .alloc 24, none⟩,
    ⟨(some 10), .alloc 24, none⟩,
    ⟨none, .store 24 (.tmp 9) (.tmp 22), none⟩,
    ⟨none, .store 24 (.tmp 10) (.tmp 28), none⟩]) c_sheaflaw1_WideTells_5)
@[go_sem] theorem c_sheaflaw1_WideTells_6_at (rd : Option Nat) (K : Post3) (t : Fr) (m : Mem) : wpM E 12 106 rd c_sheaflaw1_WideTells_6 K t m = wpM E 12 106 rd (.seq (.ops [⟨(some 20), .move (.tmp 0), none⟩,
    ⟨(some 21), .move (.tmp 1), none⟩,
    ⟨(some 22), .call ⟨.value (.func 14), #[(.tmp 20), (.tmp 21)], #[3, 3]⟩, none⟩,
    ⟨(some 23), .move (.tmp 0), none⟩,
    ⟨(some 24), .move (.tmp 1), none⟩,
    ⟨(some 25), .call ⟨.value (.func 14), #[(.tmp 23), (.tmp 24)], #[3, 3]⟩, none⟩,
    ⟨(some 26), .move (.tmp 2), none⟩,
    ⟨(some 27), .call ⟨.value (.func 17), #[(.tmp 26)], #[3]⟩, none⟩,
    ⟨(some 28), .call ⟨.value (.func 20), #[(.tmp 25), (.tmp 27)], #[24, 24]⟩, none⟩,
    ⟨(some 9), .alloc 24, none⟩,
    ⟨(some 10), .alloc 24, none⟩,
    ⟨none, .store 24 (.tmp 9) (.tmp 22), none⟩,
    ⟨none, .store 24 (.tmp 10) (.tmp 28), none⟩]) c_sheaflaw1_WideTells_5) K t m := rfl

def c_sheaflaw1_WideTells_7 : MC := (.seq (.ops [⟨(some 8), .assign (.const (.bool false)), none⟩]) c_sheaflaw1_WideTells_6)
@[go_sem] theorem c_sheaflaw1_WideTells_7_at (rd : Option Nat) (K : Post3) (t : Fr) (m : Mem) : wpM E 12 106 rd c_sheaflaw1_WideTells_7 K t m = wpM E 12 106 rd (.seq (.ops [⟨(some 8), .assign (.const (.bool false)), none⟩]) c_sheaflaw1_WideTells_6) K t m := rfl

@[go_sem] theorem some12 : (E.fn 12).isSome = true := by kernel_rfl
set_option maxRecDepth 100000 in
theorem fn_sheaflaw1_WideTells : FnIs E 12 106 [.tmp 8] c_sheaflaw1_WideTells_7 := ⟨by kernel_rfl, by kernel_rfl⟩

/-! sheaf/sheaflaw1.WideNearest -/
abbrev F_sheaflaw1_WideNearest : FuncId := 13
def c_sheaflaw1_WideNearest_0 : MC := (.seq (.ops [⟨(some 6), .assign (.const (.bool false)), none⟩]) .ret)
@[go_sem] theorem c_sheaflaw1_WideNearest_0_at (rd : Option Nat) (K : Post3) (t : Fr) (m : Mem) : wpM E 13 127 rd c_sheaflaw1_WideNearest_0 K t m = wpM E 13 127 rd (.seq (.ops [⟨(some 6), .assign (.const (.bool false)), none⟩]) .ret) K t m := rfl

def c_sheaflaw1_WideNearest_1 : MC := (.cond (.tmp 59) c_sheaflaw1_WideNearest_0 .skip)
@[go_sem] theorem c_sheaflaw1_WideNearest_1_at (rd : Option Nat) (K : Post3) (t : Fr) (m : Mem) : wpM E 13 127 rd c_sheaflaw1_WideNearest_1 K t m = wpM E 13 127 rd (.cond (.tmp 59) c_sheaflaw1_WideNearest_0 .skip) K t m := rfl

def c_sheaflaw1_WideNearest_2 : MC := (.seq (.ops [⟨(some 48), .move (.tmp 12), none⟩,
    ⟨(some 49), .unOp .not 4 (.tmp 48), none⟩,
    ⟨(some 50), .move (.tmp 49), none⟩,
    ⟨(some 51), .move (.tmp 14), (some (some 50, false))⟩,
    ⟨(some 52), .unOp .not 4 (.tmp 51), (some (some 50, false))⟩,
    ⟨(some 53), .pick (.tmp 50) (.const (.bool true)) (.tmp 52), none⟩,
    ⟨(some 54), .move (.tmp 53), none⟩,
    ⟨(some 55), .move (.tmp 13), (some (some 54, false))⟩,
    ⟨(some 56), .move (.tmp 11), (some (some 54, false))⟩,
    ⟨(some 57), .unOp .neg 3 (.tmp 56), (some (some 54, false))⟩,
    ⟨(some 58), .binOp .neq 3 (.tmp 55) (.tmp 57) 3, (some (some 54, false))⟩,
    ⟨(some 59), .pick (.tmp 54) (.const (.bool true)) (.tmp 58), none⟩]) c_sheaflaw1_WideNearest_1)
@[go_sem] theorem c_sheaflaw1_WideNearest_2_at (rd : Option Nat) (K : Post3) (t : Fr) (m : Mem) : wpM E 13 127 rd c_sheaflaw1_WideNearest_2 K t m = wpM E 13 127 rd (.seq (.ops [⟨(some 48), .move (.tmp 12), none⟩,
    ⟨(some 49), .unOp .not 4 (.tmp 48), none⟩,
    ⟨(some 50), .move (.tmp 49), none⟩,
    ⟨(some 51), .move (.tmp 14), (some (some 50, false))⟩,
    ⟨(some 52), .unOp .not 4 (.tmp 51), (some (some 50, false))⟩,
    ⟨(some 53), .pick (.tmp 50) (.const (.bool true)) (.tmp 52), none⟩,
    ⟨(some 54), .move (.tmp 53), none⟩,
    ⟨(some 55), .move (.tmp 13), (some (some 54, false))⟩,
    ⟨(some 56), .move (.tmp 11), (some (some 54, false))⟩,
    ⟨(some 57), .unOp .neg 3 (.tmp 56), (some (some 54, false))⟩,
    ⟨(some 58), .binOp .neq 3 (.tmp 55) (.tmp 57) 3, (some (some 54, false))⟩,
    ⟨(some 59), .pick (.tmp 54) (.const (.bool true)) (.tmp 58), none⟩]) c_sheaflaw1_WideNearest_1) K t m := rfl

def c_sheaflaw1_WideNearest_3 : MC := (.seq (.ops [⟨(some 6), .assign (.const (.bool false)), none⟩]) .ret)
@[go_sem] theorem c_sheaflaw1_WideNearest_3_at (rd : Option Nat) (K : Post3) (t : Fr) (m : Mem) : wpM E 13 127 rd c_sheaflaw1_WideNearest_3 K t m = wpM E 13 127 rd (.seq (.ops [⟨(some 6), .assign (.const (.bool false)), none⟩]) .ret) K t m := rfl

def c_sheaflaw1_WideNearest_4 : MC := (.cond (.tmp 95) c_sheaflaw1_WideNearest_3 .skip)
@[go_sem] theorem c_sheaflaw1_WideNearest_4_at (rd : Option Nat) (K : Post3) (t : Fr) (m : Mem) : wpM E 13 127 rd c_sheaflaw1_WideNearest_4 K t m = wpM E 13 127 rd (.cond (.tmp 95) c_sheaflaw1_WideNearest_3 .skip) K t m := rfl

def c_sheaflaw1_WideNearest_5 : MC := (.seq (.ops [⟨(some 77), .move (.tmp 16), none⟩,
    ⟨(some 78), .binOp .lss 3 (.tmp 77) (.const (.int .i64 0)) 3, none⟩,
    ⟨(some 79), .move (.tmp 78), none⟩,
    ⟨(some 80), .move (.tmp 17), (some (some 79, false))⟩,
    ⟨(some 81), .binOp .gtr 3 (.tmp 80) (.const (.int .i64 0)) 3, (some (some 79, false))⟩,
    ⟨(some 82), .pick (.tmp 79) (.const (.bool true)) (.tmp 81), none⟩,
    ⟨(some 83), .move (.tmp 82), none⟩,
    ⟨(some 84), .move (.tmp 16), (some (some 83, false))⟩,
    ⟨(some 85), .binOp .eql 3 (.tmp 84) (.const (.int .i64 0)) 3, (some (some 83, false))⟩,
    ⟨(some 86), .move (.tmp 85), (some (some 83, false))⟩,
    ⟨(some 87), .move (.tmp 17), (some (some 86, false))⟩,
    ⟨(some 88), .binOp .eql 3 (.tmp 87) (.const (.int .i64 0)) 3, (some (some 86, false))⟩,
    ⟨(some 89), .pick (.tmp 86) (.const (.bool true)) (.tmp 88), (some (some 83, false))⟩,
    ⟨(some 90), .move (.tmp 89), (some (some 83, false))⟩,
    ⟨(some 91), .move (.tmp 11), (some (some 90, true))⟩,
    ⟨(some 92), .binOp .and 3 (.tmp 91) (.const (.int .i64 1)) 3, (some (some 90, true))⟩,
    ⟨(some 93), .binOp .neq 3 (.tmp 92) (.const (.int .i64 0)) 3, (some (some 90, true))⟩,
    ⟨(some 94), .pick (.tmp 90) (.tmp 93) (.const (.bool false)), (some (some 83, false))⟩,
    ⟨(some 95), .pick (.tmp 83) (.const (.bool true)) (.tmp 94), none⟩]) c_sheaflaw1_WideNearest_4)
@[go_sem] theorem c_sheaflaw1_WideNearest_5_at (rd : Option Nat) (K : Post3) (t : Fr) (m : Mem) : wpM E 13 127 rd c_sheaflaw1_WideNearest_5 K t m = wpM E 13 127 rd (.seq (.ops [⟨(some 77), .move (.tmp 16), none⟩,
    ⟨(some 78), .binOp .lss 3 (.tmp 77) (.const (.int .i64 0)) 3, none⟩,
    ⟨(some 79), .move (.tmp 78), none⟩,
    ⟨(some 80), .move (.tmp 17), (some (some 79, false))⟩,
    ⟨(some 81), .binOp .gtr 3 (.tmp 80) (.const (.int .i64 0)) 3, (some (some 79, false))⟩,
    ⟨(some 82), .pick (.tmp 79) (.const (.bool true)) (.tmp 81), none⟩,
    ⟨(some 83), .move (.tmp 82), none⟩,
    ⟨(some 84), .move (.tmp 16), (some (some 83, false))⟩,
    ⟨(some 85), .binOp .eql 3 (.tmp 84) (.const (.int .i64 0)) 3, (some (some 83, false))⟩,
    ⟨(some 86), .move (.tmp 85), (some (some 83, false))⟩,
    ⟨(some 87), .move (.tmp 17), (some (some 86, false))⟩,
    ⟨(some 88), .binOp .eql 3 (.tmp 87) (.const (.int .i64 0)) 3, (some (some 86, false))⟩,
    ⟨(some 89), .pick (.tmp 86) (.const (.bool true)) (.tmp 88), (some (some 83, false))⟩,
    ⟨(some 90), .move (.tmp 89), (some (some 83, false))⟩,
    ⟨(some 91), .move (.tmp 11), (some (some 90, true))⟩,
    ⟨(some 92), .binOp .and 3 (.tmp 91) (.const (.int .i64 1)) 3, (some (some 90, true))⟩,
    ⟨(some 93), .binOp .neq 3 (.tmp 92) (.const (.int .i64 0)) 3, (some (some 90, true))⟩,
    ⟨(some 94), .pick (.tmp 90) (.tmp 93) (.const (.bool false)), (some (some 83, false))⟩,
    ⟨(some 95), .pick (.tmp 83) (.const (.bool true)) (.tmp 94), none⟩]) c_sheaflaw1_WideNearest_4) K t m := rfl

def c_sheaflaw1_WideNearest_6 : MC := (.seq (.ops [⟨(some 114), .move (.tmp 19), none⟩,
    ⟨(some 115), .unOp .not 4 (.tmp 114), none⟩,
    ⟨(some 116), .move (.tmp 115), none⟩,
    ⟨(some 117), .move (.tmp 21), (some (some 116, true))⟩,
    ⟨(some 118), .unOp .not 4 (.tmp 117), (some (some 116, true))⟩,
    ⟨(some 119), .pick (.tmp 116) (.tmp 118) (.const (.bool false)), none⟩,
    ⟨(some 120), .move (.tmp 119), none⟩,
    ⟨(some 121), .move (.tmp 23), (some (some 120, true))⟩,
    ⟨(some 122), .unOp .not 4 (.tmp 121), (some (some 120, true))⟩,
    ⟨(some 123), .pick (.tmp 120) (.tmp 122) (.const (.bool false)), none⟩,
    ⟨(some 124), .move (.tmp 123), none⟩,
    ⟨(some 125), .call ⟨.value (.func 3), #[], #[]⟩, (some (some 124, true))⟩,
    ⟨(some 126), .pick (.tmp 124) (.tmp 125) (.const (.bool false)), none⟩,
    ⟨(some 6), .assign (.tmp 126), none⟩]) .ret)
@[go_sem] theorem c_sheaflaw1_WideNearest_6_at (rd : Option Nat) (K : Post3) (t : Fr) (m : Mem) : wpM E 13 127 rd c_sheaflaw1_WideNearest_6 K t m = wpM E 13 127 rd (.seq (.ops [⟨(some 114), .move (.tmp 19), none⟩,
    ⟨(some 115), .unOp .not 4 (.tmp 114), none⟩,
    ⟨(some 116), .move (.tmp 115), none⟩,
    ⟨(some 117), .move (.tmp 21), (some (some 116, true))⟩,
    ⟨(some 118), .unOp .not 4 (.tmp 117), (some (some 116, true))⟩,
    ⟨(some 119), .pick (.tmp 116) (.tmp 118) (.const (.bool false)), none⟩,
    ⟨(some 120), .move (.tmp 119), none⟩,
    ⟨(some 121), .move (.tmp 23), (some (some 120, true))⟩,
    ⟨(some 122), .unOp .not 4 (.tmp 121), (some (some 120, true))⟩,
    ⟨(some 123), .pick (.tmp 120) (.tmp 122) (.const (.bool false)), none⟩,
    ⟨(some 124), .move (.tmp 123), none⟩,
    ⟨(some 125), .call ⟨.value (.func 3), #[], #[]⟩, (some (some 124, true))⟩,
    ⟨(some 126), .pick (.tmp 124) (.tmp 125) (.const (.bool false)), none⟩,
    ⟨(some 6), .assign (.tmp 126), none⟩]) .ret) K t m := rfl

def c_sheaflaw1_WideNearest_7 : MC := (.seq (.ops [⟨(some 109), .call ⟨.value (.func 14), #[(.const (.int .i64 4611686018427387904)), (.const (.int .i64 4611686018427387904))], #[3, 3]⟩, none⟩,
    ⟨(some 110), .move (.tmp 9), none⟩,
    ⟨(some 111), .call ⟨.value (.func 16), #[(.tmp 109), (.tmp 110)], #[24, 3]⟩, none⟩,
    ⟨(some 108), .move (.tmp 111), none⟩,
    ⟨(some 112), .extract (.tmp 108) 0, none⟩,
    ⟨(some 113), .extract (.tmp 108) 1, none⟩,
    ⟨(some 22), .assign (.tmp 112), none⟩,
    ⟨(some 23), .assign (.tmp 113), none⟩]) c_sheaflaw1_WideNearest_6)
@[go_sem] theorem c_sheaflaw1_WideNearest_7_at (rd : Option Nat) (K : Post3) (t : Fr) (m : Mem) : wpM E 13 127 rd c_sheaflaw1_WideNearest_7 K t m = wpM E 13 127 rd (.seq (.ops [⟨(some 109), .call ⟨.value (.func 14), #[(.const (.int .i64 4611686018427387904)), (.const (.int .i64 4611686018427387904))], #[3, 3]⟩, none⟩,
    ⟨(some 110), .move (.tmp 9), none⟩,
    ⟨(some 111), .call ⟨.value (.func 16), #[(.tmp 109), (.tmp 110)], #[24, 3]⟩, none⟩,
    ⟨(some 108), .move (.tmp 111), none⟩,
    ⟨(some 112), .extract (.tmp 108) 0, none⟩,
    ⟨(some 113), .extract (.tmp 108) 1, none⟩,
    ⟨(some 22), .assign (.tmp 112), none⟩,
    ⟨(some 23), .assign (.tmp 113), none⟩]) c_sheaflaw1_WideNearest_6) K t m := rfl

def c_sheaflaw1_WideNearest_8 : MC := (.seq (.ops [⟨(some 102), .load 24 (.tmp 10), none⟩,
    ⟨(some 103), .move (.tmp 9), none⟩,
    ⟨(some 104), .unOp .neg 3 (.tmp 103), none⟩,
    ⟨(some 105), .call ⟨.value (.func 16), #[(.tmp 102), (.tmp 104)], #[24, 3]⟩, none⟩,
    ⟨(some 101), .move (.tmp 105), none⟩,
    ⟨(some 106), .extract (.tmp 101) 0, none⟩,
    ⟨(some 107), .extract (.tmp 101) 1, none⟩,
    ⟨(some 20), .assign (.tmp 106), none⟩,
    ⟨(some 21), .assign (.tmp 107), none⟩]) c_sheaflaw1_WideNearest_7)
@[go_sem] theorem c_sheaflaw1_WideNearest_8_at (rd : Option Nat) (K : Post3) (t : Fr) (m : Mem) : wpM E 13 127 rd c_sheaflaw1_WideNearest_8 K t m = wpM E 13 127 rd (.seq (.ops [⟨(some 102), .load 24 (.tmp 10), none⟩,
    ⟨(some 103), .move (.tmp 9), none⟩,
    ⟨(some 104), .unOp .neg 3 (.tmp 103), none⟩,
    ⟨(some 105), .call ⟨.value (.func 16), #[(.tmp 102), (.tmp 104)], #[24, 3]⟩, none⟩,
    ⟨(some 101), .move (.tmp 105), none⟩,
    ⟨(some 106), .extract (.tmp 101) 0, none⟩,
    ⟨(some 107), .extract (.tmp 101) 1, none⟩,
    ⟨(some 20), .assign (.tmp 106), none⟩,
    ⟨(some 21), .assign (.tmp 107), none⟩]) c_sheaflaw1_WideNearest_7) K t m := rfl

def c_sheaflaw1_WideNearest_9 : MC := (.seq (.ops [⟨(some 97), .load 24 (.tmp 10), none⟩,
    ⟨(some 98), .call ⟨.value (.func 16), #[(.tmp 97), (.const (.int .i64 0))], #[24, 3]⟩, none⟩,
    ⟨(some 96), .move (.tmp 98), none⟩,
    ⟨(some 99), .extract (.tmp 96) 0, none⟩,
    ⟨(some 100), .extract (.tmp 96) 1, none⟩,
    ⟨(some 18), .assign (.tmp 99), none⟩,
    ⟨(some 19), .assign (.tmp 100), none⟩]) c_sheaflaw1_WideNearest_8)
@[go_sem] theorem c_sheaflaw1_WideNearest_9_at (rd : Option Nat) (K : Post3) (t : Fr) (m : Mem) : wpM E 13 127 rd c_sheaflaw1_WideNearest_9 K t m = wpM E 13 127 rd (.seq (.ops [⟨(some 97), .load 24 (.tmp 10), none⟩,
    ⟨(some 98), .call ⟨.value (.func 16), #[(.tmp 97), (.const (.int .i64 0))], #[24, 3]⟩, none⟩,
    ⟨(some 96), .move (.tmp 98), none⟩,
    ⟨(some 99), .extract (.tmp 96) 0, none⟩,
    ⟨(some 100), .extract (.tmp 96) 1, none⟩,
    ⟨(some 18), .assign (.tmp 99), none⟩,
    ⟨(some 19), .assign (.tmp 100), none⟩]) c_sheaflaw1_WideNearest_8) K t m := rfl

def c_sheaflaw1_WideNearest_10 : MC := (.seq c_sheaflaw1_WideNearest_5 c_sheaflaw1_WideNearest_9)
@[go_sem] theorem c_sheaflaw1_WideNearest_10_at (rd : Option Nat) (K : Post3) (t : Fr) (m : Mem) : wpM E 13 127 rd c_sheaflaw1_WideNearest_10 K t m = wpM E 13 127 rd (.seq c_sheaflaw1_WideNearest_5 c_sheaflaw1_WideNearest_9) K t m := rfl

def c_sheaflaw1_WideNearest_11 : MC := (.seq (.draw [(0, [], ⟨(some 68), .load 24 (.tmp 15), none⟩),
    (1, [], ⟨(some 69), .move (.tmp 9), none⟩),
    (2, [], ⟨(some 70), .unOp .neg 3 (.tmp 69), none⟩),
    (5, [], ⟨(some 73), .load 24 (.tmp 15), none⟩),
    (3, [0, 5], ⟨(some 71), .call ⟨.value (.func 17), #[(.tmp 70)], #[3]⟩, none⟩),
    (4, [5], ⟨(some 72), .call ⟨.value (.func 32), #[(.tmp 68), (.tmp 71)], #[24, 24]⟩, none⟩),
    (6, [], ⟨(some 74), .move (.tmp 9), none⟩),
    (7, [5], ⟨(some 75), .call ⟨.value (.func 17), #[(.tmp 74)], #[3]⟩, none⟩),
    (8, [], ⟨(some 76), .call ⟨.value (.func 32), #[(.tmp 73), (.tmp 75)], #[24, 24]⟩, none⟩),
    (9, [], ⟨(some 16), .assign (.tmp 72), none⟩),
    (10, [], ⟨(some 17), .assign (.tmp 76), none⟩)]) c_sheaflaw1_WideNearest_10)
@[go_sem] theorem c_sheaflaw1_WideNearest_11_at (rd : Option Nat) (K : Post3) (t : Fr) (m : Mem) : wpM E 13 127 rd c_sheaflaw1_WideNearest_11 K t m = wpM E 13 127 rd (.seq (.draw [(0, [], ⟨(some 68), .load 24 (.tmp 15), none⟩),
    (1, [], ⟨(some 69), .move (.tmp 9), none⟩),
    (2, [], ⟨(some 70), .unOp .neg 3 (.tmp 69), none⟩),
    (5, [], ⟨(some 73), .load 24 (.tmp 15), none⟩),
    (3, [0, 5], ⟨(some 71), .call ⟨.value (.func 17), #[(.tmp 70)], #[3]⟩, none⟩),
    (4, [5], ⟨(some 72), .call ⟨.value (.func 32), #[(.tmp 68), (.tmp 71)], #[24, 24]⟩, none⟩),
    (6, [], ⟨(some 74), .move (.tmp 9), none⟩),
    (7, [5], ⟨(some 75), .call ⟨.value (.func 17), #[(.tmp 74)], #[3]⟩, none⟩),
    (8, [], ⟨(some 76), .call ⟨.value (.func 32), #[(.tmp 73), (.tmp 75)], #[24, 24]⟩, none⟩),
    (9, [], ⟨(some 16), .assign (.tmp 72), none⟩),
    (10, [], ⟨(some 17), .assign (.tmp 76), none⟩)]) c_sheaflaw1_WideNearest_10) K t m := rfl

def c_sheaflaw1_WideNearest_12 : MC := (.seq (.ops [⟨(some 60), .load 24 (.tmp 10), none⟩,
    ⟨(some 61), .load 24 (.tmp 10), none⟩,
    ⟨(some 62), .call ⟨.value (.func 20), #[(.tmp 60), (.tmp 61)], #[24, 24]⟩, none⟩,
    ⟨(some 63), .move (.tmp 9), none⟩,
    ⟨(some 64), .binOp .mul 3 (.const (.int .i64 (-2))) (.tmp 63) 3, none⟩,
    ⟨(some 65), .move (.tmp 11), none⟩,
    ⟨(some 66), .call ⟨.value (.func 14), #[(.tmp 64), (.tmp 65)], #[3, 3]⟩, none⟩,
    ⟨(some 67), .call ⟨.value (.func 20), #[(.tmp 62), (.tmp 66)], #[24, 24]⟩, none⟩,
    ⟨(some 15), .alloc 24, none⟩,
    ⟨none, .store 24 (.tmp 15) (.tmp 67), none⟩]) c_sheaflaw1_WideNearest_11)
@[go_sem] theorem c_sheaflaw1_WideNearest_12_at (rd : Option Nat) (K : Post3) (t : Fr) (m : Mem) : wpM E 13 127 rd c_sheaflaw1_WideNearest_12 K t m = wpM E 13 127 rd (.seq (.ops [⟨(some 60), .load 24 (.tmp 10), none⟩,
    ⟨(some 61), .load 24 (.tmp 10), none⟩,
    ⟨(some 62), .call ⟨.value (.func 20), #[(.tmp 60), (.tmp 61)], #[24, 24]⟩, none⟩,
    ⟨(some 63), .move (.tmp 9), none⟩,
    ⟨(some 64), .binOp .mul 3 (.const (.int .i64 (-2))) (.tmp 63) 3, none⟩,
    ⟨(some 65), .move (.tmp 11), none⟩,
    ⟨(some 66), .call ⟨.value (.func 14), #[(.tmp 64), (.tmp 65)], #[3, 3]⟩, none⟩,
    ⟨(some 67), .call ⟨.value (.func 20), #[(.tmp 62), (.tmp 66)], #[24, 24]⟩, none⟩,
    ⟨(some 15), .alloc 24, none⟩,
    ⟨none, .store 24 (.tmp 15) (.tmp 67), none⟩]) c_sheaflaw1_WideNearest_11) K t m := rfl

def c_sheaflaw1_WideNearest_13 : MC := (.seq c_sheaflaw1_WideNearest_2 c_sheaflaw1_WideNearest_12)
@[go_sem] theorem c_sheaflaw1_WideNearest_13_at (rd : Option Nat) (K : Post3) (t : Fr) (m : Mem) : wpM E 13 127 rd c_sheaflaw1_WideNearest_13 K t m = wpM E 13 127 rd (.seq c_sheaflaw1_WideNearest_2 c_sheaflaw1_WideNearest_12) K t m := rfl

def c_sheaflaw1_WideNearest_14 : MC := (.seq (.ops [⟨(some 40), .move (.tmp 7), none⟩,
    ⟨(some 41), .unOp .neg 3 (.tmp 40), none⟩,
    ⟨(some 42), .move (.tmp 8), none⟩,
    ⟨(some 43), .call ⟨.value (.func 14), #[(.tmp 41), (.tmp 42)], #[3, 3]⟩, none⟩,
    ⟨(some 44), .move (.tmp 9), none⟩,
    ⟨(some 45), .call ⟨.value (.func 16), #[(.tmp 43), (.tmp 44)], #[24, 3]⟩, none⟩,
    ⟨(some 39), .move (.tmp 45), none⟩,
    ⟨(some 46), .extract (.tmp 39) 0, none⟩,
    ⟨(some 47), .extract (.tmp 39) 1, none⟩,
    ⟨(some 13), .assign (.tmp 46), none⟩,
    ⟨(some 14), .assign (.tmp 47), none⟩]) c_sheaflaw1_WideNearest_13)
@[go_sem] theorem c_sheaflaw1_WideNearest_14_at (rd : Option Nat) (K : Post3) (t : Fr) (m : Mem) : wpM E 13 127 rd c_sheaflaw1_WideNearest_14 K t m = wpM E 13 127 rd (.seq (.ops [⟨(some 40), .move (.tmp 7), none⟩,
    ⟨(some 41), .unOp .neg 3 (.tmp 40), none⟩,
    ⟨(some 42), .move (.tmp 8), none⟩,
    ⟨(some 43), .call ⟨.value (.func 14), #[(.tmp 41), (.tmp 42)], #[3, 3]⟩, none⟩,
    ⟨(some 44), .move (.tmp 9), none⟩,
    ⟨(some 45), .call ⟨.value (.func 16), #[(.tmp 43), (.tmp 44)], #[24, 3]⟩, none⟩,
    ⟨(some 39), .move (.tmp 45), none⟩,
    ⟨(some 46), .extract (.tmp 39) 0, none⟩,
    ⟨(some 47), .extract (.tmp 39) 1, none⟩,
    ⟨(some 13), .assign (.tmp 46), none⟩,
    ⟨(some 14), .assign (.tmp 47), none⟩]) c_sheaflaw1_WideNearest_13) K t m := rfl

def c_sheaflaw1_WideNearest_15 : MC := (.seq (.ops [⟨(some 34), .load 24 (.tmp 10), none⟩,
    ⟨(some 35), .move (.tmp 9), none⟩,
    ⟨(some 36), .call ⟨.value (.func 16), #[(.tmp 34), (.tmp 35)], #[24, 3]⟩, none⟩,
    ⟨(some 33), .move (.tmp 36), none⟩,
    ⟨(some 37), .extract (.tmp 33) 0, none⟩,
    ⟨(some 38), .extract (.tmp 33) 1, none⟩,
    ⟨(some 11), .assign (.tmp 37), none⟩,
    ⟨(some 12), .assign (.tmp 38), none⟩]) c_sheaflaw1_WideNearest_14)
@[go_sem] theorem c_sheaflaw1_WideNearest_15_at (rd : Option Nat) (K : Post3) (t : Fr) (m : Mem) : wpM E 13 127 rd c_sheaflaw1_WideNearest_15 K t m = wpM E 13 127 rd (.seq (.ops [⟨(some 34), .load 24 (.tmp 10), none⟩,
    ⟨(some 35), .move (.tmp 9), none⟩,
    ⟨(some 36), .call ⟨.value (.func 16), #[(.tmp 34), (.tmp 35)], #[24, 3]⟩, none⟩,
    ⟨(some 33), .move (.tmp 36), none⟩,
    ⟨(some 37), .extract (.tmp 33) 0, none⟩,
    ⟨(some 38), .extract (.tmp 33) 1, none⟩,
    ⟨(some 11), .assign (.tmp 37), none⟩,
    ⟨(some 12), .assign (.tmp 38), none⟩]) c_sheaflaw1_WideNearest_14) K t m := rfl

def c_sheaflaw1_WideNearest_16 : MC := (.seq (.ops [⟨(some 30), .move (.tmp 7), none⟩,
    ⟨(some 31), .move (.tmp 8), none⟩,
    ⟨(some 32), .call ⟨.value (.func 14), #[(.tmp 30), (.tmp 31)], #[3, 3]⟩, none⟩,
    ⟨(some 10), .alloc 24, none⟩,
    ⟨none, .store 24 (.tmp 10) (.tmp 32), none⟩]) c_sheaflaw1_WideNearest_15)
@[go_sem] theorem c_sheaflaw1_WideNearest_16_at (rd : Option Nat) (K : Post3) (t : Fr) (m : Mem) : wpM E 13 127 rd c_sheaflaw1_WideNearest_16 K t m = wpM E 13 127 rd (.seq (.ops [⟨(some 30), .move (.tmp 7), none⟩,
    ⟨(some 31), .move (.tmp 8), none⟩,
    ⟨(some 32), .call ⟨.value (.func 14), #[(.tmp 30), (.tmp 31)], #[3, 3]⟩, none⟩,
    ⟨(some 10), .alloc 24, none⟩,
    ⟨none, .store 24 (.tmp 10) (.tmp 32), none⟩]) c_sheaflaw1_WideNearest_15) K t m := rfl

def c_sheaflaw1_WideNearest_17 : MC := (.seq (.ops [⟨(some 28), .move (.tmp 2), none⟩,
    ⟨(some 29), .call ⟨.value (.func 19), #[(.tmp 28), (.const (.int .i64 1)), (.const (.int .i64 1099511627776))], #[3, 3, 3]⟩, none⟩,
    ⟨(some 9), .assign (.tmp 29), none⟩]) c_sheaflaw1_WideNearest_16)
@[go_sem] theorem c_sheaflaw1_WideNearest_17_at (rd : Option Nat) (K : Post3) (t : Fr) (m : Mem) : wpM E 13 127 rd c_sheaflaw1_WideNearest_17 K t m = wpM E 13 127 rd (.seq (.ops [⟨(some 28), .move (.tmp 2), none⟩,
    ⟨(some 29), .call ⟨.value (.func 19), #[(.tmp 28), (.const (.int .i64 1)), (.const (.int .i64 1099511627776))], #[3, 3, 3]⟩, none⟩,
    ⟨(some 9), .assign (.tmp 29), none⟩]) c_sheaflaw1_WideNearest_16) K t m := rfl

def c_sheaflaw1_WideNearest_18 : MC := (.seq (.ops [⟨(some 26), .move (.tmp 1), none⟩,
    ⟨(some 27), .call ⟨.value (.func 19), #[(.tmp 26), (.const (.int .i64 (-1048576))), (.const (.int .i64 1048576))], #[3, 3, 3]⟩, none⟩,
    ⟨(some 8), .assign (.tmp 27), none⟩]) c_sheaflaw1_WideNearest_17)
@[go_sem] theorem c_sheaflaw1_WideNearest_18_at (rd : Option Nat) (K : Post3) (t : Fr) (m : Mem) : wpM E 13 127 rd c_sheaflaw1_WideNearest_18 K t m = wpM E 13 127 rd (.seq (.ops [⟨(some 26), .move (.tmp 1), none⟩,
    ⟨(some 27), .call ⟨.value (.func 19), #[(.tmp 26), (.const (.int .i64 (-1048576))), (.const (.int .i64 1048576))], #[3, 3, 3]⟩, none⟩,
    ⟨(some 8), .assign (.tmp 27), none⟩]) c_sheaflaw1_WideNearest_17) K t m := rfl

def c_sheaflaw1_WideNearest_19 : MC := (.seq (.ops [⟨(some 24), .move (.tmp 0), none⟩,
    ⟨(some 25), .call ⟨.value (.func 19), #[(.tmp 24), (.const (.int .i64 (-1099511627776))), (.const (.int .i64 1099511627776))], #[3, 3, 3]⟩, none⟩,
    ⟨(some 7), .assign (.tmp 25), none⟩]) c_sheaflaw1_WideNearest_18)
@[go_sem] theorem c_sheaflaw1_WideNearest_19_at (rd : Option Nat) (K : Post3) (t : Fr) (m : Mem) : wpM E 13 127 rd c_sheaflaw1_WideNearest_19 K t m = wpM E 13 127 rd (.seq (.ops [⟨(some 24), .move (.tmp 0), none⟩,
    ⟨(some 25), .call ⟨.value (.func 19), #[(.tmp 24), (.const (.int .i64 (-1099511627776))), (.const (.int .i64 1099511627776))], #[3, 3, 3]⟩, none⟩,
    ⟨(some 7), .assign (.tmp 25), none⟩]) c_sheaflaw1_WideNearest_18) K t m := rfl

def c_sheaflaw1_WideNearest_20 : MC := (.seq (.ops [⟨(some 6), .assign (.const (.bool false)), none⟩]) c_sheaflaw1_WideNearest_19)
@[go_sem] theorem c_sheaflaw1_WideNearest_20_at (rd : Option Nat) (K : Post3) (t : Fr) (m : Mem) : wpM E 13 127 rd c_sheaflaw1_WideNearest_20 K t m = wpM E 13 127 rd (.seq (.ops [⟨(some 6), .assign (.const (.bool false)), none⟩]) c_sheaflaw1_WideNearest_19) K t m := rfl

@[go_sem] theorem some13 : (E.fn 13).isSome = true := by kernel_rfl
set_option maxRecDepth 100000 in
theorem fn_sheaflaw1_WideNearest : FnIs E 13 127 [.tmp 6] c_sheaflaw1_WideNearest_20 := ⟨by kernel_rfl, by kernel_rfl⟩

end Go.Proofs.Ytmgdmldmialiiaa.W
