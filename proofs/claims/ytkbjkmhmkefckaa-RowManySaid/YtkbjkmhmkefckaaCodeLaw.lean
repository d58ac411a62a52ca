/-
  Compact code, printed by a program of mine (wip/dev/AbsPrint.lean).
-/
import Derived.Test.YtkbjkmhmkefckaaTypes
set_option linter.unusedVariables false
namespace Go.Proofs.Ytkbjkmhmkefckaa.W
open Go.Abs

/-! sheaf/sheaflaw13.RowTells -/
abbrev F_sheaflaw13_RowTells : FuncId := 4
def c_sheaflaw13_RowTells_0 : MC := (.seq (.ops [⟨(some 47), .buildSlice 22 0 #[], none⟩,
    ⟨(some 48), .move (.tmp 13), none⟩,
    ⟨(some 49), .call ⟨.builtin .append, #[(.tmp 47), (.tmp 48)], #[22, 22]⟩, none⟩,
    ⟨(some 14), .assign (.tmp 49), none⟩]) (.ops [⟨(some 50), .move (.tmp 14), none⟩,
    ⟨(some 51), .move (.tmp 3), none⟩,
    ⟨(some 52), .move (.tmp 14), none⟩,
    ⟨(some 53), .call ⟨.builtin .len, #[(.tmp 52)], #[22]⟩, none⟩,
    ⟨(some 54), .binOp .sub 3 (.tmp 53) (.const (.int .i64 1)) 3, none⟩,
    ⟨(some 55), .call ⟨.value (.func 14), #[(.tmp 51), (.const (.int .i64 0)), (.tmp 54)], #[3, 3, 3]⟩, none⟩,
    ⟨(some 56), .indexAddr 22 (.tmp 50) (.tmp 55), none⟩,
    ⟨(some 57), .load 5 (.tmp 56), none⟩,
    ⟨(some 58), .move (.tmp 4), none⟩,
    ⟨(some 59), .binOp .xor 5 (.tmp 57) (.tmp 58) 5, none⟩,
    ⟨(some 60), .indexAddr 22 (.tmp 50) (.tmp 55), none⟩,
    ⟨none, .store 5 (.tmp 60) (.tmp 59), none⟩]))
@[go_sem] theorem c_sheaflaw13_RowTells_0_at (rd : Option Nat) (K : Post3) (t : Fr) (m : Mem) : wpM E 4 109 rd c_sheaflaw13_RowTells_0 K t m = wpM E 4 109 rd (.seq (.ops [⟨(some 47), .buildSlice 22 0 #[], none⟩,
    ⟨(some 48), .move (.tmp 13), none⟩,
    ⟨(some 49), .call ⟨.builtin .append, #[(.tmp 47), (.tmp 48)], #[22, 22]⟩, none⟩,
    ⟨(some 14), .assign (.tmp 49), none⟩]) (.ops [⟨(some 50), .move (.tmp 14), none⟩,
    ⟨(some 51), .move (.tmp 3), none⟩,
    ⟨(some 52), .move (.tmp 14), none⟩,
    ⟨(some 53), .call ⟨.builtin .len, #[(.tmp 52)], #[22]⟩, none⟩,
    ⟨(some 54), .binOp .sub 3 (.tmp 53) (.const (.int .i64 1)) 3, none⟩,
    ⟨(some 55), .call ⟨.value (.func 14), #[(.tmp 51), (.const (.int .i64 0)), (.tmp 54)], #[3, 3, 3]⟩, none⟩,
    ⟨(some 56), .indexAddr 22 (.tmp 50) (.tmp 55), none⟩,
    ⟨(some 57), .load 5 (.tmp 56), none⟩,
    ⟨(some 58), .move (.tmp 4), none⟩,
    ⟨(some 59), .binOp .xor 5 (.tmp 57) (.tmp 58) 5, none⟩,
    ⟨(some 60), .indexAddr 22 (.tmp 50) (.tmp 55), none⟩,
    ⟨none, .store 5 (.tmp 60) (.tmp 59), none⟩])) K t m := rfl

def c_sheaflaw13_RowTells_1 : MC := (.cond (.tmp 46) c_sheaflaw13_RowTells_0 .skip)
@[go_sem] theorem c_sheaflaw13_RowTells_1_at (rd : Option Nat) (K : Post3) (t : Fr) (m : Mem) : wpM E 4 109 rd c_sheaflaw13_RowTells_1 K t m = wpM E 4 109 rd (.cond (.tmp 46) c_sheaflaw13_RowTells_0 .skip) K t m := rfl

def c_sheaflaw13_RowTells_2 : MC := (.seq (.ops [⟨(some 44), .move (.tmp 13), none⟩,
    ⟨(some 45), .call ⟨.builtin .len, #[(.tmp 44)], #[22]⟩, none⟩,
    ⟨(some 46), .binOp .gtr 3 (.tmp 45) (.const (.int .i64 0)) 3, none⟩]) c_sheaflaw13_RowTells_1)
@[go_sem] theorem c_sheaflaw13_RowTells_2_at (rd : Option Nat) (K : Post3) (t : Fr) (m : Mem) : wpM E 4 109 rd c_sheaflaw13_RowTells_2 K t m = wpM E 4 109 rd (.seq (.ops [⟨(some 44), .move (.tmp 13), none⟩,
    ⟨(some 45), .call ⟨.builtin .len, #[(.tmp 44)], #[22]⟩, none⟩,
    ⟨(some 46), .binOp .gtr 3 (.tmp 45) (.const (.int .i64 0)) 3, none⟩]) c_sheaflaw13_RowTells_1) K t m := rfl

def c_sheaflaw13_RowTells_3 : MC := (.seq (.ops [⟨(some 76), .move (.tmp 13), none⟩,
    ⟨(some 77), .move (.tmp 0), none⟩,
    ⟨(some 78), .call ⟨.value (.func 17), #[(.tmp 77)], #[24]⟩, none⟩,
    ⟨(some 79), .call ⟨.value (.func 11), #[(.tmp 76), (.tmp 78)], #[22, 22]⟩, none⟩,
    ⟨(some 80), .move (.tmp 79), none⟩,
    ⟨(some 81), .move (.tmp 16), (some (some 80, true))⟩,
    ⟨(some 82), .move (.tmp 18), (some (some 80, true))⟩,
    ⟨(some 83), .call ⟨.value (.func 12), #[(.tmp 81), (.tmp 82)], #[24, 24]⟩, (some (some 80, true))⟩,
    ⟨(some 84), .pick (.tmp 80) (.tmp 83) (.const (.bool false)), none⟩,
    ⟨(some 85), .move (.tmp 84), none⟩,
    ⟨(some 86), .move (.tmp 17), (some (some 85, true))⟩,
    ⟨(some 87), .move (.tmp 19), (some (some 85, true))⟩,
    ⟨(some 88), .binOp .eql 3 (.tmp 86) (.tmp 87) 3, (some (some 85, true))⟩,
    ⟨(some 89), .pick (.tmp 85) (.tmp 88) (.const (.bool false)), none⟩,
    ⟨(some 90), .move (.tmp 89), none⟩,
    ⟨(some 91), .move (.tmp 0), (some (some 90, true))⟩,
    ⟨(some 92), .move (.tmp 1), (some (some 90, true))⟩,
    ⟨(some 93), .move (.tmp 5), (some (some 90, true))⟩,
    ⟨(some 94), .call ⟨.value (.func 13), #[(.tmp 91), (.tmp 92), (.tmp 93)], #[24, 24, 24]⟩, (some (some 90, true))⟩,
    ⟨(some 95), .move (.tmp 0), (some (some 90, true))⟩,
    ⟨(some 96), .move (.tmp 1), (some (some 90, true))⟩,
    ⟨(some 97), .move (.tmp 5), (some (some 90, true))⟩,
    ⟨(some 98), .call ⟨.value (.func 18), #[(.tmp 95), (.tmp 96), (.tmp 97)], #[24, 24, 24]⟩, (some (some 90, true))⟩,
    ⟨(some 99), .binOp .eql 3 (.tmp 94) (.tmp 98) 3, (some (some 90, true))⟩,
    ⟨(some 100), .pick (.tmp 90) (.tmp 99) (.const (.bool false)), none⟩,
    ⟨(some 101), .move (.tmp 100), none⟩,
    ⟨(some 102), .move (.tmp 15), (some (some 101, true))⟩,
    ⟨(some 103), .move (.tmp 14), (some (some 101, true))⟩,
    ⟨(some 104), .call ⟨.value (.func 19), #[(.tmp 102), (.tmp 103), (.const (.int .u8 7))], #[22, 22, 5]⟩, (some (some 101, true))⟩,
    ⟨(some 105), .pick (.tmp 101) (.tmp 104) (.const (.bool false)), none⟩,
    ⟨(some 106), .move (.tmp 105), none⟩,
    ⟨(some 107), .call ⟨.value (.func 3), #[], #[]⟩, (some (some 106, true))⟩,
    ⟨(some 108), .pick (.tmp 106) (.tmp 107) (.const (.bool false)), none⟩,
    ⟨(some 12), .assign (.tmp 108), none⟩]) .ret)
@[go_sem] theorem c_sheaflaw13_RowTells_3_at (rd : Option Nat) (K : Post3) (t : Fr) (m : Mem) : wpM E 4 109 rd c_sheaflaw13_RowTells_3 K t m = wpM E 4 109 rd (.seq (.ops [⟨(some 76), .move (.tmp 13), none⟩,
    ⟨(some 77), .move (.tmp 0), none⟩,
    ⟨(some 78), .call ⟨.value (.func 17), #[(.tmp 77)], #[24]⟩, none⟩,
    ⟨(some 79), .call ⟨.value (.func 11), #[(.tmp 76), (.tmp 78)], #[22, 22]⟩, none⟩,
    ⟨(some 80), .move (.tmp 79), none⟩,
    ⟨(some 81), .move (.tmp 16), (some (some 80, true))⟩,
    ⟨(some 82), .move (.tmp 18), (some (some 80, true))⟩,
    ⟨(some 83), .call ⟨.value (.func 12), #[(.tmp 81), (.tmp 82)], #[24, 24]⟩, (some (some 80, true))⟩,
    ⟨(some 84), .pick (.tmp 80) (.tmp 83) (.const (.bool false)), none⟩,
    ⟨(some 85), .move (.tmp 84), none⟩,
    ⟨(some 86), .move (.tmp 17), (some (some 85, true))⟩,
    ⟨(some 87), .move (.tmp 19), (some (some 85, true))⟩,
    ⟨(some 88), .binOp .eql 3 (.tmp 86) (.tmp 87) 3, (some (some 85, true))⟩,
    ⟨(some 89), .pick (.tmp 85) (.tmp 88) (.const (.bool false)), none⟩,
    ⟨(some 90), .move (.tmp 89), none⟩,
    ⟨(some 91), .move (.tmp 0), (some (some 90, true))⟩,
    ⟨(some 92), .move (.tmp 1), (some (some 90, true))⟩,
    ⟨(some 93), .move (.tmp 5), (some (some 90, true))⟩,
    ⟨(some 94), .call ⟨.value (.func 13), #[(.tmp 91), (.tmp 92), (.tmp 93)], #[24, 24, 24]⟩, (some (some 90, true))⟩,
    ⟨(some 95), .move (.tmp 0), (some (some 90, true))⟩,
    ⟨(some 96), .move (.tmp 1), (some (some 90, true))⟩,
    ⟨(some 97), .move (.tmp 5), (some (some 90, true))⟩,
    ⟨(some 98), .call ⟨.value (.func 18), #[(.tmp 95), (.tmp 96), (.tmp 97)], #[24, 24, 24]⟩, (some (some 90, true))⟩,
    ⟨(some 99), .binOp .eql 3 (.tmp 94) (.tmp 98) 3, (some (some 90, true))⟩,
    ⟨(some 100), .pick (.tmp 90) (.tmp 99) (.const (.bool false)), none⟩,
    ⟨(some 101), .move (.tmp 100), none⟩,
    ⟨(some 102), .move (.tmp 15), (some (some 101, true))⟩,
    ⟨(some 103), .move (.tmp 14), (some (some 101, true))⟩,
    ⟨(some 104), .call ⟨.value (.func 19), #[(.tmp 102), (.tmp 103), (.const (.int .u8 7))], #[22, 22, 5]⟩, (some (some 101, true))⟩,
    ⟨(some 105), .pick (.tmp 101) (.tmp 104) (.const (.bool false)), none⟩,
    ⟨(some 106), .move (.tmp 105), none⟩,
    ⟨(some 107), .call ⟨.value (.func 3), #[], #[]⟩, (some (some 106, true))⟩,
    ⟨(some 108), .pick (.tmp 106) (.tmp 107) (.const (.bool false)), none⟩,
    ⟨(some 12), .assign (.tmp 108), none⟩]) .ret) K t m := rfl

def c_sheaflaw13_RowTells_4 : MC := (.seq (.ops [⟨(some 72), .move (.tmp 14), none⟩,
    ⟨(some 73), .call ⟨.value (.func 16), #[(.tmp 72)], #[22]⟩, none⟩,
    ⟨(some 71), .move (.tmp 73), none⟩,
    ⟨(some 74), .extract (.tmp 71) 0, none⟩,
    ⟨(some 75), .extract (.tmp 71) 1, none⟩,
    ⟨(some 18), .assign (.tmp 74), none⟩,
    ⟨(some 19), .assign (.tmp 75), none⟩]) c_sheaflaw13_RowTells_3)
@[go_sem] theorem c_sheaflaw13_RowTells_4_at (rd : Option Nat) (K : Post3) (t : Fr) (m : Mem) : wpM E 4 109 rd c_sheaflaw13_RowTells_4 K t m = wpM E 4 109 rd (.seq (.ops [⟨(some 72), .move (.tmp 14), none⟩,
    ⟨(some 73), .call ⟨.value (.func 16), #[(.tmp 72)], #[22]⟩, none⟩,
    ⟨(some 71), .move (.tmp 73), none⟩,
    ⟨(some 74), .extract (.tmp 71) 0, none⟩,
    ⟨(some 75), .extract (.tmp 71) 1, none⟩,
    ⟨(some 18), .assign (.tmp 74), none⟩,
    ⟨(some 19), .assign (.tmp 75), none⟩]) c_sheaflaw13_RowTells_3) K t m := rfl

def c_sheaflaw13_RowTells_5 : MC := (.seq (.ops [⟨(some 64), .move (.tmp 15), none⟩,
    ⟨(some 65), .move (.tmp 14), none⟩,
    ⟨(some 66), .call ⟨.builtin .len, #[(.tmp 65)], #[22]⟩, none⟩,
    ⟨(some 67), .slice 22 (.tmp 64) none (some (.tmp 66)) none, none⟩,
    ⟨(some 68), .call ⟨.value (.func 10), #[(.tmp 67)], #[22]⟩, none⟩,
    ⟨(some 63), .move (.tmp 68), none⟩,
    ⟨(some 69), .extract (.tmp 63) 0, none⟩,
    ⟨(some 70), .extract (.tmp 63) 1, none⟩,
    ⟨(some 16), .assign (.tmp 69), none⟩,
    ⟨(some 17), .assign (.tmp 70), none⟩]) c_sheaflaw13_RowTells_4)
@[go_sem] theorem c_sheaflaw13_RowTells_5_at (rd : Option Nat) (K : Post3) (t : Fr) (m : Mem) : wpM E 4 109 rd c_sheaflaw13_RowTells_5 K t m = wpM E 4 109 rd (.seq (.ops [⟨(some 64), .move (.tmp 15), none⟩,
    ⟨(some 65), .move (.tmp 14), none⟩,
    ⟨(some 66), .call ⟨.builtin .len, #[(.tmp 65)], #[22]⟩, none⟩,
    ⟨(some 67), .slice 22 (.tmp 64) none (some (.tmp 66)) none, none⟩,
    ⟨(some 68), .call ⟨.value (.func 10), #[(.tmp 67)], #[22]⟩, none⟩,
    ⟨(some 63), .move (.tmp 68), none⟩,
    ⟨(some 69), .extract (.tmp 63) 0, none⟩,
    ⟨(some 70), .extract (.tmp 63) 1, none⟩,
    ⟨(some 16), .assign (.tmp 69), none⟩,
    ⟨(some 17), .assign (.tmp 70), none⟩]) c_sheaflaw13_RowTells_4) K t m := rfl

def c_sheaflaw13_RowTells_6 : MC := (.seq (.ops [⟨(some 61), .move (.tmp 14), none⟩,
    ⟨(some 62), .call ⟨.value (.func 15), #[(.tmp 61), (.const (.int .u8 7))], #[22, 5]⟩, none⟩,
    ⟨(some 15), .assign (.tmp 62), none⟩]) c_sheaflaw13_RowTells_5)
@[go_sem] theorem c_sheaflaw13_RowTells_6_at (rd : Option Nat) (K : Post3) (t : Fr) (m : Mem) : wpM E 4 109 rd c_sheaflaw13_RowTells_6 K t m = wpM E 4 109 rd (.seq (.ops [⟨(some 61), .move (.tmp 14), none⟩,
    ⟨(some 62), .call ⟨.value (.func 15), #[(.tmp 61), (.const (.int .u8 7))], #[22, 5]⟩, none⟩,
    ⟨(some 15), .assign (.tmp 62), none⟩]) c_sheaflaw13_RowTells_5) K t m := rfl

def c_sheaflaw13_RowTells_7 : MC := (.seq c_sheaflaw13_RowTells_2 c_sheaflaw13_RowTells_6)
@[go_sem] theorem c_sheaflaw13_RowTells_7_at (rd : Option Nat) (K : Post3) (t : Fr) (m : Mem) : wpM E 4 109 rd c_sheaflaw13_RowTells_7 K t m = wpM E 4 109 rd (.seq c_sheaflaw13_RowTells_2 c_sheaflaw13_RowTells_6) K t m := rfl

def c_sheaflaw13_RowTells_8 : MC := (.seq (.ops [⟨(some 37), .buildSlice 22 0 #[], none⟩,
    ⟨(some 38), .move (.tmp 2), none⟩,
    ⟨(some 39), .move (.tmp 2), none⟩,
    ⟨(some 40), .call ⟨.builtin .len, #[(.tmp 39)], #[22]⟩, none⟩,
    ⟨(some 41), .call ⟨.builtin .min, #[(.tmp 40), (.const (.int .i64 60))], #[3, 3]⟩, none⟩,
    ⟨(some 42), .slice 22 (.tmp 38) none (some (.tmp 41)) none, none⟩,
    ⟨(some 43), .call ⟨.builtin .append, #[(.tmp 37), (.tmp 42)], #[22, 22]⟩, none⟩,
    ⟨(some 14), .assign (.tmp 43), none⟩]) c_sheaflaw13_RowTells_7)
@[go_sem] theorem c_sheaflaw13_RowTells_8_at (rd : Option Nat) (K : Post3) (t : Fr) (m : Mem) : wpM E 4 109 rd c_sheaflaw13_RowTells_8 K t m = wpM E 4 109 rd (.seq (.ops [⟨(some 37), .buildSlice 22 0 #[], none⟩,
    ⟨(some 38), .move (.tmp 2), none⟩,
    ⟨(some 39), .move (.tmp 2), none⟩,
    ⟨(some 40), .call ⟨.builtin .len, #[(.tmp 39)], #[22]⟩, none⟩,
    ⟨(some 41), .call ⟨.builtin .min, #[(.tmp 40), (.const (.int .i64 60))], #[3, 3]⟩, none⟩,
    ⟨(some 42), .slice 22 (.tmp 38) none (some (.tmp 41)) none, none⟩,
    ⟨(some 43), .call ⟨.builtin .append, #[(.tmp 37), (.tmp 42)], #[22, 22]⟩, none⟩,
    ⟨(some 14), .assign (.tmp 43), none⟩]) c_sheaflaw13_RowTells_7) K t m := rfl

def c_sheaflaw13_RowTells_9 : MC := (.seq (.ops [⟨(some 35), .move (.tmp 0), none⟩,
    ⟨(some 36), .call ⟨.value (.func 9), #[(.tmp 35)], #[24]⟩, none⟩,
    ⟨(some 13), .assign (.tmp 36), none⟩]) c_sheaflaw13_RowTells_8)
@[go_sem] theorem c_sheaflaw13_RowTells_9_at (rd : Option Nat) (K : Post3) (t : Fr) (m : Mem) : wpM E 4 109 rd c_sheaflaw13_RowTells_9 K t m = wpM E 4 109 rd (.seq (.ops [⟨(some 35), .move (.tmp 0), none⟩,
    ⟨(some 36), .call ⟨.value (.func 9), #[(.tmp 35)], #[24]⟩, none⟩,
    ⟨(some 13), .assign (.tmp 36), none⟩]) c_sheaflaw13_RowTells_8) K t m := rfl

def c_sheaflaw13_RowTells_10 : MC := (.seq (.ops [⟨(some 20), .move (.tmp 0), none⟩,
    ⟨(some 21), .move (.tmp 0), none⟩,
    ⟨(some 22), .call ⟨.builtin .len, #[(.tmp 21)], #[24]⟩, none⟩,
    ⟨(some 23), .call ⟨.builtin .min, #[(.tmp 22), (.const (.int .i64 12))], #[3, 3]⟩, none⟩,
    ⟨(some 24), .slice 24 (.tmp 20) none (some (.tmp 23)) none, none⟩,
    ⟨(some 25), .move (.tmp 1), none⟩,
    ⟨(some 26), .move (.tmp 1), none⟩,
    ⟨(some 27), .call ⟨.builtin .len, #[(.tmp 26)], #[24]⟩, none⟩,
    ⟨(some 28), .call ⟨.builtin .min, #[(.tmp 27), (.const (.int .i64 12))], #[3, 3]⟩, none⟩,
    ⟨(some 29), .slice 24 (.tmp 25) none (some (.tmp 28)) none, none⟩,
    ⟨(some 30), .move (.tmp 5), none⟩,
    ⟨(some 31), .move (.tmp 5), none⟩,
    ⟨(some 32), .call ⟨.builtin .len, #[(.tmp 31)], #[24]⟩, none⟩,
    ⟨(some 33), .call ⟨.builtin .min, #[(.tmp 32), (.const (.int .i64 4))], #[3, 3]⟩, none⟩,
    ⟨(some 34), .slice 24 (.tmp 30) none (some (.tmp 33)) none, none⟩,
    ⟨(some 0), .assign (.tmp 24), none⟩,
    ⟨(some 1), .assign (.tmp 29), none⟩,
    ⟨(some 5), .assign (.tmp 34), none⟩]) c_sheaflaw13_RowTells_9)
@[go_sem] theorem c_sheaflaw13_RowTells_10_at (rd : Option Nat) (K : Post3) (t : Fr) (m : Mem) : wpM E 4 109 rd c_sheaflaw13_RowTells_10 K t m = wpM E 4 109 rd (.seq (.ops [⟨(some 20), .move (.tmp 0), none⟩,
    ⟨(some 21), .move (.tmp 0), none⟩,
    ⟨(some 22), .call ⟨.builtin .len, #[(.tmp 21)], #[24]⟩, none⟩,
    ⟨(some 23), .call ⟨.builtin .min, #[(.tmp 22), (.const (.int .i64 12))], #[3, 3]⟩, none⟩,
    ⟨(some 24), .slice 24 (.tmp 20) none (some (.tmp 23)) none, none⟩,
    ⟨(some 25), .move (.tmp 1), none⟩,
    ⟨(some 26), .move (.tmp 1), none⟩,
    ⟨(some 27), .call ⟨.builtin .len, #[(.tmp 26)], #[24]⟩, none⟩,
    ⟨(some 28), .call ⟨.builtin .min, #[(.tmp 27), (.const (.int .i64 12))], #[3, 3]⟩, none⟩,
    ⟨(some 29), .slice 24 (.tmp 25) none (some (.tmp 28)) none, none⟩,
    ⟨(some 30), .move (.tmp 5), none⟩,
    ⟨(some 31), .move (.tmp 5), none⟩,
    ⟨(some 32), .call ⟨.builtin .len, #[(.tmp 31)], #[24]⟩, none⟩,
    ⟨(some 33), .call ⟨.builtin .min, #[(.tmp 32), (.const (.int .i64 4))], #[3, 3]⟩, none⟩,
    ⟨(some 34), .slice 24 (.tmp 30) none (some (.tmp 33)) none, none⟩,
    ⟨(some 0), .assign (.tmp 24), none⟩,
    ⟨(some 1), .assign (.tmp 29), none⟩,
    ⟨(some 5), .assign (.tmp 34), none⟩]) c_sheaflaw13_RowTells_9) K t m := rfl

def c_sheaflaw13_RowTells_11 : MC := (.seq (.ops [⟨(some 12), .assign (.const (.bool false)), none⟩]) c_sheaflaw13_RowTells_10)
@[go_sem] theorem c_sheaflaw13_RowTells_11_at (rd : Option Nat) (K : Post3) (t : Fr) (m : Mem) : wpM E 4 109 rd c_sheaflaw13_RowTells_11 K t m = wpM E 4 109 rd (.seq (.ops [⟨(some 12), .assign (.const (.bool false)), none⟩]) c_sheaflaw13_RowTells_10) K t m := rfl

@[go_sem] theorem some4 : (E.fn 4).isSome = true := by kernel_rfl
set_option maxRecDepth 100000 in
theorem fn_sheaflaw13_RowTells : FnIs E 4 109 [.tmp 12] c_sheaflaw13_RowTells_11 := ⟨by kernel_rfl, by kernel_rfl⟩

/-! sheaf/sheaflaw13.RowBack -/
abbrev F_sheaflaw13_RowBack : FuncId := 5
def c_sheaflaw13_RowBack_0 : MC := (.seq (.ops [⟨(some 6), .assign (.const (.bool false)), none⟩]) .ret)
@[go_sem] theorem c_sheaflaw13_RowBack_0_at (rd : Option Nat) (K : Post3) (t : Fr) (m : Mem) : wpM E 5 109 rd c_sheaflaw13_RowBack_0 K t m = wpM E 5 109 rd (.seq (.ops [⟨(some 6), .assign (.const (.bool false)), none⟩]) .ret) K t m := rfl

def c_sheaflaw13_RowBack_1 : MC := (.cond (.tmp 29) c_sheaflaw13_RowBack_0 .skip)
@[go_sem] theorem c_sheaflaw13_RowBack_1_at (rd : Option Nat) (K : Post3) (t : Fr) (m : Mem) : wpM E 5 109 rd c_sheaflaw13_RowBack_1 K t m = wpM E 5 109 rd (.cond (.tmp 29) c_sheaflaw13_RowBack_0 .skip) K t m := rfl

def c_sheaflaw13_RowBack_2 : MC := (.seq (.ops [⟨(some 22), .move (.tmp 8), none⟩,
    ⟨(some 23), .call ⟨.builtin .len, #[(.tmp 22)], #[22]⟩, none⟩,
    ⟨(some 24), .binOp .lss 3 (.tmp 23) (.const (.int .i64 1)) 3, none⟩,
    ⟨(some 25), .move (.tmp 24), none⟩,
    ⟨(some 26), .move (.tmp 8), (some (some 25, false))⟩,
    ⟨(some 27), .call ⟨.builtin .len, #[(.tmp 26)], #[22]⟩, (some (some 25, false))⟩,
    ⟨(some 28), .binOp .gtr 3 (.tmp 27) (.const (.int .i64 256)) 3, (some (some 25, false))⟩,
    ⟨(some 29), .pick (.tmp 25) (.const (.bool true)) (.tmp 28), none⟩]) c_sheaflaw13_RowBack_1)
@[go_sem] theorem c_sheaflaw13_RowBack_2_at (rd : Option Nat) (K : Post3) (t : Fr) (m : Mem) : wpM E 5 109 rd c_sheaflaw13_RowBack_2 K t m = wpM E 5 109 rd (.seq (.ops [⟨(some 22), .move (.tmp 8), none⟩,
    ⟨(some 23), .call ⟨.builtin .len, #[(.tmp 22)], #[22]⟩, none⟩,
    ⟨(some 24), .binOp .lss 3 (.tmp 23) (.const (.int .i64 1)) 3, none⟩,
    ⟨(some 25), .move (.tmp 24), none⟩,
    ⟨(some 26), .move (.tmp 8), (some (some 25, false))⟩,
    ⟨(some 27), .call ⟨.builtin .len, #[(.tmp 26)], #[22]⟩, (some (some 25, false))⟩,
    ⟨(some 28), .binOp .gtr 3 (.tmp 27) (.const (.int .i64 256)) 3, (some (some 25, false))⟩,
    ⟨(some 29), .pick (.tmp 25) (.const (.bool true)) (.tmp 28), none⟩]) c_sheaflaw13_RowBack_1) K t m := rfl

def c_sheaflaw13_RowBack_3 : MC := (.seq (.ops [⟨(some 6), .assign (.const (.bool false)), none⟩]) .ret)
@[go_sem] theorem c_sheaflaw13_RowBack_3_at (rd : Option Nat) (K : Post3) (t : Fr) (m : Mem) : wpM E 5 109 rd c_sheaflaw13_RowBack_3 K t m = wpM E 5 109 rd (.seq (.ops [⟨(some 6), .assign (.const (.bool false)), none⟩]) .ret) K t m := rfl

def c_sheaflaw13_RowBack_4 : MC := (.cond (.tmp 67) c_sheaflaw13_RowBack_3 .skip)
@[go_sem] theorem c_sheaflaw13_RowBack_4_at (rd : Option Nat) (K : Post3) (t : Fr) (m : Mem) : wpM E 5 109 rd c_sheaflaw13_RowBack_4 K t m = wpM E 5 109 rd (.cond (.tmp 67) c_sheaflaw13_RowBack_3 .skip) K t m := rfl

def c_sheaflaw13_RowBack_5 : MC := (.seq (.ops [⟨(some 54), .move (.tmp 10), none⟩,
    ⟨(some 55), .move (.tmp 8), none⟩,
    ⟨(some 56), .call ⟨.builtin .len, #[(.tmp 55)], #[22]⟩, none⟩,
    ⟨(some 57), .binOp .neq 3 (.tmp 54) (.tmp 56) 3, none⟩,
    ⟨(some 58), .move (.tmp 57), none⟩,
    ⟨(some 59), .move (.tmp 9), (some (some 58, false))⟩,
    ⟨(some 60), .move (.tmp 7), (some (some 58, false))⟩,
    ⟨(some 61), .call ⟨.value (.func 12), #[(.tmp 59), (.tmp 60)], #[24, 24]⟩, (some (some 58, false))⟩,
    ⟨(some 62), .unOp .not 4 (.tmp 61), (some (some 58, false))⟩,
    ⟨(some 63), .pick (.tmp 58) (.const (.bool true)) (.tmp 62), none⟩,
    ⟨(some 64), .move (.tmp 63), none⟩,
    ⟨(some 65), .move (.tmp 12), (some (some 64, false))⟩,
    ⟨(some 66), .binOp .neq 3 (.tmp 65) (.const (.int .i64 0)) 3, (some (some 64, false))⟩,
    ⟨(some 67), .pick (.tmp 64) (.const (.bool true)) (.tmp 66), none⟩]) c_sheaflaw13_RowBack_4)
@[go_sem] theorem c_sheaflaw13_RowBack_5_at (rd : Option Nat) (K : Post3) (t : Fr) (m : Mem) : wpM E 5 109 rd c_sheaflaw13_RowBack_5 K t m = wpM E 5 109 rd (.seq (.ops [⟨(some 54), .move (.tmp 10), none⟩,
    ⟨(some 55), .move (.tmp 8), none⟩,
    ⟨(some 56), .call ⟨.builtin .len, #[(.tmp 55)], #[22]⟩, none⟩,
    ⟨(some 57), .binOp .neq 3 (.tmp 54) (.tmp 56) 3, none⟩,
    ⟨(some 58), .move (.tmp 57), none⟩,
    ⟨(some 59), .move (.tmp 9), (some (some 58, false))⟩,
    ⟨(some 60), .move (.tmp 7), (some (some 58, false))⟩,
    ⟨(some 61), .call ⟨.value (.func 12), #[(.tmp 59), (.tmp 60)], #[24, 24]⟩, (some (some 58, false))⟩,
    ⟨(some 62), .unOp .not 4 (.tmp 61), (some (some 58, false))⟩,
    ⟨(some 63), .pick (.tmp 58) (.const (.bool true)) (.tmp 62), none⟩,
    ⟨(some 64), .move (.tmp 63), none⟩,
    ⟨(some 65), .move (.tmp 12), (some (some 64, false))⟩,
    ⟨(some 66), .binOp .neq 3 (.tmp 65) (.const (.int .i64 0)) 3, (some (some 64, false))⟩,
    ⟨(some 67), .pick (.tmp 64) (.const (.bool true)) (.tmp 66), none⟩]) c_sheaflaw13_RowBack_4) K t m := rfl

def c_sheaflaw13_RowBack_6 : MC := (.seq (.ops [⟨(some 6), .assign (.const (.bool false)), none⟩]) .ret)
@[go_sem] theorem c_sheaflaw13_RowBack_6_at (rd : Option Nat) (K : Post3) (t : Fr) (m : Mem) : wpM E 5 109 rd c_sheaflaw13_RowBack_6 K t m = wpM E 5 109 rd (.seq (.ops [⟨(some 6), .assign (.const (.bool false)), none⟩]) .ret) K t m := rfl

def c_sheaflaw13_RowBack_7 : MC := (.cond (.tmp 96) c_sheaflaw13_RowBack_6 .skip)
@[go_sem] theorem c_sheaflaw13_RowBack_7_at (rd : Option Nat) (K : Post3) (t : Fr) (m : Mem) : wpM E 5 109 rd c_sheaflaw13_RowBack_7 K t m = wpM E 5 109 rd (.cond (.tmp 96) c_sheaflaw13_RowBack_6 .skip) K t m := rfl

def c_sheaflaw13_RowBack_8 : MC := (.seq (.ops [⟨(some 77), .move (.tmp 14), none⟩,
    ⟨(some 78), .binOp .gtr 3 (.tmp 77) (.const (.int .i64 0)) 3, none⟩,
    ⟨(some 79), .move (.tmp 78), none⟩,
    ⟨(some 80), .move (.tmp 13), (some (some 79, true))⟩,
    ⟨(some 81), .call ⟨.value (.func 9), #[(.tmp 80)], #[24]⟩, (some (some 79, true))⟩,
    ⟨(some 82), .move (.tmp 1), (some (some 79, true))⟩,
    ⟨(some 83), .move (.tmp 14), (some (some 79, true))⟩,
    ⟨(some 84), .slice 22 (.tmp 82) none (some (.tmp 83)) none, (some (some 79, true))⟩,
    ⟨(some 85), .call ⟨.value (.func 11), #[(.tmp 81), (.tmp 84)], #[22, 22]⟩, (some (some 79, true))⟩,
    ⟨(some 86), .unOp .not 4 (.tmp 85), (some (some 79, true))⟩,
    ⟨(some 87), .pick (.tmp 79) (.tmp 86) (.const (.bool false)), none⟩,
    ⟨(some 88), .move (.tmp 87), none⟩,
    ⟨(some 89), .move (.tmp 14), (some (some 88, false))⟩,
    ⟨(some 90), .binOp .leq 3 (.tmp 89) (.const (.int .i64 0)) 3, (some (some 88, false))⟩,
    ⟨(some 91), .move (.tmp 90), (some (some 88, false))⟩,
    ⟨(some 92), .move (.tmp 13), (some (some 91, true))⟩,
    ⟨(some 93), .call ⟨.builtin .len, #[(.tmp 92)], #[24]⟩, (some (some 91, true))⟩,
    ⟨(some 94), .binOp .neq 3 (.tmp 93) (.const (.int .i64 0)) 3, (some (some 91, true))⟩,
    ⟨(some 95), .pick (.tmp 91) (.tmp 94) (.const (.bool false)), (some (some 88, false))⟩,
    ⟨(some 96), .pick (.tmp 88) (.const (.bool true)) (.tmp 95), none⟩]) c_sheaflaw13_RowBack_7)
@[go_sem] theorem c_sheaflaw13_RowBack_8_at (rd : Option Nat) (K : Post3) (t : Fr) (m : Mem) : wpM E 5 109 rd c_sheaflaw13_RowBack_8 K t m = wpM E 5 109 rd (.seq (.ops [⟨(some 77), .move (.tmp 14), none⟩,
    ⟨(some 78), .binOp .gtr 3 (.tmp 77) (.const (.int .i64 0)) 3, none⟩,
    ⟨(some 79), .move (.tmp 78), none⟩,
    ⟨(some 80), .move (.tmp 13), (some (some 79, true))⟩,
    ⟨(some 81), .call ⟨.value (.func 9), #[(.tmp 80)], #[24]⟩, (some (some 79, true))⟩,
    ⟨(some 82), .move (.tmp 1), (some (some 79, true))⟩,
    ⟨(some 83), .move (.tmp 14), (some (some 79, true))⟩,
    ⟨(some 84), .slice 22 (.tmp 82) none (some (.tmp 83)) none, (some (some 79, true))⟩,
    ⟨(some 85), .call ⟨.value (.func 11), #[(.tmp 81), (.tmp 84)], #[22, 22]⟩, (some (some 79, true))⟩,
    ⟨(some 86), .unOp .not 4 (.tmp 85), (some (some 79, true))⟩,
    ⟨(some 87), .pick (.tmp 79) (.tmp 86) (.const (.bool false)), none⟩,
    ⟨(some 88), .move (.tmp 87), none⟩,
    ⟨(some 89), .move (.tmp 14), (some (some 88, false))⟩,
    ⟨(some 90), .binOp .leq 3 (.tmp 89) (.const (.int .i64 0)) 3, (some (some 88, false))⟩,
    ⟨(some 91), .move (.tmp 90), (some (some 88, false))⟩,
    ⟨(some 92), .move (.tmp 13), (some (some 91, true))⟩,
    ⟨(some 93), .call ⟨.builtin .len, #[(.tmp 92)], #[24]⟩, (some (some 91, true))⟩,
    ⟨(some 94), .binOp .neq 3 (.tmp 93) (.const (.int .i64 0)) 3, (some (some 91, true))⟩,
    ⟨(some 95), .pick (.tmp 91) (.tmp 94) (.const (.bool false)), (some (some 88, false))⟩,
    ⟨(some 96), .pick (.tmp 88) (.const (.bool true)) (.tmp 95), none⟩]) c_sheaflaw13_RowBack_7) K t m := rfl

def c_sheaflaw13_RowBack_9 : MC := (.seq (.ops [⟨(some 97), .move (.tmp 0), none⟩,
    ⟨(some 98), .call ⟨.builtin .len, #[(.tmp 97)], #[24]⟩, none⟩,
    ⟨(some 99), .binOp .leq 3 (.tmp 98) (.const (.int .i64 10)) 3, none⟩,
    ⟨(some 100), .move (.tmp 99), none⟩,
    ⟨(some 101), .move (.tmp 0), (some (some 100, false))⟩,
    ⟨(some 102), .call ⟨.value (.func 9), #[(.tmp 101)], #[24]⟩, (some (some 100, false))⟩,
    ⟨(some 103), .call ⟨.builtin .len, #[(.tmp 102)], #[22]⟩, (some (some 100, false))⟩,
    ⟨(some 104), .binOp .eql 3 (.tmp 103) (.const (.int .i64 0)) 3, (some (some 100, false))⟩,
    ⟨(some 105), .pick (.tmp 100) (.const (.bool true)) (.tmp 104), none⟩,
    ⟨(some 106), .move (.tmp 105), none⟩,
    ⟨(some 107), .call ⟨.value (.func 3), #[], #[]⟩, (some (some 106, true))⟩,
    ⟨(some 108), .pick (.tmp 106) (.tmp 107) (.const (.bool false)), none⟩,
    ⟨(some 6), .assign (.tmp 108), none⟩]) .ret)
@[go_sem] theorem c_sheaflaw13_RowBack_9_at (rd : Option Nat) (K : Post3) (t : Fr) (m : Mem) : wpM E 5 109 rd c_sheaflaw13_RowBack_9 K t m = wpM E 5 109 rd (.seq (.ops [⟨(some 97), .move (.tmp 0), none⟩,
    ⟨(some 98), .call ⟨.builtin .len, #[(.tmp 97)], #[24]⟩, none⟩,
    ⟨(some 99), .binOp .leq 3 (.tmp 98) (.const (.int .i64 10)) 3, none⟩,
    ⟨(some 100), .move (.tmp 99), none⟩,
    ⟨(some 101), .move (.tmp 0), (some (some 100, false))⟩,
    ⟨(some 102), .call ⟨.value (.func 9), #[(.tmp 101)], #[24]⟩, (some (some 100, false))⟩,
    ⟨(some 103), .call ⟨.builtin .len, #[(.tmp 102)], #[22]⟩, (some (some 100, false))⟩,
    ⟨(some 104), .binOp .eql 3 (.tmp 103) (.const (.int .i64 0)) 3, (some (some 100, false))⟩,
    ⟨(some 105), .pick (.tmp 100) (.const (.bool true)) (.tmp 104), none⟩,
    ⟨(some 106), .move (.tmp 105), none⟩,
    ⟨(some 107), .call ⟨.value (.func 3), #[], #[]⟩, (some (some 106, true))⟩,
    ⟨(some 108), .pick (.tmp 106) (.tmp 107) (.const (.bool false)), none⟩,
    ⟨(some 6), .assign (.tmp 108), none⟩]) .ret) K t m := rfl

def c_sheaflaw13_RowBack_10 : MC := (.seq c_sheaflaw13_RowBack_8 c_sheaflaw13_RowBack_9)
@[go_sem] theorem c_sheaflaw13_RowBack_10_at (rd : Option Nat) (K : Post3) (t : Fr) (m : Mem) : wpM E 5 109 rd c_sheaflaw13_RowBack_10 K t m = wpM E 5 109 rd (.seq c_sheaflaw13_RowBack_8 c_sheaflaw13_RowBack_9) K t m := rfl

def c_sheaflaw13_RowBack_11 : MC := (.seq (.ops [⟨(some 69), .move (.tmp 1), none⟩,
    ⟨(some 70), .move (.tmp 1), none⟩,
    ⟨(some 71), .call ⟨.builtin .len, #[(.tmp 70)], #[22]⟩, none⟩,
    ⟨(some 72), .call ⟨.builtin .min, #[(.tmp 71), (.const (.int .i64 60))], #[3, 3]⟩, none⟩,
    ⟨(some 73), .slice 22 (.tmp 69) none (some (.tmp 72)) none, none⟩,
    ⟨(some 74), .call ⟨.value (.func 10), #[(.tmp 73)], #[22]⟩, none⟩,
    ⟨(some 68), .move (.tmp 74), none⟩,
    ⟨(some 75), .extract (.tmp 68) 0, none⟩,
    ⟨(some 76), .extract (.tmp 68) 1, none⟩,
    ⟨(some 13), .assign (.tmp 75), none⟩,
    ⟨(some 14), .assign (.tmp 76), none⟩]) c_sheaflaw13_RowBack_10)
@[go_sem] theorem c_sheaflaw13_RowBack_11_at (rd : Option Nat) (K : Post3) (t : Fr) (m : Mem) : wpM E 5 109 rd c_sheaflaw13_RowBack_11 K t m = wpM E 5 109 rd (.seq (.ops [⟨(some 69), .move (.tmp 1), none⟩,
    ⟨(some 70), .move (.tmp 1), none⟩,
    ⟨(some 71), .call ⟨.builtin .len, #[(.tmp 70)], #[22]⟩, none⟩,
    ⟨(some 72), .call ⟨.builtin .min, #[(.tmp 71), (.const (.int .i64 60))], #[3, 3]⟩, none⟩,
    ⟨(some 73), .slice 22 (.tmp 69) none (some (.tmp 72)) none, none⟩,
    ⟨(some 74), .call ⟨.value (.func 10), #[(.tmp 73)], #[22]⟩, none⟩,
    ⟨(some 68), .move (.tmp 74), none⟩,
    ⟨(some 75), .extract (.tmp 68) 0, none⟩,
    ⟨(some 76), .extract (.tmp 68) 1, none⟩,
    ⟨(some 13), .assign (.tmp 75), none⟩,
    ⟨(some 14), .assign (.tmp 76), none⟩]) c_sheaflaw13_RowBack_10) K t m := rfl

def c_sheaflaw13_RowBack_12 : MC := (.seq c_sheaflaw13_RowBack_5 c_sheaflaw13_RowBack_11)
@[go_sem] theorem c_sheaflaw13_RowBack_12_at (rd : Option Nat) (K : Post3) (t : Fr) (m : Mem) : wpM E 5 109 rd c_sheaflaw13_RowBack_12 K t m = wpM E 5 109 rd (.seq c_sheaflaw13_RowBack_5 c_sheaflaw13_RowBack_11) K t m := rfl

def c_sheaflaw13_RowBack_13 : MC := (.seq (.ops [⟨(some 44), .move (.tmp 8), none⟩,
    ⟨(some 45), .move (.tmp 2), none⟩,
    ⟨(some 46), .move (.tmp 8), none⟩,
    ⟨(some 47), .call ⟨.builtin .len, #[(.tmp 46)], #[22]⟩, none⟩,
    ⟨(some 48), .binOp .sub 3 (.tmp 47) (.const (.int .i64 1)) 3, none⟩,
    ⟨(some 49), .call ⟨.value (.func 14), #[(.tmp 45), (.const (.int .i64 0)), (.tmp 48)], #[3, 3, 3]⟩, none⟩,
    ⟨(some 50), .slice 22 (.tmp 44) none (some (.tmp 49)) none, none⟩,
    ⟨(some 51), .call ⟨.value (.func 10), #[(.tmp 50)], #[22]⟩, none⟩,
    ⟨(some 43), .move (.tmp 51), none⟩,
    ⟨(some 52), .extract (.tmp 43) 0, none⟩,
    ⟨(some 53), .extract (.tmp 43) 1, none⟩,
    ⟨(some 11), .assign (.tmp 52), none⟩,
    ⟨(some 12), .assign (.tmp 53), none⟩]) c_sheaflaw13_RowBack_12)
@[go_sem] theorem c_sheaflaw13_RowBack_13_at (rd : Option Nat) (K : Post3) (t : Fr) (m : Mem) : wpM E 5 109 rd c_sheaflaw13_RowBack_13 K t m = wpM E 5 109 rd (.seq (.ops [⟨(some 44), .move (.tmp 8), none⟩,
    ⟨(some 45), .move (.tmp 2), none⟩,
    ⟨(some 46), .move (.tmp 8), none⟩,
    ⟨(some 47), .call ⟨.builtin .len, #[(.tmp 46)], #[22]⟩, none⟩,
    ⟨(some 48), .binOp .sub 3 (.tmp 47) (.const (.int .i64 1)) 3, none⟩,
    ⟨(some 49), .call ⟨.value (.func 14), #[(.tmp 45), (.const (.int .i64 0)), (.tmp 48)], #[3, 3, 3]⟩, none⟩,
    ⟨(some 50), .slice 22 (.tmp 44) none (some (.tmp 49)) none, none⟩,
    ⟨(some 51), .call ⟨.value (.func 10), #[(.tmp 50)], #[22]⟩, none⟩,
    ⟨(some 43), .move (.tmp 51), none⟩,
    ⟨(some 52), .extract (.tmp 43) 0, none⟩,
    ⟨(some 53), .extract (.tmp 43) 1, none⟩,
    ⟨(some 11), .assign (.tmp 52), none⟩,
    ⟨(some 12), .assign (.tmp 53), none⟩]) c_sheaflaw13_RowBack_12) K t m := rfl

def c_sheaflaw13_RowBack_14 : MC := (.seq (.ops [⟨(some 31), .buildSlice 22 0 #[], none⟩,
    ⟨(some 32), .move (.tmp 8), none⟩,
    ⟨(some 33), .call ⟨.builtin .append, #[(.tmp 31), (.tmp 32)], #[22, 22]⟩, none⟩,
    ⟨(some 34), .move (.tmp 1), none⟩,
    ⟨(some 35), .move (.tmp 1), none⟩,
    ⟨(some 36), .call ⟨.builtin .len, #[(.tmp 35)], #[22]⟩, none⟩,
    ⟨(some 37), .call ⟨.builtin .min, #[(.tmp 36), (.const (.int .i64 20))], #[3, 3]⟩, none⟩,
    ⟨(some 38), .slice 22 (.tmp 34) none (some (.tmp 37)) none, none⟩,
    ⟨(some 39), .call ⟨.builtin .append, #[(.tmp 33), (.tmp 38)], #[22, 22]⟩, none⟩,
    ⟨(some 40), .call ⟨.value (.func 10), #[(.tmp 39)], #[22]⟩, none⟩,
    ⟨(some 30), .move (.tmp 40), none⟩,
    ⟨(some 41), .extract (.tmp 30) 0, none⟩,
    ⟨(some 42), .extract (.tmp 30) 1, none⟩,
    ⟨(some 9), .assign (.tmp 41), none⟩,
    ⟨(some 10), .assign (.tmp 42), none⟩]) c_sheaflaw13_RowBack_13)
@[go_sem] theorem c_sheaflaw13_RowBack_14_at (rd : Option Nat) (K : Post3) (t : Fr) (m : Mem) : wpM E 5 109 rd c_sheaflaw13_RowBack_14 K t m = wpM E 5 109 rd (.seq (.ops [⟨(some 31), .buildSlice 22 0 #[], none⟩,
    ⟨(some 32), .move (.tmp 8), none⟩,
    ⟨(some 33), .call ⟨.builtin .append, #[(.tmp 31), (.tmp 32)], #[22, 22]⟩, none⟩,
    ⟨(some 34), .move (.tmp 1), none⟩,
    ⟨(some 35), .move (.tmp 1), none⟩,
    ⟨(some 36), .call ⟨.builtin .len, #[(.tmp 35)], #[22]⟩, none⟩,
    ⟨(some 37), .call ⟨.builtin .min, #[(.tmp 36), (.const (.int .i64 20))], #[3, 3]⟩, none⟩,
    ⟨(some 38), .slice 22 (.tmp 34) none (some (.tmp 37)) none, none⟩,
    ⟨(some 39), .call ⟨.builtin .append, #[(.tmp 33), (.tmp 38)], #[22, 22]⟩, none⟩,
    ⟨(some 40), .call ⟨.value (.func 10), #[(.tmp 39)], #[22]⟩, none⟩,
    ⟨(some 30), .move (.tmp 40), none⟩,
    ⟨(some 41), .extract (.tmp 30) 0, none⟩,
    ⟨(some 42), .extract (.tmp 30) 1, none⟩,
    ⟨(some 9), .assign (.tmp 41), none⟩,
    ⟨(some 10), .assign (.tmp 42), none⟩]) c_sheaflaw13_RowBack_13) K t m := rfl

def c_sheaflaw13_RowBack_15 : MC := (.seq c_sheaflaw13_RowBack_2 c_sheaflaw13_RowBack_14)
@[go_sem] theorem c_sheaflaw13_RowBack_15_at (rd : Option Nat) (K : Post3) (t : Fr) (m : Mem) : wpM E 5 109 rd c_sheaflaw13_RowBack_15 K t m = wpM E 5 109 rd (.seq c_sheaflaw13_RowBack_2 c_sheaflaw13_RowBack_14) K t m := rfl

def c_sheaflaw13_RowBack_16 : MC := (.seq (.ops [⟨(some 20), .move (.tmp 7), none⟩,
    ⟨(some 21), .call ⟨.value (.func 9), #[(.tmp 20)], #[24]⟩, none⟩,
    ⟨(some 8), .assign (.tmp 21), none⟩]) c_sheaflaw13_RowBack_15)
@[go_sem] theorem c_sheaflaw13_RowBack_16_at (rd : Option Nat) (K : Post3) (t : Fr) (m : Mem) : wpM E 5 109 rd c_sheaflaw13_RowBack_16 K t m = wpM E 5 109 rd (.seq (.ops [⟨(some 20), .move (.tmp 7), none⟩,
    ⟨(some 21), .call ⟨.value (.func 9), #[(.tmp 20)], #[24]⟩, none⟩,
    ⟨(some 8), .assign (.tmp 21), none⟩]) c_sheaflaw13_RowBack_15) K t m := rfl

def c_sheaflaw13_RowBack_17 : MC := (.seq (.ops [⟨(some 15), .move (.tmp 0), none⟩,
    ⟨(some 16), .move (.tmp 0), none⟩,
    ⟨(some 17), .call ⟨.builtin .len, #[(.tmp 16)], #[24]⟩, none⟩,
    ⟨(some 18), .call ⟨.builtin .min, #[(.tmp 17), (.const (.int .i64 10))], #[3, 3]⟩, none⟩,
    ⟨(some 19), .slice 24 (.tmp 15) none (some (.tmp 18)) none, none⟩,
    ⟨(some 7), .assign (.tmp 19), none⟩]) c_sheaflaw13_RowBack_16)
@[go_sem] theorem c_sheaflaw13_RowBack_17_at (rd : Option Nat) (K : Post3) (t : Fr) (m : Mem) : wpM E 5 109 rd c_sheaflaw13_RowBack_17 K t m = wpM E 5 109 rd (.seq (.ops [⟨(some 15), .move (.tmp 0), none⟩,
    ⟨(some 16), .move (.tmp 0), none⟩,
    ⟨(some 17), .call ⟨.builtin .len, #[(.tmp 16)], #[24]⟩, none⟩,
    ⟨(some 18), .call ⟨.builtin .min, #[(.tmp 17), (.const (.int .i64 10))], #[3, 3]⟩, none⟩,
    ⟨(some 19), .slice 24 (.tmp 15) none (some (.tmp 18)) none, none⟩,
    ⟨(some 7), .assign (.tmp 19), none⟩]) c_sheaflaw13_RowBack_16) K t m := rfl

def c_sheaflaw13_RowBack_18 : MC := (.seq (.ops [⟨(some 6), .assign (.const (.bool false)), none⟩]) c_sheaflaw13_RowBack_17)
@[go_sem] theorem c_sheaflaw13_RowBack_18_at (rd : Option Nat) (K : Post3) (t : Fr) (m : Mem) : wpM E 5 109 rd c_sheaflaw13_RowBack_18 K t m = wpM E 5 109 rd (.seq (.ops [⟨(some 6), .assign (.const (.bool false)), none⟩]) c_sheaflaw13_RowBack_17) K t m := rfl

@[go_sem] theorem some5 : (E.fn 5).isSome = true := by kernel_rfl
set_option maxRecDepth 100000 in
theorem fn_sheaflaw13_RowBack : FnIs E 5 109 [.tmp 6] c_sheaflaw13_RowBack_18 := ⟨by kernel_rfl, by kernel_rfl⟩

/-! sheaf/sheaflaw13.RowOrder -/
abbrev F_sheaflaw13_RowOrder : FuncId := 6
def c_sheaflaw13_RowOrder_0 : MC := (.seq (.ops [⟨(some 8), .assign (.const (.bool false)), none⟩]) .ret)
@[go_sem] theorem c_sheaflaw13_RowOrder_0_at (rd : Option Nat) (K : Post3) (t : Fr) (m : Mem) : wpM E 6 146 rd c_sheaflaw13_RowOrder_0 K t m = wpM E 6 146 rd (.seq (.ops [⟨(some 8), .assign (.const (.bool false)), none⟩]) .ret) K t m := rfl

def c_sheaflaw13_RowOrder_1 : MC := (.cond (.tmp 91) c_sheaflaw13_RowOrder_0 .skip)
@[go_sem] theorem c_sheaflaw13_RowOrder_1_at (rd : Option Nat) (K : Post3) (t : Fr) (m : Mem) : wpM E 6 146 rd c_sheaflaw13_RowOrder_1 K t m = wpM E 6 146 rd (.cond (.tmp 91) c_sheaflaw13_RowOrder_0 .skip) K t m := rfl

def c_sheaflaw13_RowOrder_2 : MC := (.seq (.ops [⟨(some 46), .move (.tmp 1), none⟩,
    ⟨(some 47), .move (.tmp 0), none⟩,
    ⟨(some 48), .move (.tmp 3), none⟩,
    ⟨(some 49), .call ⟨.value (.func 13), #[(.tmp 46), (.tmp 47), (.tmp 48)], #[24, 24, 24]⟩, none⟩,
    ⟨(some 50), .move (.tmp 9), none⟩,
    ⟨(some 51), .unOp .neg 3 (.tmp 50), none⟩,
    ⟨(some 52), .binOp .neq 3 (.tmp 49) (.tmp 51) 3, none⟩,
    ⟨(some 53), .move (.tmp 52), none⟩,
    ⟨(some 54), .move (.tmp 0), (some (some 53, false))⟩,
    ⟨(some 55), .move (.tmp 0), (some (some 53, false))⟩,
    ⟨(some 56), .move (.tmp 3), (some (some 53, false))⟩,
    ⟨(some 57), .call ⟨.value (.func 13), #[(.tmp 54), (.tmp 55), (.tmp 56)], #[24, 24, 24]⟩, (some (some 53, false))⟩,
    ⟨(some 58), .binOp .neq 3 (.tmp 57) (.const (.int .i64 0)) 3, (some (some 53, false))⟩,
    ⟨(some 59), .pick (.tmp 53) (.const (.bool true)) (.tmp 58), none⟩,
    ⟨(some 60), .move (.tmp 59), none⟩,
    ⟨(some 61), .move (.tmp 9), (some (some 60, false))⟩,
    ⟨(some 62), .binOp .leq 3 (.tmp 61) (.const (.int .i64 0)) 3, (some (some 60, false))⟩,
    ⟨(some 63), .move (.tmp 62), (some (some 60, false))⟩,
    ⟨(some 64), .move (.tmp 10), (some (some 63, true))⟩,
    ⟨(some 65), .binOp .leq 3 (.tmp 64) (.const (.int .i64 0)) 3, (some (some 63, true))⟩,
    ⟨(some 66), .pick (.tmp 63) (.tmp 65) (.const (.bool false)), (some (some 60, false))⟩,
    ⟨(some 67), .move (.tmp 66), (some (some 60, false))⟩,
    ⟨(some 68), .move (.tmp 11), (some (some 67, true))⟩,
    ⟨(some 69), .binOp .gtr 3 (.tmp 68) (.const (.int .i64 0)) 3, (some (some 67, true))⟩,
    ⟨(some 70), .pick (.tmp 67) (.tmp 69) (.const (.bool false)), (some (some 60, false))⟩,
    ⟨(some 71), .pick (.tmp 60) (.const (.bool true)) (.tmp 70), none⟩,
    ⟨(some 72), .move (.tmp 71), none⟩,
    ⟨(some 73), .move (.tmp 9), (some (some 72, false))⟩,
    ⟨(some 74), .binOp .lss 3 (.tmp 73) (.const (.int .i64 0)) 3, (some (some 72, false))⟩,
    ⟨(some 75), .move (.tmp 74), (some (some 72, false))⟩,
    ⟨(some 76), .move (.tmp 10), (some (some 75, true))⟩,
    ⟨(some 77), .binOp .leq 3 (.tmp 76) (.const (.int .i64 0)) 3, (some (some 75, true))⟩,
    ⟨(some 78), .pick (.tmp 75) (.tmp 77) (.const (.bool false)), (some (some 72, false))⟩,
    ⟨(some 79), .move (.tmp 78), (some (some 72, false))⟩,
    ⟨(some 80), .move (.tmp 11), (some (some 79, true))⟩,
    ⟨(some 81), .binOp .geq 3 (.tmp 80) (.const (.int .i64 0)) 3, (some (some 79, true))⟩,
    ⟨(some 82), .pick (.tmp 79) (.tmp 81) (.const (.bool false)), (some (some 72, false))⟩,
    ⟨(some 83), .pick (.tmp 72) (.const (.bool true)) (.tmp 82), none⟩,
    ⟨(some 84), .move (.tmp 83), none⟩,
    ⟨(some 85), .move (.tmp 9), (some (some 84, false))⟩,
    ⟨(some 86), .binOp .eql 3 (.tmp 85) (.const (.int .i64 0)) 3, (some (some 84, false))⟩,
    ⟨(some 87), .move (.tmp 0), (some (some 84, false))⟩,
    ⟨(some 88), .move (.tmp 1), (some (some 84, false))⟩,
    ⟨(some 89), .call ⟨.value (.func 12), #[(.tmp 87), (.tmp 88)], #[24, 24]⟩, (some (some 84, false))⟩,
    ⟨(some 90), .binOp .neq 4 (.tmp 86) (.tmp 89) 4, (some (some 84, false))⟩,
    ⟨(some 91), .pick (.tmp 84) (.const (.bool true)) (.tmp 90), none⟩]) c_sheaflaw13_RowOrder_1)
@[go_sem] theorem c_sheaflaw13_RowOrder_2_at (rd : Option Nat) (K : Post3) (t : Fr) (m : Mem) : wpM E 6 146 rd c_sheaflaw13_RowOrder_2 K t m = wpM E 6 146 rd (.seq (.ops [⟨(some 46), .move (.tmp 1), none⟩,
    ⟨(some 47), .move (.tmp 0), none⟩,
    ⟨(some 48), .move (.tmp 3), none⟩,
    ⟨(some 49), .call ⟨.value (.func 13), #[(.tmp 46), (.tmp 47), (.tmp 48)], #[24, 24, 24]⟩, none⟩,
    ⟨(some 50), .move (.tmp 9), none⟩,
    ⟨(some 51), .unOp .neg 3 (.tmp 50), none⟩,
    ⟨(some 52), .binOp .neq 3 (.tmp 49) (.tmp 51) 3, none⟩,
    ⟨(some 53), .move (.tmp 52), none⟩,
    ⟨(some 54), .move (.tmp 0), (some (some 53, false))⟩,
    ⟨(some 55), .move (.tmp 0), (some (some 53, false))⟩,
    ⟨(some 56), .move (.tmp 3), (some (some 53, false))⟩,
    ⟨(some 57), .call ⟨.value (.func 13), #[(.tmp 54), (.tmp 55), (.tmp 56)], #[24, 24, 24]⟩, (some (some 53, false))⟩,
    ⟨(some 58), .binOp .neq 3 (.tmp 57) (.const (.int .i64 0)) 3, (some (some 53, false))⟩,
    ⟨(some 59), .pick (.tmp 53) (.const (.bool true)) (.tmp 58), none⟩,
    ⟨(some 60), .move (.tmp 59), none⟩,
    ⟨(some 61), .move (.tmp 9), (some (some 60, false))⟩,
    ⟨(some 62), .binOp .leq 3 (.tmp 61) (.const (.int .i64 0)) 3, (some (some 60, false))⟩,
    ⟨(some 63), .move (.tmp 62), (some (some 60, false))⟩,
    ⟨(some 64), .move (.tmp 10), (some (some 63, true))⟩,
    ⟨(some 65), .binOp .leq 3 (.tmp 64) (.const (.int .i64 0)) 3, (some (some 63, true))⟩,
    ⟨(some 66), .pick (.tmp 63) (.tmp 65) (.const (.bool false)), (some (some 60, false))⟩,
    ⟨(some 67), .move (.tmp 66), (some (some 60, false))⟩,
    ⟨(some 68), .move (.tmp 11), (some (some 67, true))⟩,
    ⟨(some 69), .binOp .gtr 3 (.tmp 68) (.const (.int .i64 0)) 3, (some (some 67, true))⟩,
    ⟨(some 70), .pick (.tmp 67) (.tmp 69) (.const (.bool false)), (some (some 60, false))⟩,
    ⟨(some 71), .pick (.tmp 60) (.const (.bool true)) (.tmp 70), none⟩,
    ⟨(some 72), .move (.tmp 71), none⟩,
    ⟨(some 73), .move (.tmp 9), (some (some 72, false))⟩,
    ⟨(some 74), .binOp .lss 3 (.tmp 73) (.const (.int .i64 0)) 3, (some (some 72, false))⟩,
    ⟨(some 75), .move (.tmp 74), (some (some 72, false))⟩,
    ⟨(some 76), .move (.tmp 10), (some (some 75, true))⟩,
    ⟨(some 77), .binOp .leq 3 (.tmp 76) (.const (.int .i64 0)) 3, (some (some 75, true))⟩,
    ⟨(some 78), .pick (.tmp 75) (.tmp 77) (.const (.bool false)), (some (some 72, false))⟩,
    ⟨(some 79), .move (.tmp 78), (some (some 72, false))⟩,
    ⟨(some 80), .move (.tmp 11), (some (some 79, true))⟩,
    ⟨(some 81), .binOp .geq 3 (.tmp 80) (.const (.int .i64 0)) 3, (some (some 79, true))⟩,
    ⟨(some 82), .pick (.tmp 79) (.tmp 81) (.const (.bool false)), (some (some 72, false))⟩,
    ⟨(some 83), .pick (.tmp 72) (.const (.bool true)) (.tmp 82), none⟩,
    ⟨(some 84), .move (.tmp 83), none⟩,
    ⟨(some 85), .move (.tmp 9), (some (some 84, false))⟩,
    ⟨(some 86), .binOp .eql 3 (.tmp 85) (.const (.int .i64 0)) 3, (some (some 84, false))⟩,
    ⟨(some 87), .move (.tmp 0), (some (some 84, false))⟩,
    ⟨(some 88), .move (.tmp 1), (some (some 84, false))⟩,
    ⟨(some 89), .call ⟨.value (.func 12), #[(.tmp 87), (.tmp 88)], #[24, 24]⟩, (some (some 84, false))⟩,
    ⟨(some 90), .binOp .neq 4 (.tmp 86) (.tmp 89) 4, (some (some 84, false))⟩,
    ⟨(some 91), .pick (.tmp 84) (.const (.bool true)) (.tmp 90), none⟩]) c_sheaflaw13_RowOrder_1) K t m := rfl

def c_sheaflaw13_RowOrder_3 : MC := (.seq (.ops [⟨(some 8), .assign (.const (.bool false)), none⟩]) .ret)
@[go_sem] theorem c_sheaflaw13_RowOrder_3_at (rd : Option Nat) (K : Post3) (t : Fr) (m : Mem) : wpM E 6 146 rd c_sheaflaw13_RowOrder_3 K t m = wpM E 6 146 rd (.seq (.ops [⟨(some 8), .assign (.const (.bool false)), none⟩]) .ret) K t m := rfl

def c_sheaflaw13_RowOrder_4 : MC := (.cond (.tmp 144) c_sheaflaw13_RowOrder_3 .skip)
@[go_sem] theorem c_sheaflaw13_RowOrder_4_at (rd : Option Nat) (K : Post3) (t : Fr) (m : Mem) : wpM E 6 146 rd c_sheaflaw13_RowOrder_4 K t m = wpM E 6 146 rd (.cond (.tmp 144) c_sheaflaw13_RowOrder_3 .skip) K t m := rfl

def c_sheaflaw13_RowOrder_5 : MC := (.seq (.ops [⟨(some 129), .move (.tmp 12), none⟩,
    ⟨(some 130), .move (.tmp 13), none⟩,
    ⟨(some 131), .binOp .lss 3 (.tmp 129) (.tmp 130) 3, none⟩,
    ⟨(some 132), .move (.tmp 131), none⟩,
    ⟨(some 133), .move (.tmp 9), (some (some 132, true))⟩,
    ⟨(some 134), .binOp .neq 3 (.tmp 133) (.const (.int .i64 (-1))) 3, (some (some 132, true))⟩,
    ⟨(some 135), .pick (.tmp 132) (.tmp 134) (.const (.bool false)), none⟩,
    ⟨(some 136), .move (.tmp 135), none⟩,
    ⟨(some 137), .move (.tmp 12), (some (some 136, false))⟩,
    ⟨(some 138), .move (.tmp 13), (some (some 136, false))⟩,
    ⟨(some 139), .binOp .gtr 3 (.tmp 137) (.tmp 138) 3, (some (some 136, false))⟩,
    ⟨(some 140), .move (.tmp 139), (some (some 136, false))⟩,
    ⟨(some 141), .move (.tmp 9), (some (some 140, true))⟩,
    ⟨(some 142), .binOp .neq 3 (.tmp 141) (.const (.int .i64 1)) 3, (some (some 140, true))⟩,
    ⟨(some 143), .pick (.tmp 140) (.tmp 142) (.const (.bool false)), (some (some 136, false))⟩,
    ⟨(some 144), .pick (.tmp 136) (.const (.bool true)) (.tmp 143), none⟩]) c_sheaflaw13_RowOrder_4)
@[go_sem] theorem c_sheaflaw13_RowOrder_5_at (rd : Option Nat) (K : Post3) (t : Fr) (m : Mem) : wpM E 6 146 rd c_sheaflaw13_RowOrder_5 K t m = wpM E 6 146 rd (.seq (.ops [⟨(some 129), .move (.tmp 12), none⟩,
    ⟨(some 130), .move (.tmp 13), none⟩,
    ⟨(some 131), .binOp .lss 3 (.tmp 129) (.tmp 130) 3, none⟩,
    ⟨(some 132), .move (.tmp 131), none⟩,
    ⟨(some 133), .move (.tmp 9), (some (some 132, true))⟩,
    ⟨(some 134), .binOp .neq 3 (.tmp 133) (.const (.int .i64 (-1))) 3, (some (some 132, true))⟩,
    ⟨(some 135), .pick (.tmp 132) (.tmp 134) (.const (.bool false)), none⟩,
    ⟨(some 136), .move (.tmp 135), none⟩,
    ⟨(some 137), .move (.tmp 12), (some (some 136, false))⟩,
    ⟨(some 138), .move (.tmp 13), (some (some 136, false))⟩,
    ⟨(some 139), .binOp .gtr 3 (.tmp 137) (.tmp 138) 3, (some (some 136, false))⟩,
    ⟨(some 140), .move (.tmp 139), (some (some 136, false))⟩,
    ⟨(some 141), .move (.tmp 9), (some (some 140, true))⟩,
    ⟨(some 142), .binOp .neq 3 (.tmp 141) (.const (.int .i64 1)) 3, (some (some 140, true))⟩,
    ⟨(some 143), .pick (.tmp 140) (.tmp 142) (.const (.bool false)), (some (some 136, false))⟩,
    ⟨(some 144), .pick (.tmp 136) (.const (.bool true)) (.tmp 143), none⟩]) c_sheaflaw13_RowOrder_4) K t m := rfl

def c_sheaflaw13_RowOrder_6 : MC := (.seq (.ops [⟨(some 117), .move (.tmp 0), none⟩,
    ⟨(some 118), .move (.tmp 3), none⟩,
    ⟨(some 119), .indexAddr 24 (.tmp 118) (.const (.int .i64 0)), none⟩,
    ⟨(some 120), .load 3 (.tmp 119), none⟩,
    ⟨(some 121), .indexAddr 24 (.tmp 117) (.tmp 120), none⟩,
    ⟨(some 122), .load 3 (.tmp 121), none⟩,
    ⟨(some 123), .move (.tmp 1), none⟩,
    ⟨(some 124), .move (.tmp 3), none⟩,
    ⟨(some 125), .indexAddr 24 (.tmp 124) (.const (.int .i64 0)), none⟩,
    ⟨(some 126), .load 3 (.tmp 125), none⟩,
    ⟨(some 127), .indexAddr 24 (.tmp 123) (.tmp 126), none⟩,
    ⟨(some 128), .load 3 (.tmp 127), none⟩,
    ⟨(some 12), .assign (.tmp 122), none⟩,
    ⟨(some 13), .assign (.tmp 128), none⟩]) c_sheaflaw13_RowOrder_5)
@[go_sem] theorem c_sheaflaw13_RowOrder_6_at (rd : Option Nat) (K : Post3) (t : Fr) (m : Mem) : wpM E 6 146 rd c_sheaflaw13_RowOrder_6 K t m = wpM E 6 146 rd (.seq (.ops [⟨(some 117), .move (.tmp 0), none⟩,
    ⟨(some 118), .move (.tmp 3), none⟩,
    ⟨(some 119), .indexAddr 24 (.tmp 118) (.const (.int .i64 0)), none⟩,
    ⟨(some 120), .load 3 (.tmp 119), none⟩,
    ⟨(some 121), .indexAddr 24 (.tmp 117) (.tmp 120), none⟩,
    ⟨(some 122), .load 3 (.tmp 121), none⟩,
    ⟨(some 123), .move (.tmp 1), none⟩,
    ⟨(some 124), .move (.tmp 3), none⟩,
    ⟨(some 125), .indexAddr 24 (.tmp 124) (.const (.int .i64 0)), none⟩,
    ⟨(some 126), .load 3 (.tmp 125), none⟩,
    ⟨(some 127), .indexAddr 24 (.tmp 123) (.tmp 126), none⟩,
    ⟨(some 128), .load 3 (.tmp 127), none⟩,
    ⟨(some 12), .assign (.tmp 122), none⟩,
    ⟨(some 13), .assign (.tmp 128), none⟩]) c_sheaflaw13_RowOrder_5) K t m := rfl

def c_sheaflaw13_RowOrder_7 : MC := (.cond (.tmp 116) c_sheaflaw13_RowOrder_6 .skip)
@[go_sem] theorem c_sheaflaw13_RowOrder_7_at (rd : Option Nat) (K : Post3) (t : Fr) (m : Mem) : wpM E 6 146 rd c_sheaflaw13_RowOrder_7 K t m = wpM E 6 146 rd (.cond (.tmp 116) c_sheaflaw13_RowOrder_6 .skip) K t m := rfl

def c_sheaflaw13_RowOrder_8 : MC := (.seq (.ops [⟨(some 92), .move (.tmp 3), none⟩,
    ⟨(some 93), .call ⟨.builtin .len, #[(.tmp 92)], #[24]⟩, none⟩,
    ⟨(some 94), .binOp .gtr 3 (.tmp 93) (.const (.int .i64 0)) 3, none⟩,
    ⟨(some 95), .move (.tmp 94), none⟩,
    ⟨(some 96), .move (.tmp 3), (some (some 95, true))⟩,
    ⟨(some 97), .indexAddr 24 (.tmp 96) (.const (.int .i64 0)), (some (some 95, true))⟩,
    ⟨(some 98), .load 3 (.tmp 97), (some (some 95, true))⟩,
    ⟨(some 99), .binOp .geq 3 (.tmp 98) (.const (.int .i64 0)) 3, (some (some 95, true))⟩,
    ⟨(some 100), .pick (.tmp 95) (.tmp 99) (.const (.bool false)), none⟩,
    ⟨(some 101), .move (.tmp 100), none⟩,
    ⟨(some 102), .move (.tmp 3), (some (some 101, true))⟩,
    ⟨(some 103), .indexAddr 24 (.tmp 102) (.const (.int .i64 0)), (some (some 101, true))⟩,
    ⟨(some 104), .load 3 (.tmp 103), (some (some 101, true))⟩,
    ⟨(some 105), .move (.tmp 0), (some (some 101, true))⟩,
    ⟨(some 106), .call ⟨.builtin .len, #[(.tmp 105)], #[24]⟩, (some (some 101, true))⟩,
    ⟨(some 107), .binOp .lss 3 (.tmp 104) (.tmp 106) 3, (some (some 101, true))⟩,
    ⟨(some 108), .pick (.tmp 101) (.tmp 107) (.const (.bool false)), none⟩,
    ⟨(some 109), .move (.tmp 108), none⟩,
    ⟨(some 110), .move (.tmp 3), (some (some 109, true))⟩,
    ⟨(some 111), .indexAddr 24 (.tmp 110) (.const (.int .i64 0)), (some (some 109, true))⟩,
    ⟨(some 112), .load 3 (.tmp 111), (some (some 109, true))⟩,
    ⟨(some 113), .move (.tmp 1), (some (some 109, true))⟩,
    ⟨(some 114), .call ⟨.builtin .len, #[(.tmp 113)], #[24]⟩, (some (some 109, true))⟩,
    ⟨(some 115), .binOp .lss 3 (.tmp 112) (.tmp 114) 3, (some (some 109, true))⟩,
    ⟨(some 116), .pick (.tmp 109) (.tmp 115) (.const (.bool false)), none⟩]) c_sheaflaw13_RowOrder_7)
@[go_sem] theorem c_sheaflaw13_RowOrder_8_at (rd : Option Nat) (K : Post3) (t : Fr) (m : Mem) : wpM E 6 146 rd c_sheaflaw13_RowOrder_8 K t m = wpM E 6 146 rd (.seq (.ops [⟨(some 92), .move (.tmp 3), none⟩,
    ⟨(some 93), .call ⟨.builtin .len, #[(.tmp 92)], #[24]⟩, none⟩,
    ⟨(some 94), .binOp .gtr 3 (.tmp 93) (.const (.int .i64 0)) 3, none⟩,
    ⟨(some 95), .move (.tmp 94), none⟩,
    ⟨(some 96), .move (.tmp 3), (some (some 95, true))⟩,
    ⟨(some 97), .indexAddr 24 (.tmp 96) (.const (.int .i64 0)), (some (some 95, true))⟩,
    ⟨(some 98), .load 3 (.tmp 97), (some (some 95, true))⟩,
    ⟨(some 99), .binOp .geq 3 (.tmp 98) (.const (.int .i64 0)) 3, (some (some 95, true))⟩,
    ⟨(some 100), .pick (.tmp 95) (.tmp 99) (.const (.bool false)), none⟩,
    ⟨(some 101), .move (.tmp 100), none⟩,
    ⟨(some 102), .move (.tmp 3), (some (some 101, true))⟩,
    ⟨(some 103), .indexAddr 24 (.tmp 102) (.const (.int .i64 0)), (some (some 101, true))⟩,
    ⟨(some 104), .load 3 (.tmp 103), (some (some 101, true))⟩,
    ⟨(some 105), .move (.tmp 0), (some (some 101, true))⟩,
    ⟨(some 106), .call ⟨.builtin .len, #[(.tmp 105)], #[24]⟩, (some (some 101, true))⟩,
    ⟨(some 107), .binOp .lss 3 (.tmp 104) (.tmp 106) 3, (some (some 101, true))⟩,
    ⟨(some 108), .pick (.tmp 101) (.tmp 107) (.const (.bool false)), none⟩,
    ⟨(some 109), .move (.tmp 108), none⟩,
    ⟨(some 110), .move (.tmp 3), (some (some 109, true))⟩,
    ⟨(some 111), .indexAddr 24 (.tmp 110) (.const (.int .i64 0)), (some (some 109, true))⟩,
    ⟨(some 112), .load 3 (.tmp 111), (some (some 109, true))⟩,
    ⟨(some 113), .move (.tmp 1), (some (some 109, true))⟩,
    ⟨(some 114), .call ⟨.builtin .len, #[(.tmp 113)], #[24]⟩, (some (some 109, true))⟩,
    ⟨(some 115), .binOp .lss 3 (.tmp 112) (.tmp 114) 3, (some (some 109, true))⟩,
    ⟨(some 116), .pick (.tmp 109) (.tmp 115) (.const (.bool false)), none⟩]) c_sheaflaw13_RowOrder_7) K t m := rfl

def c_sheaflaw13_RowOrder_9 : MC := (.seq (.ops [⟨(some 145), .call ⟨.value (.func 3), #[], #[]⟩, none⟩,
    ⟨(some 8), .assign (.tmp 145), none⟩]) .ret)
@[go_sem] theorem c_sheaflaw13_RowOrder_9_at (rd : Option Nat) (K : Post3) (t : Fr) (m : Mem) : wpM E 6 146 rd c_sheaflaw13_RowOrder_9 K t m = wpM E 6 146 rd (.seq (.ops [⟨(some 145), .call ⟨.value (.func 3), #[], #[]⟩, none⟩,
    ⟨(some 8), .assign (.tmp 145), none⟩]) .ret) K t m := rfl

def c_sheaflaw13_RowOrder_10 : MC := (.seq c_sheaflaw13_RowOrder_8 c_sheaflaw13_RowOrder_9)
@[go_sem] theorem c_sheaflaw13_RowOrder_10_at (rd : Option Nat) (K : Post3) (t : Fr) (m : Mem) : wpM E 6 146 rd c_sheaflaw13_RowOrder_10 K t m = wpM E 6 146 rd (.seq c_sheaflaw13_RowOrder_8 c_sheaflaw13_RowOrder_9) K t m := rfl

def c_sheaflaw13_RowOrder_11 : MC := (.seq c_sheaflaw13_RowOrder_2 c_sheaflaw13_RowOrder_10)
@[go_sem] theorem c_sheaflaw13_RowOrder_11_at (rd : Option Nat) (K : Post3) (t : Fr) (m : Mem) : wpM E 6 146 rd c_sheaflaw13_RowOrder_11 K t m = wpM E 6 146 rd (.seq c_sheaflaw13_RowOrder_2 c_sheaflaw13_RowOrder_10) K t m := rfl

def c_sheaflaw13_RowOrder_12 : MC := (.seq (.ops [⟨(some 34), .move (.tmp 0), none⟩,
    ⟨(some 35), .move (.tmp 1), none⟩,
    ⟨(some 36), .move (.tmp 3), none⟩,
    ⟨(some 37), .call ⟨.value (.func 13), #[(.tmp 34), (.tmp 35), (.tmp 36)], #[24, 24, 24]⟩, none⟩,
    ⟨(some 38), .move (.tmp 1), none⟩,
    ⟨(some 39), .move (.tmp 2), none⟩,
    ⟨(some 40), .move (.tmp 3), none⟩,
    ⟨(some 41), .call ⟨.value (.func 13), #[(.tmp 38), (.tmp 39), (.tmp 40)], #[24, 24, 24]⟩, none⟩,
    ⟨(some 42), .move (.tmp 0), none⟩,
    ⟨(some 43), .move (.tmp 2), none⟩,
    ⟨(some 44), .move (.tmp 3), none⟩,
    ⟨(some 45), .call ⟨.value (.func 13), #[(.tmp 42), (.tmp 43), (.tmp 44)], #[24, 24, 24]⟩, none⟩,
    ⟨(some 9), .assign (.tmp 37), none⟩,
    ⟨(some 10), .assign (.tmp 41), none⟩,
    ⟨(some 11), .assign (.tmp 45), none⟩]) c_sheaflaw13_RowOrder_11)
@[go_sem] theorem c_sheaflaw13_RowOrder_12_at (rd : Option Nat) (K : Post3) (t : Fr) (m : Mem) : wpM E 6 146 rd c_sheaflaw13_RowOrder_12 K t m = wpM E 6 146 rd (.seq (.ops [⟨(some 34), .move (.tmp 0), none⟩,
    ⟨(some 35), .move (.tmp 1), none⟩,
    ⟨(some 36), .move (.tmp 3), none⟩,
    ⟨(some 37), .call ⟨.value (.func 13), #[(.tmp 34), (.tmp 35), (.tmp 36)], #[24, 24, 24]⟩, none⟩,
    ⟨(some 38), .move (.tmp 1), none⟩,
    ⟨(some 39), .move (.tmp 2), none⟩,
    ⟨(some 40), .move (.tmp 3), none⟩,
    ⟨(some 41), .call ⟨.value (.func 13), #[(.tmp 38), (.tmp 39), (.tmp 40)], #[24, 24, 24]⟩, none⟩,
    ⟨(some 42), .move (.tmp 0), none⟩,
    ⟨(some 43), .move (.tmp 2), none⟩,
    ⟨(some 44), .move (.tmp 3), none⟩,
    ⟨(some 45), .call ⟨.value (.func 13), #[(.tmp 42), (.tmp 43), (.tmp 44)], #[24, 24, 24]⟩, none⟩,
    ⟨(some 9), .assign (.tmp 37), none⟩,
    ⟨(some 10), .assign (.tmp 41), none⟩,
    ⟨(some 11), .assign (.tmp 45), none⟩]) c_sheaflaw13_RowOrder_11) K t m := rfl

def c_sheaflaw13_RowOrder_13 : MC := (.seq (.ops [⟨(some 14), .move (.tmp 0), none⟩,
    ⟨(some 15), .move (.tmp 0), none⟩,
    ⟨(some 16), .call ⟨.builtin .len, #[(.tmp 15)], #[24]⟩, none⟩,
    ⟨(some 17), .call ⟨.builtin .min, #[(.tmp 16), (.const (.int .i64 10))], #[3, 3]⟩, none⟩,
    ⟨(some 18), .slice 24 (.tmp 14) none (some (.tmp 17)) none, none⟩,
    ⟨(some 19), .move (.tmp 1), none⟩,
    ⟨(some 20), .move (.tmp 1), none⟩,
    ⟨(some 21), .call ⟨.builtin .len, #[(.tmp 20)], #[24]⟩, none⟩,
    ⟨(some 22), .call ⟨.builtin .min, #[(.tmp 21), (.const (.int .i64 10))], #[3, 3]⟩, none⟩,
    ⟨(some 23), .slice 24 (.tmp 19) none (some (.tmp 22)) none, none⟩,
    ⟨(some 24), .move (.tmp 2), none⟩,
    ⟨(some 25), .move (.tmp 2), none⟩,
    ⟨(some 26), .call ⟨.builtin .len, #[(.tmp 25)], #[24]⟩, none⟩,
    ⟨(some 27), .call ⟨.builtin .min, #[(.tmp 26), (.const (.int .i64 10))], #[3, 3]⟩, none⟩,
    ⟨(some 28), .slice 24 (.tmp 24) none (some (.tmp 27)) none, none⟩,
    ⟨(some 29), .move (.tmp 3), none⟩,
    ⟨(some 30), .move (.tmp 3), none⟩,
    ⟨(some 31), .call ⟨.builtin .len, #[(.tmp 30)], #[24]⟩, none⟩,
    ⟨(some 32), .call ⟨.builtin .min, #[(.tmp 31), (.const (.int .i64 4))], #[3, 3]⟩, none⟩,
    ⟨(some 33), .slice 24 (.tmp 29) none (some (.tmp 32)) none, none⟩,
    ⟨(some 0), .assign (.tmp 18), none⟩,
    ⟨(some 1), .assign (.tmp 23), none⟩,
    ⟨(some 2), .assign (.tmp 28), none⟩,
    ⟨(some 3), .assign (.tmp 33), none⟩]) c_sheaflaw13_RowOrder_12)
@[go_sem] theorem c_sheaflaw13_RowOrder_13_at (rd : Option Nat) (K : Post3) (t : Fr) (m : Mem) : wpM E 6 146 rd c_sheaflaw13_RowOrder_13 K t m = wpM E 6 146 rd (.seq (.ops [⟨(some 14), .move (.tmp 0), none⟩,
    ⟨(some 15), .move (.tmp 0), none⟩,
    ⟨(some 16), .call ⟨.builtin .len, #[(.tmp 15)], #[24]⟩, none⟩,
    ⟨(some 17), .call ⟨.builtin .min, #[(.tmp 16), (.const (.int .i64 10))], #[3, 3]⟩, none⟩,
    ⟨(some 18), .slice 24 (.tmp 14) none (some (.tmp 17)) none, none⟩,
    ⟨(some 19), .move (.tmp 1), none⟩,
    ⟨(some 20), .move (.tmp 1), none⟩,
    ⟨(some 21), .call ⟨.builtin .len, #[(.tmp 20)], #[24]⟩, none⟩,
    ⟨(some 22), .call ⟨.builtin .min, #[(.tmp 21), (.const (.int .i64 10))], #[3, 3]⟩, none⟩,
    ⟨(some 23), .slice 24 (.tmp 19) none (some (.tmp 22)) none, none⟩,
    ⟨(some 24), .move (.tmp 2), none⟩,
    ⟨(some 25), .move (.tmp 2), none⟩,
    ⟨(some 26), .call ⟨.builtin .len, #[(.tmp 25)], #[24]⟩, none⟩,
    ⟨(some 27), .call ⟨.builtin .min, #[(.tmp 26), (.const (.int .i64 10))], #[3, 3]⟩, none⟩,
    ⟨(some 28), .slice 24 (.tmp 24) none (some (.tmp 27)) none, none⟩,
    ⟨(some 29), .move (.tmp 3), none⟩,
    ⟨(some 30), .move (.tmp 3), none⟩,
    ⟨(some 31), .call ⟨.builtin .len, #[(.tmp 30)], #[24]⟩, none⟩,
    ⟨(some 32), .call ⟨.builtin .min, #[(.tmp 31), (.const (.int .i64 4))], #[3, 3]⟩, none⟩,
    ⟨(some 33), .slice 24 (.tmp 29) none (some (.tmp 32)) none, none⟩,
    ⟨(some 0), .assign (.tmp 18), none⟩,
    ⟨(some 1), .assign (.tmp 23), none⟩,
    ⟨(some 2), .assign (.tmp 28), none⟩,
    ⟨(some 3), .assign (.tmp 33), none⟩]) c_sheaflaw13_RowOrder_12) K t m := rfl

def c_sheaflaw13_RowOrder_14 : MC := (.seq (.ops [⟨(some 8), .assign (.const (.bool false)), none⟩]) c_sheaflaw13_RowOrder_13)
@[go_sem] theorem c_sheaflaw13_RowOrder_14_at (rd : Option Nat) (K : Post3) (t : Fr) (m : Mem) : wpM E 6 146 rd c_sheaflaw13_RowOrder_14 K t m = wpM E 6 146 rd (.seq (.ops [⟨(some 8), .assign (.const (.bool false)), none⟩]) c_sheaflaw13_RowOrder_13) K t m := rfl

@[go_sem] theorem some6 : (E.fn 6).isSome = true := by kernel_rfl
set_option maxRecDepth 100000 in
theorem fn_sheaflaw13_RowOrder : FnIs E 6 146 [.tmp 8] c_sheaflaw13_RowOrder_14 := ⟨by kernel_rfl, by kernel_rfl⟩

/-! sheaf/sheaflaw13.RowMany -/
abbrev F_sheaflaw13_RowMany : FuncId := 7
def c_sheaflaw13_RowMany_0 : MC := (.cond (.tmp 19) .skip (.exit 0))
@[go_sem] theorem c_sheaflaw13_RowMany_0_at (rd : Option Nat) (K : Post3) (t : Fr) (m : Mem) : wpM E 7 97 rd c_sheaflaw13_RowMany_0 K t m = wpM E 7 97 rd (.cond (.tmp 19) .skip (.exit 0)) K t m := rfl

def c_sheaflaw13_RowMany_1 : MC := (.seq (.ops [⟨(some 12), .move (.tmp 5), none⟩,
    ⟨(some 13), .move (.tmp 0), none⟩,
    ⟨(some 14), .call ⟨.builtin .len, #[(.tmp 13)], #[38]⟩, none⟩,
    ⟨(some 15), .binOp .lss 3 (.tmp 12) (.tmp 14) 3, none⟩,
    ⟨(some 16), .move (.tmp 15), none⟩,
    ⟨(some 17), .move (.tmp 5), (some (some 16, true))⟩,
    ⟨(some 18), .binOp .lss 3 (.tmp 17) (.const (.int .i64 12)) 3, (some (some 16, true))⟩,
    ⟨(some 19), .pick (.tmp 16) (.tmp 18) (.const (.bool false)), none⟩]) c_sheaflaw13_RowMany_0)
@[go_sem] theorem c_sheaflaw13_RowMany_1_at (rd : Option Nat) (K : Post3) (t : Fr) (m : Mem) : wpM E 7 97 rd c_sheaflaw13_RowMany_1 K t m = wpM E 7 97 rd (.seq (.ops [⟨(some 12), .move (.tmp 5), none⟩,
    ⟨(some 13), .move (.tmp 0), none⟩,
    ⟨(some 14), .call ⟨.builtin .len, #[(.tmp 13)], #[38]⟩, none⟩,
    ⟨(some 15), .binOp .lss 3 (.tmp 12) (.tmp 14) 3, none⟩,
    ⟨(some 16), .move (.tmp 15), none⟩,
    ⟨(some 17), .move (.tmp 5), (some (some 16, true))⟩,
    ⟨(some 18), .binOp .lss 3 (.tmp 17) (.const (.int .i64 12)) 3, (some (some 16, true))⟩,
    ⟨(some 19), .pick (.tmp 16) (.tmp 18) (.const (.bool false)), none⟩]) c_sheaflaw13_RowMany_0) K t m := rfl

def c_sheaflaw13_RowMany_2 : MC := (.seq (.ops [⟨(some 33), .move (.tmp 3), none⟩,
    ⟨(some 34), .move (.tmp 6), none⟩,
    ⟨(some 35), .buildSlice 38 1 #[(0, (.tmp 34))], none⟩,
    ⟨(some 36), .call ⟨.builtin .append, #[(.tmp 33), (.tmp 35)], #[38, 38]⟩, none⟩,
    ⟨(some 3), .assign (.tmp 36), none⟩]) (.ops [⟨(some 37), .move (.tmp 4), none⟩,
    ⟨(some 38), .move (.tmp 6), none⟩,
    ⟨(some 39), .call ⟨.value (.func 9), #[(.tmp 38)], #[24]⟩, none⟩,
    ⟨(some 40), .call ⟨.builtin .append, #[(.tmp 37), (.tmp 39)], #[22, 22]⟩, none⟩,
    ⟨(some 4), .assign (.tmp 40), none⟩]))
@[go_sem] theorem c_sheaflaw13_RowMany_2_at (rd : Option Nat) (K : Post3) (t : Fr) (m : Mem) : wpM E 7 97 rd c_sheaflaw13_RowMany_2 K t m = wpM E 7 97 rd (.seq (.ops [⟨(some 33), .move (.tmp 3), none⟩,
    ⟨(some 34), .move (.tmp 6), none⟩,
    ⟨(some 35), .buildSlice 38 1 #[(0, (.tmp 34))], none⟩,
    ⟨(some 36), .call ⟨.builtin .append, #[(.tmp 33), (.tmp 35)], #[38, 38]⟩, none⟩,
    ⟨(some 3), .assign (.tmp 36), none⟩]) (.ops [⟨(some 37), .move (.tmp 4), none⟩,
    ⟨(some 38), .move (.tmp 6), none⟩,
    ⟨(some 39), .call ⟨.value (.func 9), #[(.tmp 38)], #[24]⟩, none⟩,
    ⟨(some 40), .call ⟨.builtin .append, #[(.tmp 37), (.tmp 39)], #[22, 22]⟩, none⟩,
    ⟨(some 4), .assign (.tmp 40), none⟩])) K t m := rfl

def c_sheaflaw13_RowMany_3 : MC := (.seq (.ops [⟨(some 22), .move (.tmp 0), none⟩,
    ⟨(some 23), .move (.tmp 5), none⟩,
    ⟨(some 24), .indexAddr 38 (.tmp 22) (.tmp 23), none⟩,
    ⟨(some 25), .load 24 (.tmp 24), none⟩,
    ⟨(some 26), .move (.tmp 0), none⟩,
    ⟨(some 27), .move (.tmp 5), none⟩,
    ⟨(some 28), .indexAddr 38 (.tmp 26) (.tmp 27), none⟩,
    ⟨(some 29), .load 24 (.tmp 28), none⟩,
    ⟨(some 30), .call ⟨.builtin .len, #[(.tmp 29)], #[24]⟩, none⟩,
    ⟨(some 31), .call ⟨.builtin .min, #[(.tmp 30), (.const (.int .i64 10))], #[3, 3]⟩, none⟩,
    ⟨(some 32), .slice 24 (.tmp 25) none (some (.tmp 31)) none, none⟩,
    ⟨(some 6), .assign (.tmp 32), none⟩]) c_sheaflaw13_RowMany_2)
@[go_sem] theorem c_sheaflaw13_RowMany_3_at (rd : Option Nat) (K : Post3) (t : Fr) (m : Mem) : wpM E 7 97 rd c_sheaflaw13_RowMany_3 K t m = wpM E 7 97 rd (.seq (.ops [⟨(some 22), .move (.tmp 0), none⟩,
    ⟨(some 23), .move (.tmp 5), none⟩,
    ⟨(some 24), .indexAddr 38 (.tmp 22) (.tmp 23), none⟩,
    ⟨(some 25), .load 24 (.tmp 24), none⟩,
    ⟨(some 26), .move (.tmp 0), none⟩,
    ⟨(some 27), .move (.tmp 5), none⟩,
    ⟨(some 28), .indexAddr 38 (.tmp 26) (.tmp 27), none⟩,
    ⟨(some 29), .load 24 (.tmp 28), none⟩,
    ⟨(some 30), .call ⟨.builtin .len, #[(.tmp 29)], #[24]⟩, none⟩,
    ⟨(some 31), .call ⟨.builtin .min, #[(.tmp 30), (.const (.int .i64 10))], #[3, 3]⟩, none⟩,
    ⟨(some 32), .slice 24 (.tmp 25) none (some (.tmp 31)) none, none⟩,
    ⟨(some 6), .assign (.tmp 32), none⟩]) c_sheaflaw13_RowMany_2) K t m := rfl

def c_sheaflaw13_RowMany_4 : MC := (.block 1 c_sheaflaw13_RowMany_3)
@[go_sem] theorem c_sheaflaw13_RowMany_4_at (rd : Option Nat) (K : Post3) (t : Fr) (m : Mem) : wpM E 7 97 rd c_sheaflaw13_RowMany_4 K t m = wpM E 7 97 rd (.block 1 c_sheaflaw13_RowMany_3) K t m := rfl

def c_sheaflaw13_RowMany_5 : MC := (.seq c_sheaflaw13_RowMany_4 (.ops [⟨(some 20), .move (.tmp 5), none⟩,
    ⟨(some 21), .binOp .add 3 (.tmp 20) (.const (.int .i64 1)) 3, none⟩,
    ⟨(some 5), .assign (.tmp 21), none⟩]))
@[go_sem] theorem c_sheaflaw13_RowMany_5_at (rd : Option Nat) (K : Post3) (t : Fr) (m : Mem) : wpM E 7 97 rd c_sheaflaw13_RowMany_5 K t m = wpM E 7 97 rd (.seq c_sheaflaw13_RowMany_4 (.ops [⟨(some 20), .move (.tmp 5), none⟩,
    ⟨(some 21), .binOp .add 3 (.tmp 20) (.const (.int .i64 1)) 3, none⟩,
    ⟨(some 5), .assign (.tmp 21), none⟩])) K t m := rfl

def c_sheaflaw13_RowMany_6 : MC := (.seq c_sheaflaw13_RowMany_1 c_sheaflaw13_RowMany_5)
@[go_sem] theorem c_sheaflaw13_RowMany_6_at (rd : Option Nat) (K : Post3) (t : Fr) (m : Mem) : wpM E 7 97 rd c_sheaflaw13_RowMany_6 K t m = wpM E 7 97 rd (.seq c_sheaflaw13_RowMany_1 c_sheaflaw13_RowMany_5) K t m := rfl

def c_sheaflaw13_RowMany_7 : MC := (.loop c_sheaflaw13_RowMany_6)
theorem c_sheaflaw13_RowMany_7_at (rd : Option Nat) (K : Post3) (t : Fr) (m : Mem) : wpM E 7 97 rd c_sheaflaw13_RowMany_7 K t m = wpM E 7 97 rd (.loop c_sheaflaw13_RowMany_6) K t m := rfl

def c_sheaflaw13_RowMany_8 : MC := (.block 0 c_sheaflaw13_RowMany_7)
theorem c_sheaflaw13_RowMany_8_at (rd : Option Nat) (K : Post3) (t : Fr) (m : Mem) : wpM E 7 97 rd c_sheaflaw13_RowMany_8 K t m = wpM E 7 97 rd (.block 0 c_sheaflaw13_RowMany_7) K t m := rfl

def c_sheaflaw13_RowMany_9 : MC := (.seq (.ops [⟨(some 5), .assign (.const (.int .i64 0)), none⟩]) c_sheaflaw13_RowMany_8)
@[go_sem] theorem c_sheaflaw13_RowMany_9_at (rd : Option Nat) (K : Post3) (t : Fr) (m : Mem) : wpM E 7 97 rd c_sheaflaw13_RowMany_9 K t m = wpM E 7 97 rd (.seq (.ops [⟨(some 5), .assign (.const (.int .i64 0)), none⟩]) c_sheaflaw13_RowMany_8) K t m := rfl

def c_sheaflaw13_RowMany_10 : MC := (.cond (.tmp 44) .skip (.exit 2))
@[go_sem] theorem c_sheaflaw13_RowMany_10_at (rd : Option Nat) (K : Post3) (t : Fr) (m : Mem) : wpM E 7 97 rd c_sheaflaw13_RowMany_10 K t m = wpM E 7 97 rd (.cond (.tmp 44) .skip (.exit 2)) K t m := rfl

def c_sheaflaw13_RowMany_11 : MC := (.seq (.ops [⟨(some 2), .assign (.const (.bool false)), none⟩]) .ret)
@[go_sem] theorem c_sheaflaw13_RowMany_11_at (rd : Option Nat) (K : Post3) (t : Fr) (m : Mem) : wpM E 7 97 rd c_sheaflaw13_RowMany_11 K t m = wpM E 7 97 rd (.seq (.ops [⟨(some 2), .assign (.const (.bool false)), none⟩]) .ret) K t m := rfl

def c_sheaflaw13_RowMany_12 : MC := (.cond (.tmp 77) c_sheaflaw13_RowMany_11 .skip)
@[go_sem] theorem c_sheaflaw13_RowMany_12_at (rd : Option Nat) (K : Post3) (t : Fr) (m : Mem) : wpM E 7 97 rd c_sheaflaw13_RowMany_12 K t m = wpM E 7 97 rd (.cond (.tmp 77) c_sheaflaw13_RowMany_11 .skip) K t m := rfl

def c_sheaflaw13_RowMany_13 : MC := (.seq (.ops [⟨(some 51), .move (.tmp 9), none⟩,
    ⟨(some 52), .binOp .leq 3 (.tmp 51) (.const (.int .i64 0)) 3, none⟩,
    ⟨(some 53), .move (.tmp 52), none⟩,
    ⟨(some 54), .move (.tmp 9), (some (some 53, false))⟩,
    ⟨(some 55), .move (.tmp 4), (some (some 53, false))⟩,
    ⟨(some 56), .call ⟨.builtin .len, #[(.tmp 55)], #[22]⟩, (some (some 53, false))⟩,
    ⟨(some 57), .binOp .gtr 3 (.tmp 54) (.tmp 56) 3, (some (some 53, false))⟩,
    ⟨(some 58), .pick (.tmp 53) (.const (.bool true)) (.tmp 57), none⟩,
    ⟨(some 59), .move (.tmp 58), none⟩,
    ⟨(some 60), .move (.tmp 8), (some (some 59, false))⟩,
    ⟨(some 61), .move (.tmp 3), (some (some 59, false))⟩,
    ⟨(some 62), .move (.tmp 7), (some (some 59, false))⟩,
    ⟨(some 63), .indexAddr 38 (.tmp 61) (.tmp 62), (some (some 59, false))⟩,
    ⟨(some 64), .load 24 (.tmp 63), (some (some 59, false))⟩,
    ⟨(some 65), .call ⟨.value (.func 12), #[(.tmp 60), (.tmp 64)], #[24, 24]⟩, (some (some 59, false))⟩,
    ⟨(some 66), .unOp .not 4 (.tmp 65), (some (some 59, false))⟩,
    ⟨(some 67), .pick (.tmp 59) (.const (.bool true)) (.tmp 66), none⟩,
    ⟨(some 68), .move (.tmp 67), none⟩,
    ⟨(some 69), .move (.tmp 8), (some (some 68, false))⟩,
    ⟨(some 70), .move (.tmp 3), (some (some 68, false))⟩,
    ⟨(some 71), .move (.tmp 7), (some (some 68, false))⟩,
    ⟨(some 72), .indexAddr 38 (.tmp 70) (.tmp 71), (some (some 68, false))⟩,
    ⟨(some 73), .load 24 (.tmp 72), (some (some 68, false))⟩,
    ⟨(some 74), .buildSlice 24 2 #[(0, (.const (.int .i64 0))), (1, (.const (.int .i64 2)))], (some (some 68, false))⟩,
    ⟨(some 75), .call ⟨.value (.func 13), #[(.tmp 69), (.tmp 73), (.tmp 74)], #[24, 24, 24]⟩, (some (some 68, false))⟩,
    ⟨(some 76), .binOp .neq 3 (.tmp 75) (.const (.int .i64 0)) 3, (some (some 68, false))⟩,
    ⟨(some 77), .pick (.tmp 68) (.const (.bool true)) (.tmp 76), none⟩]) c_sheaflaw13_RowMany_12)
@[go_sem] theorem c_sheaflaw13_RowMany_13_at (rd : Option Nat) (K : Post3) (t : Fr) (m : Mem) : wpM E 7 97 rd c_sheaflaw13_RowMany_13 K t m = wpM E 7 97 rd (.seq (.ops [⟨(some 51), .move (.tmp 9), none⟩,
    ⟨(some 52), .binOp .leq 3 (.tmp 51) (.const (.int .i64 0)) 3, none⟩,
    ⟨(some 53), .move (.tmp 52), none⟩,
    ⟨(some 54), .move (.tmp 9), (some (some 53, false))⟩,
    ⟨(some 55), .move (.tmp 4), (some (some 53, false))⟩,
    ⟨(some 56), .call ⟨.builtin .len, #[(.tmp 55)], #[22]⟩, (some (some 53, false))⟩,
    ⟨(some 57), .binOp .gtr 3 (.tmp 54) (.tmp 56) 3, (some (some 53, false))⟩,
    ⟨(some 58), .pick (.tmp 53) (.const (.bool true)) (.tmp 57), none⟩,
    ⟨(some 59), .move (.tmp 58), none⟩,
    ⟨(some 60), .move (.tmp 8), (some (some 59, false))⟩,
    ⟨(some 61), .move (.tmp 3), (some (some 59, false))⟩,
    ⟨(some 62), .move (.tmp 7), (some (some 59, false))⟩,
    ⟨(some 63), .indexAddr 38 (.tmp 61) (.tmp 62), (some (some 59, false))⟩,
    ⟨(some 64), .load 24 (.tmp 63), (some (some 59, false))⟩,
    ⟨(some 65), .call ⟨.value (.func 12), #[(.tmp 60), (.tmp 64)], #[24, 24]⟩, (some (some 59, false))⟩,
    ⟨(some 66), .unOp .not 4 (.tmp 65), (some (some 59, false))⟩,
    ⟨(some 67), .pick (.tmp 59) (.const (.bool true)) (.tmp 66), none⟩,
    ⟨(some 68), .move (.tmp 67), none⟩,
    ⟨(some 69), .move (.tmp 8), (some (some 68, false))⟩,
    ⟨(some 70), .move (.tmp 3), (some (some 68, false))⟩,
    ⟨(some 71), .move (.tmp 7), (some (some 68, false))⟩,
    ⟨(some 72), .indexAddr 38 (.tmp 70) (.tmp 71), (some (some 68, false))⟩,
    ⟨(some 73), .load 24 (.tmp 72), (some (some 68, false))⟩,
    ⟨(some 74), .buildSlice 24 2 #[(0, (.const (.int .i64 0))), (1, (.const (.int .i64 2)))], (some (some 68, false))⟩,
    ⟨(some 75), .call ⟨.value (.func 13), #[(.tmp 69), (.tmp 73), (.tmp 74)], #[24, 24, 24]⟩, (some (some 68, false))⟩,
    ⟨(some 76), .binOp .neq 3 (.tmp 75) (.const (.int .i64 0)) 3, (some (some 68, false))⟩,
    ⟨(some 77), .pick (.tmp 68) (.const (.bool true)) (.tmp 76), none⟩]) c_sheaflaw13_RowMany_12) K t m := rfl

def c_sheaflaw13_RowMany_14 : MC := (.seq c_sheaflaw13_RowMany_13 (.ops [⟨(some 78), .move (.tmp 4), none⟩,
    ⟨(some 79), .move (.tmp 9), none⟩,
    ⟨(some 80), .slice 22 (.tmp 78) (some (.tmp 79)) none none, none⟩,
    ⟨(some 4), .assign (.tmp 80), none⟩]))
@[go_sem] theorem c_sheaflaw13_RowMany_14_at (rd : Option Nat) (K : Post3) (t : Fr) (m : Mem) : wpM E 7 97 rd c_sheaflaw13_RowMany_14 K t m = wpM E 7 97 rd (.seq c_sheaflaw13_RowMany_13 (.ops [⟨(some 78), .move (.tmp 4), none⟩,
    ⟨(some 79), .move (.tmp 9), none⟩,
    ⟨(some 80), .slice 22 (.tmp 78) (some (.tmp 79)) none none, none⟩,
    ⟨(some 4), .assign (.tmp 80), none⟩])) K t m := rfl

def c_sheaflaw13_RowMany_15 : MC := (.seq (.ops [⟨(some 47), .move (.tmp 4), none⟩,
    ⟨(some 48), .call ⟨.value (.func 10), #[(.tmp 47)], #[22]⟩, none⟩,
    ⟨(some 46), .move (.tmp 48), none⟩,
    ⟨(some 49), .extract (.tmp 46) 0, none⟩,
    ⟨(some 50), .extract (.tmp 46) 1, none⟩,
    ⟨(some 8), .assign (.tmp 49), none⟩,
    ⟨(some 9), .assign (.tmp 50), none⟩]) c_sheaflaw13_RowMany_14)
@[go_sem] theorem c_sheaflaw13_RowMany_15_at (rd : Option Nat) (K : Post3) (t : Fr) (m : Mem) : wpM E 7 97 rd c_sheaflaw13_RowMany_15 K t m = wpM E 7 97 rd (.seq (.ops [⟨(some 47), .move (.tmp 4), none⟩,
    ⟨(some 48), .call ⟨.value (.func 10), #[(.tmp 47)], #[22]⟩, none⟩,
    ⟨(some 46), .move (.tmp 48), none⟩,
    ⟨(some 49), .extract (.tmp 46) 0, none⟩,
    ⟨(some 50), .extract (.tmp 46) 1, none⟩,
    ⟨(some 8), .assign (.tmp 49), none⟩,
    ⟨(some 9), .assign (.tmp 50), none⟩]) c_sheaflaw13_RowMany_14) K t m := rfl

def c_sheaflaw13_RowMany_16 : MC := (.seq (.ops [⟨(some 45), .move (.tmp 43), none⟩,
    ⟨(some 7), .assign (.tmp 45), none⟩]) c_sheaflaw13_RowMany_15)
@[go_sem] theorem c_sheaflaw13_RowMany_16_at (rd : Option Nat) (K : Post3) (t : Fr) (m : Mem) : wpM E 7 97 rd c_sheaflaw13_RowMany_16 K t m = wpM E 7 97 rd (.seq (.ops [⟨(some 45), .move (.tmp 43), none⟩,
    ⟨(some 7), .assign (.tmp 45), none⟩]) c_sheaflaw13_RowMany_15) K t m := rfl

def c_sheaflaw13_RowMany_17 : MC := (.block 3 c_sheaflaw13_RowMany_16)
@[go_sem] theorem c_sheaflaw13_RowMany_17_at (rd : Option Nat) (K : Post3) (t : Fr) (m : Mem) : wpM E 7 97 rd c_sheaflaw13_RowMany_17 K t m = wpM E 7 97 rd (.block 3 c_sheaflaw13_RowMany_16) K t m := rfl

def c_sheaflaw13_RowMany_18 : MC := (.seq c_sheaflaw13_RowMany_17 (.ops [⟨(some 81), .binOp .add 3 (.tmp 43) (.const (.int .i64 1)) 3, none⟩,
    ⟨(some 43), .move (.tmp 81), none⟩]))
@[go_sem] theorem c_sheaflaw13_RowMany_18_at (rd : Option Nat) (K : Post3) (t : Fr) (m : Mem) : wpM E 7 97 rd c_sheaflaw13_RowMany_18 K t m = wpM E 7 97 rd (.seq c_sheaflaw13_RowMany_17 (.ops [⟨(some 81), .binOp .add 3 (.tmp 43) (.const (.int .i64 1)) 3, none⟩,
    ⟨(some 43), .move (.tmp 81), none⟩])) K t m := rfl

def c_sheaflaw13_RowMany_19 : MC := (.seq c_sheaflaw13_RowMany_10 c_sheaflaw13_RowMany_18)
@[go_sem] theorem c_sheaflaw13_RowMany_19_at (rd : Option Nat) (K : Post3) (t : Fr) (m : Mem) : wpM E 7 97 rd c_sheaflaw13_RowMany_19 K t m = wpM E 7 97 rd (.seq c_sheaflaw13_RowMany_10 c_sheaflaw13_RowMany_18) K t m := rfl

def c_sheaflaw13_RowMany_20 : MC := (.seq (.ops [⟨(some 44), .binOp .lss 3 (.tmp 43) (.tmp 42) 3, none⟩]) c_sheaflaw13_RowMany_19)
@[go_sem] theorem c_sheaflaw13_RowMany_20_at (rd : Option Nat) (K : Post3) (t : Fr) (m : Mem) : wpM E 7 97 rd c_sheaflaw13_RowMany_20 K t m = wpM E 7 97 rd (.seq (.ops [⟨(some 44), .binOp .lss 3 (.tmp 43) (.tmp 42) 3, none⟩]) c_sheaflaw13_RowMany_19) K t m := rfl

def c_sheaflaw13_RowMany_21 : MC := (.loop c_sheaflaw13_RowMany_20)
theorem c_sheaflaw13_RowMany_21_at (rd : Option Nat) (K : Post3) (t : Fr) (m : Mem) : wpM E 7 97 rd c_sheaflaw13_RowMany_21 K t m = wpM E 7 97 rd (.loop c_sheaflaw13_RowMany_20) K t m := rfl

def c_sheaflaw13_RowMany_22 : MC := (.block 2 c_sheaflaw13_RowMany_21)
theorem c_sheaflaw13_RowMany_22_at (rd : Option Nat) (K : Post3) (t : Fr) (m : Mem) : wpM E 7 97 rd c_sheaflaw13_RowMany_22 K t m = wpM E 7 97 rd (.block 2 c_sheaflaw13_RowMany_21) K t m := rfl

def c_sheaflaw13_RowMany_23 : MC := (.seq (.ops [⟨(some 41), .move (.tmp 3), none⟩,
    ⟨(some 42), .call ⟨.builtin .len, #[(.tmp 41)], #[38]⟩, none⟩,
    ⟨(some 43), .move (.const (.int .i64 0)), none⟩]) c_sheaflaw13_RowMany_22)
@[go_sem] theorem c_sheaflaw13_RowMany_23_at (rd : Option Nat) (K : Post3) (t : Fr) (m : Mem) : wpM E 7 97 rd c_sheaflaw13_RowMany_23 K t m = wpM E 7 97 rd (.seq (.ops [⟨(some 41), .move (.tmp 3), none⟩,
    ⟨(some 42), .call ⟨.builtin .len, #[(.tmp 41)], #[38]⟩, none⟩,
    ⟨(some 43), .move (.const (.int .i64 0)), none⟩]) c_sheaflaw13_RowMany_22) K t m := rfl

def c_sheaflaw13_RowMany_24 : MC := (.seq (.ops [⟨(some 87), .move (.tmp 4), none⟩,
    ⟨(some 88), .call ⟨.builtin .len, #[(.tmp 87)], #[22]⟩, none⟩,
    ⟨(some 89), .binOp .eql 3 (.tmp 88) (.const (.int .i64 0)) 3, none⟩,
    ⟨(some 90), .move (.tmp 89), none⟩,
    ⟨(some 91), .move (.tmp 11), (some (some 90, true))⟩,
    ⟨(some 92), .binOp .eql 3 (.tmp 91) (.const (.int .i64 0)) 3, (some (some 90, true))⟩,
    ⟨(some 93), .pick (.tmp 90) (.tmp 92) (.const (.bool false)), none⟩,
    ⟨(some 94), .move (.tmp 93), none⟩,
    ⟨(some 95), .call ⟨.value (.func 3), #[], #[]⟩, (some (some 94, true))⟩,
    ⟨(some 96), .pick (.tmp 94) (.tmp 95) (.const (.bool false)), none⟩,
    ⟨(some 2), .assign (.tmp 96), none⟩]) .ret)
@[go_sem] theorem c_sheaflaw13_RowMany_24_at (rd : Option Nat) (K : Post3) (t : Fr) (m : Mem) : wpM E 7 97 rd c_sheaflaw13_RowMany_24 K t m = wpM E 7 97 rd (.seq (.ops [⟨(some 87), .move (.tmp 4), none⟩,
    ⟨(some 88), .call ⟨.builtin .len, #[(.tmp 87)], #[22]⟩, none⟩,
    ⟨(some 89), .binOp .eql 3 (.tmp 88) (.const (.int .i64 0)) 3, none⟩,
    ⟨(some 90), .move (.tmp 89), none⟩,
    ⟨(some 91), .move (.tmp 11), (some (some 90, true))⟩,
    ⟨(some 92), .binOp .eql 3 (.tmp 91) (.const (.int .i64 0)) 3, (some (some 90, true))⟩,
    ⟨(some 93), .pick (.tmp 90) (.tmp 92) (.const (.bool false)), none⟩,
    ⟨(some 94), .move (.tmp 93), none⟩,
    ⟨(some 95), .call ⟨.value (.func 3), #[], #[]⟩, (some (some 94, true))⟩,
    ⟨(some 96), .pick (.tmp 94) (.tmp 95) (.const (.bool false)), none⟩,
    ⟨(some 2), .assign (.tmp 96), none⟩]) .ret) K t m := rfl

def c_sheaflaw13_RowMany_25 : MC := (.seq (.ops [⟨(some 83), .move (.tmp 4), none⟩,
    ⟨(some 84), .call ⟨.value (.func 10), #[(.tmp 83)], #[22]⟩, none⟩,
    ⟨(some 82), .move (.tmp 84), none⟩,
    ⟨(some 85), .extract (.tmp 82) 0, none⟩,
    ⟨(some 86), .extract (.tmp 82) 1, none⟩,
    ⟨(some 10), .assign (.tmp 85), none⟩,
    ⟨(some 11), .assign (.tmp 86), none⟩]) c_sheaflaw13_RowMany_24)
@[go_sem] theorem c_sheaflaw13_RowMany_25_at (rd : Option Nat) (K : Post3) (t : Fr) (m : Mem) : wpM E 7 97 rd c_sheaflaw13_RowMany_25 K t m = wpM E 7 97 rd (.seq (.ops [⟨(some 83), .move (.tmp 4), none⟩,
    ⟨(some 84), .call ⟨.value (.func 10), #[(.tmp 83)], #[22]⟩, none⟩,
    ⟨(some 82), .move (.tmp 84), none⟩,
    ⟨(some 85), .extract (.tmp 82) 0, none⟩,
    ⟨(some 86), .extract (.tmp 82) 1, none⟩,
    ⟨(some 10), .assign (.tmp 85), none⟩,
    ⟨(some 11), .assign (.tmp 86), none⟩]) c_sheaflaw13_RowMany_24) K t m := rfl

def c_sheaflaw13_RowMany_26 : MC := (.seq c_sheaflaw13_RowMany_23 c_sheaflaw13_RowMany_25)
@[go_sem] theorem c_sheaflaw13_RowMany_26_at (rd : Option Nat) (K : Post3) (t : Fr) (m : Mem) : wpM E 7 97 rd c_sheaflaw13_RowMany_26 K t m = wpM E 7 97 rd (.seq c_sheaflaw13_RowMany_23 c_sheaflaw13_RowMany_25) K t m := rfl

def c_sheaflaw13_RowMany_27 : MC := (.seq c_sheaflaw13_RowMany_9 c_sheaflaw13_RowMany_26)
@[go_sem] theorem c_sheaflaw13_RowMany_27_at (rd : Option Nat) (K : Post3) (t : Fr) (m : Mem) : wpM E 7 97 rd c_sheaflaw13_RowMany_27 K t m = wpM E 7 97 rd (.seq c_sheaflaw13_RowMany_9 c_sheaflaw13_RowMany_26) K t m := rfl

def c_sheaflaw13_RowMany_28 : MC := (.seq (.ops [⟨(some 4), .assign (.const (.slice none 0 0)), none⟩]) c_sheaflaw13_RowMany_27)
@[go_sem] theorem c_sheaflaw13_RowMany_28_at (rd : Option Nat) (K : Post3) (t : Fr) (m : Mem) : wpM E 7 97 rd c_sheaflaw13_RowMany_28 K t m = wpM E 7 97 rd (.seq (.ops [⟨(some 4), .assign (.const (.slice none 0 0)), none⟩]) c_sheaflaw13_RowMany_27) K t m := rfl

def c_sheaflaw13_RowMany_29 : MC := (.seq (.ops [⟨(some 3), .assign (.const (.slice none 0 0)), none⟩]) c_sheaflaw13_RowMany_28)
@[go_sem] theorem c_sheaflaw13_RowMany_29_at (rd : Option Nat) (K : Post3) (t : Fr) (m : Mem) : wpM E 7 97 rd c_sheaflaw13_RowMany_29 K t m = wpM E 7 97 rd (.seq (.ops [⟨(some 3), .assign (.const (.slice none 0 0)), none⟩]) c_sheaflaw13_RowMany_28) K t m := rfl

def c_sheaflaw13_RowMany_30 : MC := (.seq (.ops [⟨(some 2), .assign (.const (.bool false)), none⟩]) c_sheaflaw13_RowMany_29)
@[go_sem] theorem c_sheaflaw13_RowMany_30_at (rd : Option Nat) (K : Post3) (t : Fr) (m : Mem) : wpM E 7 97 rd c_sheaflaw13_RowMany_30 K t m = wpM E 7 97 rd (.seq (.ops [⟨(some 2), .assign (.const (.bool false)), none⟩]) c_sheaflaw13_RowMany_29) K t m := rfl

@[go_sem] theorem some7 : (E.fn 7).isSome = true := by kernel_rfl
set_option maxRecDepth 100000 in
theorem fn_sheaflaw13_RowMany : FnIs E 7 97 [.tmp 2] c_sheaflaw13_RowMany_30 := ⟨by kernel_rfl, by kernel_rfl⟩

/-! sheaf/sheaflaw13.RowAlone -/
abbrev F_sheaflaw13_RowAlone : FuncId := 8
def c_sheaflaw13_RowAlone_0 : MC := (.seq (.ops [⟨(some 4), .assign (.const (.bool false)), none⟩]) .ret)
@[go_sem] theorem c_sheaflaw13_RowAlone_0_at (rd : Option Nat) (K : Post3) (t : Fr) (m : Mem) : wpM E 8 64 rd c_sheaflaw13_RowAlone_0 K t m = wpM E 8 64 rd (.seq (.ops [⟨(some 4), .assign (.const (.bool false)), none⟩]) .ret) K t m := rfl

def c_sheaflaw13_RowAlone_1 : MC := (.cond (.tmp 40) c_sheaflaw13_RowAlone_0 .skip)
@[go_sem] theorem c_sheaflaw13_RowAlone_1_at (rd : Option Nat) (K : Post3) (t : Fr) (m : Mem) : wpM E 8 64 rd c_sheaflaw13_RowAlone_1 K t m = wpM E 8 64 rd (.cond (.tmp 40) c_sheaflaw13_RowAlone_0 .skip) K t m := rfl

def c_sheaflaw13_RowAlone_2 : MC := (.seq (.ops [⟨(some 24), .move (.tmp 7), none⟩,
    ⟨(some 25), .call ⟨.builtin .len, #[(.tmp 24)], #[22]⟩, none⟩,
    ⟨(some 26), .binOp .lss 3 (.tmp 25) (.const (.int .i64 1)) 3, none⟩,
    ⟨(some 27), .move (.tmp 26), none⟩,
    ⟨(some 28), .move (.tmp 8), (some (some 27, false))⟩,
    ⟨(some 29), .call ⟨.builtin .len, #[(.tmp 28)], #[22]⟩, (some (some 27, false))⟩,
    ⟨(some 30), .binOp .lss 3 (.tmp 29) (.const (.int .i64 1)) 3, (some (some 27, false))⟩,
    ⟨(some 31), .pick (.tmp 27) (.const (.bool true)) (.tmp 30), none⟩,
    ⟨(some 32), .move (.tmp 31), none⟩,
    ⟨(some 33), .move (.tmp 7), (some (some 32, false))⟩,
    ⟨(some 34), .move (.tmp 8), (some (some 32, false))⟩,
    ⟨(some 35), .call ⟨.value (.func 11), #[(.tmp 33), (.tmp 34)], #[22, 22]⟩, (some (some 32, false))⟩,
    ⟨(some 36), .move (.tmp 5), (some (some 32, false))⟩,
    ⟨(some 37), .move (.tmp 6), (some (some 32, false))⟩,
    ⟨(some 38), .call ⟨.value (.func 12), #[(.tmp 36), (.tmp 37)], #[24, 24]⟩, (some (some 32, false))⟩,
    ⟨(some 39), .binOp .neq 4 (.tmp 35) (.tmp 38) 4, (some (some 32, false))⟩,
    ⟨(some 40), .pick (.tmp 32) (.const (.bool true)) (.tmp 39), none⟩]) c_sheaflaw13_RowAlone_1)
@[go_sem] theorem c_sheaflaw13_RowAlone_2_at (rd : Option Nat) (K : Post3) (t : Fr) (m : Mem) : wpM E 8 64 rd c_sheaflaw13_RowAlone_2 K t m = wpM E 8 64 rd (.seq (.ops [⟨(some 24), .move (.tmp 7), none⟩,
    ⟨(some 25), .call ⟨.builtin .len, #[(.tmp 24)], #[22]⟩, none⟩,
    ⟨(some 26), .binOp .lss 3 (.tmp 25) (.const (.int .i64 1)) 3, none⟩,
    ⟨(some 27), .move (.tmp 26), none⟩,
    ⟨(some 28), .move (.tmp 8), (some (some 27, false))⟩,
    ⟨(some 29), .call ⟨.builtin .len, #[(.tmp 28)], #[22]⟩, (some (some 27, false))⟩,
    ⟨(some 30), .binOp .lss 3 (.tmp 29) (.const (.int .i64 1)) 3, (some (some 27, false))⟩,
    ⟨(some 31), .pick (.tmp 27) (.const (.bool true)) (.tmp 30), none⟩,
    ⟨(some 32), .move (.tmp 31), none⟩,
    ⟨(some 33), .move (.tmp 7), (some (some 32, false))⟩,
    ⟨(some 34), .move (.tmp 8), (some (some 32, false))⟩,
    ⟨(some 35), .call ⟨.value (.func 11), #[(.tmp 33), (.tmp 34)], #[22, 22]⟩, (some (some 32, false))⟩,
    ⟨(some 36), .move (.tmp 5), (some (some 32, false))⟩,
    ⟨(some 37), .move (.tmp 6), (some (some 32, false))⟩,
    ⟨(some 38), .call ⟨.value (.func 12), #[(.tmp 36), (.tmp 37)], #[24, 24]⟩, (some (some 32, false))⟩,
    ⟨(some 39), .binOp .neq 4 (.tmp 35) (.tmp 38) 4, (some (some 32, false))⟩,
    ⟨(some 40), .pick (.tmp 32) (.const (.bool true)) (.tmp 39), none⟩]) c_sheaflaw13_RowAlone_1) K t m := rfl

def c_sheaflaw13_RowAlone_3 : MC := (.seq (.ops [⟨(some 46), .move (.tmp 7), none⟩,
    ⟨(some 47), .move (.tmp 9), none⟩,
    ⟨(some 48), .slice 22 (.tmp 46) none (some (.tmp 47)) none, none⟩,
    ⟨(some 49), .move (.tmp 8), none⟩,
    ⟨(some 50), .move (.tmp 9), none⟩,
    ⟨(some 51), .slice 22 (.tmp 49) none (some (.tmp 50)) none, none⟩,
    ⟨(some 52), .call ⟨.value (.func 11), #[(.tmp 48), (.tmp 51)], #[22, 22]⟩, none⟩,
    ⟨(some 53), .unOp .not 4 (.tmp 52), none⟩,
    ⟨(some 54), .move (.tmp 53), none⟩,
    ⟨(some 55), .move (.tmp 7), (some (some 54, false))⟩,
    ⟨(some 56), .call ⟨.builtin .len, #[(.tmp 55)], #[22]⟩, (some (some 54, false))⟩,
    ⟨(some 57), .move (.tmp 8), (some (some 54, false))⟩,
    ⟨(some 58), .call ⟨.builtin .len, #[(.tmp 57)], #[22]⟩, (some (some 54, false))⟩,
    ⟨(some 59), .binOp .eql 3 (.tmp 56) (.tmp 58) 3, (some (some 54, false))⟩,
    ⟨(some 60), .pick (.tmp 54) (.const (.bool true)) (.tmp 59), none⟩,
    ⟨(some 61), .move (.tmp 60), none⟩,
    ⟨(some 62), .call ⟨.value (.func 3), #[], #[]⟩, (some (some 61, true))⟩,
    ⟨(some 63), .pick (.tmp 61) (.tmp 62) (.const (.bool false)), none⟩,
    ⟨(some 4), .assign (.tmp 63), none⟩]) .ret)
@[go_sem] theorem c_sheaflaw13_RowAlone_3_at (rd : Option Nat) (K : Post3) (t : Fr) (m : Mem) : wpM E 8 64 rd c_sheaflaw13_RowAlone_3 K t m = wpM E 8 64 rd (.seq (.ops [⟨(some 46), .move (.tmp 7), none⟩,
    ⟨(some 47), .move (.tmp 9), none⟩,
    ⟨(some 48), .slice 22 (.tmp 46) none (some (.tmp 47)) none, none⟩,
    ⟨(some 49), .move (.tmp 8), none⟩,
    ⟨(some 50), .move (.tmp 9), none⟩,
    ⟨(some 51), .slice 22 (.tmp 49) none (some (.tmp 50)) none, none⟩,
    ⟨(some 52), .call ⟨.value (.func 11), #[(.tmp 48), (.tmp 51)], #[22, 22]⟩, none⟩,
    ⟨(some 53), .unOp .not 4 (.tmp 52), none⟩,
    ⟨(some 54), .move (.tmp 53), none⟩,
    ⟨(some 55), .move (.tmp 7), (some (some 54, false))⟩,
    ⟨(some 56), .call ⟨.builtin .len, #[(.tmp 55)], #[22]⟩, (some (some 54, false))⟩,
    ⟨(some 57), .move (.tmp 8), (some (some 54, false))⟩,
    ⟨(some 58), .call ⟨.builtin .len, #[(.tmp 57)], #[22]⟩, (some (some 54, false))⟩,
    ⟨(some 59), .binOp .eql 3 (.tmp 56) (.tmp 58) 3, (some (some 54, false))⟩,
    ⟨(some 60), .pick (.tmp 54) (.const (.bool true)) (.tmp 59), none⟩,
    ⟨(some 61), .move (.tmp 60), none⟩,
    ⟨(some 62), .call ⟨.value (.func 3), #[], #[]⟩, (some (some 61, true))⟩,
    ⟨(some 63), .pick (.tmp 61) (.tmp 62) (.const (.bool false)), none⟩,
    ⟨(some 4), .assign (.tmp 63), none⟩]) .ret) K t m := rfl

def c_sheaflaw13_RowAlone_4 : MC := (.seq (.ops [⟨(some 41), .move (.tmp 7), none⟩,
    ⟨(some 42), .call ⟨.builtin .len, #[(.tmp 41)], #[22]⟩, none⟩,
    ⟨(some 43), .move (.tmp 8), none⟩,
    ⟨(some 44), .call ⟨.builtin .len, #[(.tmp 43)], #[22]⟩, none⟩,
    ⟨(some 45), .call ⟨.builtin .min, #[(.tmp 42), (.tmp 44)], #[3, 3]⟩, none⟩,
    ⟨(some 9), .assign (.tmp 45), none⟩]) c_sheaflaw13_RowAlone_3)
@[go_sem] theorem c_sheaflaw13_RowAlone_4_at (rd : Option Nat) (K : Post3) (t : Fr) (m : Mem) : wpM E 8 64 rd c_sheaflaw13_RowAlone_4 K t m = wpM E 8 64 rd (.seq (.ops [⟨(some 41), .move (.tmp 7), none⟩,
    ⟨(some 42), .call ⟨.builtin .len, #[(.tmp 41)], #[22]⟩, none⟩,
    ⟨(some 43), .move (.tmp 8), none⟩,
    ⟨(some 44), .call ⟨.builtin .len, #[(.tmp 43)], #[22]⟩, none⟩,
    ⟨(some 45), .call ⟨.builtin .min, #[(.tmp 42), (.tmp 44)], #[3, 3]⟩, none⟩,
    ⟨(some 9), .assign (.tmp 45), none⟩]) c_sheaflaw13_RowAlone_3) K t m := rfl

def c_sheaflaw13_RowAlone_5 : MC := (.seq c_sheaflaw13_RowAlone_2 c_sheaflaw13_RowAlone_4)
@[go_sem] theorem c_sheaflaw13_RowAlone_5_at (rd : Option Nat) (K : Post3) (t : Fr) (m : Mem) : wpM E 8 64 rd c_sheaflaw13_RowAlone_5 K t m = wpM E 8 64 rd (.seq c_sheaflaw13_RowAlone_2 c_sheaflaw13_RowAlone_4) K t m := rfl

def c_sheaflaw13_RowAlone_6 : MC := (.seq (.ops [⟨(some 20), .move (.tmp 5), none⟩,
    ⟨(some 21), .call ⟨.value (.func 9), #[(.tmp 20)], #[24]⟩, none⟩,
    ⟨(some 22), .move (.tmp 6), none⟩,
    ⟨(some 23), .call ⟨.value (.func 9), #[(.tmp 22)], #[24]⟩, none⟩,
    ⟨(some 7), .assign (.tmp 21), none⟩,
    ⟨(some 8), .assign (.tmp 23), none⟩]) c_sheaflaw13_RowAlone_5)
@[go_sem] theorem c_sheaflaw13_RowAlone_6_at (rd : Option Nat) (K : Post3) (t : Fr) (m : Mem) : wpM E 8 64 rd c_sheaflaw13_RowAlone_6 K t m = wpM E 8 64 rd (.seq (.ops [⟨(some 20), .move (.tmp 5), none⟩,
    ⟨(some 21), .call ⟨.value (.func 9), #[(.tmp 20)], #[24]⟩, none⟩,
    ⟨(some 22), .move (.tmp 6), none⟩,
    ⟨(some 23), .call ⟨.value (.func 9), #[(.tmp 22)], #[24]⟩, none⟩,
    ⟨(some 7), .assign (.tmp 21), none⟩,
    ⟨(some 8), .assign (.tmp 23), none⟩]) c_sheaflaw13_RowAlone_5) K t m := rfl

def c_sheaflaw13_RowAlone_7 : MC := (.seq (.ops [⟨(some 10), .move (.tmp 0), none⟩,
    ⟨(some 11), .move (.tmp 0), none⟩,
    ⟨(some 12), .call ⟨.builtin .len, #[(.tmp 11)], #[24]⟩, none⟩,
    ⟨(some 13), .call ⟨.builtin .min, #[(.tmp 12), (.const (.int .i64 10))], #[3, 3]⟩, none⟩,
    ⟨(some 14), .slice 24 (.tmp 10) none (some (.tmp 13)) none, none⟩,
    ⟨(some 15), .move (.tmp 1), none⟩,
    ⟨(some 16), .move (.tmp 1), none⟩,
    ⟨(some 17), .call ⟨.builtin .len, #[(.tmp 16)], #[24]⟩, none⟩,
    ⟨(some 18), .call ⟨.builtin .min, #[(.tmp 17), (.const (.int .i64 10))], #[3, 3]⟩, none⟩,
    ⟨(some 19), .slice 24 (.tmp 15) none (some (.tmp 18)) none, none⟩,
    ⟨(some 5), .assign (.tmp 14), none⟩,
    ⟨(some 6), .assign (.tmp 19), none⟩]) c_sheaflaw13_RowAlone_6)
@[go_sem] theorem c_sheaflaw13_RowAlone_7_at (rd : Option Nat) (K : Post3) (t : Fr) (m : Mem) : wpM E 8 64 rd c_sheaflaw13_RowAlone_7 K t m = wpM E 8 64 rd (.seq (.ops [⟨(some 10), .move (.tmp 0), none⟩,
    ⟨(some 11), .move (.tmp 0), none⟩,
    ⟨(some 12), .call ⟨.builtin .len, #[(.tmp 11)], #[24]⟩, none⟩,
    ⟨(some 13), .call ⟨.builtin .min, #[(.tmp 12), (.const (.int .i64 10))], #[3, 3]⟩, none⟩,
    ⟨(some 14), .slice 24 (.tmp 10) none (some (.tmp 13)) none, none⟩,
    ⟨(some 15), .move (.tmp 1), none⟩,
    ⟨(some 16), .move (.tmp 1), none⟩,
    ⟨(some 17), .call ⟨.builtin .len, #[(.tmp 16)], #[24]⟩, none⟩,
    ⟨(some 18), .call ⟨.builtin .min, #[(.tmp 17), (.const (.int .i64 10))], #[3, 3]⟩, none⟩,
    ⟨(some 19), .slice 24 (.tmp 15) none (some (.tmp 18)) none, none⟩,
    ⟨(some 5), .assign (.tmp 14), none⟩,
    ⟨(some 6), .assign (.tmp 19), none⟩]) c_sheaflaw13_RowAlone_6) K t m := rfl

def c_sheaflaw13_RowAlone_8 : MC := (.seq (.ops [⟨(some 4), .assign (.const (.bool false)), none⟩]) c_sheaflaw13_RowAlone_7)
@[go_sem] theorem c_sheaflaw13_RowAlone_8_at (rd : Option Nat) (K : Post3) (t : Fr) (m : Mem) : wpM E 8 64 rd c_sheaflaw13_RowAlone_8 K t m = wpM E 8 64 rd (.seq (.ops [⟨(some 4), .assign (.const (.bool false)), none⟩]) c_sheaflaw13_RowAlone_7) K t m := rfl

@[go_sem] theorem some8 : (E.fn 8).isSome = true := by kernel_rfl
set_option maxRecDepth 100000 in
theorem fn_sheaflaw13_RowAlone : FnIs E 8 64 [.tmp 4] c_sheaflaw13_RowAlone_8 := ⟨by kernel_rfl, by kernel_rfl⟩

end Go.Proofs.Ytkbjkmhmkefckaa.W
