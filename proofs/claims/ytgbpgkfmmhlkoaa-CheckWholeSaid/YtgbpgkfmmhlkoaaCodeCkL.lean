/-
  Compact code, printed by a program of mine (wip/dev/AbsPrint.lean).
-/
import Derived.Test.YtgbpgkfmmhlkoaaTypes
set_option linter.unusedVariables false
namespace Go.Proofs.Ytgbpgkfmmhlkoaa.W
open Go.Abs

/-! sheaf/sheaflaw16.CheckTells -/
abbrev F_sheaflaw16_CheckTells : FuncId := 4
def c_sheaflaw16_CheckTells_0 : MC := (.seq (.ops [⟨(some 7), .move (.tmp 0), none⟩,
    ⟨(some 8), .move (.tmp 1), none⟩,
    ⟨(some 9), .call ⟨.value (.func 14), #[(.tmp 7), (.tmp 8)], #[3, 23]⟩, none⟩,
    ⟨(some 10), .move (.tmp 0), none⟩,
    ⟨(some 11), .move (.tmp 1), none⟩,
    ⟨(some 12), .call ⟨.value (.func 17), #[(.tmp 10), (.tmp 11)], #[3, 23]⟩, none⟩,
    ⟨(some 13), .binOp .eql 4 (.tmp 9) (.tmp 12) 4, none⟩,
    ⟨(some 14), .move (.tmp 13), none⟩,
    ⟨(some 15), .move (.tmp 0), (some (some 14, true))⟩,
    ⟨(some 16), .move (.tmp 1), (some (some 14, true))⟩,
    ⟨(some 17), .move (.tmp 2), (some (some 14, true))⟩,
    ⟨(some 18), .call ⟨.value (.func 18), #[(.tmp 15), (.tmp 16), (.tmp 17)], #[3, 23, 23]⟩, (some (some 14, true))⟩,
    ⟨(some 19), .move (.tmp 0), (some (some 14, true))⟩,
    ⟨(some 20), .move (.tmp 1), (some (some 14, true))⟩,
    ⟨(some 21), .move (.tmp 2), (some (some 14, true))⟩,
    ⟨(some 22), .call ⟨.value (.func 19), #[(.tmp 19), (.tmp 20), (.tmp 21)], #[3, 23, 23]⟩, (some (some 14, true))⟩,
    ⟨(some 23), .binOp .eql 4 (.tmp 18) (.tmp 22) 4, (some (some 14, true))⟩,
    ⟨(some 24), .pick (.tmp 14) (.tmp 23) (.const (.bool false)), none⟩,
    ⟨(some 25), .move (.tmp 24), none⟩,
    ⟨(some 26), .call ⟨.value (.func 3), #[], #[]⟩, (some (some 25, true))⟩,
    ⟨(some 27), .pick (.tmp 25) (.tmp 26) (.const (.bool false)), none⟩,
    ⟨(some 6), .assign (.tmp 27), none⟩]) .ret)
@[go_sem] theorem c_sheaflaw16_CheckTells_0_at (rd : Option Nat) (K : Post3) (t : Fr) (m : Mem) : wpM E 4 28 rd c_sheaflaw16_CheckTells_0 K t m = wpM E 4 28 rd (.seq (.ops [⟨(some 7), .move (.tmp 0), none⟩,
    ⟨(some 8), .move (.tmp 1), none⟩,
    ⟨(some 9), .call ⟨.value (.func 14), #[(.tmp 7), (.tmp 8)], #[3, 23]⟩, none⟩,
    ⟨(some 10), .move (.tmp 0), none⟩,
    ⟨(some 11), .move (.tmp 1), none⟩,
    ⟨(some 12), .call ⟨.value (.func 17), #[(.tmp 10), (.tmp 11)], #[3, 23]⟩, none⟩,
    ⟨(some 13), .binOp .eql 4 (.tmp 9) (.tmp 12) 4, none⟩,
    ⟨(some 14), .move (.tmp 13), none⟩,
    ⟨(some 15), .move (.tmp 0), (some (some 14, true))⟩,
    ⟨(some 16), .move (.tmp 1), (some (some 14, true))⟩,
    ⟨(some 17), .move (.tmp 2), (some (some 14, true))⟩,
    ⟨(some 18), .call ⟨.value (.func 18), #[(.tmp 15), (.tmp 16), (.tmp 17)], #[3, 23, 23]⟩, (some (some 14, true))⟩,
    ⟨(some 19), .move (.tmp 0), (some (some 14, true))⟩,
    ⟨(some 20), .move (.tmp 1), (some (some 14, true))⟩,
    ⟨(some 21), .move (.tmp 2), (some (some 14, true))⟩,
    ⟨(some 22), .call ⟨.value (.func 19), #[(.tmp 19), (.tmp 20), (.tmp 21)], #[3, 23, 23]⟩, (some (some 14, true))⟩,
    ⟨(some 23), .binOp .eql 4 (.tmp 18) (.tmp 22) 4, (some (some 14, true))⟩,
    ⟨(some 24), .pick (.tmp 14) (.tmp 23) (.const (.bool false)), none⟩,
    ⟨(some 25), .move (.tmp 24), none⟩,
    ⟨(some 26), .call ⟨.value (.func 3), #[], #[]⟩, (some (some 25, true))⟩,
    ⟨(some 27), .pick (.tmp 25) (.tmp 26) (.const (.bool false)), none⟩,
    ⟨(some 6), .assign (.tmp 27), none⟩]) .ret) K t m := rfl

def c_sheaflaw16_CheckTells_1 : MC := (.seq (.ops [⟨(some 6), .assign (.const (.bool false)), none⟩]) c_sheaflaw16_CheckTells_0)
@[go_sem] theorem c_sheaflaw16_CheckTells_1_at (rd : Option Nat) (K : Post3) (t : Fr) (m : Mem) : wpM E 4 28 rd c_sheaflaw16_CheckTells_1 K t m = wpM E 4 28 rd (.seq (.ops [⟨(some 6), .assign (.const (.bool false)), none⟩]) c_sheaflaw16_CheckTells_0) K t m := rfl

@[go_sem] theorem some4 : (E.fn 4).isSome = true := by kernel_rfl
set_option maxRecDepth 100000 in
theorem fn_sheaflaw16_CheckTells : FnIs E 4 28 [.tmp 6] c_sheaflaw16_CheckTells_1 := ⟨by kernel_rfl, by kernel_rfl⟩

/-! sheaf/sheaflaw16.CheckEdges -/
abbrev F_sheaflaw16_CheckEdges : FuncId := 6
def c_sheaflaw16_CheckEdges_0 : MC := (.seq (.ops [⟨(some 38), .buildSlice 23 2 #[(0, (.const (.int .i64 1))), (1, (.const (.int .i64 1)))], none⟩,
    ⟨(some 39), .buildSlice 23 2 #[(0, (.const (.int .i64 1152921504606846976))), (1, (.const (.int .i64 8999)))], none⟩,
    ⟨(some 40), .buildSlice 28 2 #[(0, (.tmp 38)), (1, (.tmp 39))], none⟩,
    ⟨(some 6), .assign (.tmp 40), none⟩]) (.ops [⟨(some 41), .move (.tmp 5), none⟩,
    ⟨(some 42), .binOp .sub 3 (.const (.int .i64 1)) (.tmp 41) 3, none⟩,
    ⟨(some 43), .buildSlice 23 2 #[(0, (.tmp 42)), (1, (.const (.int .i64 1)))], none⟩,
    ⟨(some 44), .move (.tmp 5), none⟩,
    ⟨(some 45), .binOp .sub 3 (.const (.int .i64 1)) (.tmp 44) 3, none⟩,
    ⟨(some 46), .buildSlice 23 2 #[(0, (.const (.int .i64 1))), (1, (.tmp 45))], none⟩,
    ⟨(some 47), .move (.tmp 5), none⟩,
    ⟨(some 48), .binOp .add 3 (.const (.int .i64 8999)) (.tmp 47) 3, none⟩,
    ⟨(some 49), .buildSlice 23 2 #[(0, (.const (.int .i64 1))), (1, (.tmp 48))], none⟩,
    ⟨(some 50), .buildSlice 23 1 #[(0, (.const (.int .i64 1)))], none⟩,
    ⟨(some 51), .buildSlice 23 3 #[(0, (.const (.int .i64 1))), (1, (.const (.int .i64 1))), (2, (.const (.int .i64 1)))], none⟩,
    ⟨(some 52), .buildSlice 28 5 #[(0, (.tmp 43)), (1, (.tmp 46)), (2, (.tmp 49)), (3, (.tmp 50)), (4, (.tmp 51))], none⟩,
    ⟨(some 7), .assign (.tmp 52), none⟩]))
@[go_sem] theorem c_sheaflaw16_CheckEdges_0_at (rd : Option Nat) (K : Post3) (t : Fr) (m : Mem) : wpM E 6 140 rd c_sheaflaw16_CheckEdges_0 K t m = wpM E 6 140 rd (.seq (.ops [⟨(some 38), .buildSlice 23 2 #[(0, (.const (.int .i64 1))), (1, (.const (.int .i64 1)))], none⟩,
    ⟨(some 39), .buildSlice 23 2 #[(0, (.const (.int .i64 1152921504606846976))), (1, (.const (.int .i64 8999)))], none⟩,
    ⟨(some 40), .buildSlice 28 2 #[(0, (.tmp 38)), (1, (.tmp 39))], none⟩,
    ⟨(some 6), .assign (.tmp 40), none⟩]) (.ops [⟨(some 41), .move (.tmp 5), none⟩,
    ⟨(some 42), .binOp .sub 3 (.const (.int .i64 1)) (.tmp 41) 3, none⟩,
    ⟨(some 43), .buildSlice 23 2 #[(0, (.tmp 42)), (1, (.const (.int .i64 1)))], none⟩,
    ⟨(some 44), .move (.tmp 5), none⟩,
    ⟨(some 45), .binOp .sub 3 (.const (.int .i64 1)) (.tmp 44) 3, none⟩,
    ⟨(some 46), .buildSlice 23 2 #[(0, (.const (.int .i64 1))), (1, (.tmp 45))], none⟩,
    ⟨(some 47), .move (.tmp 5), none⟩,
    ⟨(some 48), .binOp .add 3 (.const (.int .i64 8999)) (.tmp 47) 3, none⟩,
    ⟨(some 49), .buildSlice 23 2 #[(0, (.const (.int .i64 1))), (1, (.tmp 48))], none⟩,
    ⟨(some 50), .buildSlice 23 1 #[(0, (.const (.int .i64 1)))], none⟩,
    ⟨(some 51), .buildSlice 23 3 #[(0, (.const (.int .i64 1))), (1, (.const (.int .i64 1))), (2, (.const (.int .i64 1)))], none⟩,
    ⟨(some 52), .buildSlice 28 5 #[(0, (.tmp 43)), (1, (.tmp 46)), (2, (.tmp 49)), (3, (.tmp 50)), (4, (.tmp 51))], none⟩,
    ⟨(some 7), .assign (.tmp 52), none⟩])) K t m := rfl

def c_sheaflaw16_CheckEdges_1 : MC := (.seq (.ops [⟨(some 8), .assign (.const (.int .i64 3)), none⟩]) c_sheaflaw16_CheckEdges_0)
@[go_sem] theorem c_sheaflaw16_CheckEdges_1_at (rd : Option Nat) (K : Post3) (t : Fr) (m : Mem) : wpM E 6 140 rd c_sheaflaw16_CheckEdges_1 K t m = wpM E 6 140 rd (.seq (.ops [⟨(some 8), .assign (.const (.int .i64 3)), none⟩]) c_sheaflaw16_CheckEdges_0) K t m := rfl

def c_sheaflaw16_CheckEdges_2 : MC := (.seq (.ops [⟨(some 55), .buildSlice 23 4 #[(0, (.const (.int .i64 1))), (1, (.const (.int .i64 0))), (2, (.const (.int .i64 1))), (3, (.const (.int .i64 1)))], none⟩,
    ⟨(some 56), .buildSlice 23 4 #[(0, (.const (.int .i64 1152921504606846976))), (1, (.const (.int .i64 1073741824))), (2, (.const (.int .i64 1099511627776))), (3, (.const (.int .i64 1099511627776)))], none⟩,
    ⟨(some 57), .buildSlice 28 2 #[(0, (.tmp 55)), (1, (.tmp 56))], none⟩,
    ⟨(some 6), .assign (.tmp 57), none⟩]) (.ops [⟨(some 58), .move (.tmp 5), none⟩,
    ⟨(some 59), .binOp .sub 3 (.const (.int .i64 1)) (.tmp 58) 3, none⟩,
    ⟨(some 60), .buildSlice 23 4 #[(0, (.tmp 59)), (1, (.const (.int .i64 0))), (2, (.const (.int .i64 1))), (3, (.const (.int .i64 1)))], none⟩,
    ⟨(some 61), .move (.tmp 5), none⟩,
    ⟨(some 62), .unOp .neg 3 (.tmp 61), none⟩,
    ⟨(some 63), .buildSlice 23 4 #[(0, (.const (.int .i64 1))), (1, (.tmp 62)), (2, (.const (.int .i64 1))), (3, (.const (.int .i64 1)))], none⟩,
    ⟨(some 64), .move (.tmp 5), none⟩,
    ⟨(some 65), .binOp .add 3 (.const (.int .i64 1073741824)) (.tmp 64) 3, none⟩,
    ⟨(some 66), .buildSlice 23 4 #[(0, (.const (.int .i64 1))), (1, (.tmp 65)), (2, (.const (.int .i64 1))), (3, (.const (.int .i64 1)))], none⟩,
    ⟨(some 67), .move (.tmp 5), none⟩,
    ⟨(some 68), .binOp .sub 3 (.const (.int .i64 1)) (.tmp 67) 3, none⟩,
    ⟨(some 69), .buildSlice 23 4 #[(0, (.const (.int .i64 1))), (1, (.const (.int .i64 0))), (2, (.tmp 68)), (3, (.const (.int .i64 1)))], none⟩,
    ⟨(some 70), .move (.tmp 5), none⟩,
    ⟨(some 71), .binOp .sub 3 (.const (.int .i64 1)) (.tmp 70) 3, none⟩,
    ⟨(some 72), .buildSlice 23 4 #[(0, (.const (.int .i64 1))), (1, (.const (.int .i64 0))), (2, (.const (.int .i64 1))), (3, (.tmp 71))], none⟩,
    ⟨(some 73), .move (.tmp 5), none⟩,
    ⟨(some 74), .binOp .add 3 (.const (.int .i64 1099511627776)) (.tmp 73) 3, none⟩,
    ⟨(some 75), .buildSlice 23 4 #[(0, (.const (.int .i64 1))), (1, (.const (.int .i64 0))), (2, (.tmp 74)), (3, (.const (.int .i64 1)))], none⟩,
    ⟨(some 76), .move (.tmp 5), none⟩,
    ⟨(some 77), .binOp .add 3 (.const (.int .i64 1099511627776)) (.tmp 76) 3, none⟩,
    ⟨(some 78), .buildSlice 23 4 #[(0, (.const (.int .i64 1))), (1, (.const (.int .i64 0))), (2, (.const (.int .i64 1))), (3, (.tmp 77))], none⟩,
    ⟨(some 79), .buildSlice 23 3 #[(0, (.const (.int .i64 1))), (1, (.const (.int .i64 0))), (2, (.const (.int .i64 1)))], none⟩,
    ⟨(some 80), .buildSlice 28 8 #[(0, (.tmp 60)), (1, (.tmp 63)), (2, (.tmp 66)), (3, (.tmp 69)), (4, (.tmp 72)), (5, (.tmp 75)), (6, (.tmp 78)), (7, (.tmp 79))], none⟩,
    ⟨(some 7), .assign (.tmp 80), none⟩]))
@[go_sem] theorem c_sheaflaw16_CheckEdges_2_at (rd : Option Nat) (K : Post3) (t : Fr) (m : Mem) : wpM E 6 140 rd c_sheaflaw16_CheckEdges_2 K t m = wpM E 6 140 rd (.seq (.ops [⟨(some 55), .buildSlice 23 4 #[(0, (.const (.int .i64 1))), (1, (.const (.int .i64 0))), (2, (.const (.int .i64 1))), (3, (.const (.int .i64 1)))], none⟩,
    ⟨(some 56), .buildSlice 23 4 #[(0, (.const (.int .i64 1152921504606846976))), (1, (.const (.int .i64 1073741824))), (2, (.const (.int .i64 1099511627776))), (3, (.const (.int .i64 1099511627776)))], none⟩,
    ⟨(some 57), .buildSlice 28 2 #[(0, (.tmp 55)), (1, (.tmp 56))], none⟩,
    ⟨(some 6), .assign (.tmp 57), none⟩]) (.ops [⟨(some 58), .move (.tmp 5), none⟩,
    ⟨(some 59), .binOp .sub 3 (.const (.int .i64 1)) (.tmp 58) 3, none⟩,
    ⟨(some 60), .buildSlice 23 4 #[(0, (.tmp 59)), (1, (.const (.int .i64 0))), (2, (.const (.int .i64 1))), (3, (.const (.int .i64 1)))], none⟩,
    ⟨(some 61), .move (.tmp 5), none⟩,
    ⟨(some 62), .unOp .neg 3 (.tmp 61), none⟩,
    ⟨(some 63), .buildSlice 23 4 #[(0, (.const (.int .i64 1))), (1, (.tmp 62)), (2, (.const (.int .i64 1))), (3, (.const (.int .i64 1)))], none⟩,
    ⟨(some 64), .move (.tmp 5), none⟩,
    ⟨(some 65), .binOp .add 3 (.const (.int .i64 1073741824)) (.tmp 64) 3, none⟩,
    ⟨(some 66), .buildSlice 23 4 #[(0, (.const (.int .i64 1))), (1, (.tmp 65)), (2, (.const (.int .i64 1))), (3, (.const (.int .i64 1)))], none⟩,
    ⟨(some 67), .move (.tmp 5), none⟩,
    ⟨(some 68), .binOp .sub 3 (.const (.int .i64 1)) (.tmp 67) 3, none⟩,
    ⟨(some 69), .buildSlice 23 4 #[(0, (.const (.int .i64 1))), (1, (.const (.int .i64 0))), (2, (.tmp 68)), (3, (.const (.int .i64 1)))], none⟩,
    ⟨(some 70), .move (.tmp 5), none⟩,
    ⟨(some 71), .binOp .sub 3 (.const (.int .i64 1)) (.tmp 70) 3, none⟩,
    ⟨(some 72), .buildSlice 23 4 #[(0, (.const (.int .i64 1))), (1, (.const (.int .i64 0))), (2, (.const (.int .i64 1))), (3, (.tmp 71))], none⟩,
    ⟨(some 73), .move (.tmp 5), none⟩,
    ⟨(some 74), .binOp .add 3 (.const (.int .i64 1099511627776)) (.tmp 73) 3, none⟩,
    ⟨(some 75), .buildSlice 23 4 #[(0, (.const (.int .i64 1))), (1, (.const (.int .i64 0))), (2, (.tmp 74)), (3, (.const (.int .i64 1)))], none⟩,
    ⟨(some 76), .move (.tmp 5), none⟩,
    ⟨(some 77), .binOp .add 3 (.const (.int .i64 1099511627776)) (.tmp 76) 3, none⟩,
    ⟨(some 78), .buildSlice 23 4 #[(0, (.const (.int .i64 1))), (1, (.const (.int .i64 0))), (2, (.const (.int .i64 1))), (3, (.tmp 77))], none⟩,
    ⟨(some 79), .buildSlice 23 3 #[(0, (.const (.int .i64 1))), (1, (.const (.int .i64 0))), (2, (.const (.int .i64 1)))], none⟩,
    ⟨(some 80), .buildSlice 28 8 #[(0, (.tmp 60)), (1, (.tmp 63)), (2, (.tmp 66)), (3, (.tmp 69)), (4, (.tmp 72)), (5, (.tmp 75)), (6, (.tmp 78)), (7, (.tmp 79))], none⟩,
    ⟨(some 7), .assign (.tmp 80), none⟩])) K t m := rfl

def c_sheaflaw16_CheckEdges_3 : MC := (.seq (.ops [⟨(some 8), .assign (.const (.int .i64 4)), none⟩]) c_sheaflaw16_CheckEdges_2)
@[go_sem] theorem c_sheaflaw16_CheckEdges_3_at (rd : Option Nat) (K : Post3) (t : Fr) (m : Mem) : wpM E 6 140 rd c_sheaflaw16_CheckEdges_3 K t m = wpM E 6 140 rd (.seq (.ops [⟨(some 8), .assign (.const (.int .i64 4)), none⟩]) c_sheaflaw16_CheckEdges_2) K t m := rfl

def c_sheaflaw16_CheckEdges_4 : MC := (.seq (.ops [⟨(some 83), .buildSlice 23 6 #[(0, (.const (.int .i64 1))), (1, (.const (.int .i64 1))), (2, (.const (.int .i64 1))), (3, (.const (.int .i64 0))), (4, (.const (.int .i64 (-9223372036854775807)))), (5, (.const (.int .i64 0)))], none⟩,
    ⟨(some 84), .buildSlice 23 6 #[(0, (.const (.int .i64 1152921504606846976))), (1, (.const (.int .i64 1152921504606846976))), (2, (.const (.int .i64 1152921504606846976))), (3, (.const (.int .i64 1152921504606846976))), (4, (.const (.int .i64 9223372036854775807))), (5, (.const (.int .i64 1)))], none⟩,
    ⟨(some 85), .buildSlice 23 6 #[(0, (.const (.int .i64 1))), (1, (.const (.int .i64 1))), (2, (.const (.int .i64 1))), (3, (.const (.int .i64 0))), (4, (.const (.int .i64 0))), (5, (.const (.int .i64 2)))], none⟩,
    ⟨(some 86), .buildSlice 28 3 #[(0, (.tmp 83)), (1, (.tmp 84)), (2, (.tmp 85))], none⟩,
    ⟨(some 6), .assign (.tmp 86), none⟩]) (.ops [⟨(some 87), .move (.tmp 5), none⟩,
    ⟨(some 88), .binOp .sub 3 (.const (.int .i64 1)) (.tmp 87) 3, none⟩,
    ⟨(some 89), .buildSlice 23 6 #[(0, (.tmp 88)), (1, (.const (.int .i64 1))), (2, (.const (.int .i64 1))), (3, (.const (.int .i64 0))), (4, (.const (.int .i64 0))), (5, (.const (.int .i64 0)))], none⟩,
    ⟨(some 90), .move (.tmp 5), none⟩,
    ⟨(some 91), .binOp .sub 3 (.const (.int .i64 1)) (.tmp 90) 3, none⟩,
    ⟨(some 92), .buildSlice 23 6 #[(0, (.const (.int .i64 1))), (1, (.tmp 91)), (2, (.const (.int .i64 1))), (3, (.const (.int .i64 0))), (4, (.const (.int .i64 0))), (5, (.const (.int .i64 0)))], none⟩,
    ⟨(some 93), .move (.tmp 5), none⟩,
    ⟨(some 94), .binOp .sub 3 (.const (.int .i64 1)) (.tmp 93) 3, none⟩,
    ⟨(some 95), .buildSlice 23 6 #[(0, (.const (.int .i64 1))), (1, (.const (.int .i64 1))), (2, (.tmp 94)), (3, (.const (.int .i64 0))), (4, (.const (.int .i64 0))), (5, (.const (.int .i64 0)))], none⟩,
    ⟨(some 96), .move (.tmp 5), none⟩,
    ⟨(some 97), .unOp .neg 3 (.tmp 96), none⟩,
    ⟨(some 98), .buildSlice 23 6 #[(0, (.const (.int .i64 1))), (1, (.const (.int .i64 1))), (2, (.const (.int .i64 1))), (3, (.tmp 97)), (4, (.const (.int .i64 0))), (5, (.const (.int .i64 0)))], none⟩,
    ⟨(some 99), .buildSlice 23 6 #[(0, (.const (.int .i64 1))), (1, (.const (.int .i64 1))), (2, (.const (.int .i64 1))), (3, (.const (.int .i64 0))), (4, (.const (.int .i64 (-9223372036854775808)))), (5, (.const (.int .i64 0)))], none⟩,
    ⟨(some 100), .move (.tmp 5), none⟩,
    ⟨(some 101), .unOp .neg 3 (.tmp 100), none⟩,
    ⟨(some 102), .buildSlice 23 6 #[(0, (.const (.int .i64 1))), (1, (.const (.int .i64 1))), (2, (.const (.int .i64 1))), (3, (.const (.int .i64 0))), (4, (.const (.int .i64 0))), (5, (.tmp 101))], none⟩,
    ⟨(some 103), .move (.tmp 5), none⟩,
    ⟨(some 104), .move (.tmp 5), none⟩,
    ⟨(some 105), .buildSlice 23 6 #[(0, (.const (.int .i64 1))), (1, (.tmp 103)), (2, (.const (.int .i64 1))), (3, (.const (.int .i64 0))), (4, (.const (.int .i64 0))), (5, (.tmp 104))], none⟩,
    ⟨(some 106), .buildSlice 23 5 #[(0, (.const (.int .i64 1))), (1, (.const (.int .i64 1))), (2, (.const (.int .i64 1))), (3, (.const (.int .i64 0))), (4, (.const (.int .i64 0)))], none⟩,
    ⟨(some 107), .buildSlice 28 8 #[(0, (.tmp 89)), (1, (.tmp 92)), (2, (.tmp 95)), (3, (.tmp 98)), (4, (.tmp 99)), (5, (.tmp 102)), (6, (.tmp 105)), (7, (.tmp 106))], none⟩,
    ⟨(some 7), .assign (.tmp 107), none⟩]))
@[go_sem] theorem c_sheaflaw16_CheckEdges_4_at (rd : Option Nat) (K : Post3) (t : Fr) (m : Mem) : wpM E 6 140 rd c_sheaflaw16_CheckEdges_4 K t m = wpM E 6 140 rd (.seq (.ops [⟨(some 83), .buildSlice 23 6 #[(0, (.const (.int .i64 1))), (1, (.const (.int .i64 1))), (2, (.const (.int .i64 1))), (3, (.const (.int .i64 0))), (4, (.const (.int .i64 (-9223372036854775807)))), (5, (.const (.int .i64 0)))], none⟩,
    ⟨(some 84), .buildSlice 23 6 #[(0, (.const (.int .i64 1152921504606846976))), (1, (.const (.int .i64 1152921504606846976))), (2, (.const (.int .i64 1152921504606846976))), (3, (.const (.int .i64 1152921504606846976))), (4, (.const (.int .i64 9223372036854775807))), (5, (.const (.int .i64 1)))], none⟩,
    ⟨(some 85), .buildSlice 23 6 #[(0, (.const (.int .i64 1))), (1, (.const (.int .i64 1))), (2, (.const (.int .i64 1))), (3, (.const (.int .i64 0))), (4, (.const (.int .i64 0))), (5, (.const (.int .i64 2)))], none⟩,
    ⟨(some 86), .buildSlice 28 3 #[(0, (.tmp 83)), (1, (.tmp 84)), (2, (.tmp 85))], none⟩,
    ⟨(some 6), .assign (.tmp 86), none⟩]) (.ops [⟨(some 87), .move (.tmp 5), none⟩,
    ⟨(some 88), .binOp .sub 3 (.const (.int .i64 1)) (.tmp 87) 3, none⟩,
    ⟨(some 89), .buildSlice 23 6 #[(0, (.tmp 88)), (1, (.const (.int .i64 1))), (2, (.const (.int .i64 1))), (3, (.const (.int .i64 0))), (4, (.const (.int .i64 0))), (5, (.const (.int .i64 0)))], none⟩,
    ⟨(some 90), .move (.tmp 5), none⟩,
    ⟨(some 91), .binOp .sub 3 (.const (.int .i64 1)) (.tmp 90) 3, none⟩,
    ⟨(some 92), .buildSlice 23 6 #[(0, (.const (.int .i64 1))), (1, (.tmp 91)), (2, (.const (.int .i64 1))), (3, (.const (.int .i64 0))), (4, (.const (.int .i64 0))), (5, (.const (.int .i64 0)))], none⟩,
    ⟨(some 93), .move (.tmp 5), none⟩,
    ⟨(some 94), .binOp .sub 3 (.const (.int .i64 1)) (.tmp 93) 3, none⟩,
    ⟨(some 95), .buildSlice 23 6 #[(0, (.const (.int .i64 1))), (1, (.const (.int .i64 1))), (2, (.tmp 94)), (3, (.const (.int .i64 0))), (4, (.const (.int .i64 0))), (5, (.const (.int .i64 0)))], none⟩,
    ⟨(some 96), .move (.tmp 5), none⟩,
    ⟨(some 97), .unOp .neg 3 (.tmp 96), none⟩,
    ⟨(some 98), .buildSlice 23 6 #[(0, (.const (.int .i64 1))), (1, (.const (.int .i64 1))), (2, (.const (.int .i64 1))), (3, (.tmp 97)), (4, (.const (.int .i64 0))), (5, (.const (.int .i64 0)))], none⟩,
    ⟨(some 99), .buildSlice 23 6 #[(0, (.const (.int .i64 1))), (1, (.const (.int .i64 1))), (2, (.const (.int .i64 1))), (3, (.const (.int .i64 0))), (4, (.const (.int .i64 (-9223372036854775808)))), (5, (.const (.int .i64 0)))], none⟩,
    ⟨(some 100), .move (.tmp 5), none⟩,
    ⟨(some 101), .unOp .neg 3 (.tmp 100), none⟩,
    ⟨(some 102), .buildSlice 23 6 #[(0, (.const (.int .i64 1))), (1, (.const (.int .i64 1))), (2, (.const (.int .i64 1))), (3, (.const (.int .i64 0))), (4, (.const (.int .i64 0))), (5, (.tmp 101))], none⟩,
    ⟨(some 103), .move (.tmp 5), none⟩,
    ⟨(some 104), .move (.tmp 5), none⟩,
    ⟨(some 105), .buildSlice 23 6 #[(0, (.const (.int .i64 1))), (1, (.tmp 103)), (2, (.const (.int .i64 1))), (3, (.const (.int .i64 0))), (4, (.const (.int .i64 0))), (5, (.tmp 104))], none⟩,
    ⟨(some 106), .buildSlice 23 5 #[(0, (.const (.int .i64 1))), (1, (.const (.int .i64 1))), (2, (.const (.int .i64 1))), (3, (.const (.int .i64 0))), (4, (.const (.int .i64 0)))], none⟩,
    ⟨(some 107), .buildSlice 28 8 #[(0, (.tmp 89)), (1, (.tmp 92)), (2, (.tmp 95)), (3, (.tmp 98)), (4, (.tmp 99)), (5, (.tmp 102)), (6, (.tmp 105)), (7, (.tmp 106))], none⟩,
    ⟨(some 7), .assign (.tmp 107), none⟩])) K t m := rfl

def c_sheaflaw16_CheckEdges_5 : MC := (.seq (.ops [⟨(some 8), .assign (.const (.int .i64 1)), none⟩]) c_sheaflaw16_CheckEdges_4)
@[go_sem] theorem c_sheaflaw16_CheckEdges_5_at (rd : Option Nat) (K : Post3) (t : Fr) (m : Mem) : wpM E 6 140 rd c_sheaflaw16_CheckEdges_5 K t m = wpM E 6 140 rd (.seq (.ops [⟨(some 8), .assign (.const (.int .i64 1)), none⟩]) c_sheaflaw16_CheckEdges_4) K t m := rfl

def c_sheaflaw16_CheckEdges_6 : MC := (.cond (.tmp 81) c_sheaflaw16_CheckEdges_5 .skip)
@[go_sem] theorem c_sheaflaw16_CheckEdges_6_at (rd : Option Nat) (K : Post3) (t : Fr) (m : Mem) : wpM E 6 140 rd c_sheaflaw16_CheckEdges_6 K t m = wpM E 6 140 rd (.cond (.tmp 81) c_sheaflaw16_CheckEdges_5 .skip) K t m := rfl

def c_sheaflaw16_CheckEdges_7 : MC := (.seq (.ops [⟨(some 82), .binOp .eql 3 (.tmp 35) (.const (.int .i64 3)) 3, none⟩,
    ⟨(some 81), .assign (.tmp 82), none⟩]) c_sheaflaw16_CheckEdges_6)
@[go_sem] theorem c_sheaflaw16_CheckEdges_7_at (rd : Option Nat) (K : Post3) (t : Fr) (m : Mem) : wpM E 6 140 rd c_sheaflaw16_CheckEdges_7 K t m = wpM E 6 140 rd (.seq (.ops [⟨(some 82), .binOp .eql 3 (.tmp 35) (.const (.int .i64 3)) 3, none⟩,
    ⟨(some 81), .assign (.tmp 82), none⟩]) c_sheaflaw16_CheckEdges_6) K t m := rfl

def c_sheaflaw16_CheckEdges_8 : MC := (.cond (.tmp 53) c_sheaflaw16_CheckEdges_3 c_sheaflaw16_CheckEdges_7)
@[go_sem] theorem c_sheaflaw16_CheckEdges_8_at (rd : Option Nat) (K : Post3) (t : Fr) (m : Mem) : wpM E 6 140 rd c_sheaflaw16_CheckEdges_8 K t m = wpM E 6 140 rd (.cond (.tmp 53) c_sheaflaw16_CheckEdges_3 c_sheaflaw16_CheckEdges_7) K t m := rfl

def c_sheaflaw16_CheckEdges_9 : MC := (.seq (.ops [⟨(some 54), .binOp .eql 3 (.tmp 35) (.const (.int .i64 2)) 3, none⟩,
    ⟨(some 53), .assign (.tmp 54), none⟩]) c_sheaflaw16_CheckEdges_8)
@[go_sem] theorem c_sheaflaw16_CheckEdges_9_at (rd : Option Nat) (K : Post3) (t : Fr) (m : Mem) : wpM E 6 140 rd c_sheaflaw16_CheckEdges_9 K t m = wpM E 6 140 rd (.seq (.ops [⟨(some 54), .binOp .eql 3 (.tmp 35) (.const (.int .i64 2)) 3, none⟩,
    ⟨(some 53), .assign (.tmp 54), none⟩]) c_sheaflaw16_CheckEdges_8) K t m := rfl

def c_sheaflaw16_CheckEdges_10 : MC := (.cond (.tmp 36) c_sheaflaw16_CheckEdges_1 c_sheaflaw16_CheckEdges_9)
@[go_sem] theorem c_sheaflaw16_CheckEdges_10_at (rd : Option Nat) (K : Post3) (t : Fr) (m : Mem) : wpM E 6 140 rd c_sheaflaw16_CheckEdges_10 K t m = wpM E 6 140 rd (.cond (.tmp 36) c_sheaflaw16_CheckEdges_1 c_sheaflaw16_CheckEdges_9) K t m := rfl

def c_sheaflaw16_CheckEdges_11 : MC := (.seq (.ops [⟨(some 37), .binOp .eql 3 (.tmp 35) (.const (.int .i64 1)) 3, none⟩,
    ⟨(some 36), .assign (.tmp 37), none⟩]) c_sheaflaw16_CheckEdges_10)
@[go_sem] theorem c_sheaflaw16_CheckEdges_11_at (rd : Option Nat) (K : Post3) (t : Fr) (m : Mem) : wpM E 6 140 rd c_sheaflaw16_CheckEdges_11 K t m = wpM E 6 140 rd (.seq (.ops [⟨(some 37), .binOp .eql 3 (.tmp 35) (.const (.int .i64 1)) 3, none⟩,
    ⟨(some 36), .assign (.tmp 37), none⟩]) c_sheaflaw16_CheckEdges_10) K t m := rfl

def c_sheaflaw16_CheckEdges_12 : MC := (.block 0 c_sheaflaw16_CheckEdges_11)
@[go_sem] theorem c_sheaflaw16_CheckEdges_12_at (rd : Option Nat) (K : Post3) (t : Fr) (m : Mem) : wpM E 6 140 rd c_sheaflaw16_CheckEdges_12 K t m = wpM E 6 140 rd (.block 0 c_sheaflaw16_CheckEdges_11) K t m := rfl

def c_sheaflaw16_CheckEdges_13 : MC := (.seq (.ops [⟨(some 34), .move (.tmp 0), none⟩,
    ⟨(some 35), .call ⟨.value (.func 21), #[(.tmp 34), (.const (.int .i64 0)), (.const (.int .i64 3))], #[3, 3, 3]⟩, none⟩]) c_sheaflaw16_CheckEdges_12)
@[go_sem] theorem c_sheaflaw16_CheckEdges_13_at (rd : Option Nat) (K : Post3) (t : Fr) (m : Mem) : wpM E 6 140 rd c_sheaflaw16_CheckEdges_13 K t m = wpM E 6 140 rd (.seq (.ops [⟨(some 34), .move (.tmp 0), none⟩,
    ⟨(some 35), .call ⟨.value (.func 21), #[(.tmp 34), (.const (.int .i64 0)), (.const (.int .i64 3))], #[3, 3, 3]⟩, none⟩]) c_sheaflaw16_CheckEdges_12) K t m := rfl

def c_sheaflaw16_CheckEdges_14 : MC := (.cond (.tmp 111) .skip (.exit 1))
@[go_sem] theorem c_sheaflaw16_CheckEdges_14_at (rd : Option Nat) (K : Post3) (t : Fr) (m : Mem) : wpM E 6 140 rd c_sheaflaw16_CheckEdges_14 K t m = wpM E 6 140 rd (.cond (.tmp 111) .skip (.exit 1)) K t m := rfl

def c_sheaflaw16_CheckEdges_15 : MC := (.seq (.ops [⟨(some 4), .assign (.const (.bool false)), none⟩]) .ret)
@[go_sem] theorem c_sheaflaw16_CheckEdges_15_at (rd : Option Nat) (K : Post3) (t : Fr) (m : Mem) : wpM E 6 140 rd c_sheaflaw16_CheckEdges_15 K t m = wpM E 6 140 rd (.seq (.ops [⟨(some 4), .assign (.const (.bool false)), none⟩]) .ret) K t m := rfl

def c_sheaflaw16_CheckEdges_16 : MC := (.cond (.tmp 117) c_sheaflaw16_CheckEdges_15 .skip)
@[go_sem] theorem c_sheaflaw16_CheckEdges_16_at (rd : Option Nat) (K : Post3) (t : Fr) (m : Mem) : wpM E 6 140 rd c_sheaflaw16_CheckEdges_16 K t m = wpM E 6 140 rd (.cond (.tmp 117) c_sheaflaw16_CheckEdges_15 .skip) K t m := rfl

def c_sheaflaw16_CheckEdges_17 : MC := (.seq (.ops [⟨(some 114), .move (.tmp 8), none⟩,
    ⟨(some 115), .move (.tmp 10), none⟩,
    ⟨(some 116), .call ⟨.value (.func 14), #[(.tmp 114), (.tmp 115)], #[3, 23]⟩, none⟩,
    ⟨(some 117), .unOp .not 4 (.tmp 116), none⟩]) c_sheaflaw16_CheckEdges_16)
@[go_sem] theorem c_sheaflaw16_CheckEdges_17_at (rd : Option Nat) (K : Post3) (t : Fr) (m : Mem) : wpM E 6 140 rd c_sheaflaw16_CheckEdges_17 K t m = wpM E 6 140 rd (.seq (.ops [⟨(some 114), .move (.tmp 8), none⟩,
    ⟨(some 115), .move (.tmp 10), none⟩,
    ⟨(some 116), .call ⟨.value (.func 14), #[(.tmp 114), (.tmp 115)], #[3, 23]⟩, none⟩,
    ⟨(some 117), .unOp .not 4 (.tmp 116), none⟩]) c_sheaflaw16_CheckEdges_16) K t m := rfl

def c_sheaflaw16_CheckEdges_18 : MC := (.seq (.ops [⟨(some 112), .indexAddr 28 (.tmp 108) (.tmp 110), none⟩,
    ⟨(some 113), .load 23 (.tmp 112), none⟩,
    ⟨(some 10), .assign (.tmp 113), none⟩]) c_sheaflaw16_CheckEdges_17)
@[go_sem] theorem c_sheaflaw16_CheckEdges_18_at (rd : Option Nat) (K : Post3) (t : Fr) (m : Mem) : wpM E 6 140 rd c_sheaflaw16_CheckEdges_18 K t m = wpM E 6 140 rd (.seq (.ops [⟨(some 112), .indexAddr 28 (.tmp 108) (.tmp 110), none⟩,
    ⟨(some 113), .load 23 (.tmp 112), none⟩,
    ⟨(some 10), .assign (.tmp 113), none⟩]) c_sheaflaw16_CheckEdges_17) K t m := rfl

def c_sheaflaw16_CheckEdges_19 : MC := (.block 2 c_sheaflaw16_CheckEdges_18)
@[go_sem] theorem c_sheaflaw16_CheckEdges_19_at (rd : Option Nat) (K : Post3) (t : Fr) (m : Mem) : wpM E 6 140 rd c_sheaflaw16_CheckEdges_19 K t m = wpM E 6 140 rd (.block 2 c_sheaflaw16_CheckEdges_18) K t m := rfl

def c_sheaflaw16_CheckEdges_20 : MC := (.seq c_sheaflaw16_CheckEdges_19 (.ops [⟨(some 118), .binOp .add 3 (.tmp 110) (.const (.int .i64 1)) 3, none⟩,
    ⟨(some 110), .move (.tmp 118), none⟩]))
@[go_sem] theorem c_sheaflaw16_CheckEdges_20_at (rd : Option Nat) (K : Post3) (t : Fr) (m : Mem) : wpM E 6 140 rd c_sheaflaw16_CheckEdges_20 K t m = wpM E 6 140 rd (.seq c_sheaflaw16_CheckEdges_19 (.ops [⟨(some 118), .binOp .add 3 (.tmp 110) (.const (.int .i64 1)) 3, none⟩,
    ⟨(some 110), .move (.tmp 118), none⟩])) K t m := rfl

def c_sheaflaw16_CheckEdges_21 : MC := (.seq c_sheaflaw16_CheckEdges_14 c_sheaflaw16_CheckEdges_20)
@[go_sem] theorem c_sheaflaw16_CheckEdges_21_at (rd : Option Nat) (K : Post3) (t : Fr) (m : Mem) : wpM E 6 140 rd c_sheaflaw16_CheckEdges_21 K t m = wpM E 6 140 rd (.seq c_sheaflaw16_CheckEdges_14 c_sheaflaw16_CheckEdges_20) K t m := rfl

def c_sheaflaw16_CheckEdges_22 : MC := (.seq (.ops [⟨(some 111), .binOp .lss 3 (.tmp 110) (.tmp 109) 3, none⟩]) c_sheaflaw16_CheckEdges_21)
@[go_sem] theorem c_sheaflaw16_CheckEdges_22_at (rd : Option Nat) (K : Post3) (t : Fr) (m : Mem) : wpM E 6 140 rd c_sheaflaw16_CheckEdges_22 K t m = wpM E 6 140 rd (.seq (.ops [⟨(some 111), .binOp .lss 3 (.tmp 110) (.tmp 109) 3, none⟩]) c_sheaflaw16_CheckEdges_21) K t m := rfl

def c_sheaflaw16_CheckEdges_23 : MC := (.loop c_sheaflaw16_CheckEdges_22)
theorem c_sheaflaw16_CheckEdges_23_at (rd : Option Nat) (K : Post3) (t : Fr) (m : Mem) : wpM E 6 140 rd c_sheaflaw16_CheckEdges_23 K t m = wpM E 6 140 rd (.loop c_sheaflaw16_CheckEdges_22) K t m := rfl

def c_sheaflaw16_CheckEdges_24 : MC := (.block 1 c_sheaflaw16_CheckEdges_23)
theorem c_sheaflaw16_CheckEdges_24_at (rd : Option Nat) (K : Post3) (t : Fr) (m : Mem) : wpM E 6 140 rd c_sheaflaw16_CheckEdges_24 K t m = wpM E 6 140 rd (.block 1 c_sheaflaw16_CheckEdges_23) K t m := rfl

def c_sheaflaw16_CheckEdges_25 : MC := (.seq (.ops [⟨(some 108), .move (.tmp 6), none⟩,
    ⟨(some 109), .call ⟨.builtin .len, #[(.tmp 108)], #[28]⟩, none⟩,
    ⟨(some 110), .move (.const (.int .i64 0)), none⟩]) c_sheaflaw16_CheckEdges_24)
@[go_sem] theorem c_sheaflaw16_CheckEdges_25_at (rd : Option Nat) (K : Post3) (t : Fr) (m : Mem) : wpM E 6 140 rd c_sheaflaw16_CheckEdges_25 K t m = wpM E 6 140 rd (.seq (.ops [⟨(some 108), .move (.tmp 6), none⟩,
    ⟨(some 109), .call ⟨.builtin .len, #[(.tmp 108)], #[28]⟩, none⟩,
    ⟨(some 110), .move (.const (.int .i64 0)), none⟩]) c_sheaflaw16_CheckEdges_24) K t m := rfl

def c_sheaflaw16_CheckEdges_26 : MC := (.cond (.tmp 122) .skip (.exit 3))
@[go_sem] theorem c_sheaflaw16_CheckEdges_26_at (rd : Option Nat) (K : Post3) (t : Fr) (m : Mem) : wpM E 6 140 rd c_sheaflaw16_CheckEdges_26 K t m = wpM E 6 140 rd (.cond (.tmp 122) .skip (.exit 3)) K t m := rfl

def c_sheaflaw16_CheckEdges_27 : MC := (.seq (.ops [⟨(some 4), .assign (.const (.bool false)), none⟩]) .ret)
@[go_sem] theorem c_sheaflaw16_CheckEdges_27_at (rd : Option Nat) (K : Post3) (t : Fr) (m : Mem) : wpM E 6 140 rd c_sheaflaw16_CheckEdges_27 K t m = wpM E 6 140 rd (.seq (.ops [⟨(some 4), .assign (.const (.bool false)), none⟩]) .ret) K t m := rfl

def c_sheaflaw16_CheckEdges_28 : MC := (.cond (.tmp 127) c_sheaflaw16_CheckEdges_27 .skip)
@[go_sem] theorem c_sheaflaw16_CheckEdges_28_at (rd : Option Nat) (K : Post3) (t : Fr) (m : Mem) : wpM E 6 140 rd c_sheaflaw16_CheckEdges_28 K t m = wpM E 6 140 rd (.cond (.tmp 127) c_sheaflaw16_CheckEdges_27 .skip) K t m := rfl

def c_sheaflaw16_CheckEdges_29 : MC := (.seq (.ops [⟨(some 125), .move (.tmp 8), none⟩,
    ⟨(some 126), .move (.tmp 12), none⟩,
    ⟨(some 127), .call ⟨.value (.func 14), #[(.tmp 125), (.tmp 126)], #[3, 23]⟩, none⟩]) c_sheaflaw16_CheckEdges_28)
@[go_sem] theorem c_sheaflaw16_CheckEdges_29_at (rd : Option Nat) (K : Post3) (t : Fr) (m : Mem) : wpM E 6 140 rd c_sheaflaw16_CheckEdges_29 K t m = wpM E 6 140 rd (.seq (.ops [⟨(some 125), .move (.tmp 8), none⟩,
    ⟨(some 126), .move (.tmp 12), none⟩,
    ⟨(some 127), .call ⟨.value (.func 14), #[(.tmp 125), (.tmp 126)], #[3, 23]⟩, none⟩]) c_sheaflaw16_CheckEdges_28) K t m := rfl

def c_sheaflaw16_CheckEdges_30 : MC := (.seq (.ops [⟨(some 123), .indexAddr 28 (.tmp 119) (.tmp 121), none⟩,
    ⟨(some 124), .load 23 (.tmp 123), none⟩,
    ⟨(some 12), .assign (.tmp 124), none⟩]) c_sheaflaw16_CheckEdges_29)
@[go_sem] theorem c_sheaflaw16_CheckEdges_30_at (rd : Option Nat) (K : Post3) (t : Fr) (m : Mem) : wpM E 6 140 rd c_sheaflaw16_CheckEdges_30 K t m = wpM E 6 140 rd (.seq (.ops [⟨(some 123), .indexAddr 28 (.tmp 119) (.tmp 121), none⟩,
    ⟨(some 124), .load 23 (.tmp 123), none⟩,
    ⟨(some 12), .assign (.tmp 124), none⟩]) c_sheaflaw16_CheckEdges_29) K t m := rfl

def c_sheaflaw16_CheckEdges_31 : MC := (.block 4 c_sheaflaw16_CheckEdges_30)
@[go_sem] theorem c_sheaflaw16_CheckEdges_31_at (rd : Option Nat) (K : Post3) (t : Fr) (m : Mem) : wpM E 6 140 rd c_sheaflaw16_CheckEdges_31 K t m = wpM E 6 140 rd (.block 4 c_sheaflaw16_CheckEdges_30) K t m := rfl

def c_sheaflaw16_CheckEdges_32 : MC := (.seq c_sheaflaw16_CheckEdges_31 (.ops [⟨(some 128), .binOp .add 3 (.tmp 121) (.const (.int .i64 1)) 3, none⟩,
    ⟨(some 121), .move (.tmp 128), none⟩]))
@[go_sem] theorem c_sheaflaw16_CheckEdges_32_at (rd : Option Nat) (K : Post3) (t : Fr) (m : Mem) : wpM E 6 140 rd c_sheaflaw16_CheckEdges_32 K t m = wpM E 6 140 rd (.seq c_sheaflaw16_CheckEdges_31 (.ops [⟨(some 128), .binOp .add 3 (.tmp 121) (.const (.int .i64 1)) 3, none⟩,
    ⟨(some 121), .move (.tmp 128), none⟩])) K t m := rfl

def c_sheaflaw16_CheckEdges_33 : MC := (.seq c_sheaflaw16_CheckEdges_26 c_sheaflaw16_CheckEdges_32)
@[go_sem] theorem c_sheaflaw16_CheckEdges_33_at (rd : Option Nat) (K : Post3) (t : Fr) (m : Mem) : wpM E 6 140 rd c_sheaflaw16_CheckEdges_33 K t m = wpM E 6 140 rd (.seq c_sheaflaw16_CheckEdges_26 c_sheaflaw16_CheckEdges_32) K t m := rfl

def c_sheaflaw16_CheckEdges_34 : MC := (.seq (.ops [⟨(some 122), .binOp .lss 3 (.tmp 121) (.tmp 120) 3, none⟩]) c_sheaflaw16_CheckEdges_33)
@[go_sem] theorem c_sheaflaw16_CheckEdges_34_at (rd : Option Nat) (K : Post3) (t : Fr) (m : Mem) : wpM E 6 140 rd c_sheaflaw16_CheckEdges_34 K t m = wpM E 6 140 rd (.seq (.ops [⟨(some 122), .binOp .lss 3 (.tmp 121) (.tmp 120) 3, none⟩]) c_sheaflaw16_CheckEdges_33) K t m := rfl

def c_sheaflaw16_CheckEdges_35 : MC := (.loop c_sheaflaw16_CheckEdges_34)
theorem c_sheaflaw16_CheckEdges_35_at (rd : Option Nat) (K : Post3) (t : Fr) (m : Mem) : wpM E 6 140 rd c_sheaflaw16_CheckEdges_35 K t m = wpM E 6 140 rd (.loop c_sheaflaw16_CheckEdges_34) K t m := rfl

def c_sheaflaw16_CheckEdges_36 : MC := (.block 3 c_sheaflaw16_CheckEdges_35)
theorem c_sheaflaw16_CheckEdges_36_at (rd : Option Nat) (K : Post3) (t : Fr) (m : Mem) : wpM E 6 140 rd c_sheaflaw16_CheckEdges_36 K t m = wpM E 6 140 rd (.block 3 c_sheaflaw16_CheckEdges_35) K t m := rfl

def c_sheaflaw16_CheckEdges_37 : MC := (.seq (.ops [⟨(some 119), .move (.tmp 7), none⟩,
    ⟨(some 120), .call ⟨.builtin .len, #[(.tmp 119)], #[28]⟩, none⟩,
    ⟨(some 121), .move (.const (.int .i64 0)), none⟩]) c_sheaflaw16_CheckEdges_36)
@[go_sem] theorem c_sheaflaw16_CheckEdges_37_at (rd : Option Nat) (K : Post3) (t : Fr) (m : Mem) : wpM E 6 140 rd c_sheaflaw16_CheckEdges_37 K t m = wpM E 6 140 rd (.seq (.ops [⟨(some 119), .move (.tmp 7), none⟩,
    ⟨(some 120), .call ⟨.builtin .len, #[(.tmp 119)], #[28]⟩, none⟩,
    ⟨(some 121), .move (.const (.int .i64 0)), none⟩]) c_sheaflaw16_CheckEdges_36) K t m := rfl

def c_sheaflaw16_CheckEdges_38 : MC := (.seq (.draw [(0, [], ⟨(some 129), .move (.tmp 1), none⟩),
    (3, [], ⟨(some 132), .move (.tmp 6), none⟩),
    (4, [], ⟨(some 133), .indexAddr 28 (.tmp 132) (.const (.int .i64 0)), none⟩),
    (5, [], ⟨(some 134), .load 23 (.tmp 133), none⟩),
    (1, [5], ⟨(some 130), .call ⟨.value (.func 21), #[(.tmp 129), (.const (.int .i64 0)), (.const (.int .i64 99))], #[3, 3, 3]⟩, none⟩),
    (2, [], ⟨(some 131), .binOp .add 3 (.const (.int .i64 5)) (.tmp 130) 3, none⟩),
    (6, [], ⟨(some 135), .call ⟨.value (.func 14), #[(.tmp 131), (.tmp 134)], #[3, 23]⟩, none⟩),
    (7, [], ⟨(some 136), .unOp .not 4 (.tmp 135), none⟩),
    (8, [], ⟨(some 137), .move (.tmp 136), none⟩),
    (9, [], ⟨(some 138), .call ⟨.value (.func 3), #[], #[]⟩, (some (some 137, true))⟩),
    (10, [], ⟨(some 139), .pick (.tmp 137) (.tmp 138) (.const (.bool false)), none⟩),
    (11, [], ⟨(some 4), .assign (.tmp 139), none⟩)]) .ret)
@[go_sem] theorem c_sheaflaw16_CheckEdges_38_at (rd : Option Nat) (K : Post3) (t : Fr) (m : Mem) : wpM E 6 140 rd c_sheaflaw16_CheckEdges_38 K t m = wpM E 6 140 rd (.seq (.draw [(0, [], ⟨(some 129), .move (.tmp 1), none⟩),
    (3, [], ⟨(some 132), .move (.tmp 6), none⟩),
    (4, [], ⟨(some 133), .indexAddr 28 (.tmp 132) (.const (.int .i64 0)), none⟩),
    (5, [], ⟨(some 134), .load 23 (.tmp 133), none⟩),
    (1, [5], ⟨(some 130), .call ⟨.value (.func 21), #[(.tmp 129), (.const (.int .i64 0)), (.const (.int .i64 99))], #[3, 3, 3]⟩, none⟩),
    (2, [], ⟨(some 131), .binOp .add 3 (.const (.int .i64 5)) (.tmp 130) 3, none⟩),
    (6, [], ⟨(some 135), .call ⟨.value (.func 14), #[(.tmp 131), (.tmp 134)], #[3, 23]⟩, none⟩),
    (7, [], ⟨(some 136), .unOp .not 4 (.tmp 135), none⟩),
    (8, [], ⟨(some 137), .move (.tmp 136), none⟩),
    (9, [], ⟨(some 138), .call ⟨.value (.func 3), #[], #[]⟩, (some (some 137, true))⟩),
    (10, [], ⟨(some 139), .pick (.tmp 137) (.tmp 138) (.const (.bool false)), none⟩),
    (11, [], ⟨(some 4), .assign (.tmp 139), none⟩)]) .ret) K t m := rfl

def c_sheaflaw16_CheckEdges_39 : MC := (.seq c_sheaflaw16_CheckEdges_37 c_sheaflaw16_CheckEdges_38)
@[go_sem] theorem c_sheaflaw16_CheckEdges_39_at (rd : Option Nat) (K : Post3) (t : Fr) (m : Mem) : wpM E 6 140 rd c_sheaflaw16_CheckEdges_39 K t m = wpM E 6 140 rd (.seq c_sheaflaw16_CheckEdges_37 c_sheaflaw16_CheckEdges_38) K t m := rfl

def c_sheaflaw16_CheckEdges_40 : MC := (.seq c_sheaflaw16_CheckEdges_25 c_sheaflaw16_CheckEdges_39)
@[go_sem] theorem c_sheaflaw16_CheckEdges_40_at (rd : Option Nat) (K : Post3) (t : Fr) (m : Mem) : wpM E 6 140 rd c_sheaflaw16_CheckEdges_40 K t m = wpM E 6 140 rd (.seq c_sheaflaw16_CheckEdges_25 c_sheaflaw16_CheckEdges_39) K t m := rfl

def c_sheaflaw16_CheckEdges_41 : MC := (.seq c_sheaflaw16_CheckEdges_13 c_sheaflaw16_CheckEdges_40)
@[go_sem] theorem c_sheaflaw16_CheckEdges_41_at (rd : Option Nat) (K : Post3) (t : Fr) (m : Mem) : wpM E 6 140 rd c_sheaflaw16_CheckEdges_41 K t m = wpM E 6 140 rd (.seq c_sheaflaw16_CheckEdges_13 c_sheaflaw16_CheckEdges_40) K t m := rfl

def c_sheaflaw16_CheckEdges_42 : MC := (.seq (.ops [⟨(some 8), .assign (.const (.int .i64 2)), none⟩]) c_sheaflaw16_CheckEdges_41)
@[go_sem] theorem c_sheaflaw16_CheckEdges_42_at (rd : Option Nat) (K : Post3) (t : Fr) (m : Mem) : wpM E 6 140 rd c_sheaflaw16_CheckEdges_42 K t m = wpM E 6 140 rd (.seq (.ops [⟨(some 8), .assign (.const (.int .i64 2)), none⟩]) c_sheaflaw16_CheckEdges_41) K t m := rfl

def c_sheaflaw16_CheckEdges_43 : MC := (.seq (.ops [⟨(some 19), .move (.tmp 5), none⟩,
    ⟨(some 20), .binOp .sub 3 (.const (.int .i64 1)) (.tmp 19) 3, none⟩,
    ⟨(some 21), .buildSlice 23 3 #[(0, (.tmp 20)), (1, (.const (.int .i64 1))), (2, (.const (.int .i64 0)))], none⟩,
    ⟨(some 22), .move (.tmp 5), none⟩,
    ⟨(some 23), .binOp .sub 3 (.const (.int .i64 1)) (.tmp 22) 3, none⟩,
    ⟨(some 24), .buildSlice 23 3 #[(0, (.const (.int .i64 1))), (1, (.tmp 23)), (2, (.const (.int .i64 0)))], none⟩,
    ⟨(some 25), .move (.tmp 5), none⟩,
    ⟨(some 26), .unOp .neg 3 (.tmp 25), none⟩,
    ⟨(some 27), .buildSlice 23 3 #[(0, (.const (.int .i64 1))), (1, (.const (.int .i64 1))), (2, (.tmp 26))], none⟩,
    ⟨(some 28), .move (.tmp 5), none⟩,
    ⟨(some 29), .binOp .add 3 (.const (.int .i64 10000)) (.tmp 28) 3, none⟩,
    ⟨(some 30), .buildSlice 23 3 #[(0, (.const (.int .i64 1))), (1, (.const (.int .i64 1))), (2, (.tmp 29))], none⟩,
    ⟨(some 31), .buildSlice 23 2 #[(0, (.const (.int .i64 1))), (1, (.const (.int .i64 1)))], none⟩,
    ⟨(some 32), .buildSlice 23 4 #[(0, (.const (.int .i64 1))), (1, (.const (.int .i64 1))), (2, (.const (.int .i64 0))), (3, (.const (.int .i64 0)))], none⟩,
    ⟨(some 33), .buildSlice 28 6 #[(0, (.tmp 21)), (1, (.tmp 24)), (2, (.tmp 27)), (3, (.tmp 30)), (4, (.tmp 31)), (5, (.tmp 32))], none⟩,
    ⟨(some 7), .assign (.tmp 33), none⟩]) c_sheaflaw16_CheckEdges_42)
@[go_sem] theorem c_sheaflaw16_CheckEdges_43_at (rd : Option Nat) (K : Post3) (t : Fr) (m : Mem) : wpM E 6 140 rd c_sheaflaw16_CheckEdges_43 K t m = wpM E 6 140 rd (.seq (.ops [⟨(some 19), .move (.tmp 5), none⟩,
    ⟨(some 20), .binOp .sub 3 (.const (.int .i64 1)) (.tmp 19) 3, none⟩,
    ⟨(some 21), .buildSlice 23 3 #[(0, (.tmp 20)), (1, (.const (.int .i64 1))), (2, (.const (.int .i64 0)))], none⟩,
    ⟨(some 22), .move (.tmp 5), none⟩,
    ⟨(some 23), .binOp .sub 3 (.const (.int .i64 1)) (.tmp 22) 3, none⟩,
    ⟨(some 24), .buildSlice 23 3 #[(0, (.const (.int .i64 1))), (1, (.tmp 23)), (2, (.const (.int .i64 0)))], none⟩,
    ⟨(some 25), .move (.tmp 5), none⟩,
    ⟨(some 26), .unOp .neg 3 (.tmp 25), none⟩,
    ⟨(some 27), .buildSlice 23 3 #[(0, (.const (.int .i64 1))), (1, (.const (.int .i64 1))), (2, (.tmp 26))], none⟩,
    ⟨(some 28), .move (.tmp 5), none⟩,
    ⟨(some 29), .binOp .add 3 (.const (.int .i64 10000)) (.tmp 28) 3, none⟩,
    ⟨(some 30), .buildSlice 23 3 #[(0, (.const (.int .i64 1))), (1, (.const (.int .i64 1))), (2, (.tmp 29))], none⟩,
    ⟨(some 31), .buildSlice 23 2 #[(0, (.const (.int .i64 1))), (1, (.const (.int .i64 1)))], none⟩,
    ⟨(some 32), .buildSlice 23 4 #[(0, (.const (.int .i64 1))), (1, (.const (.int .i64 1))), (2, (.const (.int .i64 0))), (3, (.const (.int .i64 0)))], none⟩,
    ⟨(some 33), .buildSlice 28 6 #[(0, (.tmp 21)), (1, (.tmp 24)), (2, (.tmp 27)), (3, (.tmp 30)), (4, (.tmp 31)), (5, (.tmp 32))], none⟩,
    ⟨(some 7), .assign (.tmp 33), none⟩]) c_sheaflaw16_CheckEdges_42) K t m := rfl

def c_sheaflaw16_CheckEdges_44 : MC := (.seq (.ops [⟨(some 16), .buildSlice 23 3 #[(0, (.const (.int .i64 1))), (1, (.const (.int .i64 1))), (2, (.const (.int .i64 0)))], none⟩,
    ⟨(some 17), .buildSlice 23 3 #[(0, (.const (.int .i64 1152921504606846976))), (1, (.const (.int .i64 1152921504606846976))), (2, (.const (.int .i64 10000)))], none⟩,
    ⟨(some 18), .buildSlice 28 2 #[(0, (.tmp 16)), (1, (.tmp 17))], none⟩,
    ⟨(some 6), .assign (.tmp 18), none⟩]) c_sheaflaw16_CheckEdges_43)
@[go_sem] theorem c_sheaflaw16_CheckEdges_44_at (rd : Option Nat) (K : Post3) (t : Fr) (m : Mem) : wpM E 6 140 rd c_sheaflaw16_CheckEdges_44 K t m = wpM E 6 140 rd (.seq (.ops [⟨(some 16), .buildSlice 23 3 #[(0, (.const (.int .i64 1))), (1, (.const (.int .i64 1))), (2, (.const (.int .i64 0)))], none⟩,
    ⟨(some 17), .buildSlice 23 3 #[(0, (.const (.int .i64 1152921504606846976))), (1, (.const (.int .i64 1152921504606846976))), (2, (.const (.int .i64 10000)))], none⟩,
    ⟨(some 18), .buildSlice 28 2 #[(0, (.tmp 16)), (1, (.tmp 17))], none⟩,
    ⟨(some 6), .assign (.tmp 18), none⟩]) c_sheaflaw16_CheckEdges_43) K t m := rfl

def c_sheaflaw16_CheckEdges_45 : MC := (.seq (.ops [⟨(some 13), .move (.tmp 1), none⟩,
    ⟨(some 14), .call ⟨.value (.func 21), #[(.tmp 13), (.const (.int .i64 0)), (.const (.int .i64 1099511627776))], #[3, 3, 3]⟩, none⟩,
    ⟨(some 15), .binOp .add 3 (.const (.int .i64 1)) (.tmp 14) 3, none⟩,
    ⟨(some 5), .assign (.tmp 15), none⟩]) c_sheaflaw16_CheckEdges_44)
@[go_sem] theorem c_sheaflaw16_CheckEdges_45_at (rd : Option Nat) (K : Post3) (t : Fr) (m : Mem) : wpM E 6 140 rd c_sheaflaw16_CheckEdges_45 K t m = wpM E 6 140 rd (.seq (.ops [⟨(some 13), .move (.tmp 1), none⟩,
    ⟨(some 14), .call ⟨.value (.func 21), #[(.tmp 13), (.const (.int .i64 0)), (.const (.int .i64 1099511627776))], #[3, 3, 3]⟩, none⟩,
    ⟨(some 15), .binOp .add 3 (.const (.int .i64 1)) (.tmp 14) 3, none⟩,
    ⟨(some 5), .assign (.tmp 15), none⟩]) c_sheaflaw16_CheckEdges_44) K t m := rfl

def c_sheaflaw16_CheckEdges_46 : MC := (.seq (.ops [⟨(some 4), .assign (.const (.bool false)), none⟩]) c_sheaflaw16_CheckEdges_45)
@[go_sem] theorem c_sheaflaw16_CheckEdges_46_at (rd : Option Nat) (K : Post3) (t : Fr) (m : Mem) : wpM E 6 140 rd c_sheaflaw16_CheckEdges_46 K t m = wpM E 6 140 rd (.seq (.ops [⟨(some 4), .assign (.const (.bool false)), none⟩]) c_sheaflaw16_CheckEdges_45) K t m := rfl

@[go_sem] theorem some6 : (E.fn 6).isSome = true := by kernel_rfl
set_option maxRecDepth 100000 in
theorem fn_sheaflaw16_CheckEdges : FnIs E 6 140 [.tmp 4] c_sheaflaw16_CheckEdges_46 := ⟨by kernel_rfl, by kernel_rfl⟩


end Go.Proofs.Ytgbpgkfmmhlkoaa.W
