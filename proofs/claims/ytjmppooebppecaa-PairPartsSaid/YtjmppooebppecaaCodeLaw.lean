/-
  Compact code, printed by a program of mine (wip/dev/AbsPrint.lean).
-/
import Derived.Test.YtjmppooebppecaaTypes
set_option linter.unusedVariables false
namespace Go.Proofs.Ytjmppooebppecaa.W
open Go.Abs
noncomputable section

/-! sheaf/sheaflaw18.PairKey -/
abbrev F_sheaflaw18_PairKey : FuncId := 4
def c_sheaflaw18_PairKey_0 : MC := (.seq (.ops [⟨(some 4), .assign (.const (.bool false)), none⟩]) .ret)
@[go_sem] theorem c_sheaflaw18_PairKey_0_at (rd : Option Nat) (K : Post3) (t : Fr) (m : Mem) : wpM E 4 135 rd c_sheaflaw18_PairKey_0 K t m = wpM E 4 135 rd (.seq (.ops [⟨(some 4), .assign (.const (.bool false)), none⟩]) .ret) K t m := rfl

def c_sheaflaw18_PairKey_1 : MC := (.cond (.tmp 35) c_sheaflaw18_PairKey_0 .skip)
@[go_sem] theorem c_sheaflaw18_PairKey_1_at (rd : Option Nat) (K : Post3) (t : Fr) (m : Mem) : wpM E 4 135 rd c_sheaflaw18_PairKey_1 K t m = wpM E 4 135 rd (.cond (.tmp 35) c_sheaflaw18_PairKey_0 .skip) K t m := rfl

def c_sheaflaw18_PairKey_2 : MC := (.seq (.ops [⟨(some 19), .move (.tmp 7), none⟩,
    ⟨(some 20), .call ⟨.builtin .len, #[(.tmp 19)], #[22]⟩, none⟩,
    ⟨(some 21), .binOp .neq 3 (.tmp 20) (.const (.int .i64 3)) 3, none⟩,
    ⟨(some 22), .move (.tmp 21), none⟩,
    ⟨(some 23), .move (.tmp 8), (some (some 22, false))⟩,
    ⟨(some 24), .call ⟨.builtin .len, #[(.tmp 23)], #[22]⟩, (some (some 22, false))⟩,
    ⟨(some 25), .binOp .neq 3 (.tmp 24) (.const (.int .i64 3)) 3, (some (some 22, false))⟩,
    ⟨(some 26), .pick (.tmp 22) (.const (.bool true)) (.tmp 25), none⟩,
    ⟨(some 27), .move (.tmp 26), none⟩,
    ⟨(some 28), .move (.tmp 7), (some (some 27, false))⟩,
    ⟨(some 29), .indexAddr 22 (.tmp 28) (.const (.int .i64 2)), (some (some 27, false))⟩,
    ⟨(some 30), .load 3 (.tmp 29), (some (some 27, false))⟩,
    ⟨(some 31), .move (.tmp 5), (some (some 27, false))⟩,
    ⟨(some 32), .indexAddr 22 (.tmp 31) (.const (.int .i64 8)), (some (some 27, false))⟩,
    ⟨(some 33), .load 3 (.tmp 32), (some (some 27, false))⟩,
    ⟨(some 34), .binOp .neq 3 (.tmp 30) (.tmp 33) 3, (some (some 27, false))⟩,
    ⟨(some 35), .pick (.tmp 27) (.const (.bool true)) (.tmp 34), none⟩]) c_sheaflaw18_PairKey_1)
@[go_sem] theorem c_sheaflaw18_PairKey_2_at (rd : Option Nat) (K : Post3) (t : Fr) (m : Mem) : wpM E 4 135 rd c_sheaflaw18_PairKey_2 K t m = wpM E 4 135 rd (.seq (.ops [⟨(some 19), .move (.tmp 7), none⟩,
    ⟨(some 20), .call ⟨.builtin .len, #[(.tmp 19)], #[22]⟩, none⟩,
    ⟨(some 21), .binOp .neq 3 (.tmp 20) (.const (.int .i64 3)) 3, none⟩,
    ⟨(some 22), .move (.tmp 21), none⟩,
    ⟨(some 23), .move (.tmp 8), (some (some 22, false))⟩,
    ⟨(some 24), .call ⟨.builtin .len, #[(.tmp 23)], #[22]⟩, (some (some 22, false))⟩,
    ⟨(some 25), .binOp .neq 3 (.tmp 24) (.const (.int .i64 3)) 3, (some (some 22, false))⟩,
    ⟨(some 26), .pick (.tmp 22) (.const (.bool true)) (.tmp 25), none⟩,
    ⟨(some 27), .move (.tmp 26), none⟩,
    ⟨(some 28), .move (.tmp 7), (some (some 27, false))⟩,
    ⟨(some 29), .indexAddr 22 (.tmp 28) (.const (.int .i64 2)), (some (some 27, false))⟩,
    ⟨(some 30), .load 3 (.tmp 29), (some (some 27, false))⟩,
    ⟨(some 31), .move (.tmp 5), (some (some 27, false))⟩,
    ⟨(some 32), .indexAddr 22 (.tmp 31) (.const (.int .i64 8)), (some (some 27, false))⟩,
    ⟨(some 33), .load 3 (.tmp 32), (some (some 27, false))⟩,
    ⟨(some 34), .binOp .neq 3 (.tmp 30) (.tmp 33) 3, (some (some 27, false))⟩,
    ⟨(some 35), .pick (.tmp 27) (.const (.bool true)) (.tmp 34), none⟩]) c_sheaflaw18_PairKey_1) K t m := rfl

def c_sheaflaw18_PairKey_3 : MC := (.seq (.ops [⟨(some 40), .move (.tmp 7), none⟩,
    ⟨(some 41), .indexAddr 22 (.tmp 40) (.const (.int .i64 0)), none⟩,
    ⟨(some 42), .load 3 (.tmp 41), none⟩,
    ⟨(some 43), .move (.tmp 5), none⟩,
    ⟨(some 44), .indexAddr 22 (.tmp 43) (.const (.int .i64 1)), none⟩,
    ⟨(some 45), .load 3 (.tmp 44), none⟩,
    ⟨(some 46), .binOp .eql 3 (.tmp 42) (.tmp 45) 3, none⟩,
    ⟨(some 47), .move (.tmp 46), none⟩,
    ⟨(some 48), .move (.tmp 7), (some (some 47, true))⟩,
    ⟨(some 49), .indexAddr 22 (.tmp 48) (.const (.int .i64 1)), (some (some 47, true))⟩,
    ⟨(some 50), .load 3 (.tmp 49), (some (some 47, true))⟩,
    ⟨(some 51), .binOp .eql 3 (.tmp 50) (.const (.int .i64 0)) 3, (some (some 47, true))⟩,
    ⟨(some 52), .pick (.tmp 47) (.tmp 51) (.const (.bool false)), none⟩,
    ⟨(some 53), .move (.tmp 52), none⟩,
    ⟨(some 54), .call ⟨.value (.func 3), #[], #[]⟩, (some (some 53, true))⟩,
    ⟨(some 55), .pick (.tmp 53) (.tmp 54) (.const (.bool false)), none⟩,
    ⟨(some 4), .assign (.tmp 55), none⟩]) .ret)
@[go_sem] theorem c_sheaflaw18_PairKey_3_at (rd : Option Nat) (K : Post3) (t : Fr) (m : Mem) : wpM E 4 135 rd c_sheaflaw18_PairKey_3 K t m = wpM E 4 135 rd (.seq (.ops [⟨(some 40), .move (.tmp 7), none⟩,
    ⟨(some 41), .indexAddr 22 (.tmp 40) (.const (.int .i64 0)), none⟩,
    ⟨(some 42), .load 3 (.tmp 41), none⟩,
    ⟨(some 43), .move (.tmp 5), none⟩,
    ⟨(some 44), .indexAddr 22 (.tmp 43) (.const (.int .i64 1)), none⟩,
    ⟨(some 45), .load 3 (.tmp 44), none⟩,
    ⟨(some 46), .binOp .eql 3 (.tmp 42) (.tmp 45) 3, none⟩,
    ⟨(some 47), .move (.tmp 46), none⟩,
    ⟨(some 48), .move (.tmp 7), (some (some 47, true))⟩,
    ⟨(some 49), .indexAddr 22 (.tmp 48) (.const (.int .i64 1)), (some (some 47, true))⟩,
    ⟨(some 50), .load 3 (.tmp 49), (some (some 47, true))⟩,
    ⟨(some 51), .binOp .eql 3 (.tmp 50) (.const (.int .i64 0)) 3, (some (some 47, true))⟩,
    ⟨(some 52), .pick (.tmp 47) (.tmp 51) (.const (.bool false)), none⟩,
    ⟨(some 53), .move (.tmp 52), none⟩,
    ⟨(some 54), .call ⟨.value (.func 3), #[], #[]⟩, (some (some 53, true))⟩,
    ⟨(some 55), .pick (.tmp 53) (.tmp 54) (.const (.bool false)), none⟩,
    ⟨(some 4), .assign (.tmp 55), none⟩]) .ret) K t m := rfl

def c_sheaflaw18_PairKey_4 : MC := (.cond (.tmp 39) c_sheaflaw18_PairKey_3 .skip)
@[go_sem] theorem c_sheaflaw18_PairKey_4_at (rd : Option Nat) (K : Post3) (t : Fr) (m : Mem) : wpM E 4 135 rd c_sheaflaw18_PairKey_4 K t m = wpM E 4 135 rd (.cond (.tmp 39) c_sheaflaw18_PairKey_3 .skip) K t m := rfl

def c_sheaflaw18_PairKey_5 : MC := (.seq (.ops [⟨(some 36), .move (.tmp 5), none⟩,
    ⟨(some 37), .indexAddr 22 (.tmp 36) (.const (.int .i64 5)), none⟩,
    ⟨(some 38), .load 3 (.tmp 37), none⟩,
    ⟨(some 39), .binOp .eql 3 (.tmp 38) (.const (.int .i64 0)) 3, none⟩]) c_sheaflaw18_PairKey_4)
@[go_sem] theorem c_sheaflaw18_PairKey_5_at (rd : Option Nat) (K : Post3) (t : Fr) (m : Mem) : wpM E 4 135 rd c_sheaflaw18_PairKey_5 K t m = wpM E 4 135 rd (.seq (.ops [⟨(some 36), .move (.tmp 5), none⟩,
    ⟨(some 37), .indexAddr 22 (.tmp 36) (.const (.int .i64 5)), none⟩,
    ⟨(some 38), .load 3 (.tmp 37), none⟩,
    ⟨(some 39), .binOp .eql 3 (.tmp 38) (.const (.int .i64 0)) 3, none⟩]) c_sheaflaw18_PairKey_4) K t m := rfl

def c_sheaflaw18_PairKey_6 : MC := (.seq (.ops [⟨(some 112), .move (.tmp 7), none⟩,
    ⟨(some 113), .indexAddr 22 (.tmp 112) (.const (.int .i64 0)), none⟩,
    ⟨(some 114), .load 3 (.tmp 113), none⟩,
    ⟨(some 115), .move (.tmp 7), none⟩,
    ⟨(some 116), .indexAddr 22 (.tmp 115) (.const (.int .i64 1)), none⟩,
    ⟨(some 117), .load 3 (.tmp 116), none⟩,
    ⟨(some 118), .binOp .lss 3 (.tmp 114) (.tmp 117) 3, none⟩,
    ⟨(some 119), .move (.tmp 118), none⟩,
    ⟨(some 120), .move (.tmp 9), (some (some 119, true))⟩,
    ⟨(some 121), .call ⟨.value (.func 19), #[(.tmp 120)], #[22]⟩, (some (some 119, true))⟩,
    ⟨(some 122), .move (.tmp 7), (some (some 119, true))⟩,
    ⟨(some 123), .call ⟨.value (.func 18), #[(.tmp 121), (.tmp 122)], #[22, 22]⟩, (some (some 119, true))⟩,
    ⟨(some 124), .pick (.tmp 119) (.tmp 123) (.const (.bool false)), none⟩,
    ⟨(some 125), .move (.tmp 124), none⟩,
    ⟨(some 126), .move (.tmp 7), (some (some 125, true))⟩,
    ⟨(some 127), .move (.tmp 8), (some (some 125, true))⟩,
    ⟨(some 128), .call ⟨.value (.func 18), #[(.tmp 126), (.tmp 127)], #[22, 22]⟩, (some (some 125, true))⟩,
    ⟨(some 129), .move (.tmp 10), (some (some 125, true))⟩,
    ⟨(some 130), .binOp .eql 4 (.tmp 128) (.tmp 129) 4, (some (some 125, true))⟩,
    ⟨(some 131), .pick (.tmp 125) (.tmp 130) (.const (.bool false)), none⟩,
    ⟨(some 132), .move (.tmp 131), none⟩,
    ⟨(some 133), .call ⟨.value (.func 3), #[], #[]⟩, (some (some 132, true))⟩,
    ⟨(some 134), .pick (.tmp 132) (.tmp 133) (.const (.bool false)), none⟩,
    ⟨(some 4), .assign (.tmp 134), none⟩]) .ret)
@[go_sem] theorem c_sheaflaw18_PairKey_6_at (rd : Option Nat) (K : Post3) (t : Fr) (m : Mem) : wpM E 4 135 rd c_sheaflaw18_PairKey_6 K t m = wpM E 4 135 rd (.seq (.ops [⟨(some 112), .move (.tmp 7), none⟩,
    ⟨(some 113), .indexAddr 22 (.tmp 112) (.const (.int .i64 0)), none⟩,
    ⟨(some 114), .load 3 (.tmp 113), none⟩,
    ⟨(some 115), .move (.tmp 7), none⟩,
    ⟨(some 116), .indexAddr 22 (.tmp 115) (.const (.int .i64 1)), none⟩,
    ⟨(some 117), .load 3 (.tmp 116), none⟩,
    ⟨(some 118), .binOp .lss 3 (.tmp 114) (.tmp 117) 3, none⟩,
    ⟨(some 119), .move (.tmp 118), none⟩,
    ⟨(some 120), .move (.tmp 9), (some (some 119, true))⟩,
    ⟨(some 121), .call ⟨.value (.func 19), #[(.tmp 120)], #[22]⟩, (some (some 119, true))⟩,
    ⟨(some 122), .move (.tmp 7), (some (some 119, true))⟩,
    ⟨(some 123), .call ⟨.value (.func 18), #[(.tmp 121), (.tmp 122)], #[22, 22]⟩, (some (some 119, true))⟩,
    ⟨(some 124), .pick (.tmp 119) (.tmp 123) (.const (.bool false)), none⟩,
    ⟨(some 125), .move (.tmp 124), none⟩,
    ⟨(some 126), .move (.tmp 7), (some (some 125, true))⟩,
    ⟨(some 127), .move (.tmp 8), (some (some 125, true))⟩,
    ⟨(some 128), .call ⟨.value (.func 18), #[(.tmp 126), (.tmp 127)], #[22, 22]⟩, (some (some 125, true))⟩,
    ⟨(some 129), .move (.tmp 10), (some (some 125, true))⟩,
    ⟨(some 130), .binOp .eql 4 (.tmp 128) (.tmp 129) 4, (some (some 125, true))⟩,
    ⟨(some 131), .pick (.tmp 125) (.tmp 130) (.const (.bool false)), none⟩,
    ⟨(some 132), .move (.tmp 131), none⟩,
    ⟨(some 133), .call ⟨.value (.func 3), #[], #[]⟩, (some (some 132, true))⟩,
    ⟨(some 134), .pick (.tmp 132) (.tmp 133) (.const (.bool false)), none⟩,
    ⟨(some 4), .assign (.tmp 134), none⟩]) .ret) K t m := rfl

def c_sheaflaw18_PairKey_7 : MC := (.seq (.ops [⟨(some 69), .move (.tmp 6), none⟩,
    ⟨(some 70), .indexAddr 22 (.tmp 69) (.const (.int .i64 8)), none⟩,
    ⟨(some 71), .load 3 (.tmp 70), none⟩,
    ⟨(some 72), .move (.tmp 5), none⟩,
    ⟨(some 73), .indexAddr 22 (.tmp 72) (.const (.int .i64 8)), none⟩,
    ⟨(some 74), .load 3 (.tmp 73), none⟩,
    ⟨(some 75), .binOp .eql 3 (.tmp 71) (.tmp 74) 3, none⟩,
    ⟨(some 76), .move (.tmp 75), none⟩,
    ⟨(some 77), .move (.tmp 6), (some (some 76, true))⟩,
    ⟨(some 78), .indexAddr 22 (.tmp 77) (.const (.int .i64 1)), (some (some 76, true))⟩,
    ⟨(some 79), .load 3 (.tmp 78), (some (some 76, true))⟩,
    ⟨(some 80), .move (.tmp 5), (some (some 76, true))⟩,
    ⟨(some 81), .indexAddr 22 (.tmp 80) (.const (.int .i64 1)), (some (some 76, true))⟩,
    ⟨(some 82), .load 3 (.tmp 81), (some (some 76, true))⟩,
    ⟨(some 83), .binOp .eql 3 (.tmp 79) (.tmp 82) 3, (some (some 76, true))⟩,
    ⟨(some 84), .move (.tmp 83), (some (some 76, true))⟩,
    ⟨(some 85), .move (.tmp 6), (some (some 84, true))⟩,
    ⟨(some 86), .indexAddr 22 (.tmp 85) (.const (.int .i64 5)), (some (some 84, true))⟩,
    ⟨(some 87), .load 3 (.tmp 86), (some (some 84, true))⟩,
    ⟨(some 88), .move (.tmp 5), (some (some 84, true))⟩,
    ⟨(some 89), .indexAddr 22 (.tmp 88) (.const (.int .i64 5)), (some (some 84, true))⟩,
    ⟨(some 90), .load 3 (.tmp 89), (some (some 84, true))⟩,
    ⟨(some 91), .binOp .eql 3 (.tmp 87) (.tmp 90) 3, (some (some 84, true))⟩,
    ⟨(some 92), .pick (.tmp 84) (.tmp 91) (.const (.bool false)), (some (some 76, true))⟩,
    ⟨(some 93), .move (.tmp 92), (some (some 76, true))⟩,
    ⟨(some 94), .move (.tmp 6), (some (some 93, false))⟩,
    ⟨(some 95), .indexAddr 22 (.tmp 94) (.const (.int .i64 1)), (some (some 93, false))⟩,
    ⟨(some 96), .load 3 (.tmp 95), (some (some 93, false))⟩,
    ⟨(some 97), .move (.tmp 5), (some (some 93, false))⟩,
    ⟨(some 98), .indexAddr 22 (.tmp 97) (.const (.int .i64 5)), (some (some 93, false))⟩,
    ⟨(some 99), .load 3 (.tmp 98), (some (some 93, false))⟩,
    ⟨(some 100), .binOp .eql 3 (.tmp 96) (.tmp 99) 3, (some (some 93, false))⟩,
    ⟨(some 101), .move (.tmp 100), (some (some 93, false))⟩,
    ⟨(some 102), .move (.tmp 6), (some (some 101, true))⟩,
    ⟨(some 103), .indexAddr 22 (.tmp 102) (.const (.int .i64 5)), (some (some 101, true))⟩,
    ⟨(some 104), .load 3 (.tmp 103), (some (some 101, true))⟩,
    ⟨(some 105), .move (.tmp 5), (some (some 101, true))⟩,
    ⟨(some 106), .indexAddr 22 (.tmp 105) (.const (.int .i64 1)), (some (some 101, true))⟩,
    ⟨(some 107), .load 3 (.tmp 106), (some (some 101, true))⟩,
    ⟨(some 108), .binOp .eql 3 (.tmp 104) (.tmp 107) 3, (some (some 101, true))⟩,
    ⟨(some 109), .pick (.tmp 101) (.tmp 108) (.const (.bool false)), (some (some 93, false))⟩,
    ⟨(some 110), .pick (.tmp 93) (.const (.bool true)) (.tmp 109), (some (some 76, true))⟩,
    ⟨(some 111), .pick (.tmp 76) (.tmp 110) (.const (.bool false)), none⟩,
    ⟨(some 10), .assign (.tmp 111), none⟩]) c_sheaflaw18_PairKey_6)
@[go_sem] theorem c_sheaflaw18_PairKey_7_at (rd : Option Nat) (K : Post3) (t : Fr) (m : Mem) : wpM E 4 135 rd c_sheaflaw18_PairKey_7 K t m = wpM E 4 135 rd (.seq (.ops [⟨(some 69), .move (.tmp 6), none⟩,
    ⟨(some 70), .indexAddr 22 (.tmp 69) (.const (.int .i64 8)), none⟩,
    ⟨(some 71), .load 3 (.tmp 70), none⟩,
    ⟨(some 72), .move (.tmp 5), none⟩,
    ⟨(some 73), .indexAddr 22 (.tmp 72) (.const (.int .i64 8)), none⟩,
    ⟨(some 74), .load 3 (.tmp 73), none⟩,
    ⟨(some 75), .binOp .eql 3 (.tmp 71) (.tmp 74) 3, none⟩,
    ⟨(some 76), .move (.tmp 75), none⟩,
    ⟨(some 77), .move (.tmp 6), (some (some 76, true))⟩,
    ⟨(some 78), .indexAddr 22 (.tmp 77) (.const (.int .i64 1)), (some (some 76, true))⟩,
    ⟨(some 79), .load 3 (.tmp 78), (some (some 76, true))⟩,
    ⟨(some 80), .move (.tmp 5), (some (some 76, true))⟩,
    ⟨(some 81), .indexAddr 22 (.tmp 80) (.const (.int .i64 1)), (some (some 76, true))⟩,
    ⟨(some 82), .load 3 (.tmp 81), (some (some 76, true))⟩,
    ⟨(some 83), .binOp .eql 3 (.tmp 79) (.tmp 82) 3, (some (some 76, true))⟩,
    ⟨(some 84), .move (.tmp 83), (some (some 76, true))⟩,
    ⟨(some 85), .move (.tmp 6), (some (some 84, true))⟩,
    ⟨(some 86), .indexAddr 22 (.tmp 85) (.const (.int .i64 5)), (some (some 84, true))⟩,
    ⟨(some 87), .load 3 (.tmp 86), (some (some 84, true))⟩,
    ⟨(some 88), .move (.tmp 5), (some (some 84, true))⟩,
    ⟨(some 89), .indexAddr 22 (.tmp 88) (.const (.int .i64 5)), (some (some 84, true))⟩,
    ⟨(some 90), .load 3 (.tmp 89), (some (some 84, true))⟩,
    ⟨(some 91), .binOp .eql 3 (.tmp 87) (.tmp 90) 3, (some (some 84, true))⟩,
    ⟨(some 92), .pick (.tmp 84) (.tmp 91) (.const (.bool false)), (some (some 76, true))⟩,
    ⟨(some 93), .move (.tmp 92), (some (some 76, true))⟩,
    ⟨(some 94), .move (.tmp 6), (some (some 93, false))⟩,
    ⟨(some 95), .indexAddr 22 (.tmp 94) (.const (.int .i64 1)), (some (some 93, false))⟩,
    ⟨(some 96), .load 3 (.tmp 95), (some (some 93, false))⟩,
    ⟨(some 97), .move (.tmp 5), (some (some 93, false))⟩,
    ⟨(some 98), .indexAddr 22 (.tmp 97) (.const (.int .i64 5)), (some (some 93, false))⟩,
    ⟨(some 99), .load 3 (.tmp 98), (some (some 93, false))⟩,
    ⟨(some 100), .binOp .eql 3 (.tmp 96) (.tmp 99) 3, (some (some 93, false))⟩,
    ⟨(some 101), .move (.tmp 100), (some (some 93, false))⟩,
    ⟨(some 102), .move (.tmp 6), (some (some 101, true))⟩,
    ⟨(some 103), .indexAddr 22 (.tmp 102) (.const (.int .i64 5)), (some (some 101, true))⟩,
    ⟨(some 104), .load 3 (.tmp 103), (some (some 101, true))⟩,
    ⟨(some 105), .move (.tmp 5), (some (some 101, true))⟩,
    ⟨(some 106), .indexAddr 22 (.tmp 105) (.const (.int .i64 1)), (some (some 101, true))⟩,
    ⟨(some 107), .load 3 (.tmp 106), (some (some 101, true))⟩,
    ⟨(some 108), .binOp .eql 3 (.tmp 104) (.tmp 107) 3, (some (some 101, true))⟩,
    ⟨(some 109), .pick (.tmp 101) (.tmp 108) (.const (.bool false)), (some (some 93, false))⟩,
    ⟨(some 110), .pick (.tmp 93) (.const (.bool true)) (.tmp 109), (some (some 76, true))⟩,
    ⟨(some 111), .pick (.tmp 76) (.tmp 110) (.const (.bool false)), none⟩,
    ⟨(some 10), .assign (.tmp 111), none⟩]) c_sheaflaw18_PairKey_6) K t m := rfl

def c_sheaflaw18_PairKey_8 : MC := (.seq (.ops [⟨(some 59), .move (.tmp 9), none⟩,
    ⟨(some 60), .move (.tmp 9), none⟩,
    ⟨(some 61), .move (.tmp 5), none⟩,
    ⟨(some 62), .indexAddr 22 (.tmp 61) (.const (.int .i64 5)), none⟩,
    ⟨(some 63), .load 3 (.tmp 62), none⟩,
    ⟨(some 64), .move (.tmp 5), none⟩,
    ⟨(some 65), .indexAddr 22 (.tmp 64) (.const (.int .i64 1)), none⟩,
    ⟨(some 66), .load 3 (.tmp 65), none⟩,
    ⟨(some 67), .indexAddr 22 (.tmp 59) (.const (.int .i64 1)), none⟩,
    ⟨none, .store 3 (.tmp 67) (.tmp 63), none⟩,
    ⟨(some 68), .indexAddr 22 (.tmp 60) (.const (.int .i64 5)), none⟩,
    ⟨none, .store 3 (.tmp 68) (.tmp 66), none⟩]) c_sheaflaw18_PairKey_7)
@[go_sem] theorem c_sheaflaw18_PairKey_8_at (rd : Option Nat) (K : Post3) (t : Fr) (m : Mem) : wpM E 4 135 rd c_sheaflaw18_PairKey_8 K t m = wpM E 4 135 rd (.seq (.ops [⟨(some 59), .move (.tmp 9), none⟩,
    ⟨(some 60), .move (.tmp 9), none⟩,
    ⟨(some 61), .move (.tmp 5), none⟩,
    ⟨(some 62), .indexAddr 22 (.tmp 61) (.const (.int .i64 5)), none⟩,
    ⟨(some 63), .load 3 (.tmp 62), none⟩,
    ⟨(some 64), .move (.tmp 5), none⟩,
    ⟨(some 65), .indexAddr 22 (.tmp 64) (.const (.int .i64 1)), none⟩,
    ⟨(some 66), .load 3 (.tmp 65), none⟩,
    ⟨(some 67), .indexAddr 22 (.tmp 59) (.const (.int .i64 1)), none⟩,
    ⟨none, .store 3 (.tmp 67) (.tmp 63), none⟩,
    ⟨(some 68), .indexAddr 22 (.tmp 60) (.const (.int .i64 5)), none⟩,
    ⟨none, .store 3 (.tmp 68) (.tmp 66), none⟩]) c_sheaflaw18_PairKey_7) K t m := rfl

def c_sheaflaw18_PairKey_9 : MC := (.seq (.ops [⟨(some 56), .buildSlice 22 0 #[], none⟩,
    ⟨(some 57), .move (.tmp 5), none⟩,
    ⟨(some 58), .call ⟨.builtin .append, #[(.tmp 56), (.tmp 57)], #[22, 22]⟩, none⟩,
    ⟨(some 9), .assign (.tmp 58), none⟩]) c_sheaflaw18_PairKey_8)
@[go_sem] theorem c_sheaflaw18_PairKey_9_at (rd : Option Nat) (K : Post3) (t : Fr) (m : Mem) : wpM E 4 135 rd c_sheaflaw18_PairKey_9 K t m = wpM E 4 135 rd (.seq (.ops [⟨(some 56), .buildSlice 22 0 #[], none⟩,
    ⟨(some 57), .move (.tmp 5), none⟩,
    ⟨(some 58), .call ⟨.builtin .append, #[(.tmp 56), (.tmp 57)], #[22, 22]⟩, none⟩,
    ⟨(some 9), .assign (.tmp 58), none⟩]) c_sheaflaw18_PairKey_8) K t m := rfl

def c_sheaflaw18_PairKey_10 : MC := (.seq c_sheaflaw18_PairKey_5 c_sheaflaw18_PairKey_9)
@[go_sem] theorem c_sheaflaw18_PairKey_10_at (rd : Option Nat) (K : Post3) (t : Fr) (m : Mem) : wpM E 4 135 rd c_sheaflaw18_PairKey_10 K t m = wpM E 4 135 rd (.seq c_sheaflaw18_PairKey_5 c_sheaflaw18_PairKey_9) K t m := rfl

def c_sheaflaw18_PairKey_11 : MC := (.seq c_sheaflaw18_PairKey_2 c_sheaflaw18_PairKey_10)
@[go_sem] theorem c_sheaflaw18_PairKey_11_at (rd : Option Nat) (K : Post3) (t : Fr) (m : Mem) : wpM E 4 135 rd c_sheaflaw18_PairKey_11 K t m = wpM E 4 135 rd (.seq c_sheaflaw18_PairKey_2 c_sheaflaw18_PairKey_10) K t m := rfl

def c_sheaflaw18_PairKey_12 : MC := (.seq (.ops [⟨(some 15), .move (.tmp 5), none⟩,
    ⟨(some 16), .call ⟨.value (.func 19), #[(.tmp 15)], #[22]⟩, none⟩,
    ⟨(some 17), .move (.tmp 6), none⟩,
    ⟨(some 18), .call ⟨.value (.func 19), #[(.tmp 17)], #[22]⟩, none⟩,
    ⟨(some 7), .assign (.tmp 16), none⟩,
    ⟨(some 8), .assign (.tmp 18), none⟩]) c_sheaflaw18_PairKey_11)
@[go_sem] theorem c_sheaflaw18_PairKey_12_at (rd : Option Nat) (K : Post3) (t : Fr) (m : Mem) : wpM E 4 135 rd c_sheaflaw18_PairKey_12 K t m = wpM E 4 135 rd (.seq (.ops [⟨(some 15), .move (.tmp 5), none⟩,
    ⟨(some 16), .call ⟨.value (.func 19), #[(.tmp 15)], #[22]⟩, none⟩,
    ⟨(some 17), .move (.tmp 6), none⟩,
    ⟨(some 18), .call ⟨.value (.func 19), #[(.tmp 17)], #[22]⟩, none⟩,
    ⟨(some 7), .assign (.tmp 16), none⟩,
    ⟨(some 8), .assign (.tmp 18), none⟩]) c_sheaflaw18_PairKey_11) K t m := rfl

def c_sheaflaw18_PairKey_13 : MC := (.seq (.draw [(0, [], ⟨(some 11), .load 37 (.tmp 2), none⟩),
    (2, [], ⟨(some 13), .load 37 (.tmp 3), none⟩),
    (1, [2], ⟨(some 12), .call ⟨.value (.func 20), #[(.tmp 11)], #[37]⟩, none⟩),
    (3, [], ⟨(some 14), .call ⟨.value (.func 20), #[(.tmp 13)], #[37]⟩, none⟩),
    (4, [], ⟨(some 5), .assign (.tmp 12), none⟩),
    (5, [], ⟨(some 6), .assign (.tmp 14), none⟩)]) c_sheaflaw18_PairKey_12)
@[go_sem] theorem c_sheaflaw18_PairKey_13_at (rd : Option Nat) (K : Post3) (t : Fr) (m : Mem) : wpM E 4 135 rd c_sheaflaw18_PairKey_13 K t m = wpM E 4 135 rd (.seq (.draw [(0, [], ⟨(some 11), .load 37 (.tmp 2), none⟩),
    (2, [], ⟨(some 13), .load 37 (.tmp 3), none⟩),
    (1, [2], ⟨(some 12), .call ⟨.value (.func 20), #[(.tmp 11)], #[37]⟩, none⟩),
    (3, [], ⟨(some 14), .call ⟨.value (.func 20), #[(.tmp 13)], #[37]⟩, none⟩),
    (4, [], ⟨(some 5), .assign (.tmp 12), none⟩),
    (5, [], ⟨(some 6), .assign (.tmp 14), none⟩)]) c_sheaflaw18_PairKey_12) K t m := rfl

def c_sheaflaw18_PairKey_14 : MC := (.seq (.ops [⟨(some 2), .box 37 (.tmp 0), none⟩,
    ⟨(some 3), .box 37 (.tmp 1), none⟩,
    ⟨(some 4), .assign (.const (.bool false)), none⟩]) c_sheaflaw18_PairKey_13)
@[go_sem] theorem c_sheaflaw18_PairKey_14_at (rd : Option Nat) (K : Post3) (t : Fr) (m : Mem) : wpM E 4 135 rd c_sheaflaw18_PairKey_14 K t m = wpM E 4 135 rd (.seq (.ops [⟨(some 2), .box 37 (.tmp 0), none⟩,
    ⟨(some 3), .box 37 (.tmp 1), none⟩,
    ⟨(some 4), .assign (.const (.bool false)), none⟩]) c_sheaflaw18_PairKey_13) K t m := rfl

@[go_sem] theorem some4 : (E.fn 4).isSome = true := by kernel_rfl
set_option maxRecDepth 100000 in
theorem fn_sheaflaw18_PairKey : FnIs E 4 135 [.tmp 4] c_sheaflaw18_PairKey_14 := ⟨by kernel_rfl, by kernel_rfl⟩

/-! sheaf/sheaflaw18.PairCancel -/
abbrev F_sheaflaw18_PairCancel : FuncId := 9
def c_sheaflaw18_PairCancel_0 : MC := (.seq (.ops [⟨(some 8), .assign (.const (.bool false)), none⟩]) .ret)
@[go_sem] theorem c_sheaflaw18_PairCancel_0_at (rd : Option Nat) (K : Post3) (t : Fr) (m : Mem) : wpM E 9 136 rd c_sheaflaw18_PairCancel_0 K t m = wpM E 9 136 rd (.seq (.ops [⟨(some 8), .assign (.const (.bool false)), none⟩]) .ret) K t m := rfl

def c_sheaflaw18_PairCancel_1 : MC := (.cond (.tmp 61) c_sheaflaw18_PairCancel_0 .skip)
@[go_sem] theorem c_sheaflaw18_PairCancel_1_at (rd : Option Nat) (K : Post3) (t : Fr) (m : Mem) : wpM E 9 136 rd c_sheaflaw18_PairCancel_1 K t m = wpM E 9 136 rd (.cond (.tmp 61) c_sheaflaw18_PairCancel_0 .skip) K t m := rfl

def c_sheaflaw18_PairCancel_2 : MC := (.seq (.draw [(0, [], ⟨(some 45), .load 27 (.tmp 11), none⟩),
    (1, [], ⟨(some 46), .load 27 (.tmp 12), none⟩),
    (3, [], ⟨(some 48), .load 27 (.tmp 9), none⟩),
    (4, [], ⟨(some 49), .load 27 (.tmp 10), none⟩),
    (2, [3, 4], ⟨(some 47), .call ⟨.value (.func 31), #[(.tmp 45), (.tmp 46)], #[27, 27]⟩, none⟩),
    (5, [], ⟨(some 50), .call ⟨.value (.func 31), #[(.tmp 48), (.tmp 49)], #[27, 27]⟩, none⟩),
    (6, [], ⟨(some 51), .binOp .neq 27 (.tmp 47) (.tmp 50) 27, none⟩),
    (7, [], ⟨(some 52), .move (.tmp 51), none⟩),
    (8, [], ⟨(some 53), .load 27 (.tmp 13), (some (some 52, false))⟩),
    (9, [], ⟨(some 54), .load 27 (.tmp 12), (some (some 52, false))⟩),
    (10, [], ⟨(some 55), .binOp .neq 27 (.tmp 53) (.tmp 54) 27, (some (some 52, false))⟩),
    (11, [], ⟨(some 56), .pick (.tmp 52) (.const (.bool true)) (.tmp 55), none⟩),
    (12, [], ⟨(some 57), .move (.tmp 56), none⟩),
    (13, [], ⟨(some 58), .load 27 (.tmp 14), (some (some 57, false))⟩),
    (14, [], ⟨(some 59), .load 27 (.tmp 11), (some (some 57, false))⟩),
    (15, [], ⟨(some 60), .binOp .neq 27 (.tmp 58) (.tmp 59) 27, (some (some 57, false))⟩),
    (16, [], ⟨(some 61), .pick (.tmp 57) (.const (.bool true)) (.tmp 60), none⟩)]) c_sheaflaw18_PairCancel_1)
@[go_sem] theorem c_sheaflaw18_PairCancel_2_at (rd : Option Nat) (K : Post3) (t : Fr) (m : Mem) : wpM E 9 136 rd c_sheaflaw18_PairCancel_2 K t m = wpM E 9 136 rd (.seq (.draw [(0, [], ⟨(some 45), .load 27 (.tmp 11), none⟩),
    (1, [], ⟨(some 46), .load 27 (.tmp 12), none⟩),
    (3, [], ⟨(some 48), .load 27 (.tmp 9), none⟩),
    (4, [], ⟨(some 49), .load 27 (.tmp 10), none⟩),
    (2, [3, 4], ⟨(some 47), .call ⟨.value (.func 31), #[(.tmp 45), (.tmp 46)], #[27, 27]⟩, none⟩),
    (5, [], ⟨(some 50), .call ⟨.value (.func 31), #[(.tmp 48), (.tmp 49)], #[27, 27]⟩, none⟩),
    (6, [], ⟨(some 51), .binOp .neq 27 (.tmp 47) (.tmp 50) 27, none⟩),
    (7, [], ⟨(some 52), .move (.tmp 51), none⟩),
    (8, [], ⟨(some 53), .load 27 (.tmp 13), (some (some 52, false))⟩),
    (9, [], ⟨(some 54), .load 27 (.tmp 12), (some (some 52, false))⟩),
    (10, [], ⟨(some 55), .binOp .neq 27 (.tmp 53) (.tmp 54) 27, (some (some 52, false))⟩),
    (11, [], ⟨(some 56), .pick (.tmp 52) (.const (.bool true)) (.tmp 55), none⟩),
    (12, [], ⟨(some 57), .move (.tmp 56), none⟩),
    (13, [], ⟨(some 58), .load 27 (.tmp 14), (some (some 57, false))⟩),
    (14, [], ⟨(some 59), .load 27 (.tmp 11), (some (some 57, false))⟩),
    (15, [], ⟨(some 60), .binOp .neq 27 (.tmp 58) (.tmp 59) 27, (some (some 57, false))⟩),
    (16, [], ⟨(some 61), .pick (.tmp 57) (.const (.bool true)) (.tmp 60), none⟩)]) c_sheaflaw18_PairCancel_1) K t m := rfl

def c_sheaflaw18_PairCancel_3 : MC := (.seq (.ops [⟨(some 66), .load 27 (.tmp 11), none⟩,
    ⟨(some 67), .load 27 (.tmp 9), none⟩,
    ⟨(some 68), .binOp .eql 27 (.tmp 66) (.tmp 67) 27, none⟩,
    ⟨(some 69), .move (.tmp 68), none⟩,
    ⟨(some 70), .load 27 (.tmp 12), (some (some 69, true))⟩,
    ⟨(some 71), .load 27 (.tmp 10), (some (some 69, true))⟩,
    ⟨(some 72), .binOp .eql 27 (.tmp 70) (.tmp 71) 27, (some (some 69, true))⟩,
    ⟨(some 73), .pick (.tmp 69) (.tmp 72) (.const (.bool false)), none⟩,
    ⟨(some 74), .move (.tmp 73), none⟩,
    ⟨(some 75), .call ⟨.value (.func 3), #[], #[]⟩, (some (some 74, true))⟩,
    ⟨(some 76), .pick (.tmp 74) (.tmp 75) (.const (.bool false)), none⟩,
    ⟨(some 8), .assign (.tmp 76), none⟩]) .ret)
@[go_sem] theorem c_sheaflaw18_PairCancel_3_at (rd : Option Nat) (K : Post3) (t : Fr) (m : Mem) : wpM E 9 136 rd c_sheaflaw18_PairCancel_3 K t m = wpM E 9 136 rd (.seq (.ops [⟨(some 66), .load 27 (.tmp 11), none⟩,
    ⟨(some 67), .load 27 (.tmp 9), none⟩,
    ⟨(some 68), .binOp .eql 27 (.tmp 66) (.tmp 67) 27, none⟩,
    ⟨(some 69), .move (.tmp 68), none⟩,
    ⟨(some 70), .load 27 (.tmp 12), (some (some 69, true))⟩,
    ⟨(some 71), .load 27 (.tmp 10), (some (some 69, true))⟩,
    ⟨(some 72), .binOp .eql 27 (.tmp 70) (.tmp 71) 27, (some (some 69, true))⟩,
    ⟨(some 73), .pick (.tmp 69) (.tmp 72) (.const (.bool false)), none⟩,
    ⟨(some 74), .move (.tmp 73), none⟩,
    ⟨(some 75), .call ⟨.value (.func 3), #[], #[]⟩, (some (some 74, true))⟩,
    ⟨(some 76), .pick (.tmp 74) (.tmp 75) (.const (.bool false)), none⟩,
    ⟨(some 8), .assign (.tmp 76), none⟩]) .ret) K t m := rfl

def c_sheaflaw18_PairCancel_4 : MC := (.cond (.tmp 65) c_sheaflaw18_PairCancel_3 .skip)
@[go_sem] theorem c_sheaflaw18_PairCancel_4_at (rd : Option Nat) (K : Post3) (t : Fr) (m : Mem) : wpM E 9 136 rd c_sheaflaw18_PairCancel_4 K t m = wpM E 9 136 rd (.cond (.tmp 65) c_sheaflaw18_PairCancel_3 .skip) K t m := rfl

def c_sheaflaw18_PairCancel_5 : MC := (.seq (.ops [⟨(some 62), .move (.tmp 16), none⟩,
    ⟨(some 63), .move (.tmp 17), none⟩,
    ⟨(some 64), .binOp .mul 3 (.tmp 62) (.tmp 63) 3, none⟩,
    ⟨(some 65), .binOp .geq 3 (.tmp 64) (.const (.int .i64 0)) 3, none⟩]) c_sheaflaw18_PairCancel_4)
@[go_sem] theorem c_sheaflaw18_PairCancel_5_at (rd : Option Nat) (K : Post3) (t : Fr) (m : Mem) : wpM E 9 136 rd c_sheaflaw18_PairCancel_5 K t m = wpM E 9 136 rd (.seq (.ops [⟨(some 62), .move (.tmp 16), none⟩,
    ⟨(some 63), .move (.tmp 17), none⟩,
    ⟨(some 64), .binOp .mul 3 (.tmp 62) (.tmp 63) 3, none⟩,
    ⟨(some 65), .binOp .geq 3 (.tmp 64) (.const (.int .i64 0)) 3, none⟩]) c_sheaflaw18_PairCancel_4) K t m := rfl

def c_sheaflaw18_PairCancel_6 : MC := (.seq (.ops [⟨(some 8), .assign (.const (.bool false)), none⟩]) .ret)
@[go_sem] theorem c_sheaflaw18_PairCancel_6_at (rd : Option Nat) (K : Post3) (t : Fr) (m : Mem) : wpM E 9 136 rd c_sheaflaw18_PairCancel_6 K t m = wpM E 9 136 rd (.seq (.ops [⟨(some 8), .assign (.const (.bool false)), none⟩]) .ret) K t m := rfl

def c_sheaflaw18_PairCancel_7 : MC := (.cond (.tmp 108) c_sheaflaw18_PairCancel_6 .skip)
@[go_sem] theorem c_sheaflaw18_PairCancel_7_at (rd : Option Nat) (K : Post3) (t : Fr) (m : Mem) : wpM E 9 136 rd c_sheaflaw18_PairCancel_7 K t m = wpM E 9 136 rd (.cond (.tmp 108) c_sheaflaw18_PairCancel_6 .skip) K t m := rfl

def c_sheaflaw18_PairCancel_8 : MC := (.seq (.ops [⟨(some 77), .load 27 (.tmp 11), none⟩,
    ⟨(some 78), .load 27 (.tmp 15), none⟩,
    ⟨(some 79), .binOp .neq 27 (.tmp 77) (.tmp 78) 27, none⟩,
    ⟨(some 80), .move (.tmp 79), none⟩,
    ⟨(some 81), .load 27 (.tmp 12), (some (some 80, true))⟩,
    ⟨(some 82), .load 27 (.tmp 15), (some (some 80, true))⟩,
    ⟨(some 83), .binOp .neq 27 (.tmp 81) (.tmp 82) 27, (some (some 80, true))⟩,
    ⟨(some 84), .pick (.tmp 80) (.tmp 83) (.const (.bool false)), none⟩,
    ⟨(some 85), .move (.tmp 84), none⟩,
    ⟨(some 86), .load 27 (.tmp 11), (some (some 85, false))⟩,
    ⟨(some 87), .load 27 (.tmp 15), (some (some 85, false))⟩,
    ⟨(some 88), .binOp .neq 27 (.tmp 86) (.tmp 87) 27, (some (some 85, false))⟩,
    ⟨(some 89), .move (.tmp 88), (some (some 85, false))⟩,
    ⟨(some 90), .load 27 (.tmp 11), (some (some 89, true))⟩,
    ⟨(some 91), .load 27 (.tmp 15), (some (some 89, true))⟩,
    ⟨(some 92), .call ⟨.value (.func 30), #[(.tmp 90), (.tmp 91)], #[27, 27]⟩, (some (some 89, true))⟩,
    ⟨(some 93), .move (.tmp 16), (some (some 89, true))⟩,
    ⟨(some 94), .binOp .neq 3 (.tmp 92) (.tmp 93) 3, (some (some 89, true))⟩,
    ⟨(some 95), .pick (.tmp 89) (.tmp 94) (.const (.bool false)), (some (some 85, false))⟩,
    ⟨(some 96), .pick (.tmp 85) (.const (.bool true)) (.tmp 95), none⟩,
    ⟨(some 97), .move (.tmp 96), none⟩,
    ⟨(some 98), .load 27 (.tmp 12), (some (some 97, false))⟩,
    ⟨(some 99), .load 27 (.tmp 15), (some (some 97, false))⟩,
    ⟨(some 100), .binOp .neq 27 (.tmp 98) (.tmp 99) 27, (some (some 97, false))⟩,
    ⟨(some 101), .move (.tmp 100), (some (some 97, false))⟩,
    ⟨(some 102), .load 27 (.tmp 12), (some (some 101, true))⟩,
    ⟨(some 103), .load 27 (.tmp 15), (some (some 101, true))⟩,
    ⟨(some 104), .call ⟨.value (.func 30), #[(.tmp 102), (.tmp 103)], #[27, 27]⟩, (some (some 101, true))⟩,
    ⟨(some 105), .move (.tmp 17), (some (some 101, true))⟩,
    ⟨(some 106), .binOp .neq 3 (.tmp 104) (.tmp 105) 3, (some (some 101, true))⟩,
    ⟨(some 107), .pick (.tmp 101) (.tmp 106) (.const (.bool false)), (some (some 97, false))⟩,
    ⟨(some 108), .pick (.tmp 97) (.const (.bool true)) (.tmp 107), none⟩]) c_sheaflaw18_PairCancel_7)
@[go_sem] theorem c_sheaflaw18_PairCancel_8_at (rd : Option Nat) (K : Post3) (t : Fr) (m : Mem) : wpM E 9 136 rd c_sheaflaw18_PairCancel_8 K t m = wpM E 9 136 rd (.seq (.ops [⟨(some 77), .load 27 (.tmp 11), none⟩,
    ⟨(some 78), .load 27 (.tmp 15), none⟩,
    ⟨(some 79), .binOp .neq 27 (.tmp 77) (.tmp 78) 27, none⟩,
    ⟨(some 80), .move (.tmp 79), none⟩,
    ⟨(some 81), .load 27 (.tmp 12), (some (some 80, true))⟩,
    ⟨(some 82), .load 27 (.tmp 15), (some (some 80, true))⟩,
    ⟨(some 83), .binOp .neq 27 (.tmp 81) (.tmp 82) 27, (some (some 80, true))⟩,
    ⟨(some 84), .pick (.tmp 80) (.tmp 83) (.const (.bool false)), none⟩,
    ⟨(some 85), .move (.tmp 84), none⟩,
    ⟨(some 86), .load 27 (.tmp 11), (some (some 85, false))⟩,
    ⟨(some 87), .load 27 (.tmp 15), (some (some 85, false))⟩,
    ⟨(some 88), .binOp .neq 27 (.tmp 86) (.tmp 87) 27, (some (some 85, false))⟩,
    ⟨(some 89), .move (.tmp 88), (some (some 85, false))⟩,
    ⟨(some 90), .load 27 (.tmp 11), (some (some 89, true))⟩,
    ⟨(some 91), .load 27 (.tmp 15), (some (some 89, true))⟩,
    ⟨(some 92), .call ⟨.value (.func 30), #[(.tmp 90), (.tmp 91)], #[27, 27]⟩, (some (some 89, true))⟩,
    ⟨(some 93), .move (.tmp 16), (some (some 89, true))⟩,
    ⟨(some 94), .binOp .neq 3 (.tmp 92) (.tmp 93) 3, (some (some 89, true))⟩,
    ⟨(some 95), .pick (.tmp 89) (.tmp 94) (.const (.bool false)), (some (some 85, false))⟩,
    ⟨(some 96), .pick (.tmp 85) (.const (.bool true)) (.tmp 95), none⟩,
    ⟨(some 97), .move (.tmp 96), none⟩,
    ⟨(some 98), .load 27 (.tmp 12), (some (some 97, false))⟩,
    ⟨(some 99), .load 27 (.tmp 15), (some (some 97, false))⟩,
    ⟨(some 100), .binOp .neq 27 (.tmp 98) (.tmp 99) 27, (some (some 97, false))⟩,
    ⟨(some 101), .move (.tmp 100), (some (some 97, false))⟩,
    ⟨(some 102), .load 27 (.tmp 12), (some (some 101, true))⟩,
    ⟨(some 103), .load 27 (.tmp 15), (some (some 101, true))⟩,
    ⟨(some 104), .call ⟨.value (.func 30), #[(.tmp 102), (.tmp 103)], #[27, 27]⟩, (some (some 101, true))⟩,
    ⟨(some 105), .move (.tmp 17), (some (some 101, true))⟩,
    ⟨(some 106), .binOp .neq 3 (.tmp 104) (.tmp 105) 3, (some (some 101, true))⟩,
    ⟨(some 107), .pick (.tmp 101) (.tmp 106) (.const (.bool false)), (some (some 97, false))⟩,
    ⟨(some 108), .pick (.tmp 97) (.const (.bool true)) (.tmp 107), none⟩]) c_sheaflaw18_PairCancel_7) K t m := rfl

def c_sheaflaw18_PairCancel_9 : MC := (.seq (.ops [⟨(some 109), .load 27 (.tmp 11), none⟩,
    ⟨(some 110), .load 27 (.tmp 15), none⟩,
    ⟨(some 111), .binOp .eql 27 (.tmp 109) (.tmp 110) 27, none⟩,
    ⟨(some 112), .move (.tmp 111), none⟩,
    ⟨(some 113), .load 27 (.tmp 11), (some (some 112, false))⟩,
    ⟨(some 114), .load 27 (.tmp 9), (some (some 112, false))⟩,
    ⟨(some 115), .call ⟨.value (.func 30), #[(.tmp 113), (.tmp 114)], #[27, 27]⟩, (some (some 112, false))⟩,
    ⟨(some 116), .move (.tmp 16), (some (some 112, false))⟩,
    ⟨(some 117), .unOp .neg 3 (.tmp 116), (some (some 112, false))⟩,
    ⟨(some 118), .binOp .eql 3 (.tmp 115) (.tmp 117) 3, (some (some 112, false))⟩,
    ⟨(some 119), .pick (.tmp 112) (.const (.bool true)) (.tmp 118), none⟩,
    ⟨(some 120), .move (.tmp 119), none⟩,
    ⟨(some 121), .load 27 (.tmp 12), (some (some 120, true))⟩,
    ⟨(some 122), .load 27 (.tmp 15), (some (some 120, true))⟩,
    ⟨(some 123), .binOp .eql 27 (.tmp 121) (.tmp 122) 27, (some (some 120, true))⟩,
    ⟨(some 124), .move (.tmp 123), (some (some 120, true))⟩,
    ⟨(some 125), .load 27 (.tmp 12), (some (some 124, false))⟩,
    ⟨(some 126), .load 27 (.tmp 10), (some (some 124, false))⟩,
    ⟨(some 127), .call ⟨.value (.func 30), #[(.tmp 125), (.tmp 126)], #[27, 27]⟩, (some (some 124, false))⟩,
    ⟨(some 128), .move (.tmp 17), (some (some 124, false))⟩,
    ⟨(some 129), .unOp .neg 3 (.tmp 128), (some (some 124, false))⟩,
    ⟨(some 130), .binOp .eql 3 (.tmp 127) (.tmp 129) 3, (some (some 124, false))⟩,
    ⟨(some 131), .pick (.tmp 124) (.const (.bool true)) (.tmp 130), (some (some 120, true))⟩,
    ⟨(some 132), .pick (.tmp 120) (.tmp 131) (.const (.bool false)), none⟩,
    ⟨(some 133), .move (.tmp 132), none⟩,
    ⟨(some 134), .call ⟨.value (.func 3), #[], #[]⟩, (some (some 133, true))⟩,
    ⟨(some 135), .pick (.tmp 133) (.tmp 134) (.const (.bool false)), none⟩,
    ⟨(some 8), .assign (.tmp 135), none⟩]) .ret)
@[go_sem] theorem c_sheaflaw18_PairCancel_9_at (rd : Option Nat) (K : Post3) (t : Fr) (m : Mem) : wpM E 9 136 rd c_sheaflaw18_PairCancel_9 K t m = wpM E 9 136 rd (.seq (.ops [⟨(some 109), .load 27 (.tmp 11), none⟩,
    ⟨(some 110), .load 27 (.tmp 15), none⟩,
    ⟨(some 111), .binOp .eql 27 (.tmp 109) (.tmp 110) 27, none⟩,
    ⟨(some 112), .move (.tmp 111), none⟩,
    ⟨(some 113), .load 27 (.tmp 11), (some (some 112, false))⟩,
    ⟨(some 114), .load 27 (.tmp 9), (some (some 112, false))⟩,
    ⟨(some 115), .call ⟨.value (.func 30), #[(.tmp 113), (.tmp 114)], #[27, 27]⟩, (some (some 112, false))⟩,
    ⟨(some 116), .move (.tmp 16), (some (some 112, false))⟩,
    ⟨(some 117), .unOp .neg 3 (.tmp 116), (some (some 112, false))⟩,
    ⟨(some 118), .binOp .eql 3 (.tmp 115) (.tmp 117) 3, (some (some 112, false))⟩,
    ⟨(some 119), .pick (.tmp 112) (.const (.bool true)) (.tmp 118), none⟩,
    ⟨(some 120), .move (.tmp 119), none⟩,
    ⟨(some 121), .load 27 (.tmp 12), (some (some 120, true))⟩,
    ⟨(some 122), .load 27 (.tmp 15), (some (some 120, true))⟩,
    ⟨(some 123), .binOp .eql 27 (.tmp 121) (.tmp 122) 27, (some (some 120, true))⟩,
    ⟨(some 124), .move (.tmp 123), (some (some 120, true))⟩,
    ⟨(some 125), .load 27 (.tmp 12), (some (some 124, false))⟩,
    ⟨(some 126), .load 27 (.tmp 10), (some (some 124, false))⟩,
    ⟨(some 127), .call ⟨.value (.func 30), #[(.tmp 125), (.tmp 126)], #[27, 27]⟩, (some (some 124, false))⟩,
    ⟨(some 128), .move (.tmp 17), (some (some 124, false))⟩,
    ⟨(some 129), .unOp .neg 3 (.tmp 128), (some (some 124, false))⟩,
    ⟨(some 130), .binOp .eql 3 (.tmp 127) (.tmp 129) 3, (some (some 124, false))⟩,
    ⟨(some 131), .pick (.tmp 124) (.const (.bool true)) (.tmp 130), (some (some 120, true))⟩,
    ⟨(some 132), .pick (.tmp 120) (.tmp 131) (.const (.bool false)), none⟩,
    ⟨(some 133), .move (.tmp 132), none⟩,
    ⟨(some 134), .call ⟨.value (.func 3), #[], #[]⟩, (some (some 133, true))⟩,
    ⟨(some 135), .pick (.tmp 133) (.tmp 134) (.const (.bool false)), none⟩,
    ⟨(some 8), .assign (.tmp 135), none⟩]) .ret) K t m := rfl

def c_sheaflaw18_PairCancel_10 : MC := (.seq c_sheaflaw18_PairCancel_8 c_sheaflaw18_PairCancel_9)
@[go_sem] theorem c_sheaflaw18_PairCancel_10_at (rd : Option Nat) (K : Post3) (t : Fr) (m : Mem) : wpM E 9 136 rd c_sheaflaw18_PairCancel_10 K t m = wpM E 9 136 rd (.seq c_sheaflaw18_PairCancel_8 c_sheaflaw18_PairCancel_9) K t m := rfl

def c_sheaflaw18_PairCancel_11 : MC := (.seq c_sheaflaw18_PairCancel_5 c_sheaflaw18_PairCancel_10)
@[go_sem] theorem c_sheaflaw18_PairCancel_11_at (rd : Option Nat) (K : Post3) (t : Fr) (m : Mem) : wpM E 9 136 rd c_sheaflaw18_PairCancel_11 K t m = wpM E 9 136 rd (.seq c_sheaflaw18_PairCancel_5 c_sheaflaw18_PairCancel_10) K t m := rfl

def c_sheaflaw18_PairCancel_12 : MC := (.seq c_sheaflaw18_PairCancel_2 c_sheaflaw18_PairCancel_11)
@[go_sem] theorem c_sheaflaw18_PairCancel_12_at (rd : Option Nat) (K : Post3) (t : Fr) (m : Mem) : wpM E 9 136 rd c_sheaflaw18_PairCancel_12 K t m = wpM E 9 136 rd (.seq c_sheaflaw18_PairCancel_2 c_sheaflaw18_PairCancel_11) K t m := rfl

def c_sheaflaw18_PairCancel_13 : MC := (.seq (.draw [(0, [], ⟨(some 39), .load 27 (.tmp 9), none⟩),
    (1, [], ⟨(some 40), .load 27 (.tmp 15), none⟩),
    (3, [], ⟨(some 42), .load 27 (.tmp 10), none⟩),
    (4, [], ⟨(some 43), .load 27 (.tmp 15), none⟩),
    (2, [3, 4], ⟨(some 41), .call ⟨.value (.func 30), #[(.tmp 39), (.tmp 40)], #[27, 27]⟩, none⟩),
    (5, [], ⟨(some 44), .call ⟨.value (.func 30), #[(.tmp 42), (.tmp 43)], #[27, 27]⟩, none⟩),
    (6, [], ⟨(some 16), .assign (.tmp 41), none⟩),
    (7, [], ⟨(some 17), .assign (.tmp 44), none⟩)]) c_sheaflaw18_PairCancel_12)
@[go_sem] theorem c_sheaflaw18_PairCancel_13_at (rd : Option Nat) (K : Post3) (t : Fr) (m : Mem) : wpM E 9 136 rd c_sheaflaw18_PairCancel_13 K t m = wpM E 9 136 rd (.seq (.draw [(0, [], ⟨(some 39), .load 27 (.tmp 9), none⟩),
    (1, [], ⟨(some 40), .load 27 (.tmp 15), none⟩),
    (3, [], ⟨(some 42), .load 27 (.tmp 10), none⟩),
    (4, [], ⟨(some 43), .load 27 (.tmp 15), none⟩),
    (2, [3, 4], ⟨(some 41), .call ⟨.value (.func 30), #[(.tmp 39), (.tmp 40)], #[27, 27]⟩, none⟩),
    (5, [], ⟨(some 44), .call ⟨.value (.func 30), #[(.tmp 42), (.tmp 43)], #[27, 27]⟩, none⟩),
    (6, [], ⟨(some 16), .assign (.tmp 41), none⟩),
    (7, [], ⟨(some 17), .assign (.tmp 44), none⟩)]) c_sheaflaw18_PairCancel_12) K t m := rfl

def c_sheaflaw18_PairCancel_14 : MC := (.seq (.ops [⟨(some 38), .build 27 #[], none⟩,
    ⟨(some 15), .alloc 27, none⟩,
    ⟨none, .store 27 (.tmp 15) (.tmp 38), none⟩]) c_sheaflaw18_PairCancel_13)
@[go_sem] theorem c_sheaflaw18_PairCancel_14_at (rd : Option Nat) (K : Post3) (t : Fr) (m : Mem) : wpM E 9 136 rd c_sheaflaw18_PairCancel_14 K t m = wpM E 9 136 rd (.seq (.ops [⟨(some 38), .build 27 #[], none⟩,
    ⟨(some 15), .alloc 27, none⟩,
    ⟨none, .store 27 (.tmp 15) (.tmp 38), none⟩]) c_sheaflaw18_PairCancel_13) K t m := rfl

def c_sheaflaw18_PairCancel_15 : MC := (.seq (.ops [⟨(some 33), .load 27 (.tmp 10), none⟩,
    ⟨(some 34), .load 27 (.tmp 9), none⟩,
    ⟨(some 35), .call ⟨.value (.func 15), #[(.tmp 33), (.tmp 34)], #[27, 27]⟩, none⟩,
    ⟨(some 32), .move (.tmp 35), none⟩,
    ⟨(some 36), .extract (.tmp 32) 0, none⟩,
    ⟨(some 37), .extract (.tmp 32) 1, none⟩,
    ⟨(some 13), .alloc 27, none⟩,
    ⟨(some 14), .alloc 27, none⟩,
    ⟨none, .store 27 (.tmp 13) (.tmp 36), none⟩,
    ⟨none, .store 27 (.tmp 14) (.tmp 37), none⟩]) c_sheaflaw18_PairCancel_14)
@[go_sem] theorem c_sheaflaw18_PairCancel_15_at (rd : Option Nat) (K : Post3) (t : Fr) (m : Mem) : wpM E 9 136 rd c_sheaflaw18_PairCancel_15 K t m = wpM E 9 136 rd (.seq (.ops [⟨(some 33), .load 27 (.tmp 10), none⟩,
    ⟨(some 34), .load 27 (.tmp 9), none⟩,
    ⟨(some 35), .call ⟨.value (.func 15), #[(.tmp 33), (.tmp 34)], #[27, 27]⟩, none⟩,
    ⟨(some 32), .move (.tmp 35), none⟩,
    ⟨(some 36), .extract (.tmp 32) 0, none⟩,
    ⟨(some 37), .extract (.tmp 32) 1, none⟩,
    ⟨(some 13), .alloc 27, none⟩,
    ⟨(some 14), .alloc 27, none⟩,
    ⟨none, .store 27 (.tmp 13) (.tmp 36), none⟩,
    ⟨none, .store 27 (.tmp 14) (.tmp 37), none⟩]) c_sheaflaw18_PairCancel_14) K t m := rfl

def c_sheaflaw18_PairCancel_16 : MC := (.seq (.ops [⟨(some 27), .load 27 (.tmp 9), none⟩,
    ⟨(some 28), .load 27 (.tmp 10), none⟩,
    ⟨(some 29), .call ⟨.value (.func 15), #[(.tmp 27), (.tmp 28)], #[27, 27]⟩, none⟩,
    ⟨(some 26), .move (.tmp 29), none⟩,
    ⟨(some 30), .extract (.tmp 26) 0, none⟩,
    ⟨(some 31), .extract (.tmp 26) 1, none⟩,
    ⟨(some 11), .alloc 27, none⟩,
    ⟨(some 12), .alloc 27, none⟩,
    ⟨none, .store 27 (.tmp 11) (.tmp 30), none⟩,
    ⟨none, .store 27 (.tmp 12) (.tmp 31), none⟩]) c_sheaflaw18_PairCancel_15)
@[go_sem] theorem c_sheaflaw18_PairCancel_16_at (rd : Option Nat) (K : Post3) (t : Fr) (m : Mem) : wpM E 9 136 rd c_sheaflaw18_PairCancel_16 K t m = wpM E 9 136 rd (.seq (.ops [⟨(some 27), .load 27 (.tmp 9), none⟩,
    ⟨(some 28), .load 27 (.tmp 10), none⟩,
    ⟨(some 29), .call ⟨.value (.func 15), #[(.tmp 27), (.tmp 28)], #[27, 27]⟩, none⟩,
    ⟨(some 26), .move (.tmp 29), none⟩,
    ⟨(some 30), .extract (.tmp 26) 0, none⟩,
    ⟨(some 31), .extract (.tmp 26) 1, none⟩,
    ⟨(some 11), .alloc 27, none⟩,
    ⟨(some 12), .alloc 27, none⟩,
    ⟨none, .store 27 (.tmp 11) (.tmp 30), none⟩,
    ⟨none, .store 27 (.tmp 12) (.tmp 31), none⟩]) c_sheaflaw18_PairCancel_15) K t m := rfl

def c_sheaflaw18_PairCancel_17 : MC := (.seq (.ops [⟨(some 18), .move (.tmp 0), none⟩,
    ⟨(some 19), .move (.tmp 2), none⟩,
    ⟨(some 20), .call ⟨.value (.func 25), #[(.tmp 19), (.const (.int .i64 (-1099511627776))), (.const (.int .i64 1099511627776))], #[3, 3, 3]⟩, none⟩,
    ⟨(some 21), .call ⟨.value (.func 29), #[(.tmp 18), (.tmp 20)], #[3, 3]⟩, none⟩,
    ⟨(some 22), .move (.tmp 1), none⟩,
    ⟨(some 23), .move (.tmp 3), none⟩,
    ⟨(some 24), .call ⟨.value (.func 25), #[(.tmp 23), (.const (.int .i64 (-1099511627776))), (.const (.int .i64 1099511627776))], #[3, 3, 3]⟩, none⟩,
    ⟨(some 25), .call ⟨.value (.func 29), #[(.tmp 22), (.tmp 24)], #[3, 3]⟩, none⟩,
    ⟨(some 9), .alloc 27, none⟩,
    ⟨(some 10), .alloc 27, none⟩,
    ⟨none, .store 27 (.tmp 9) (.tmp 21), none⟩,
    ⟨none, .store 27 (.tmp 10) (.tmp 25), none⟩]) c_sheaflaw18_PairCancel_16)
@[go_sem] theorem c_sheaflaw18_PairCancel_17_at (rd : Option Nat) (K : Post3) (t : Fr) (m : Mem) : wpM E 9 136 rd c_sheaflaw18_PairCancel_17 K t m = wpM E 9 136 rd (.seq (.ops [⟨(some 18), .move (.tmp 0), none⟩,
    ⟨(some 19), .move (.tmp 2), none⟩,
    ⟨(some 20), .call ⟨.value (.func 25), #[(.tmp 19), (.const (.int .i64 (-1099511627776))), (.const (.int .i64 1099511627776))], #[3, 3, 3]⟩, none⟩,
    ⟨(some 21), .call ⟨.value (.func 29), #[(.tmp 18), (.tmp 20)], #[3, 3]⟩, none⟩,
    ⟨(some 22), .move (.tmp 1), none⟩,
    ⟨(some 23), .move (.tmp 3), none⟩,
    ⟨(some 24), .call ⟨.value (.func 25), #[(.tmp 23), (.const (.int .i64 (-1099511627776))), (.const (.int .i64 1099511627776))], #[3, 3, 3]⟩, none⟩,
    ⟨(some 25), .call ⟨.value (.func 29), #[(.tmp 22), (.tmp 24)], #[3, 3]⟩, none⟩,
    ⟨(some 9), .alloc 27, none⟩,
    ⟨(some 10), .alloc 27, none⟩,
    ⟨none, .store 27 (.tmp 9) (.tmp 21), none⟩,
    ⟨none, .store 27 (.tmp 10) (.tmp 25), none⟩]) c_sheaflaw18_PairCancel_16) K t m := rfl

def c_sheaflaw18_PairCancel_18 : MC := (.seq (.ops [⟨(some 8), .assign (.const (.bool false)), none⟩]) c_sheaflaw18_PairCancel_17)
@[go_sem] theorem c_sheaflaw18_PairCancel_18_at (rd : Option Nat) (K : Post3) (t : Fr) (m : Mem) : wpM E 9 136 rd c_sheaflaw18_PairCancel_18 K t m = wpM E 9 136 rd (.seq (.ops [⟨(some 8), .assign (.const (.bool false)), none⟩]) c_sheaflaw18_PairCancel_17) K t m := rfl

@[go_sem] theorem some9 : (E.fn 9).isSome = true := by kernel_rfl
set_option maxRecDepth 100000 in
theorem fn_sheaflaw18_PairCancel : FnIs E 9 136 [.tmp 8] c_sheaflaw18_PairCancel_18 := ⟨by kernel_rfl, by kernel_rfl⟩

/-! sheaf/sheaflaw18.PairParts -/
abbrev F_sheaflaw18_PairParts : FuncId := 12
def c_sheaflaw18_PairParts_0 : MC := (.cond (.tmp 16) .skip (.exit 0))
@[go_sem] theorem c_sheaflaw18_PairParts_0_at (rd : Option Nat) (K : Post3) (t : Fr) (m : Mem) : wpM E 12 50 rd c_sheaflaw18_PairParts_0 K t m = wpM E 12 50 rd (.cond (.tmp 16) .skip (.exit 0)) K t m := rfl

def c_sheaflaw18_PairParts_1 : MC := (.seq (.ops [⟨(some 9), .move (.tmp 4), none⟩,
    ⟨(some 10), .move (.tmp 0), none⟩,
    ⟨(some 11), .call ⟨.builtin .len, #[(.tmp 10)], #[44]⟩, none⟩,
    ⟨(some 12), .binOp .lss 3 (.tmp 9) (.tmp 11) 3, none⟩,
    ⟨(some 13), .move (.tmp 12), none⟩,
    ⟨(some 14), .move (.tmp 4), (some (some 13, true))⟩,
    ⟨(some 15), .binOp .lss 3 (.tmp 14) (.const (.int .i64 25)) 3, (some (some 13, true))⟩,
    ⟨(some 16), .pick (.tmp 13) (.tmp 15) (.const (.bool false)), none⟩]) c_sheaflaw18_PairParts_0)
@[go_sem] theorem c_sheaflaw18_PairParts_1_at (rd : Option Nat) (K : Post3) (t : Fr) (m : Mem) : wpM E 12 50 rd c_sheaflaw18_PairParts_1 K t m = wpM E 12 50 rd (.seq (.ops [⟨(some 9), .move (.tmp 4), none⟩,
    ⟨(some 10), .move (.tmp 0), none⟩,
    ⟨(some 11), .call ⟨.builtin .len, #[(.tmp 10)], #[44]⟩, none⟩,
    ⟨(some 12), .binOp .lss 3 (.tmp 9) (.tmp 11) 3, none⟩,
    ⟨(some 13), .move (.tmp 12), none⟩,
    ⟨(some 14), .move (.tmp 4), (some (some 13, true))⟩,
    ⟨(some 15), .binOp .lss 3 (.tmp 14) (.const (.int .i64 25)) 3, (some (some 13, true))⟩,
    ⟨(some 16), .pick (.tmp 13) (.tmp 15) (.const (.bool false)), none⟩]) c_sheaflaw18_PairParts_0) K t m := rfl

def c_sheaflaw18_PairParts_2 : MC := (.block 1 (.ops [⟨(some 19), .move (.tmp 3), none⟩,
    ⟨(some 20), .move (.tmp 0), none⟩,
    ⟨(some 21), .move (.tmp 4), none⟩,
    ⟨(some 22), .indexAddr 44 (.tmp 20) (.tmp 21), none⟩,
    ⟨(some 23), .load 37 (.tmp 22), none⟩,
    ⟨(some 24), .call ⟨.value (.func 20), #[(.tmp 23)], #[37]⟩, none⟩,
    ⟨(some 25), .buildSlice 40 1 #[(0, (.tmp 24))], none⟩,
    ⟨(some 26), .call ⟨.builtin .append, #[(.tmp 19), (.tmp 25)], #[40, 40]⟩, none⟩,
    ⟨(some 3), .assign (.tmp 26), none⟩]))
@[go_sem] theorem c_sheaflaw18_PairParts_2_at (rd : Option Nat) (K : Post3) (t : Fr) (m : Mem) : wpM E 12 50 rd c_sheaflaw18_PairParts_2 K t m = wpM E 12 50 rd (.block 1 (.ops [⟨(some 19), .move (.tmp 3), none⟩,
    ⟨(some 20), .move (.tmp 0), none⟩,
    ⟨(some 21), .move (.tmp 4), none⟩,
    ⟨(some 22), .indexAddr 44 (.tmp 20) (.tmp 21), none⟩,
    ⟨(some 23), .load 37 (.tmp 22), none⟩,
    ⟨(some 24), .call ⟨.value (.func 20), #[(.tmp 23)], #[37]⟩, none⟩,
    ⟨(some 25), .buildSlice 40 1 #[(0, (.tmp 24))], none⟩,
    ⟨(some 26), .call ⟨.builtin .append, #[(.tmp 19), (.tmp 25)], #[40, 40]⟩, none⟩,
    ⟨(some 3), .assign (.tmp 26), none⟩])) K t m := rfl

def c_sheaflaw18_PairParts_3 : MC := (.seq c_sheaflaw18_PairParts_2 (.ops [⟨(some 17), .move (.tmp 4), none⟩,
    ⟨(some 18), .binOp .add 3 (.tmp 17) (.const (.int .i64 1)) 3, none⟩,
    ⟨(some 4), .assign (.tmp 18), none⟩]))
@[go_sem] theorem c_sheaflaw18_PairParts_3_at (rd : Option Nat) (K : Post3) (t : Fr) (m : Mem) : wpM E 12 50 rd c_sheaflaw18_PairParts_3 K t m = wpM E 12 50 rd (.seq c_sheaflaw18_PairParts_2 (.ops [⟨(some 17), .move (.tmp 4), none⟩,
    ⟨(some 18), .binOp .add 3 (.tmp 17) (.const (.int .i64 1)) 3, none⟩,
    ⟨(some 4), .assign (.tmp 18), none⟩])) K t m := rfl

def c_sheaflaw18_PairParts_4 : MC := (.seq c_sheaflaw18_PairParts_1 c_sheaflaw18_PairParts_3)
@[go_sem] theorem c_sheaflaw18_PairParts_4_at (rd : Option Nat) (K : Post3) (t : Fr) (m : Mem) : wpM E 12 50 rd c_sheaflaw18_PairParts_4 K t m = wpM E 12 50 rd (.seq c_sheaflaw18_PairParts_1 c_sheaflaw18_PairParts_3) K t m := rfl

def c_sheaflaw18_PairParts_5 : MC := (.loop c_sheaflaw18_PairParts_4)
theorem c_sheaflaw18_PairParts_5_at (rd : Option Nat) (K : Post3) (t : Fr) (m : Mem) : wpM E 12 50 rd c_sheaflaw18_PairParts_5 K t m = wpM E 12 50 rd (.loop c_sheaflaw18_PairParts_4) K t m := rfl

def c_sheaflaw18_PairParts_6 : MC := (.block 0 c_sheaflaw18_PairParts_5)
theorem c_sheaflaw18_PairParts_6_at (rd : Option Nat) (K : Post3) (t : Fr) (m : Mem) : wpM E 12 50 rd c_sheaflaw18_PairParts_6 K t m = wpM E 12 50 rd (.block 0 c_sheaflaw18_PairParts_5) K t m := rfl

def c_sheaflaw18_PairParts_7 : MC := (.seq (.ops [⟨(some 4), .assign (.const (.int .i64 0)), none⟩]) c_sheaflaw18_PairParts_6)
@[go_sem] theorem c_sheaflaw18_PairParts_7_at (rd : Option Nat) (K : Post3) (t : Fr) (m : Mem) : wpM E 12 50 rd c_sheaflaw18_PairParts_7 K t m = wpM E 12 50 rd (.seq (.ops [⟨(some 4), .assign (.const (.int .i64 0)), none⟩]) c_sheaflaw18_PairParts_6) K t m := rfl

def c_sheaflaw18_PairParts_8 : MC := (.seq (.ops [⟨(some 37), .move (.tmp 6), none⟩,
    ⟨(some 38), .move (.tmp 8), none⟩,
    ⟨(some 39), .binOp .eql 4 (.tmp 37) (.tmp 38) 4, none⟩,
    ⟨(some 40), .move (.tmp 39), none⟩,
    ⟨(some 41), .move (.tmp 5), (some (some 40, true))⟩,
    ⟨(some 42), .call ⟨.value (.func 26), #[(.tmp 41), (.const (.slice none 0 0))], #[40, 22]⟩, (some (some 40, true))⟩,
    ⟨(some 43), .move (.tmp 7), (some (some 40, true))⟩,
    ⟨(some 44), .call ⟨.value (.func 26), #[(.tmp 43), (.const (.slice none 0 0))], #[40, 22]⟩, (some (some 40, true))⟩,
    ⟨(some 45), .call ⟨.value (.func 22), #[(.tmp 42), (.tmp 44)], #[40, 40]⟩, (some (some 40, true))⟩,
    ⟨(some 46), .pick (.tmp 40) (.tmp 45) (.const (.bool false)), none⟩,
    ⟨(some 47), .move (.tmp 46), none⟩,
    ⟨(some 48), .call ⟨.value (.func 3), #[], #[]⟩, (some (some 47, true))⟩,
    ⟨(some 49), .pick (.tmp 47) (.tmp 48) (.const (.bool false)), none⟩,
    ⟨(some 2), .assign (.tmp 49), none⟩]) .ret)
@[go_sem] theorem c_sheaflaw18_PairParts_8_at (rd : Option Nat) (K : Post3) (t : Fr) (m : Mem) : wpM E 12 50 rd c_sheaflaw18_PairParts_8 K t m = wpM E 12 50 rd (.seq (.ops [⟨(some 37), .move (.tmp 6), none⟩,
    ⟨(some 38), .move (.tmp 8), none⟩,
    ⟨(some 39), .binOp .eql 4 (.tmp 37) (.tmp 38) 4, none⟩,
    ⟨(some 40), .move (.tmp 39), none⟩,
    ⟨(some 41), .move (.tmp 5), (some (some 40, true))⟩,
    ⟨(some 42), .call ⟨.value (.func 26), #[(.tmp 41), (.const (.slice none 0 0))], #[40, 22]⟩, (some (some 40, true))⟩,
    ⟨(some 43), .move (.tmp 7), (some (some 40, true))⟩,
    ⟨(some 44), .call ⟨.value (.func 26), #[(.tmp 43), (.const (.slice none 0 0))], #[40, 22]⟩, (some (some 40, true))⟩,
    ⟨(some 45), .call ⟨.value (.func 22), #[(.tmp 42), (.tmp 44)], #[40, 40]⟩, (some (some 40, true))⟩,
    ⟨(some 46), .pick (.tmp 40) (.tmp 45) (.const (.bool false)), none⟩,
    ⟨(some 47), .move (.tmp 46), none⟩,
    ⟨(some 48), .call ⟨.value (.func 3), #[], #[]⟩, (some (some 47, true))⟩,
    ⟨(some 49), .pick (.tmp 47) (.tmp 48) (.const (.bool false)), none⟩,
    ⟨(some 2), .assign (.tmp 49), none⟩]) .ret) K t m := rfl

def c_sheaflaw18_PairParts_9 : MC := (.seq (.ops [⟨(some 33), .move (.tmp 3), none⟩,
    ⟨(some 34), .call ⟨.value (.func 35), #[(.tmp 33)], #[40]⟩, none⟩,
    ⟨(some 32), .move (.tmp 34), none⟩,
    ⟨(some 35), .extract (.tmp 32) 0, none⟩,
    ⟨(some 36), .extract (.tmp 32) 1, none⟩,
    ⟨(some 7), .assign (.tmp 35), none⟩,
    ⟨(some 8), .assign (.tmp 36), none⟩]) c_sheaflaw18_PairParts_8)
@[go_sem] theorem c_sheaflaw18_PairParts_9_at (rd : Option Nat) (K : Post3) (t : Fr) (m : Mem) : wpM E 12 50 rd c_sheaflaw18_PairParts_9 K t m = wpM E 12 50 rd (.seq (.ops [⟨(some 33), .move (.tmp 3), none⟩,
    ⟨(some 34), .call ⟨.value (.func 35), #[(.tmp 33)], #[40]⟩, none⟩,
    ⟨(some 32), .move (.tmp 34), none⟩,
    ⟨(some 35), .extract (.tmp 32) 0, none⟩,
    ⟨(some 36), .extract (.tmp 32) 1, none⟩,
    ⟨(some 7), .assign (.tmp 35), none⟩,
    ⟨(some 8), .assign (.tmp 36), none⟩]) c_sheaflaw18_PairParts_8) K t m := rfl

def c_sheaflaw18_PairParts_10 : MC := (.seq (.ops [⟨(some 28), .move (.tmp 3), none⟩,
    ⟨(some 29), .call ⟨.value (.func 34), #[(.tmp 28)], #[40]⟩, none⟩,
    ⟨(some 27), .move (.tmp 29), none⟩,
    ⟨(some 30), .extract (.tmp 27) 0, none⟩,
    ⟨(some 31), .extract (.tmp 27) 1, none⟩,
    ⟨(some 5), .assign (.tmp 30), none⟩,
    ⟨(some 6), .assign (.tmp 31), none⟩]) c_sheaflaw18_PairParts_9)
@[go_sem] theorem c_sheaflaw18_PairParts_10_at (rd : Option Nat) (K : Post3) (t : Fr) (m : Mem) : wpM E 12 50 rd c_sheaflaw18_PairParts_10 K t m = wpM E 12 50 rd (.seq (.ops [⟨(some 28), .move (.tmp 3), none⟩,
    ⟨(some 29), .call ⟨.value (.func 34), #[(.tmp 28)], #[40]⟩, none⟩,
    ⟨(some 27), .move (.tmp 29), none⟩,
    ⟨(some 30), .extract (.tmp 27) 0, none⟩,
    ⟨(some 31), .extract (.tmp 27) 1, none⟩,
    ⟨(some 5), .assign (.tmp 30), none⟩,
    ⟨(some 6), .assign (.tmp 31), none⟩]) c_sheaflaw18_PairParts_9) K t m := rfl

def c_sheaflaw18_PairParts_11 : MC := (.seq c_sheaflaw18_PairParts_7 c_sheaflaw18_PairParts_10)
@[go_sem] theorem c_sheaflaw18_PairParts_11_at (rd : Option Nat) (K : Post3) (t : Fr) (m : Mem) : wpM E 12 50 rd c_sheaflaw18_PairParts_11 K t m = wpM E 12 50 rd (.seq c_sheaflaw18_PairParts_7 c_sheaflaw18_PairParts_10) K t m := rfl

def c_sheaflaw18_PairParts_12 : MC := (.seq (.ops [⟨(some 3), .assign (.const (.slice none 0 0)), none⟩]) c_sheaflaw18_PairParts_11)
@[go_sem] theorem c_sheaflaw18_PairParts_12_at (rd : Option Nat) (K : Post3) (t : Fr) (m : Mem) : wpM E 12 50 rd c_sheaflaw18_PairParts_12 K t m = wpM E 12 50 rd (.seq (.ops [⟨(some 3), .assign (.const (.slice none 0 0)), none⟩]) c_sheaflaw18_PairParts_11) K t m := rfl

def c_sheaflaw18_PairParts_13 : MC := (.seq (.ops [⟨(some 2), .assign (.const (.bool false)), none⟩]) c_sheaflaw18_PairParts_12)
@[go_sem] theorem c_sheaflaw18_PairParts_13_at (rd : Option Nat) (K : Post3) (t : Fr) (m : Mem) : wpM E 12 50 rd c_sheaflaw18_PairParts_13 K t m = wpM E 12 50 rd (.seq (.ops [⟨(some 2), .assign (.const (.bool false)), none⟩]) c_sheaflaw18_PairParts_12) K t m := rfl

@[go_sem] theorem some12 : (E.fn 12).isSome = true := by kernel_rfl
set_option maxRecDepth 100000 in
theorem fn_sheaflaw18_PairParts : FnIs E 12 50 [.tmp 2] c_sheaflaw18_PairParts_13 := ⟨by kernel_rfl, by kernel_rfl⟩

/-! sheaf/sheaflaw18.PairSums -/
abbrev F_sheaflaw18_PairSums : FuncId := 13
def c_sheaflaw18_PairSums_0 : MC := (.cond (.tmp 22) .skip (.exit 0))
@[go_sem] theorem c_sheaflaw18_PairSums_0_at (rd : Option Nat) (K : Post3) (t : Fr) (m : Mem) : wpM E 13 125 rd c_sheaflaw18_PairSums_0 K t m = wpM E 13 125 rd (.cond (.tmp 22) .skip (.exit 0)) K t m := rfl

def c_sheaflaw18_PairSums_1 : MC := (.seq (.ops [⟨(some 15), .move (.tmp 7), none⟩,
    ⟨(some 16), .move (.tmp 0), none⟩,
    ⟨(some 17), .call ⟨.builtin .len, #[(.tmp 16)], #[44]⟩, none⟩,
    ⟨(some 18), .binOp .lss 3 (.tmp 15) (.tmp 17) 3, none⟩,
    ⟨(some 19), .move (.tmp 18), none⟩,
    ⟨(some 20), .move (.tmp 7), (some (some 19, true))⟩,
    ⟨(some 21), .binOp .lss 3 (.tmp 20) (.const (.int .i64 25)) 3, (some (some 19, true))⟩,
    ⟨(some 22), .pick (.tmp 19) (.tmp 21) (.const (.bool false)), none⟩]) c_sheaflaw18_PairSums_0)
@[go_sem] theorem c_sheaflaw18_PairSums_1_at (rd : Option Nat) (K : Post3) (t : Fr) (m : Mem) : wpM E 13 125 rd c_sheaflaw18_PairSums_1 K t m = wpM E 13 125 rd (.seq (.ops [⟨(some 15), .move (.tmp 7), none⟩,
    ⟨(some 16), .move (.tmp 0), none⟩,
    ⟨(some 17), .call ⟨.builtin .len, #[(.tmp 16)], #[44]⟩, none⟩,
    ⟨(some 18), .binOp .lss 3 (.tmp 15) (.tmp 17) 3, none⟩,
    ⟨(some 19), .move (.tmp 18), none⟩,
    ⟨(some 20), .move (.tmp 7), (some (some 19, true))⟩,
    ⟨(some 21), .binOp .lss 3 (.tmp 20) (.const (.int .i64 25)) 3, (some (some 19, true))⟩,
    ⟨(some 22), .pick (.tmp 19) (.tmp 21) (.const (.bool false)), none⟩]) c_sheaflaw18_PairSums_0) K t m := rfl

def c_sheaflaw18_PairSums_2 : MC := (.cond (.tmp 50) (.ops [⟨(some 51), .move (.tmp 6), none⟩,
    ⟨(some 52), .binOp .add 3 (.tmp 51) (.const (.int .i64 1)) 3, none⟩,
    ⟨(some 6), .assign (.tmp 52), none⟩]) .skip)
@[go_sem] theorem c_sheaflaw18_PairSums_2_at (rd : Option Nat) (K : Post3) (t : Fr) (m : Mem) : wpM E 13 125 rd c_sheaflaw18_PairSums_2 K t m = wpM E 13 125 rd (.cond (.tmp 50) (.ops [⟨(some 51), .move (.tmp 6), none⟩,
    ⟨(some 52), .binOp .add 3 (.tmp 51) (.const (.int .i64 1)) 3, none⟩,
    ⟨(some 6), .assign (.tmp 52), none⟩]) .skip) K t m := rfl

def c_sheaflaw18_PairSums_3 : MC := (.seq (.ops [⟨(some 47), .move (.tmp 9), none⟩,
    ⟨(some 48), .indexAddr 22 (.tmp 47) (.const (.int .i64 5)), none⟩,
    ⟨(some 49), .load 3 (.tmp 48), none⟩,
    ⟨(some 50), .binOp .eql 3 (.tmp 49) (.const (.int .i64 0)) 3, none⟩]) c_sheaflaw18_PairSums_2)
@[go_sem] theorem c_sheaflaw18_PairSums_3_at (rd : Option Nat) (K : Post3) (t : Fr) (m : Mem) : wpM E 13 125 rd c_sheaflaw18_PairSums_3 K t m = wpM E 13 125 rd (.seq (.ops [⟨(some 47), .move (.tmp 9), none⟩,
    ⟨(some 48), .indexAddr 22 (.tmp 47) (.const (.int .i64 5)), none⟩,
    ⟨(some 49), .load 3 (.tmp 48), none⟩,
    ⟨(some 50), .binOp .eql 3 (.tmp 49) (.const (.int .i64 0)) 3, none⟩]) c_sheaflaw18_PairSums_2) K t m := rfl

def c_sheaflaw18_PairSums_4 : MC := (.seq (.ops [⟨(some 39), .move (.tmp 9), none⟩,
    ⟨(some 40), .indexAddr 22 (.tmp 39) (.const (.int .i64 8)), none⟩,
    ⟨(some 41), .load 3 (.tmp 40), none⟩,
    ⟨(some 42), .indexAddr 72 (.tmp 4) (.tmp 41), none⟩,
    ⟨(some 43), .move (.tmp 9), none⟩,
    ⟨(some 44), .indexAddr 22 (.tmp 43) (.const (.int .i64 9)), none⟩,
    ⟨(some 45), .load 3 (.tmp 44), none⟩,
    ⟨(some 46), .call ⟨.value (.func 36), #[(.tmp 42), (.tmp 45)], #[71, 3]⟩, none⟩]) c_sheaflaw18_PairSums_3)
@[go_sem] theorem c_sheaflaw18_PairSums_4_at (rd : Option Nat) (K : Post3) (t : Fr) (m : Mem) : wpM E 13 125 rd c_sheaflaw18_PairSums_4 K t m = wpM E 13 125 rd (.seq (.ops [⟨(some 39), .move (.tmp 9), none⟩,
    ⟨(some 40), .indexAddr 22 (.tmp 39) (.const (.int .i64 8)), none⟩,
    ⟨(some 41), .load 3 (.tmp 40), none⟩,
    ⟨(some 42), .indexAddr 72 (.tmp 4) (.tmp 41), none⟩,
    ⟨(some 43), .move (.tmp 9), none⟩,
    ⟨(some 44), .indexAddr 22 (.tmp 43) (.const (.int .i64 9)), none⟩,
    ⟨(some 45), .load 3 (.tmp 44), none⟩,
    ⟨(some 46), .call ⟨.value (.func 36), #[(.tmp 42), (.tmp 45)], #[71, 3]⟩, none⟩]) c_sheaflaw18_PairSums_3) K t m := rfl

def c_sheaflaw18_PairSums_5 : MC := (.seq (.ops [⟨(some 35), .move (.tmp 3), none⟩,
    ⟨(some 36), .move (.tmp 9), none⟩,
    ⟨(some 37), .buildSlice 40 1 #[(0, (.tmp 36))], none⟩,
    ⟨(some 38), .call ⟨.builtin .append, #[(.tmp 35), (.tmp 37)], #[40, 40]⟩, none⟩,
    ⟨(some 3), .assign (.tmp 38), none⟩]) c_sheaflaw18_PairSums_4)
@[go_sem] theorem c_sheaflaw18_PairSums_5_at (rd : Option Nat) (K : Post3) (t : Fr) (m : Mem) : wpM E 13 125 rd c_sheaflaw18_PairSums_5 K t m = wpM E 13 125 rd (.seq (.ops [⟨(some 35), .move (.tmp 3), none⟩,
    ⟨(some 36), .move (.tmp 9), none⟩,
    ⟨(some 37), .buildSlice 40 1 #[(0, (.tmp 36))], none⟩,
    ⟨(some 38), .call ⟨.builtin .append, #[(.tmp 35), (.tmp 37)], #[40, 40]⟩, none⟩,
    ⟨(some 3), .assign (.tmp 38), none⟩]) c_sheaflaw18_PairSums_4) K t m := rfl

def c_sheaflaw18_PairSums_6 : MC := (.seq (.ops [⟨(some 33), .load 37 (.tmp 8), none⟩,
    ⟨(some 34), .call ⟨.value (.func 20), #[(.tmp 33)], #[37]⟩, none⟩,
    ⟨(some 9), .assign (.tmp 34), none⟩]) c_sheaflaw18_PairSums_5)
@[go_sem] theorem c_sheaflaw18_PairSums_6_at (rd : Option Nat) (K : Post3) (t : Fr) (m : Mem) : wpM E 13 125 rd c_sheaflaw18_PairSums_6 K t m = wpM E 13 125 rd (.seq (.ops [⟨(some 33), .load 37 (.tmp 8), none⟩,
    ⟨(some 34), .call ⟨.value (.func 20), #[(.tmp 33)], #[37]⟩, none⟩,
    ⟨(some 9), .assign (.tmp 34), none⟩]) c_sheaflaw18_PairSums_5) K t m := rfl

def c_sheaflaw18_PairSums_7 : MC := (.seq (.ops [⟨(some 29), .fieldAddr 37 (.tmp 8) 5, none⟩,
    ⟨(some 30), .load 3 (.tmp 29), none⟩,
    ⟨(some 31), .call ⟨.value (.func 25), #[(.tmp 30), (.const (.int .i64 (-1125899906842624))), (.const (.int .i64 1125899906842624))], #[3, 3, 3]⟩, none⟩,
    ⟨(some 32), .fieldAddr 37 (.tmp 8) 5, none⟩,
    ⟨none, .store 3 (.tmp 32) (.tmp 31), none⟩]) c_sheaflaw18_PairSums_6)
@[go_sem] theorem c_sheaflaw18_PairSums_7_at (rd : Option Nat) (K : Post3) (t : Fr) (m : Mem) : wpM E 13 125 rd c_sheaflaw18_PairSums_7 K t m = wpM E 13 125 rd (.seq (.ops [⟨(some 29), .fieldAddr 37 (.tmp 8) 5, none⟩,
    ⟨(some 30), .load 3 (.tmp 29), none⟩,
    ⟨(some 31), .call ⟨.value (.func 25), #[(.tmp 30), (.const (.int .i64 (-1125899906842624))), (.const (.int .i64 1125899906842624))], #[3, 3, 3]⟩, none⟩,
    ⟨(some 32), .fieldAddr 37 (.tmp 8) 5, none⟩,
    ⟨none, .store 3 (.tmp 32) (.tmp 31), none⟩]) c_sheaflaw18_PairSums_6) K t m := rfl

def c_sheaflaw18_PairSums_8 : MC := (.seq (.ops [⟨(some 25), .move (.tmp 0), none⟩,
    ⟨(some 26), .move (.tmp 7), none⟩,
    ⟨(some 27), .indexAddr 44 (.tmp 25) (.tmp 26), none⟩,
    ⟨(some 28), .load 37 (.tmp 27), none⟩,
    ⟨(some 8), .alloc 37, none⟩,
    ⟨none, .store 37 (.tmp 8) (.tmp 28), none⟩]) c_sheaflaw18_PairSums_7)
@[go_sem] theorem c_sheaflaw18_PairSums_8_at (rd : Option Nat) (K : Post3) (t : Fr) (m : Mem) : wpM E 13 125 rd c_sheaflaw18_PairSums_8 K t m = wpM E 13 125 rd (.seq (.ops [⟨(some 25), .move (.tmp 0), none⟩,
    ⟨(some 26), .move (.tmp 7), none⟩,
    ⟨(some 27), .indexAddr 44 (.tmp 25) (.tmp 26), none⟩,
    ⟨(some 28), .load 37 (.tmp 27), none⟩,
    ⟨(some 8), .alloc 37, none⟩,
    ⟨none, .store 37 (.tmp 8) (.tmp 28), none⟩]) c_sheaflaw18_PairSums_7) K t m := rfl

def c_sheaflaw18_PairSums_9 : MC := (.block 1 c_sheaflaw18_PairSums_8)
@[go_sem] theorem c_sheaflaw18_PairSums_9_at (rd : Option Nat) (K : Post3) (t : Fr) (m : Mem) : wpM E 13 125 rd c_sheaflaw18_PairSums_9 K t m = wpM E 13 125 rd (.block 1 c_sheaflaw18_PairSums_8) K t m := rfl

def c_sheaflaw18_PairSums_10 : MC := (.seq c_sheaflaw18_PairSums_9 (.ops [⟨(some 23), .move (.tmp 7), none⟩,
    ⟨(some 24), .binOp .add 3 (.tmp 23) (.const (.int .i64 1)) 3, none⟩,
    ⟨(some 7), .assign (.tmp 24), none⟩]))
@[go_sem] theorem c_sheaflaw18_PairSums_10_at (rd : Option Nat) (K : Post3) (t : Fr) (m : Mem) : wpM E 13 125 rd c_sheaflaw18_PairSums_10 K t m = wpM E 13 125 rd (.seq c_sheaflaw18_PairSums_9 (.ops [⟨(some 23), .move (.tmp 7), none⟩,
    ⟨(some 24), .binOp .add 3 (.tmp 23) (.const (.int .i64 1)) 3, none⟩,
    ⟨(some 7), .assign (.tmp 24), none⟩])) K t m := rfl

def c_sheaflaw18_PairSums_11 : MC := (.seq c_sheaflaw18_PairSums_1 c_sheaflaw18_PairSums_10)
@[go_sem] theorem c_sheaflaw18_PairSums_11_at (rd : Option Nat) (K : Post3) (t : Fr) (m : Mem) : wpM E 13 125 rd c_sheaflaw18_PairSums_11 K t m = wpM E 13 125 rd (.seq c_sheaflaw18_PairSums_1 c_sheaflaw18_PairSums_10) K t m := rfl

def c_sheaflaw18_PairSums_12 : MC := (.loop c_sheaflaw18_PairSums_11)
theorem c_sheaflaw18_PairSums_12_at (rd : Option Nat) (K : Post3) (t : Fr) (m : Mem) : wpM E 13 125 rd c_sheaflaw18_PairSums_12 K t m = wpM E 13 125 rd (.loop c_sheaflaw18_PairSums_11) K t m := rfl

def c_sheaflaw18_PairSums_13 : MC := (.block 0 c_sheaflaw18_PairSums_12)
theorem c_sheaflaw18_PairSums_13_at (rd : Option Nat) (K : Post3) (t : Fr) (m : Mem) : wpM E 13 125 rd c_sheaflaw18_PairSums_13 K t m = wpM E 13 125 rd (.block 0 c_sheaflaw18_PairSums_12) K t m := rfl

def c_sheaflaw18_PairSums_14 : MC := (.seq (.ops [⟨(some 7), .assign (.const (.int .i64 0)), none⟩]) c_sheaflaw18_PairSums_13)
@[go_sem] theorem c_sheaflaw18_PairSums_14_at (rd : Option Nat) (K : Post3) (t : Fr) (m : Mem) : wpM E 13 125 rd c_sheaflaw18_PairSums_14 K t m = wpM E 13 125 rd (.seq (.ops [⟨(some 7), .assign (.const (.int .i64 0)), none⟩]) c_sheaflaw18_PairSums_13) K t m := rfl

def c_sheaflaw18_PairSums_15 : MC := (.seq (.ops [⟨(some 2), .assign (.const (.bool false)), none⟩]) .ret)
@[go_sem] theorem c_sheaflaw18_PairSums_15_at (rd : Option Nat) (K : Post3) (t : Fr) (m : Mem) : wpM E 13 125 rd c_sheaflaw18_PairSums_15 K t m = wpM E 13 125 rd (.seq (.ops [⟨(some 2), .assign (.const (.bool false)), none⟩]) .ret) K t m := rfl

def c_sheaflaw18_PairSums_16 : MC := (.cond (.tmp 72) c_sheaflaw18_PairSums_15 .skip)
@[go_sem] theorem c_sheaflaw18_PairSums_16_at (rd : Option Nat) (K : Post3) (t : Fr) (m : Mem) : wpM E 13 125 rd c_sheaflaw18_PairSums_16 K t m = wpM E 13 125 rd (.cond (.tmp 72) c_sheaflaw18_PairSums_15 .skip) K t m := rfl

def c_sheaflaw18_PairSums_17 : MC := (.seq (.ops [⟨(some 58), .move (.tmp 11), none⟩,
    ⟨(some 59), .unOp .not 4 (.tmp 58), none⟩,
    ⟨(some 60), .move (.tmp 59), none⟩,
    ⟨(some 61), .move (.tmp 10), (some (some 60, false))⟩,
    ⟨(some 62), .call ⟨.builtin .len, #[(.tmp 61)], #[40]⟩, (some (some 60, false))⟩,
    ⟨(some 63), .move (.tmp 6), (some (some 60, false))⟩,
    ⟨(some 64), .binOp .lss 3 (.tmp 62) (.tmp 63) 3, (some (some 60, false))⟩,
    ⟨(some 65), .pick (.tmp 60) (.const (.bool true)) (.tmp 64), none⟩,
    ⟨(some 66), .move (.tmp 65), none⟩,
    ⟨(some 67), .move (.tmp 10), (some (some 66, false))⟩,
    ⟨(some 68), .call ⟨.builtin .len, #[(.tmp 67)], #[40]⟩, (some (some 66, false))⟩,
    ⟨(some 69), .move (.tmp 3), (some (some 66, false))⟩,
    ⟨(some 70), .call ⟨.builtin .len, #[(.tmp 69)], #[40]⟩, (some (some 66, false))⟩,
    ⟨(some 71), .binOp .gtr 3 (.tmp 68) (.tmp 70) 3, (some (some 66, false))⟩,
    ⟨(some 72), .pick (.tmp 66) (.const (.bool true)) (.tmp 71), none⟩]) c_sheaflaw18_PairSums_16)
@[go_sem] theorem c_sheaflaw18_PairSums_17_at (rd : Option Nat) (K : Post3) (t : Fr) (m : Mem) : wpM E 13 125 rd c_sheaflaw18_PairSums_17 K t m = wpM E 13 125 rd (.seq (.ops [⟨(some 58), .move (.tmp 11), none⟩,
    ⟨(some 59), .unOp .not 4 (.tmp 58), none⟩,
    ⟨(some 60), .move (.tmp 59), none⟩,
    ⟨(some 61), .move (.tmp 10), (some (some 60, false))⟩,
    ⟨(some 62), .call ⟨.builtin .len, #[(.tmp 61)], #[40]⟩, (some (some 60, false))⟩,
    ⟨(some 63), .move (.tmp 6), (some (some 60, false))⟩,
    ⟨(some 64), .binOp .lss 3 (.tmp 62) (.tmp 63) 3, (some (some 60, false))⟩,
    ⟨(some 65), .pick (.tmp 60) (.const (.bool true)) (.tmp 64), none⟩,
    ⟨(some 66), .move (.tmp 65), none⟩,
    ⟨(some 67), .move (.tmp 10), (some (some 66, false))⟩,
    ⟨(some 68), .call ⟨.builtin .len, #[(.tmp 67)], #[40]⟩, (some (some 66, false))⟩,
    ⟨(some 69), .move (.tmp 3), (some (some 66, false))⟩,
    ⟨(some 70), .call ⟨.builtin .len, #[(.tmp 69)], #[40]⟩, (some (some 66, false))⟩,
    ⟨(some 71), .binOp .gtr 3 (.tmp 68) (.tmp 70) 3, (some (some 66, false))⟩,
    ⟨(some 72), .pick (.tmp 66) (.const (.bool true)) (.tmp 71), none⟩]) c_sheaflaw18_PairSums_16) K t m := rfl

def c_sheaflaw18_PairSums_18 : MC := (.cond (.tmp 76) .skip (.exit 2))
@[go_sem] theorem c_sheaflaw18_PairSums_18_at (rd : Option Nat) (K : Post3) (t : Fr) (m : Mem) : wpM E 13 125 rd c_sheaflaw18_PairSums_18 K t m = wpM E 13 125 rd (.cond (.tmp 76) .skip (.exit 2)) K t m := rfl

def c_sheaflaw18_PairSums_19 : MC := (.seq (.ops [⟨(some 2), .assign (.const (.bool false)), none⟩]) .ret)
@[go_sem] theorem c_sheaflaw18_PairSums_19_at (rd : Option Nat) (K : Post3) (t : Fr) (m : Mem) : wpM E 13 125 rd c_sheaflaw18_PairSums_19 K t m = wpM E 13 125 rd (.seq (.ops [⟨(some 2), .assign (.const (.bool false)), none⟩]) .ret) K t m := rfl

def c_sheaflaw18_PairSums_20 : MC := (.cond (.tmp 103) c_sheaflaw18_PairSums_19 .skip)
@[go_sem] theorem c_sheaflaw18_PairSums_20_at (rd : Option Nat) (K : Post3) (t : Fr) (m : Mem) : wpM E 13 125 rd c_sheaflaw18_PairSums_20 K t m = wpM E 13 125 rd (.cond (.tmp 103) c_sheaflaw18_PairSums_19 .skip) K t m := rfl

def c_sheaflaw18_PairSums_21 : MC := (.seq (.ops [⟨(some 79), .move (.tmp 13), none⟩,
    ⟨(some 80), .call ⟨.builtin .len, #[(.tmp 79)], #[22]⟩, none⟩,
    ⟨(some 81), .binOp .neq 3 (.tmp 80) (.const (.int .i64 4)) 3, none⟩,
    ⟨(some 82), .move (.tmp 81), none⟩,
    ⟨(some 83), .move (.tmp 13), (some (some 82, false))⟩,
    ⟨(some 84), .indexAddr 22 (.tmp 83) (.const (.int .i64 2)), (some (some 82, false))⟩,
    ⟨(some 85), .load 3 (.tmp 84), (some (some 82, false))⟩,
    ⟨(some 86), .binOp .lss 3 (.tmp 85) (.const (.int .i64 1)) 3, (some (some 82, false))⟩,
    ⟨(some 87), .pick (.tmp 82) (.const (.bool true)) (.tmp 86), none⟩,
    ⟨(some 88), .move (.tmp 87), none⟩,
    ⟨(some 89), .move (.tmp 13), (some (some 88, false))⟩,
    ⟨(some 90), .indexAddr 22 (.tmp 89) (.const (.int .i64 2)), (some (some 88, false))⟩,
    ⟨(some 91), .load 3 (.tmp 90), (some (some 88, false))⟩,
    ⟨(some 92), .binOp .gtr 3 (.tmp 91) (.const (.int .i64 3)) 3, (some (some 88, false))⟩,
    ⟨(some 93), .pick (.tmp 88) (.const (.bool true)) (.tmp 92), none⟩,
    ⟨(some 94), .move (.tmp 93), none⟩,
    ⟨(some 95), .move (.tmp 13), (some (some 94, false))⟩,
    ⟨(some 96), .indexAddr 22 (.tmp 95) (.const (.int .i64 1)), (some (some 94, false))⟩,
    ⟨(some 97), .load 3 (.tmp 96), (some (some 94, false))⟩,
    ⟨(some 98), .move (.tmp 13), (some (some 94, false))⟩,
    ⟨(some 99), .indexAddr 22 (.tmp 98) (.const (.int .i64 0)), (some (some 94, false))⟩,
    ⟨(some 100), .load 3 (.tmp 99), (some (some 94, false))⟩,
    ⟨(some 101), .binOp .mul 3 (.const (.int .i64 1000)) (.tmp 100) 3, (some (some 94, false))⟩,
    ⟨(some 102), .binOp .neq 3 (.tmp 97) (.tmp 101) 3, (some (some 94, false))⟩,
    ⟨(some 103), .pick (.tmp 94) (.const (.bool true)) (.tmp 102), none⟩]) c_sheaflaw18_PairSums_20)
@[go_sem] theorem c_sheaflaw18_PairSums_21_at (rd : Option Nat) (K : Post3) (t : Fr) (m : Mem) : wpM E 13 125 rd c_sheaflaw18_PairSums_21 K t m = wpM E 13 125 rd (.seq (.ops [⟨(some 79), .move (.tmp 13), none⟩,
    ⟨(some 80), .call ⟨.builtin .len, #[(.tmp 79)], #[22]⟩, none⟩,
    ⟨(some 81), .binOp .neq 3 (.tmp 80) (.const (.int .i64 4)) 3, none⟩,
    ⟨(some 82), .move (.tmp 81), none⟩,
    ⟨(some 83), .move (.tmp 13), (some (some 82, false))⟩,
    ⟨(some 84), .indexAddr 22 (.tmp 83) (.const (.int .i64 2)), (some (some 82, false))⟩,
    ⟨(some 85), .load 3 (.tmp 84), (some (some 82, false))⟩,
    ⟨(some 86), .binOp .lss 3 (.tmp 85) (.const (.int .i64 1)) 3, (some (some 82, false))⟩,
    ⟨(some 87), .pick (.tmp 82) (.const (.bool true)) (.tmp 86), none⟩,
    ⟨(some 88), .move (.tmp 87), none⟩,
    ⟨(some 89), .move (.tmp 13), (some (some 88, false))⟩,
    ⟨(some 90), .indexAddr 22 (.tmp 89) (.const (.int .i64 2)), (some (some 88, false))⟩,
    ⟨(some 91), .load 3 (.tmp 90), (some (some 88, false))⟩,
    ⟨(some 92), .binOp .gtr 3 (.tmp 91) (.const (.int .i64 3)) 3, (some (some 88, false))⟩,
    ⟨(some 93), .pick (.tmp 88) (.const (.bool true)) (.tmp 92), none⟩,
    ⟨(some 94), .move (.tmp 93), none⟩,
    ⟨(some 95), .move (.tmp 13), (some (some 94, false))⟩,
    ⟨(some 96), .indexAddr 22 (.tmp 95) (.const (.int .i64 1)), (some (some 94, false))⟩,
    ⟨(some 97), .load 3 (.tmp 96), (some (some 94, false))⟩,
    ⟨(some 98), .move (.tmp 13), (some (some 94, false))⟩,
    ⟨(some 99), .indexAddr 22 (.tmp 98) (.const (.int .i64 0)), (some (some 94, false))⟩,
    ⟨(some 100), .load 3 (.tmp 99), (some (some 94, false))⟩,
    ⟨(some 101), .binOp .mul 3 (.const (.int .i64 1000)) (.tmp 100) 3, (some (some 94, false))⟩,
    ⟨(some 102), .binOp .neq 3 (.tmp 97) (.tmp 101) 3, (some (some 94, false))⟩,
    ⟨(some 103), .pick (.tmp 94) (.const (.bool true)) (.tmp 102), none⟩]) c_sheaflaw18_PairSums_20) K t m := rfl

def c_sheaflaw18_PairSums_22 : MC := (.seq c_sheaflaw18_PairSums_21 (.ops [⟨(some 104), .move (.tmp 13), none⟩,
    ⟨(some 105), .indexAddr 22 (.tmp 104) (.const (.int .i64 2)), none⟩,
    ⟨(some 106), .load 3 (.tmp 105), none⟩,
    ⟨(some 107), .indexAddr 72 (.tmp 5) (.tmp 106), none⟩,
    ⟨(some 108), .move (.tmp 13), none⟩,
    ⟨(some 109), .indexAddr 22 (.tmp 108) (.const (.int .i64 3)), none⟩,
    ⟨(some 110), .load 3 (.tmp 109), none⟩,
    ⟨(some 111), .call ⟨.value (.func 36), #[(.tmp 107), (.tmp 110)], #[71, 3]⟩, none⟩]))
@[go_sem] theorem c_sheaflaw18_PairSums_22_at (rd : Option Nat) (K : Post3) (t : Fr) (m : Mem) : wpM E 13 125 rd c_sheaflaw18_PairSums_22 K t m = wpM E 13 125 rd (.seq c_sheaflaw18_PairSums_21 (.ops [⟨(some 104), .move (.tmp 13), none⟩,
    ⟨(some 105), .indexAddr 22 (.tmp 104) (.const (.int .i64 2)), none⟩,
    ⟨(some 106), .load 3 (.tmp 105), none⟩,
    ⟨(some 107), .indexAddr 72 (.tmp 5) (.tmp 106), none⟩,
    ⟨(some 108), .move (.tmp 13), none⟩,
    ⟨(some 109), .indexAddr 22 (.tmp 108) (.const (.int .i64 3)), none⟩,
    ⟨(some 110), .load 3 (.tmp 109), none⟩,
    ⟨(some 111), .call ⟨.value (.func 36), #[(.tmp 107), (.tmp 110)], #[71, 3]⟩, none⟩])) K t m := rfl

def c_sheaflaw18_PairSums_23 : MC := (.seq (.ops [⟨(some 77), .indexAddr 40 (.tmp 73) (.tmp 75), none⟩,
    ⟨(some 78), .load 22 (.tmp 77), none⟩,
    ⟨(some 13), .assign (.tmp 78), none⟩]) c_sheaflaw18_PairSums_22)
@[go_sem] theorem c_sheaflaw18_PairSums_23_at (rd : Option Nat) (K : Post3) (t : Fr) (m : Mem) : wpM E 13 125 rd c_sheaflaw18_PairSums_23 K t m = wpM E 13 125 rd (.seq (.ops [⟨(some 77), .indexAddr 40 (.tmp 73) (.tmp 75), none⟩,
    ⟨(some 78), .load 22 (.tmp 77), none⟩,
    ⟨(some 13), .assign (.tmp 78), none⟩]) c_sheaflaw18_PairSums_22) K t m := rfl

def c_sheaflaw18_PairSums_24 : MC := (.block 3 c_sheaflaw18_PairSums_23)
@[go_sem] theorem c_sheaflaw18_PairSums_24_at (rd : Option Nat) (K : Post3) (t : Fr) (m : Mem) : wpM E 13 125 rd c_sheaflaw18_PairSums_24 K t m = wpM E 13 125 rd (.block 3 c_sheaflaw18_PairSums_23) K t m := rfl

def c_sheaflaw18_PairSums_25 : MC := (.seq c_sheaflaw18_PairSums_24 (.ops [⟨(some 112), .binOp .add 3 (.tmp 75) (.const (.int .i64 1)) 3, none⟩,
    ⟨(some 75), .move (.tmp 112), none⟩]))
@[go_sem] theorem c_sheaflaw18_PairSums_25_at (rd : Option Nat) (K : Post3) (t : Fr) (m : Mem) : wpM E 13 125 rd c_sheaflaw18_PairSums_25 K t m = wpM E 13 125 rd (.seq c_sheaflaw18_PairSums_24 (.ops [⟨(some 112), .binOp .add 3 (.tmp 75) (.const (.int .i64 1)) 3, none⟩,
    ⟨(some 75), .move (.tmp 112), none⟩])) K t m := rfl

def c_sheaflaw18_PairSums_26 : MC := (.seq c_sheaflaw18_PairSums_18 c_sheaflaw18_PairSums_25)
@[go_sem] theorem c_sheaflaw18_PairSums_26_at (rd : Option Nat) (K : Post3) (t : Fr) (m : Mem) : wpM E 13 125 rd c_sheaflaw18_PairSums_26 K t m = wpM E 13 125 rd (.seq c_sheaflaw18_PairSums_18 c_sheaflaw18_PairSums_25) K t m := rfl

def c_sheaflaw18_PairSums_27 : MC := (.seq (.ops [⟨(some 76), .binOp .lss 3 (.tmp 75) (.tmp 74) 3, none⟩]) c_sheaflaw18_PairSums_26)
@[go_sem] theorem c_sheaflaw18_PairSums_27_at (rd : Option Nat) (K : Post3) (t : Fr) (m : Mem) : wpM E 13 125 rd c_sheaflaw18_PairSums_27 K t m = wpM E 13 125 rd (.seq (.ops [⟨(some 76), .binOp .lss 3 (.tmp 75) (.tmp 74) 3, none⟩]) c_sheaflaw18_PairSums_26) K t m := rfl

def c_sheaflaw18_PairSums_28 : MC := (.loop c_sheaflaw18_PairSums_27)
theorem c_sheaflaw18_PairSums_28_at (rd : Option Nat) (K : Post3) (t : Fr) (m : Mem) : wpM E 13 125 rd c_sheaflaw18_PairSums_28 K t m = wpM E 13 125 rd (.loop c_sheaflaw18_PairSums_27) K t m := rfl

def c_sheaflaw18_PairSums_29 : MC := (.block 2 c_sheaflaw18_PairSums_28)
theorem c_sheaflaw18_PairSums_29_at (rd : Option Nat) (K : Post3) (t : Fr) (m : Mem) : wpM E 13 125 rd c_sheaflaw18_PairSums_29 K t m = wpM E 13 125 rd (.block 2 c_sheaflaw18_PairSums_28) K t m := rfl

def c_sheaflaw18_PairSums_30 : MC := (.seq (.ops [⟨(some 73), .move (.tmp 10), none⟩,
    ⟨(some 74), .call ⟨.builtin .len, #[(.tmp 73)], #[40]⟩, none⟩,
    ⟨(some 75), .move (.const (.int .i64 0)), none⟩]) c_sheaflaw18_PairSums_29)
@[go_sem] theorem c_sheaflaw18_PairSums_30_at (rd : Option Nat) (K : Post3) (t : Fr) (m : Mem) : wpM E 13 125 rd c_sheaflaw18_PairSums_30 K t m = wpM E 13 125 rd (.seq (.ops [⟨(some 73), .move (.tmp 10), none⟩,
    ⟨(some 74), .call ⟨.builtin .len, #[(.tmp 73)], #[40]⟩, none⟩,
    ⟨(some 75), .move (.const (.int .i64 0)), none⟩]) c_sheaflaw18_PairSums_29) K t m := rfl

def c_sheaflaw18_PairSums_31 : MC := (.cond (.tmp 114) .skip (.exit 4))
@[go_sem] theorem c_sheaflaw18_PairSums_31_at (rd : Option Nat) (K : Post3) (t : Fr) (m : Mem) : wpM E 13 125 rd c_sheaflaw18_PairSums_31 K t m = wpM E 13 125 rd (.cond (.tmp 114) .skip (.exit 4)) K t m := rfl

def c_sheaflaw18_PairSums_32 : MC := (.seq (.ops [⟨(some 2), .assign (.const (.bool false)), none⟩]) .ret)
@[go_sem] theorem c_sheaflaw18_PairSums_32_at (rd : Option Nat) (K : Post3) (t : Fr) (m : Mem) : wpM E 13 125 rd c_sheaflaw18_PairSums_32 K t m = wpM E 13 125 rd (.seq (.ops [⟨(some 2), .assign (.const (.bool false)), none⟩]) .ret) K t m := rfl

def c_sheaflaw18_PairSums_33 : MC := (.cond (.tmp 122) c_sheaflaw18_PairSums_32 .skip)
@[go_sem] theorem c_sheaflaw18_PairSums_33_at (rd : Option Nat) (K : Post3) (t : Fr) (m : Mem) : wpM E 13 125 rd c_sheaflaw18_PairSums_33 K t m = wpM E 13 125 rd (.cond (.tmp 122) c_sheaflaw18_PairSums_32 .skip) K t m := rfl

def c_sheaflaw18_PairSums_34 : MC := (.seq (.ops [⟨(some 116), .move (.tmp 14), none⟩,
    ⟨(some 117), .indexAddr 72 (.tmp 4) (.tmp 116), none⟩,
    ⟨(some 118), .call ⟨.value (.func 37), #[(.tmp 117)], #[71]⟩, none⟩,
    ⟨(some 119), .move (.tmp 14), none⟩,
    ⟨(some 120), .indexAddr 72 (.tmp 5) (.tmp 119), none⟩,
    ⟨(some 121), .call ⟨.value (.func 37), #[(.tmp 120)], #[71]⟩, none⟩,
    ⟨(some 122), .binOp .neq 27 (.tmp 118) (.tmp 121) 27, none⟩]) c_sheaflaw18_PairSums_33)
@[go_sem] theorem c_sheaflaw18_PairSums_34_at (rd : Option Nat) (K : Post3) (t : Fr) (m : Mem) : wpM E 13 125 rd c_sheaflaw18_PairSums_34 K t m = wpM E 13 125 rd (.seq (.ops [⟨(some 116), .move (.tmp 14), none⟩,
    ⟨(some 117), .indexAddr 72 (.tmp 4) (.tmp 116), none⟩,
    ⟨(some 118), .call ⟨.value (.func 37), #[(.tmp 117)], #[71]⟩, none⟩,
    ⟨(some 119), .move (.tmp 14), none⟩,
    ⟨(some 120), .indexAddr 72 (.tmp 5) (.tmp 119), none⟩,
    ⟨(some 121), .call ⟨.value (.func 37), #[(.tmp 120)], #[71]⟩, none⟩,
    ⟨(some 122), .binOp .neq 27 (.tmp 118) (.tmp 121) 27, none⟩]) c_sheaflaw18_PairSums_33) K t m := rfl

def c_sheaflaw18_PairSums_35 : MC := (.seq (.ops [⟨(some 115), .move (.tmp 113), none⟩,
    ⟨(some 14), .assign (.tmp 115), none⟩]) c_sheaflaw18_PairSums_34)
@[go_sem] theorem c_sheaflaw18_PairSums_35_at (rd : Option Nat) (K : Post3) (t : Fr) (m : Mem) : wpM E 13 125 rd c_sheaflaw18_PairSums_35 K t m = wpM E 13 125 rd (.seq (.ops [⟨(some 115), .move (.tmp 113), none⟩,
    ⟨(some 14), .assign (.tmp 115), none⟩]) c_sheaflaw18_PairSums_34) K t m := rfl

def c_sheaflaw18_PairSums_36 : MC := (.block 5 c_sheaflaw18_PairSums_35)
@[go_sem] theorem c_sheaflaw18_PairSums_36_at (rd : Option Nat) (K : Post3) (t : Fr) (m : Mem) : wpM E 13 125 rd c_sheaflaw18_PairSums_36 K t m = wpM E 13 125 rd (.block 5 c_sheaflaw18_PairSums_35) K t m := rfl

def c_sheaflaw18_PairSums_37 : MC := (.seq c_sheaflaw18_PairSums_36 (.ops [⟨(some 123), .binOp .add 3 (.tmp 113) (.const (.int .i64 1)) 3, none⟩,
    ⟨(some 113), .move (.tmp 123), none⟩]))
@[go_sem] theorem c_sheaflaw18_PairSums_37_at (rd : Option Nat) (K : Post3) (t : Fr) (m : Mem) : wpM E 13 125 rd c_sheaflaw18_PairSums_37 K t m = wpM E 13 125 rd (.seq c_sheaflaw18_PairSums_36 (.ops [⟨(some 123), .binOp .add 3 (.tmp 113) (.const (.int .i64 1)) 3, none⟩,
    ⟨(some 113), .move (.tmp 123), none⟩])) K t m := rfl

def c_sheaflaw18_PairSums_38 : MC := (.seq c_sheaflaw18_PairSums_31 c_sheaflaw18_PairSums_37)
@[go_sem] theorem c_sheaflaw18_PairSums_38_at (rd : Option Nat) (K : Post3) (t : Fr) (m : Mem) : wpM E 13 125 rd c_sheaflaw18_PairSums_38 K t m = wpM E 13 125 rd (.seq c_sheaflaw18_PairSums_31 c_sheaflaw18_PairSums_37) K t m := rfl

def c_sheaflaw18_PairSums_39 : MC := (.seq (.ops [⟨(some 114), .binOp .lss 3 (.tmp 113) (.const (.int .i64 4)) 3, none⟩]) c_sheaflaw18_PairSums_38)
@[go_sem] theorem c_sheaflaw18_PairSums_39_at (rd : Option Nat) (K : Post3) (t : Fr) (m : Mem) : wpM E 13 125 rd c_sheaflaw18_PairSums_39 K t m = wpM E 13 125 rd (.seq (.ops [⟨(some 114), .binOp .lss 3 (.tmp 113) (.const (.int .i64 4)) 3, none⟩]) c_sheaflaw18_PairSums_38) K t m := rfl

def c_sheaflaw18_PairSums_40 : MC := (.loop c_sheaflaw18_PairSums_39)
theorem c_sheaflaw18_PairSums_40_at (rd : Option Nat) (K : Post3) (t : Fr) (m : Mem) : wpM E 13 125 rd c_sheaflaw18_PairSums_40 K t m = wpM E 13 125 rd (.loop c_sheaflaw18_PairSums_39) K t m := rfl

def c_sheaflaw18_PairSums_41 : MC := (.block 4 c_sheaflaw18_PairSums_40)
theorem c_sheaflaw18_PairSums_41_at (rd : Option Nat) (K : Post3) (t : Fr) (m : Mem) : wpM E 13 125 rd c_sheaflaw18_PairSums_41 K t m = wpM E 13 125 rd (.block 4 c_sheaflaw18_PairSums_40) K t m := rfl

def c_sheaflaw18_PairSums_42 : MC := (.seq (.ops [⟨(some 113), .move (.const (.int .i64 0)), none⟩]) c_sheaflaw18_PairSums_41)
@[go_sem] theorem c_sheaflaw18_PairSums_42_at (rd : Option Nat) (K : Post3) (t : Fr) (m : Mem) : wpM E 13 125 rd c_sheaflaw18_PairSums_42 K t m = wpM E 13 125 rd (.seq (.ops [⟨(some 113), .move (.const (.int .i64 0)), none⟩]) c_sheaflaw18_PairSums_41) K t m := rfl

def c_sheaflaw18_PairSums_43 : MC := (.seq (.ops [⟨(some 124), .call ⟨.value (.func 3), #[], #[]⟩, none⟩,
    ⟨(some 2), .assign (.tmp 124), none⟩]) .ret)
@[go_sem] theorem c_sheaflaw18_PairSums_43_at (rd : Option Nat) (K : Post3) (t : Fr) (m : Mem) : wpM E 13 125 rd c_sheaflaw18_PairSums_43 K t m = wpM E 13 125 rd (.seq (.ops [⟨(some 124), .call ⟨.value (.func 3), #[], #[]⟩, none⟩,
    ⟨(some 2), .assign (.tmp 124), none⟩]) .ret) K t m := rfl

def c_sheaflaw18_PairSums_44 : MC := (.seq c_sheaflaw18_PairSums_42 c_sheaflaw18_PairSums_43)
@[go_sem] theorem c_sheaflaw18_PairSums_44_at (rd : Option Nat) (K : Post3) (t : Fr) (m : Mem) : wpM E 13 125 rd c_sheaflaw18_PairSums_44 K t m = wpM E 13 125 rd (.seq c_sheaflaw18_PairSums_42 c_sheaflaw18_PairSums_43) K t m := rfl

def c_sheaflaw18_PairSums_45 : MC := (.seq c_sheaflaw18_PairSums_30 c_sheaflaw18_PairSums_44)
@[go_sem] theorem c_sheaflaw18_PairSums_45_at (rd : Option Nat) (K : Post3) (t : Fr) (m : Mem) : wpM E 13 125 rd c_sheaflaw18_PairSums_45 K t m = wpM E 13 125 rd (.seq c_sheaflaw18_PairSums_30 c_sheaflaw18_PairSums_44) K t m := rfl

def c_sheaflaw18_PairSums_46 : MC := (.seq c_sheaflaw18_PairSums_17 c_sheaflaw18_PairSums_45)
@[go_sem] theorem c_sheaflaw18_PairSums_46_at (rd : Option Nat) (K : Post3) (t : Fr) (m : Mem) : wpM E 13 125 rd c_sheaflaw18_PairSums_46 K t m = wpM E 13 125 rd (.seq c_sheaflaw18_PairSums_17 c_sheaflaw18_PairSums_45) K t m := rfl

def c_sheaflaw18_PairSums_47 : MC := (.seq (.ops [⟨(some 54), .move (.tmp 3), none⟩,
    ⟨(some 55), .call ⟨.value (.func 34), #[(.tmp 54)], #[40]⟩, none⟩,
    ⟨(some 53), .move (.tmp 55), none⟩,
    ⟨(some 56), .extract (.tmp 53) 0, none⟩,
    ⟨(some 57), .extract (.tmp 53) 1, none⟩,
    ⟨(some 10), .assign (.tmp 56), none⟩,
    ⟨(some 11), .assign (.tmp 57), none⟩]) c_sheaflaw18_PairSums_46)
@[go_sem] theorem c_sheaflaw18_PairSums_47_at (rd : Option Nat) (K : Post3) (t : Fr) (m : Mem) : wpM E 13 125 rd c_sheaflaw18_PairSums_47 K t m = wpM E 13 125 rd (.seq (.ops [⟨(some 54), .move (.tmp 3), none⟩,
    ⟨(some 55), .call ⟨.value (.func 34), #[(.tmp 54)], #[40]⟩, none⟩,
    ⟨(some 53), .move (.tmp 55), none⟩,
    ⟨(some 56), .extract (.tmp 53) 0, none⟩,
    ⟨(some 57), .extract (.tmp 53) 1, none⟩,
    ⟨(some 10), .assign (.tmp 56), none⟩,
    ⟨(some 11), .assign (.tmp 57), none⟩]) c_sheaflaw18_PairSums_46) K t m := rfl

def c_sheaflaw18_PairSums_48 : MC := (.seq c_sheaflaw18_PairSums_14 c_sheaflaw18_PairSums_47)
@[go_sem] theorem c_sheaflaw18_PairSums_48_at (rd : Option Nat) (K : Post3) (t : Fr) (m : Mem) : wpM E 13 125 rd c_sheaflaw18_PairSums_48 K t m = wpM E 13 125 rd (.seq c_sheaflaw18_PairSums_14 c_sheaflaw18_PairSums_47) K t m := rfl

def c_sheaflaw18_PairSums_49 : MC := (.seq (.ops [⟨(some 6), .assign (.const (.int .i64 0)), none⟩]) c_sheaflaw18_PairSums_48)
@[go_sem] theorem c_sheaflaw18_PairSums_49_at (rd : Option Nat) (K : Post3) (t : Fr) (m : Mem) : wpM E 13 125 rd c_sheaflaw18_PairSums_49 K t m = wpM E 13 125 rd (.seq (.ops [⟨(some 6), .assign (.const (.int .i64 0)), none⟩]) c_sheaflaw18_PairSums_48) K t m := rfl

def c_sheaflaw18_PairSums_50 : MC := (.seq (.ops [⟨(some 4), .alloc 72, none⟩,
    ⟨(some 5), .alloc 72, none⟩]) c_sheaflaw18_PairSums_49)
@[go_sem] theorem c_sheaflaw18_PairSums_50_at (rd : Option Nat) (K : Post3) (t : Fr) (m : Mem) : wpM E 13 125 rd c_sheaflaw18_PairSums_50 K t m = wpM E 13 125 rd (.seq (.ops [⟨(some 4), .alloc 72, none⟩,
    ⟨(some 5), .alloc 72, none⟩]) c_sheaflaw18_PairSums_49) K t m := rfl

def c_sheaflaw18_PairSums_51 : MC := (.seq (.ops [⟨(some 3), .assign (.const (.slice none 0 0)), none⟩]) c_sheaflaw18_PairSums_50)
@[go_sem] theorem c_sheaflaw18_PairSums_51_at (rd : Option Nat) (K : Post3) (t : Fr) (m : Mem) : wpM E 13 125 rd c_sheaflaw18_PairSums_51 K t m = wpM E 13 125 rd (.seq (.ops [⟨(some 3), .assign (.const (.slice none 0 0)), none⟩]) c_sheaflaw18_PairSums_50) K t m := rfl

def c_sheaflaw18_PairSums_52 : MC := (.seq (.ops [⟨(some 2), .assign (.const (.bool false)), none⟩]) c_sheaflaw18_PairSums_51)
@[go_sem] theorem c_sheaflaw18_PairSums_52_at (rd : Option Nat) (K : Post3) (t : Fr) (m : Mem) : wpM E 13 125 rd c_sheaflaw18_PairSums_52 K t m = wpM E 13 125 rd (.seq (.ops [⟨(some 2), .assign (.const (.bool false)), none⟩]) c_sheaflaw18_PairSums_51) K t m := rfl

@[go_sem] theorem some13 : (E.fn 13).isSome = true := by kernel_rfl
set_option maxRecDepth 100000 in
theorem fn_sheaflaw18_PairSums : FnIs E 13 125 [.tmp 2] c_sheaflaw18_PairSums_52 := ⟨by kernel_rfl, by kernel_rfl⟩

/-! sheaf/sheaflaw18.PairTwice -/
abbrev F_sheaflaw18_PairTwice : FuncId := 14
def c_sheaflaw18_PairTwice_0 : MC := (.seq (.ops [⟨(some 49), .load 27 (.tmp 11), none⟩,
    ⟨(some 50), .load 27 (.tmp 9), none⟩,
    ⟨(some 51), .binOp .eql 27 (.tmp 49) (.tmp 50) 27, none⟩,
    ⟨(some 52), .move (.tmp 51), none⟩,
    ⟨(some 53), .load 27 (.tmp 12), (some (some 52, true))⟩,
    ⟨(some 54), .load 27 (.tmp 10), (some (some 52, true))⟩,
    ⟨(some 55), .binOp .eql 27 (.tmp 53) (.tmp 54) 27, (some (some 52, true))⟩,
    ⟨(some 56), .pick (.tmp 52) (.tmp 55) (.const (.bool false)), none⟩,
    ⟨(some 57), .move (.tmp 56), none⟩,
    ⟨(some 58), .move (.tmp 16), (some (some 57, true))⟩,
    ⟨(some 59), .pick (.tmp 57) (.tmp 58) (.const (.bool false)), none⟩,
    ⟨(some 60), .move (.tmp 59), none⟩,
    ⟨(some 61), .move (.tmp 15), (some (some 60, true))⟩,
    ⟨(some 62), .buildSlice 22 4 #[(0, (.const (.int .i64 1))), (1, (.const (.int .i64 1000))), (2, (.const (.int .i64 2))), (3, (.const (.int .i64 0)))], (some (some 60, true))⟩,
    ⟨(some 63), .buildSlice 22 4 #[(0, (.const (.int .i64 2))), (1, (.const (.int .i64 2000))), (2, (.const (.int .i64 2))), (3, (.const (.int .i64 0)))], (some (some 60, true))⟩,
    ⟨(some 64), .buildSlice 40 2 #[(0, (.tmp 62)), (1, (.tmp 63))], (some (some 60, true))⟩,
    ⟨(some 65), .call ⟨.value (.func 22), #[(.tmp 61), (.tmp 64)], #[40, 40]⟩, (some (some 60, true))⟩,
    ⟨(some 66), .pick (.tmp 60) (.tmp 65) (.const (.bool false)), none⟩,
    ⟨(some 67), .move (.tmp 66), none⟩,
    ⟨(some 68), .call ⟨.value (.func 3), #[], #[]⟩, (some (some 67, true))⟩,
    ⟨(some 69), .pick (.tmp 67) (.tmp 68) (.const (.bool false)), none⟩,
    ⟨(some 6), .assign (.tmp 69), none⟩]) .ret)
@[go_sem] theorem c_sheaflaw18_PairTwice_0_at (rd : Option Nat) (K : Post3) (t : Fr) (m : Mem) : wpM E 14 70 rd c_sheaflaw18_PairTwice_0 K t m = wpM E 14 70 rd (.seq (.ops [⟨(some 49), .load 27 (.tmp 11), none⟩,
    ⟨(some 50), .load 27 (.tmp 9), none⟩,
    ⟨(some 51), .binOp .eql 27 (.tmp 49) (.tmp 50) 27, none⟩,
    ⟨(some 52), .move (.tmp 51), none⟩,
    ⟨(some 53), .load 27 (.tmp 12), (some (some 52, true))⟩,
    ⟨(some 54), .load 27 (.tmp 10), (some (some 52, true))⟩,
    ⟨(some 55), .binOp .eql 27 (.tmp 53) (.tmp 54) 27, (some (some 52, true))⟩,
    ⟨(some 56), .pick (.tmp 52) (.tmp 55) (.const (.bool false)), none⟩,
    ⟨(some 57), .move (.tmp 56), none⟩,
    ⟨(some 58), .move (.tmp 16), (some (some 57, true))⟩,
    ⟨(some 59), .pick (.tmp 57) (.tmp 58) (.const (.bool false)), none⟩,
    ⟨(some 60), .move (.tmp 59), none⟩,
    ⟨(some 61), .move (.tmp 15), (some (some 60, true))⟩,
    ⟨(some 62), .buildSlice 22 4 #[(0, (.const (.int .i64 1))), (1, (.const (.int .i64 1000))), (2, (.const (.int .i64 2))), (3, (.const (.int .i64 0)))], (some (some 60, true))⟩,
    ⟨(some 63), .buildSlice 22 4 #[(0, (.const (.int .i64 2))), (1, (.const (.int .i64 2000))), (2, (.const (.int .i64 2))), (3, (.const (.int .i64 0)))], (some (some 60, true))⟩,
    ⟨(some 64), .buildSlice 40 2 #[(0, (.tmp 62)), (1, (.tmp 63))], (some (some 60, true))⟩,
    ⟨(some 65), .call ⟨.value (.func 22), #[(.tmp 61), (.tmp 64)], #[40, 40]⟩, (some (some 60, true))⟩,
    ⟨(some 66), .pick (.tmp 60) (.tmp 65) (.const (.bool false)), none⟩,
    ⟨(some 67), .move (.tmp 66), none⟩,
    ⟨(some 68), .call ⟨.value (.func 3), #[], #[]⟩, (some (some 67, true))⟩,
    ⟨(some 69), .pick (.tmp 67) (.tmp 68) (.const (.bool false)), none⟩,
    ⟨(some 6), .assign (.tmp 69), none⟩]) .ret) K t m := rfl

def c_sheaflaw18_PairTwice_1 : MC := (.seq (.ops [⟨(some 45), .move (.tmp 14), none⟩,
    ⟨(some 46), .call ⟨.value (.func 34), #[(.tmp 45)], #[40]⟩, none⟩,
    ⟨(some 44), .move (.tmp 46), none⟩,
    ⟨(some 47), .extract (.tmp 44) 0, none⟩,
    ⟨(some 48), .extract (.tmp 44) 1, none⟩,
    ⟨(some 15), .assign (.tmp 47), none⟩,
    ⟨(some 16), .assign (.tmp 48), none⟩]) c_sheaflaw18_PairTwice_0)
@[go_sem] theorem c_sheaflaw18_PairTwice_1_at (rd : Option Nat) (K : Post3) (t : Fr) (m : Mem) : wpM E 14 70 rd c_sheaflaw18_PairTwice_1 K t m = wpM E 14 70 rd (.seq (.ops [⟨(some 45), .move (.tmp 14), none⟩,
    ⟨(some 46), .call ⟨.value (.func 34), #[(.tmp 45)], #[40]⟩, none⟩,
    ⟨(some 44), .move (.tmp 46), none⟩,
    ⟨(some 47), .extract (.tmp 44) 0, none⟩,
    ⟨(some 48), .extract (.tmp 44) 1, none⟩,
    ⟨(some 15), .assign (.tmp 47), none⟩,
    ⟨(some 16), .assign (.tmp 48), none⟩]) c_sheaflaw18_PairTwice_0) K t m := rfl

def c_sheaflaw18_PairTwice_2 : MC := (.seq (.ops [⟨(some 35), .move (.tmp 13), none⟩,
    ⟨(some 36), .move (.tmp 13), none⟩,
    ⟨(some 37), .buildSlice 22 10 #[(0, (.const (.int .i64 1))), (1, (.const (.int .i64 1))), (2, (.const (.int .i64 1))), (3, (.const (.int .i64 10))), (4, (.tmp 35)), (5, (.const (.int .i64 2))), (6, (.const (.int .i64 1))), (7, (.const (.int .i64 1000))), (8, (.const (.int .i64 2))), (9, (.tmp 36))], none⟩,
    ⟨(some 38), .move (.tmp 13), none⟩,
    ⟨(some 39), .unOp .neg 3 (.tmp 38), none⟩,
    ⟨(some 40), .move (.tmp 13), none⟩,
    ⟨(some 41), .unOp .neg 3 (.tmp 40), none⟩,
    ⟨(some 42), .buildSlice 22 10 #[(0, (.const (.int .i64 2))), (1, (.const (.int .i64 2))), (2, (.const (.int .i64 1))), (3, (.const (.int .i64 10))), (4, (.tmp 39)), (5, (.const (.int .i64 1))), (6, (.const (.int .i64 1))), (7, (.const (.int .i64 2000))), (8, (.const (.int .i64 2))), (9, (.tmp 41))], none⟩,
    ⟨(some 43), .buildSlice 40 2 #[(0, (.tmp 37)), (1, (.tmp 42))], none⟩,
    ⟨(some 14), .assign (.tmp 43), none⟩]) c_sheaflaw18_PairTwice_1)
@[go_sem] theorem c_sheaflaw18_PairTwice_2_at (rd : Option Nat) (K : Post3) (t : Fr) (m : Mem) : wpM E 14 70 rd c_sheaflaw18_PairTwice_2 K t m = wpM E 14 70 rd (.seq (.ops [⟨(some 35), .move (.tmp 13), none⟩,
    ⟨(some 36), .move (.tmp 13), none⟩,
    ⟨(some 37), .buildSlice 22 10 #[(0, (.const (.int .i64 1))), (1, (.const (.int .i64 1))), (2, (.const (.int .i64 1))), (3, (.const (.int .i64 10))), (4, (.tmp 35)), (5, (.const (.int .i64 2))), (6, (.const (.int .i64 1))), (7, (.const (.int .i64 1000))), (8, (.const (.int .i64 2))), (9, (.tmp 36))], none⟩,
    ⟨(some 38), .move (.tmp 13), none⟩,
    ⟨(some 39), .unOp .neg 3 (.tmp 38), none⟩,
    ⟨(some 40), .move (.tmp 13), none⟩,
    ⟨(some 41), .unOp .neg 3 (.tmp 40), none⟩,
    ⟨(some 42), .buildSlice 22 10 #[(0, (.const (.int .i64 2))), (1, (.const (.int .i64 2))), (2, (.const (.int .i64 1))), (3, (.const (.int .i64 10))), (4, (.tmp 39)), (5, (.const (.int .i64 1))), (6, (.const (.int .i64 1))), (7, (.const (.int .i64 2000))), (8, (.const (.int .i64 2))), (9, (.tmp 41))], none⟩,
    ⟨(some 43), .buildSlice 40 2 #[(0, (.tmp 37)), (1, (.tmp 42))], none⟩,
    ⟨(some 14), .assign (.tmp 43), none⟩]) c_sheaflaw18_PairTwice_1) K t m := rfl

def c_sheaflaw18_PairTwice_3 : MC := (.seq (.ops [⟨(some 33), .move (.tmp 2), none⟩,
    ⟨(some 34), .call ⟨.value (.func 25), #[(.tmp 33), (.const (.int .i64 (-1099511627776))), (.const (.int .i64 1099511627776))], #[3, 3, 3]⟩, none⟩,
    ⟨(some 13), .assign (.tmp 34), none⟩]) c_sheaflaw18_PairTwice_2)
@[go_sem] theorem c_sheaflaw18_PairTwice_3_at (rd : Option Nat) (K : Post3) (t : Fr) (m : Mem) : wpM E 14 70 rd c_sheaflaw18_PairTwice_3 K t m = wpM E 14 70 rd (.seq (.ops [⟨(some 33), .move (.tmp 2), none⟩,
    ⟨(some 34), .call ⟨.value (.func 25), #[(.tmp 33), (.const (.int .i64 (-1099511627776))), (.const (.int .i64 1099511627776))], #[3, 3, 3]⟩, none⟩,
    ⟨(some 13), .assign (.tmp 34), none⟩]) c_sheaflaw18_PairTwice_2) K t m := rfl

def c_sheaflaw18_PairTwice_4 : MC := (.seq (.ops [⟨(some 28), .load 27 (.tmp 9), none⟩,
    ⟨(some 29), .load 27 (.tmp 10), none⟩,
    ⟨(some 30), .call ⟨.value (.func 15), #[(.tmp 28), (.tmp 29)], #[27, 27]⟩, none⟩,
    ⟨(some 27), .move (.tmp 30), none⟩,
    ⟨(some 31), .extract (.tmp 27) 0, none⟩,
    ⟨(some 32), .extract (.tmp 27) 1, none⟩,
    ⟨(some 11), .alloc 27, none⟩,
    ⟨(some 12), .alloc 27, none⟩,
    ⟨none, .store 27 (.tmp 11) (.tmp 31), none⟩,
    ⟨none, .store 27 (.tmp 12) (.tmp 32), none⟩]) c_sheaflaw18_PairTwice_3)
@[go_sem] theorem c_sheaflaw18_PairTwice_4_at (rd : Option Nat) (K : Post3) (t : Fr) (m : Mem) : wpM E 14 70 rd c_sheaflaw18_PairTwice_4 K t m = wpM E 14 70 rd (.seq (.ops [⟨(some 28), .load 27 (.tmp 9), none⟩,
    ⟨(some 29), .load 27 (.tmp 10), none⟩,
    ⟨(some 30), .call ⟨.value (.func 15), #[(.tmp 28), (.tmp 29)], #[27, 27]⟩, none⟩,
    ⟨(some 27), .move (.tmp 30), none⟩,
    ⟨(some 31), .extract (.tmp 27) 0, none⟩,
    ⟨(some 32), .extract (.tmp 27) 1, none⟩,
    ⟨(some 11), .alloc 27, none⟩,
    ⟨(some 12), .alloc 27, none⟩,
    ⟨none, .store 27 (.tmp 11) (.tmp 31), none⟩,
    ⟨none, .store 27 (.tmp 12) (.tmp 32), none⟩]) c_sheaflaw18_PairTwice_3) K t m := rfl

def c_sheaflaw18_PairTwice_5 : MC := (.seq (.ops [⟨(some 22), .load 27 (.tmp 7), none⟩,
    ⟨(some 23), .load 27 (.tmp 8), none⟩,
    ⟨(some 24), .call ⟨.value (.func 15), #[(.tmp 22), (.tmp 23)], #[27, 27]⟩, none⟩,
    ⟨(some 21), .move (.tmp 24), none⟩,
    ⟨(some 25), .extract (.tmp 21) 0, none⟩,
    ⟨(some 26), .extract (.tmp 21) 1, none⟩,
    ⟨(some 9), .alloc 27, none⟩,
    ⟨(some 10), .alloc 27, none⟩,
    ⟨none, .store 27 (.tmp 9) (.tmp 25), none⟩,
    ⟨none, .store 27 (.tmp 10) (.tmp 26), none⟩]) c_sheaflaw18_PairTwice_4)
@[go_sem] theorem c_sheaflaw18_PairTwice_5_at (rd : Option Nat) (K : Post3) (t : Fr) (m : Mem) : wpM E 14 70 rd c_sheaflaw18_PairTwice_5 K t m = wpM E 14 70 rd (.seq (.ops [⟨(some 22), .load 27 (.tmp 7), none⟩,
    ⟨(some 23), .load 27 (.tmp 8), none⟩,
    ⟨(some 24), .call ⟨.value (.func 15), #[(.tmp 22), (.tmp 23)], #[27, 27]⟩, none⟩,
    ⟨(some 21), .move (.tmp 24), none⟩,
    ⟨(some 25), .extract (.tmp 21) 0, none⟩,
    ⟨(some 26), .extract (.tmp 21) 1, none⟩,
    ⟨(some 9), .alloc 27, none⟩,
    ⟨(some 10), .alloc 27, none⟩,
    ⟨none, .store 27 (.tmp 9) (.tmp 25), none⟩,
    ⟨none, .store 27 (.tmp 10) (.tmp 26), none⟩]) c_sheaflaw18_PairTwice_4) K t m := rfl

def c_sheaflaw18_PairTwice_6 : MC := (.seq (.ops [⟨(some 17), .move (.tmp 0), none⟩,
    ⟨(some 18), .call ⟨.value (.func 16), #[(.tmp 17)], #[3]⟩, none⟩,
    ⟨(some 19), .move (.tmp 1), none⟩,
    ⟨(some 20), .call ⟨.value (.func 16), #[(.tmp 19)], #[3]⟩, none⟩,
    ⟨(some 7), .alloc 27, none⟩,
    ⟨(some 8), .alloc 27, none⟩,
    ⟨none, .store 27 (.tmp 7) (.tmp 18), none⟩,
    ⟨none, .store 27 (.tmp 8) (.tmp 20), none⟩]) c_sheaflaw18_PairTwice_5)
@[go_sem] theorem c_sheaflaw18_PairTwice_6_at (rd : Option Nat) (K : Post3) (t : Fr) (m : Mem) : wpM E 14 70 rd c_sheaflaw18_PairTwice_6 K t m = wpM E 14 70 rd (.seq (.ops [⟨(some 17), .move (.tmp 0), none⟩,
    ⟨(some 18), .call ⟨.value (.func 16), #[(.tmp 17)], #[3]⟩, none⟩,
    ⟨(some 19), .move (.tmp 1), none⟩,
    ⟨(some 20), .call ⟨.value (.func 16), #[(.tmp 19)], #[3]⟩, none⟩,
    ⟨(some 7), .alloc 27, none⟩,
    ⟨(some 8), .alloc 27, none⟩,
    ⟨none, .store 27 (.tmp 7) (.tmp 18), none⟩,
    ⟨none, .store 27 (.tmp 8) (.tmp 20), none⟩]) c_sheaflaw18_PairTwice_5) K t m := rfl

def c_sheaflaw18_PairTwice_7 : MC := (.seq (.ops [⟨(some 6), .assign (.const (.bool false)), none⟩]) c_sheaflaw18_PairTwice_6)
@[go_sem] theorem c_sheaflaw18_PairTwice_7_at (rd : Option Nat) (K : Post3) (t : Fr) (m : Mem) : wpM E 14 70 rd c_sheaflaw18_PairTwice_7 K t m = wpM E 14 70 rd (.seq (.ops [⟨(some 6), .assign (.const (.bool false)), none⟩]) c_sheaflaw18_PairTwice_6) K t m := rfl

@[go_sem] theorem some14 : (E.fn 14).isSome = true := by kernel_rfl
set_option maxRecDepth 100000 in
theorem fn_sheaflaw18_PairTwice : FnIs E 14 70 [.tmp 6] c_sheaflaw18_PairTwice_7 := ⟨by kernel_rfl, by kernel_rfl⟩

/-! sheaf/sheaflaw18.line -/
abbrev F_sheaflaw18_line : FuncId := 20
def c_sheaflaw18_line_0 : MC := (.cond (.tmp 13) (.ops [⟨(some 4), .assign (.const (.int .i64 0)), none⟩]) .skip)
@[go_sem] theorem c_sheaflaw18_line_0_at (rd : Option Nat) (K : Post3) (t : Fr) (m : Mem) : wpM E 20 26 rd c_sheaflaw18_line_0 K t m = wpM E 20 26 rd (.cond (.tmp 13) (.ops [⟨(some 4), .assign (.const (.int .i64 0)), none⟩]) .skip) K t m := rfl

def c_sheaflaw18_line_1 : MC := (.seq (.ops [⟨(some 11), .move (.tmp 4), none⟩,
    ⟨(some 12), .move (.tmp 3), none⟩,
    ⟨(some 13), .binOp .eql 3 (.tmp 11) (.tmp 12) 3, none⟩]) c_sheaflaw18_line_0)
@[go_sem] theorem c_sheaflaw18_line_1_at (rd : Option Nat) (K : Post3) (t : Fr) (m : Mem) : wpM E 20 26 rd c_sheaflaw18_line_1 K t m = wpM E 20 26 rd (.seq (.ops [⟨(some 11), .move (.tmp 4), none⟩,
    ⟨(some 12), .move (.tmp 3), none⟩,
    ⟨(some 13), .binOp .eql 3 (.tmp 11) (.tmp 12) 3, none⟩]) c_sheaflaw18_line_0) K t m := rfl

def c_sheaflaw18_line_2 : MC := (.seq (.draw [(0, [], ⟨(some 14), .move (.tmp 3), none⟩),
    (1, [], ⟨(some 15), .fieldAddr 37 (.tmp 1) 5, none⟩),
    (2, [], ⟨(some 16), .load 3 (.tmp 15), none⟩),
    (3, [], ⟨(some 17), .move (.tmp 4), none⟩),
    (4, [], ⟨(some 18), .move (.tmp 3), none⟩),
    (5, [], ⟨(some 19), .binOp .mul 3 (.const (.int .i64 1000)) (.tmp 18) 3, none⟩),
    (6, [], ⟨(some 20), .fieldAddr 37 (.tmp 1) 2, none⟩),
    (7, [], ⟨(some 21), .load 3 (.tmp 20), none⟩),
    (9, [], ⟨(some 23), .fieldAddr 37 (.tmp 1) 5, none⟩),
    (10, [], ⟨(some 24), .load 3 (.tmp 23), none⟩),
    (8, [2, 10], ⟨(some 22), .call ⟨.value (.func 25), #[(.tmp 21), (.const (.int .i64 1)), (.const (.int .i64 3))], #[3, 3, 3]⟩, none⟩),
    (11, [], ⟨(some 25), .buildSlice 22 10 #[(0, (.const (.int .i64 1))), (1, (.tmp 14)), (2, (.const (.int .i64 1))), (3, (.const (.int .i64 10))), (4, (.tmp 16)), (5, (.tmp 17)), (6, (.const (.int .i64 1))), (7, (.tmp 19)), (8, (.tmp 22)), (9, (.tmp 24))], none⟩),
    (12, [], ⟨(some 2), .assign (.tmp 25), none⟩)]) .ret)
@[go_sem] theorem c_sheaflaw18_line_2_at (rd : Option Nat) (K : Post3) (t : Fr) (m : Mem) : wpM E 20 26 rd c_sheaflaw18_line_2 K t m = wpM E 20 26 rd (.seq (.draw [(0, [], ⟨(some 14), .move (.tmp 3), none⟩),
    (1, [], ⟨(some 15), .fieldAddr 37 (.tmp 1) 5, none⟩),
    (2, [], ⟨(some 16), .load 3 (.tmp 15), none⟩),
    (3, [], ⟨(some 17), .move (.tmp 4), none⟩),
    (4, [], ⟨(some 18), .move (.tmp 3), none⟩),
    (5, [], ⟨(some 19), .binOp .mul 3 (.const (.int .i64 1000)) (.tmp 18) 3, none⟩),
    (6, [], ⟨(some 20), .fieldAddr 37 (.tmp 1) 2, none⟩),
    (7, [], ⟨(some 21), .load 3 (.tmp 20), none⟩),
    (9, [], ⟨(some 23), .fieldAddr 37 (.tmp 1) 5, none⟩),
    (10, [], ⟨(some 24), .load 3 (.tmp 23), none⟩),
    (8, [2, 10], ⟨(some 22), .call ⟨.value (.func 25), #[(.tmp 21), (.const (.int .i64 1)), (.const (.int .i64 3))], #[3, 3, 3]⟩, none⟩),
    (11, [], ⟨(some 25), .buildSlice 22 10 #[(0, (.const (.int .i64 1))), (1, (.tmp 14)), (2, (.const (.int .i64 1))), (3, (.const (.int .i64 10))), (4, (.tmp 16)), (5, (.tmp 17)), (6, (.const (.int .i64 1))), (7, (.tmp 19)), (8, (.tmp 22)), (9, (.tmp 24))], none⟩),
    (12, [], ⟨(some 2), .assign (.tmp 25), none⟩)]) .ret) K t m := rfl

def c_sheaflaw18_line_3 : MC := (.seq c_sheaflaw18_line_1 c_sheaflaw18_line_2)
@[go_sem] theorem c_sheaflaw18_line_3_at (rd : Option Nat) (K : Post3) (t : Fr) (m : Mem) : wpM E 20 26 rd c_sheaflaw18_line_3 K t m = wpM E 20 26 rd (.seq c_sheaflaw18_line_1 c_sheaflaw18_line_2) K t m := rfl

def c_sheaflaw18_line_4 : MC := (.seq (.draw [(0, [], ⟨(some 5), .fieldAddr 37 (.tmp 1) 0, none⟩),
    (1, [], ⟨(some 6), .load 3 (.tmp 5), none⟩),
    (3, [], ⟨(some 8), .fieldAddr 37 (.tmp 1) 1, none⟩),
    (4, [], ⟨(some 9), .load 3 (.tmp 8), none⟩),
    (2, [4], ⟨(some 7), .call ⟨.value (.func 25), #[(.tmp 6), (.const (.int .i64 1)), (.const (.int .i64 4))], #[3, 3, 3]⟩, none⟩),
    (5, [], ⟨(some 10), .call ⟨.value (.func 25), #[(.tmp 9), (.const (.int .i64 0)), (.const (.int .i64 4))], #[3, 3, 3]⟩, none⟩),
    (6, [], ⟨(some 3), .assign (.tmp 7), none⟩),
    (7, [], ⟨(some 4), .assign (.tmp 10), none⟩)]) c_sheaflaw18_line_3)
@[go_sem] theorem c_sheaflaw18_line_4_at (rd : Option Nat) (K : Post3) (t : Fr) (m : Mem) : wpM E 20 26 rd c_sheaflaw18_line_4 K t m = wpM E 20 26 rd (.seq (.draw [(0, [], ⟨(some 5), .fieldAddr 37 (.tmp 1) 0, none⟩),
    (1, [], ⟨(some 6), .load 3 (.tmp 5), none⟩),
    (3, [], ⟨(some 8), .fieldAddr 37 (.tmp 1) 1, none⟩),
    (4, [], ⟨(some 9), .load 3 (.tmp 8), none⟩),
    (2, [4], ⟨(some 7), .call ⟨.value (.func 25), #[(.tmp 6), (.const (.int .i64 1)), (.const (.int .i64 4))], #[3, 3, 3]⟩, none⟩),
    (5, [], ⟨(some 10), .call ⟨.value (.func 25), #[(.tmp 9), (.const (.int .i64 0)), (.const (.int .i64 4))], #[3, 3, 3]⟩, none⟩),
    (6, [], ⟨(some 3), .assign (.tmp 7), none⟩),
    (7, [], ⟨(some 4), .assign (.tmp 10), none⟩)]) c_sheaflaw18_line_3) K t m := rfl

def c_sheaflaw18_line_5 : MC := (.seq (.ops [⟨(some 1), .box 37 (.tmp 0), none⟩,
    ⟨(some 2), .assign (.const (.slice none 0 0)), none⟩]) c_sheaflaw18_line_4)
@[go_sem] theorem c_sheaflaw18_line_5_at (rd : Option Nat) (K : Post3) (t : Fr) (m : Mem) : wpM E 20 26 rd c_sheaflaw18_line_5 K t m = wpM E 20 26 rd (.seq (.ops [⟨(some 1), .box 37 (.tmp 0), none⟩,
    ⟨(some 2), .assign (.const (.slice none 0 0)), none⟩]) c_sheaflaw18_line_4) K t m := rfl

@[go_sem] theorem some20 : (E.fn 20).isSome = true := by kernel_rfl
set_option maxRecDepth 100000 in
theorem fn_sheaflaw18_line : FnIs E 20 26 [.tmp 2] c_sheaflaw18_line_5 := ⟨by kernel_rfl, by kernel_rfl⟩

/-! sheaf/sheaflaw18.parts -/
abbrev F_sheaflaw18_parts : FuncId := 34
def c_sheaflaw18_parts_0 : MC := (.cond (.tmp 20) .skip (.exit 0))
@[go_sem] theorem c_sheaflaw18_parts_0_at (rd : Option Nat) (K : Post3) (t : Fr) (m : Mem) : wpM E 34 89 rd c_sheaflaw18_parts_0 K t m = wpM E 34 89 rd (.cond (.tmp 20) .skip (.exit 0)) K t m := rfl

def c_sheaflaw18_parts_1 : MC := (.seq (.ops [⟨none, .store 40 (.tmp 2) (.const (.slice none 0 0)), none⟩,
    ⟨none, .store 4 (.tmp 3) (.const (.bool false)), none⟩]) .ret)
@[go_sem] theorem c_sheaflaw18_parts_1_at (rd : Option Nat) (K : Post3) (t : Fr) (m : Mem) : wpM E 34 89 rd c_sheaflaw18_parts_1 K t m = wpM E 34 89 rd (.seq (.ops [⟨none, .store 40 (.tmp 2) (.const (.slice none 0 0)), none⟩,
    ⟨none, .store 4 (.tmp 3) (.const (.bool false)), none⟩]) .ret) K t m := rfl

def c_sheaflaw18_parts_2 : MC := (.cond (.tmp 27) c_sheaflaw18_parts_1 .skip)
@[go_sem] theorem c_sheaflaw18_parts_2_at (rd : Option Nat) (K : Post3) (t : Fr) (m : Mem) : wpM E 34 89 rd c_sheaflaw18_parts_2 K t m = wpM E 34 89 rd (.cond (.tmp 27) c_sheaflaw18_parts_1 .skip) K t m := rfl

def c_sheaflaw18_parts_3 : MC := (.seq (.ops [⟨(some 25), .move (.tmp 7), none⟩,
    ⟨(some 26), .call ⟨.builtin .len, #[(.tmp 25)], #[22]⟩, none⟩,
    ⟨(some 27), .binOp .neq 3 (.tmp 26) (.const (.int .i64 3)) 3, none⟩]) c_sheaflaw18_parts_2)
@[go_sem] theorem c_sheaflaw18_parts_3_at (rd : Option Nat) (K : Post3) (t : Fr) (m : Mem) : wpM E 34 89 rd c_sheaflaw18_parts_3 K t m = wpM E 34 89 rd (.seq (.ops [⟨(some 25), .move (.tmp 7), none⟩,
    ⟨(some 26), .call ⟨.builtin .len, #[(.tmp 25)], #[22]⟩, none⟩,
    ⟨(some 27), .binOp .neq 3 (.tmp 26) (.const (.int .i64 3)) 3, none⟩]) c_sheaflaw18_parts_2) K t m := rfl

def c_sheaflaw18_parts_4 : MC := (.seq c_sheaflaw18_parts_3 (.ops [⟨(some 28), .move (.tmp 4), none⟩,
    ⟨(some 29), .buildSlice 22 0 #[], none⟩,
    ⟨(some 30), .move (.tmp 7), none⟩,
    ⟨(some 31), .call ⟨.builtin .append, #[(.tmp 29), (.tmp 30)], #[22, 22]⟩, none⟩,
    ⟨(some 32), .move (.tmp 4), none⟩,
    ⟨(some 33), .call ⟨.builtin .len, #[(.tmp 32)], #[40]⟩, none⟩,
    ⟨(some 34), .buildSlice 22 1 #[(0, (.tmp 33))], none⟩,
    ⟨(some 35), .call ⟨.builtin .append, #[(.tmp 31), (.tmp 34)], #[22, 22]⟩, none⟩,
    ⟨(some 36), .buildSlice 40 1 #[(0, (.tmp 35))], none⟩,
    ⟨(some 37), .call ⟨.builtin .append, #[(.tmp 28), (.tmp 36)], #[40, 40]⟩, none⟩,
    ⟨(some 4), .assign (.tmp 37), none⟩]))
@[go_sem] theorem c_sheaflaw18_parts_4_at (rd : Option Nat) (K : Post3) (t : Fr) (m : Mem) : wpM E 34 89 rd c_sheaflaw18_parts_4 K t m = wpM E 34 89 rd (.seq c_sheaflaw18_parts_3 (.ops [⟨(some 28), .move (.tmp 4), none⟩,
    ⟨(some 29), .buildSlice 22 0 #[], none⟩,
    ⟨(some 30), .move (.tmp 7), none⟩,
    ⟨(some 31), .call ⟨.builtin .append, #[(.tmp 29), (.tmp 30)], #[22, 22]⟩, none⟩,
    ⟨(some 32), .move (.tmp 4), none⟩,
    ⟨(some 33), .call ⟨.builtin .len, #[(.tmp 32)], #[40]⟩, none⟩,
    ⟨(some 34), .buildSlice 22 1 #[(0, (.tmp 33))], none⟩,
    ⟨(some 35), .call ⟨.builtin .append, #[(.tmp 31), (.tmp 34)], #[22, 22]⟩, none⟩,
    ⟨(some 36), .buildSlice 40 1 #[(0, (.tmp 35))], none⟩,
    ⟨(some 37), .call ⟨.builtin .append, #[(.tmp 28), (.tmp 36)], #[40, 40]⟩, none⟩,
    ⟨(some 4), .assign (.tmp 37), none⟩])) K t m := rfl

def c_sheaflaw18_parts_5 : MC := (.seq (.ops [⟨(some 23), .move (.tmp 6), none⟩,
    ⟨(some 24), .call ⟨.value (.func 19), #[(.tmp 23)], #[22]⟩, none⟩,
    ⟨(some 7), .assign (.tmp 24), none⟩]) c_sheaflaw18_parts_4)
@[go_sem] theorem c_sheaflaw18_parts_5_at (rd : Option Nat) (K : Post3) (t : Fr) (m : Mem) : wpM E 34 89 rd c_sheaflaw18_parts_5 K t m = wpM E 34 89 rd (.seq (.ops [⟨(some 23), .move (.tmp 6), none⟩,
    ⟨(some 24), .call ⟨.value (.func 19), #[(.tmp 23)], #[22]⟩, none⟩,
    ⟨(some 7), .assign (.tmp 24), none⟩]) c_sheaflaw18_parts_4) K t m := rfl

def c_sheaflaw18_parts_6 : MC := (.seq (.ops [⟨(some 21), .indexAddr 40 (.tmp 17) (.tmp 19), none⟩,
    ⟨(some 22), .load 22 (.tmp 21), none⟩,
    ⟨(some 6), .assign (.tmp 22), none⟩]) c_sheaflaw18_parts_5)
@[go_sem] theorem c_sheaflaw18_parts_6_at (rd : Option Nat) (K : Post3) (t : Fr) (m : Mem) : wpM E 34 89 rd c_sheaflaw18_parts_6 K t m = wpM E 34 89 rd (.seq (.ops [⟨(some 21), .indexAddr 40 (.tmp 17) (.tmp 19), none⟩,
    ⟨(some 22), .load 22 (.tmp 21), none⟩,
    ⟨(some 6), .assign (.tmp 22), none⟩]) c_sheaflaw18_parts_5) K t m := rfl

def c_sheaflaw18_parts_7 : MC := (.block 1 c_sheaflaw18_parts_6)
@[go_sem] theorem c_sheaflaw18_parts_7_at (rd : Option Nat) (K : Post3) (t : Fr) (m : Mem) : wpM E 34 89 rd c_sheaflaw18_parts_7 K t m = wpM E 34 89 rd (.block 1 c_sheaflaw18_parts_6) K t m := rfl

def c_sheaflaw18_parts_8 : MC := (.seq c_sheaflaw18_parts_7 (.ops [⟨(some 38), .binOp .add 3 (.tmp 19) (.const (.int .i64 1)) 3, none⟩,
    ⟨(some 19), .move (.tmp 38), none⟩]))
@[go_sem] theorem c_sheaflaw18_parts_8_at (rd : Option Nat) (K : Post3) (t : Fr) (m : Mem) : wpM E 34 89 rd c_sheaflaw18_parts_8 K t m = wpM E 34 89 rd (.seq c_sheaflaw18_parts_7 (.ops [⟨(some 38), .binOp .add 3 (.tmp 19) (.const (.int .i64 1)) 3, none⟩,
    ⟨(some 19), .move (.tmp 38), none⟩])) K t m := rfl

def c_sheaflaw18_parts_9 : MC := (.seq c_sheaflaw18_parts_0 c_sheaflaw18_parts_8)
@[go_sem] theorem c_sheaflaw18_parts_9_at (rd : Option Nat) (K : Post3) (t : Fr) (m : Mem) : wpM E 34 89 rd c_sheaflaw18_parts_9 K t m = wpM E 34 89 rd (.seq c_sheaflaw18_parts_0 c_sheaflaw18_parts_8) K t m := rfl

def c_sheaflaw18_parts_10 : MC := (.seq (.ops [⟨(some 20), .binOp .lss 3 (.tmp 19) (.tmp 18) 3, none⟩]) c_sheaflaw18_parts_9)
@[go_sem] theorem c_sheaflaw18_parts_10_at (rd : Option Nat) (K : Post3) (t : Fr) (m : Mem) : wpM E 34 89 rd c_sheaflaw18_parts_10 K t m = wpM E 34 89 rd (.seq (.ops [⟨(some 20), .binOp .lss 3 (.tmp 19) (.tmp 18) 3, none⟩]) c_sheaflaw18_parts_9) K t m := rfl

def c_sheaflaw18_parts_11 : MC := (.loop c_sheaflaw18_parts_10)
theorem c_sheaflaw18_parts_11_at (rd : Option Nat) (K : Post3) (t : Fr) (m : Mem) : wpM E 34 89 rd c_sheaflaw18_parts_11 K t m = wpM E 34 89 rd (.loop c_sheaflaw18_parts_10) K t m := rfl

def c_sheaflaw18_parts_12 : MC := (.block 0 c_sheaflaw18_parts_11)
theorem c_sheaflaw18_parts_12_at (rd : Option Nat) (K : Post3) (t : Fr) (m : Mem) : wpM E 34 89 rd c_sheaflaw18_parts_12 K t m = wpM E 34 89 rd (.block 0 c_sheaflaw18_parts_11) K t m := rfl

def c_sheaflaw18_parts_13 : MC := (.seq (.ops [⟨(some 17), .move (.tmp 0), none⟩,
    ⟨(some 18), .call ⟨.builtin .len, #[(.tmp 17)], #[40]⟩, none⟩,
    ⟨(some 19), .move (.const (.int .i64 0)), none⟩]) c_sheaflaw18_parts_12)
@[go_sem] theorem c_sheaflaw18_parts_13_at (rd : Option Nat) (K : Post3) (t : Fr) (m : Mem) : wpM E 34 89 rd c_sheaflaw18_parts_13 K t m = wpM E 34 89 rd (.seq (.ops [⟨(some 17), .move (.tmp 0), none⟩,
    ⟨(some 18), .call ⟨.builtin .len, #[(.tmp 17)], #[40]⟩, none⟩,
    ⟨(some 19), .move (.const (.int .i64 0)), none⟩]) c_sheaflaw18_parts_12) K t m := rfl

def c_sheaflaw18_parts_14 : MC := (.cond (.tmp 42) .skip (.exit 2))
@[go_sem] theorem c_sheaflaw18_parts_14_at (rd : Option Nat) (K : Post3) (t : Fr) (m : Mem) : wpM E 34 89 rd c_sheaflaw18_parts_14 K t m = wpM E 34 89 rd (.cond (.tmp 42) .skip (.exit 2)) K t m := rfl

def c_sheaflaw18_parts_15 : MC := (.cond (.tmp 49) .skip (.exit 4))
@[go_sem] theorem c_sheaflaw18_parts_15_at (rd : Option Nat) (K : Post3) (t : Fr) (m : Mem) : wpM E 34 89 rd c_sheaflaw18_parts_15 K t m = wpM E 34 89 rd (.cond (.tmp 49) .skip (.exit 4)) K t m := rfl

def c_sheaflaw18_parts_16 : MC := (.cond (.tmp 62) (.ops [⟨(some 63), .move (.tmp 8), none⟩,
    ⟨(some 64), .move (.tmp 0), none⟩,
    ⟨(some 65), .move (.tmp 12), none⟩,
    ⟨(some 66), .indexAddr 22 (.tmp 65) (.const (.int .i64 3)), none⟩,
    ⟨(some 67), .load 3 (.tmp 66), none⟩,
    ⟨(some 68), .indexAddr 40 (.tmp 64) (.tmp 67), none⟩,
    ⟨(some 69), .load 22 (.tmp 68), none⟩,
    ⟨(some 70), .buildSlice 40 1 #[(0, (.tmp 69))], none⟩,
    ⟨(some 71), .call ⟨.builtin .append, #[(.tmp 63), (.tmp 70)], #[40, 40]⟩, none⟩,
    ⟨(some 8), .assign (.tmp 71), none⟩]) .skip)
@[go_sem] theorem c_sheaflaw18_parts_16_at (rd : Option Nat) (K : Post3) (t : Fr) (m : Mem) : wpM E 34 89 rd c_sheaflaw18_parts_16 K t m = wpM E 34 89 rd (.cond (.tmp 62) (.ops [⟨(some 63), .move (.tmp 8), none⟩,
    ⟨(some 64), .move (.tmp 0), none⟩,
    ⟨(some 65), .move (.tmp 12), none⟩,
    ⟨(some 66), .indexAddr 22 (.tmp 65) (.const (.int .i64 3)), none⟩,
    ⟨(some 67), .load 3 (.tmp 66), none⟩,
    ⟨(some 68), .indexAddr 40 (.tmp 64) (.tmp 67), none⟩,
    ⟨(some 69), .load 22 (.tmp 68), none⟩,
    ⟨(some 70), .buildSlice 40 1 #[(0, (.tmp 69))], none⟩,
    ⟨(some 71), .call ⟨.builtin .append, #[(.tmp 63), (.tmp 70)], #[40, 40]⟩, none⟩,
    ⟨(some 8), .assign (.tmp 71), none⟩]) .skip) K t m := rfl

def c_sheaflaw18_parts_17 : MC := (.seq (.ops [⟨(some 52), .move (.tmp 0), none⟩,
    ⟨(some 53), .move (.tmp 12), none⟩,
    ⟨(some 54), .indexAddr 22 (.tmp 53) (.const (.int .i64 3)), none⟩,
    ⟨(some 55), .load 3 (.tmp 54), none⟩,
    ⟨(some 56), .indexAddr 40 (.tmp 52) (.tmp 55), none⟩,
    ⟨(some 57), .load 22 (.tmp 56), none⟩,
    ⟨(some 58), .indexAddr 22 (.tmp 57) (.const (.int .i64 5)), none⟩,
    ⟨(some 59), .load 3 (.tmp 58), none⟩,
    ⟨(some 60), .binOp .eql 3 (.tmp 59) (.const (.int .i64 0)) 3, none⟩,
    ⟨(some 61), .move (.tmp 10), none⟩,
    ⟨(some 62), .binOp .eql 4 (.tmp 60) (.tmp 61) 4, none⟩]) c_sheaflaw18_parts_16)
@[go_sem] theorem c_sheaflaw18_parts_17_at (rd : Option Nat) (K : Post3) (t : Fr) (m : Mem) : wpM E 34 89 rd c_sheaflaw18_parts_17 K t m = wpM E 34 89 rd (.seq (.ops [⟨(some 52), .move (.tmp 0), none⟩,
    ⟨(some 53), .move (.tmp 12), none⟩,
    ⟨(some 54), .indexAddr 22 (.tmp 53) (.const (.int .i64 3)), none⟩,
    ⟨(some 55), .load 3 (.tmp 54), none⟩,
    ⟨(some 56), .indexAddr 40 (.tmp 52) (.tmp 55), none⟩,
    ⟨(some 57), .load 22 (.tmp 56), none⟩,
    ⟨(some 58), .indexAddr 22 (.tmp 57) (.const (.int .i64 5)), none⟩,
    ⟨(some 59), .load 3 (.tmp 58), none⟩,
    ⟨(some 60), .binOp .eql 3 (.tmp 59) (.const (.int .i64 0)) 3, none⟩,
    ⟨(some 61), .move (.tmp 10), none⟩,
    ⟨(some 62), .binOp .eql 4 (.tmp 60) (.tmp 61) 4, none⟩]) c_sheaflaw18_parts_16) K t m := rfl

def c_sheaflaw18_parts_18 : MC := (.seq (.ops [⟨(some 50), .indexAddr 40 (.tmp 46) (.tmp 48), none⟩,
    ⟨(some 51), .load 22 (.tmp 50), none⟩,
    ⟨(some 12), .assign (.tmp 51), none⟩]) c_sheaflaw18_parts_17)
@[go_sem] theorem c_sheaflaw18_parts_18_at (rd : Option Nat) (K : Post3) (t : Fr) (m : Mem) : wpM E 34 89 rd c_sheaflaw18_parts_18 K t m = wpM E 34 89 rd (.seq (.ops [⟨(some 50), .indexAddr 40 (.tmp 46) (.tmp 48), none⟩,
    ⟨(some 51), .load 22 (.tmp 50), none⟩,
    ⟨(some 12), .assign (.tmp 51), none⟩]) c_sheaflaw18_parts_17) K t m := rfl

def c_sheaflaw18_parts_19 : MC := (.block 5 c_sheaflaw18_parts_18)
@[go_sem] theorem c_sheaflaw18_parts_19_at (rd : Option Nat) (K : Post3) (t : Fr) (m : Mem) : wpM E 34 89 rd c_sheaflaw18_parts_19 K t m = wpM E 34 89 rd (.block 5 c_sheaflaw18_parts_18) K t m := rfl

def c_sheaflaw18_parts_20 : MC := (.seq c_sheaflaw18_parts_19 (.ops [⟨(some 72), .binOp .add 3 (.tmp 48) (.const (.int .i64 1)) 3, none⟩,
    ⟨(some 48), .move (.tmp 72), none⟩]))
@[go_sem] theorem c_sheaflaw18_parts_20_at (rd : Option Nat) (K : Post3) (t : Fr) (m : Mem) : wpM E 34 89 rd c_sheaflaw18_parts_20 K t m = wpM E 34 89 rd (.seq c_sheaflaw18_parts_19 (.ops [⟨(some 72), .binOp .add 3 (.tmp 48) (.const (.int .i64 1)) 3, none⟩,
    ⟨(some 48), .move (.tmp 72), none⟩])) K t m := rfl

def c_sheaflaw18_parts_21 : MC := (.seq c_sheaflaw18_parts_15 c_sheaflaw18_parts_20)
@[go_sem] theorem c_sheaflaw18_parts_21_at (rd : Option Nat) (K : Post3) (t : Fr) (m : Mem) : wpM E 34 89 rd c_sheaflaw18_parts_21 K t m = wpM E 34 89 rd (.seq c_sheaflaw18_parts_15 c_sheaflaw18_parts_20) K t m := rfl

def c_sheaflaw18_parts_22 : MC := (.seq (.ops [⟨(some 49), .binOp .lss 3 (.tmp 48) (.tmp 47) 3, none⟩]) c_sheaflaw18_parts_21)
@[go_sem] theorem c_sheaflaw18_parts_22_at (rd : Option Nat) (K : Post3) (t : Fr) (m : Mem) : wpM E 34 89 rd c_sheaflaw18_parts_22 K t m = wpM E 34 89 rd (.seq (.ops [⟨(some 49), .binOp .lss 3 (.tmp 48) (.tmp 47) 3, none⟩]) c_sheaflaw18_parts_21) K t m := rfl

def c_sheaflaw18_parts_23 : MC := (.loop c_sheaflaw18_parts_22)
theorem c_sheaflaw18_parts_23_at (rd : Option Nat) (K : Post3) (t : Fr) (m : Mem) : wpM E 34 89 rd c_sheaflaw18_parts_23 K t m = wpM E 34 89 rd (.loop c_sheaflaw18_parts_22) K t m := rfl

def c_sheaflaw18_parts_24 : MC := (.block 4 c_sheaflaw18_parts_23)
theorem c_sheaflaw18_parts_24_at (rd : Option Nat) (K : Post3) (t : Fr) (m : Mem) : wpM E 34 89 rd c_sheaflaw18_parts_24 K t m = wpM E 34 89 rd (.block 4 c_sheaflaw18_parts_23) K t m := rfl

def c_sheaflaw18_parts_25 : MC := (.seq (.ops [⟨(some 45), .move (.tmp 4), none⟩,
    ⟨(some 46), .call ⟨.value (.func 26), #[(.tmp 45), (.const (.slice none 0 0))], #[40, 22]⟩, none⟩,
    ⟨(some 47), .call ⟨.builtin .len, #[(.tmp 46)], #[40]⟩, none⟩,
    ⟨(some 48), .move (.const (.int .i64 0)), none⟩]) c_sheaflaw18_parts_24)
@[go_sem] theorem c_sheaflaw18_parts_25_at (rd : Option Nat) (K : Post3) (t : Fr) (m : Mem) : wpM E 34 89 rd c_sheaflaw18_parts_25 K t m = wpM E 34 89 rd (.seq (.ops [⟨(some 45), .move (.tmp 4), none⟩,
    ⟨(some 46), .call ⟨.value (.func 26), #[(.tmp 45), (.const (.slice none 0 0))], #[40, 22]⟩, none⟩,
    ⟨(some 47), .call ⟨.builtin .len, #[(.tmp 46)], #[40]⟩, none⟩,
    ⟨(some 48), .move (.const (.int .i64 0)), none⟩]) c_sheaflaw18_parts_24) K t m := rfl

def c_sheaflaw18_parts_26 : MC := (.seq (.ops [⟨(some 43), .indexAddr 95 (.tmp 39) (.tmp 41), none⟩,
    ⟨(some 44), .load 4 (.tmp 43), none⟩,
    ⟨(some 10), .assign (.tmp 44), none⟩]) c_sheaflaw18_parts_25)
@[go_sem] theorem c_sheaflaw18_parts_26_at (rd : Option Nat) (K : Post3) (t : Fr) (m : Mem) : wpM E 34 89 rd c_sheaflaw18_parts_26 K t m = wpM E 34 89 rd (.seq (.ops [⟨(some 43), .indexAddr 95 (.tmp 39) (.tmp 41), none⟩,
    ⟨(some 44), .load 4 (.tmp 43), none⟩,
    ⟨(some 10), .assign (.tmp 44), none⟩]) c_sheaflaw18_parts_25) K t m := rfl

def c_sheaflaw18_parts_27 : MC := (.block 3 c_sheaflaw18_parts_26)
@[go_sem] theorem c_sheaflaw18_parts_27_at (rd : Option Nat) (K : Post3) (t : Fr) (m : Mem) : wpM E 34 89 rd c_sheaflaw18_parts_27 K t m = wpM E 34 89 rd (.block 3 c_sheaflaw18_parts_26) K t m := rfl

def c_sheaflaw18_parts_28 : MC := (.seq c_sheaflaw18_parts_27 (.ops [⟨(some 73), .binOp .add 3 (.tmp 41) (.const (.int .i64 1)) 3, none⟩,
    ⟨(some 41), .move (.tmp 73), none⟩]))
@[go_sem] theorem c_sheaflaw18_parts_28_at (rd : Option Nat) (K : Post3) (t : Fr) (m : Mem) : wpM E 34 89 rd c_sheaflaw18_parts_28 K t m = wpM E 34 89 rd (.seq c_sheaflaw18_parts_27 (.ops [⟨(some 73), .binOp .add 3 (.tmp 41) (.const (.int .i64 1)) 3, none⟩,
    ⟨(some 41), .move (.tmp 73), none⟩])) K t m := rfl

def c_sheaflaw18_parts_29 : MC := (.seq c_sheaflaw18_parts_14 c_sheaflaw18_parts_28)
@[go_sem] theorem c_sheaflaw18_parts_29_at (rd : Option Nat) (K : Post3) (t : Fr) (m : Mem) : wpM E 34 89 rd c_sheaflaw18_parts_29 K t m = wpM E 34 89 rd (.seq c_sheaflaw18_parts_14 c_sheaflaw18_parts_28) K t m := rfl

def c_sheaflaw18_parts_30 : MC := (.seq (.ops [⟨(some 42), .binOp .lss 3 (.tmp 41) (.tmp 40) 3, none⟩]) c_sheaflaw18_parts_29)
@[go_sem] theorem c_sheaflaw18_parts_30_at (rd : Option Nat) (K : Post3) (t : Fr) (m : Mem) : wpM E 34 89 rd c_sheaflaw18_parts_30 K t m = wpM E 34 89 rd (.seq (.ops [⟨(some 42), .binOp .lss 3 (.tmp 41) (.tmp 40) 3, none⟩]) c_sheaflaw18_parts_29) K t m := rfl

def c_sheaflaw18_parts_31 : MC := (.loop c_sheaflaw18_parts_30)
theorem c_sheaflaw18_parts_31_at (rd : Option Nat) (K : Post3) (t : Fr) (m : Mem) : wpM E 34 89 rd c_sheaflaw18_parts_31 K t m = wpM E 34 89 rd (.loop c_sheaflaw18_parts_30) K t m := rfl

def c_sheaflaw18_parts_32 : MC := (.block 2 c_sheaflaw18_parts_31)
theorem c_sheaflaw18_parts_32_at (rd : Option Nat) (K : Post3) (t : Fr) (m : Mem) : wpM E 34 89 rd c_sheaflaw18_parts_32 K t m = wpM E 34 89 rd (.block 2 c_sheaflaw18_parts_31) K t m := rfl

def c_sheaflaw18_parts_33 : MC := (.seq (.ops [⟨(some 39), .buildSlice 95 2 #[(0, (.const (.bool true))), (1, (.const (.bool false)))], none⟩,
    ⟨(some 40), .call ⟨.builtin .len, #[(.tmp 39)], #[95]⟩, none⟩,
    ⟨(some 41), .move (.const (.int .i64 0)), none⟩]) c_sheaflaw18_parts_32)
@[go_sem] theorem c_sheaflaw18_parts_33_at (rd : Option Nat) (K : Post3) (t : Fr) (m : Mem) : wpM E 34 89 rd c_sheaflaw18_parts_33 K t m = wpM E 34 89 rd (.seq (.ops [⟨(some 39), .buildSlice 95 2 #[(0, (.const (.bool true))), (1, (.const (.bool false)))], none⟩,
    ⟨(some 40), .call ⟨.builtin .len, #[(.tmp 39)], #[95]⟩, none⟩,
    ⟨(some 41), .move (.const (.int .i64 0)), none⟩]) c_sheaflaw18_parts_32) K t m := rfl

def c_sheaflaw18_parts_34 : MC := (.seq (.ops [⟨none, .store 40 (.tmp 2) (.const (.slice none 0 0)), none⟩,
    ⟨none, .store 4 (.tmp 3) (.const (.bool false)), none⟩]) .ret)
@[go_sem] theorem c_sheaflaw18_parts_34_at (rd : Option Nat) (K : Post3) (t : Fr) (m : Mem) : wpM E 34 89 rd c_sheaflaw18_parts_34 K t m = wpM E 34 89 rd (.seq (.ops [⟨none, .store 40 (.tmp 2) (.const (.slice none 0 0)), none⟩,
    ⟨none, .store 4 (.tmp 3) (.const (.bool false)), none⟩]) .ret) K t m := rfl

def c_sheaflaw18_parts_35 : MC := (.cond (.tmp 78) c_sheaflaw18_parts_34 .skip)
@[go_sem] theorem c_sheaflaw18_parts_35_at (rd : Option Nat) (K : Post3) (t : Fr) (m : Mem) : wpM E 34 89 rd c_sheaflaw18_parts_35 K t m = wpM E 34 89 rd (.cond (.tmp 78) c_sheaflaw18_parts_34 .skip) K t m := rfl

def c_sheaflaw18_parts_36 : MC := (.seq (.ops [⟨(some 77), .move (.tmp 14), none⟩,
    ⟨(some 78), .binOp .eql 51 (.tmp 77) (.const .nilFunc) 51, none⟩]) c_sheaflaw18_parts_35)
@[go_sem] theorem c_sheaflaw18_parts_36_at (rd : Option Nat) (K : Post3) (t : Fr) (m : Mem) : wpM E 34 89 rd c_sheaflaw18_parts_36 K t m = wpM E 34 89 rd (.seq (.ops [⟨(some 77), .move (.tmp 14), none⟩,
    ⟨(some 78), .binOp .eql 51 (.tmp 77) (.const .nilFunc) 51, none⟩]) c_sheaflaw18_parts_35) K t m := rfl

def c_sheaflaw18_parts_37 : MC := (.seq (.ops [⟨(some 15), .assign (.tmp 80), none⟩]) (.ops [⟨(some 16), .assign (.tmp 81), none⟩]))
@[go_sem] theorem c_sheaflaw18_parts_37_at (rd : Option Nat) (K : Post3) (t : Fr) (m : Mem) : wpM E 34 89 rd c_sheaflaw18_parts_37 K t m = wpM E 34 89 rd (.seq (.ops [⟨(some 15), .assign (.tmp 80), none⟩]) (.ops [⟨(some 16), .assign (.tmp 81), none⟩])) K t m := rfl

def c_sheaflaw18_parts_38 : MC := (.seq (.ops [⟨none, .store 40 (.tmp 2) (.const (.slice none 0 0)), none⟩,
    ⟨none, .store 4 (.tmp 3) (.const (.bool false)), none⟩]) .ret)
@[go_sem] theorem c_sheaflaw18_parts_38_at (rd : Option Nat) (K : Post3) (t : Fr) (m : Mem) : wpM E 34 89 rd c_sheaflaw18_parts_38 K t m = wpM E 34 89 rd (.seq (.ops [⟨none, .store 40 (.tmp 2) (.const (.slice none 0 0)), none⟩,
    ⟨none, .store 4 (.tmp 3) (.const (.bool false)), none⟩]) .ret) K t m := rfl

def c_sheaflaw18_parts_39 : MC := (.cond (.tmp 83) c_sheaflaw18_parts_38 .skip)
@[go_sem] theorem c_sheaflaw18_parts_39_at (rd : Option Nat) (K : Post3) (t : Fr) (m : Mem) : wpM E 34 89 rd c_sheaflaw18_parts_39 K t m = wpM E 34 89 rd (.cond (.tmp 83) c_sheaflaw18_parts_38 .skip) K t m := rfl

def c_sheaflaw18_parts_40 : MC := (.seq (.ops [⟨(some 82), .move (.tmp 16), none⟩,
    ⟨(some 83), .unOp .not 4 (.tmp 82), none⟩]) c_sheaflaw18_parts_39)
@[go_sem] theorem c_sheaflaw18_parts_40_at (rd : Option Nat) (K : Post3) (t : Fr) (m : Mem) : wpM E 34 89 rd c_sheaflaw18_parts_40 K t m = wpM E 34 89 rd (.seq (.ops [⟨(some 82), .move (.tmp 16), none⟩,
    ⟨(some 83), .unOp .not 4 (.tmp 82), none⟩]) c_sheaflaw18_parts_39) K t m := rfl

def c_sheaflaw18_parts_41 : MC := (.seq c_sheaflaw18_parts_40 (.ops [⟨(some 84), .load 40 (.tmp 13), none⟩,
    ⟨(some 85), .move (.tmp 15), none⟩,
    ⟨(some 86), .buildSlice 40 1 #[(0, (.tmp 85))], none⟩,
    ⟨(some 87), .call ⟨.builtin .append, #[(.tmp 84), (.tmp 86)], #[40, 40]⟩, none⟩,
    ⟨none, .store 40 (.tmp 13) (.tmp 87), none⟩]))
@[go_sem] theorem c_sheaflaw18_parts_41_at (rd : Option Nat) (K : Post3) (t : Fr) (m : Mem) : wpM E 34 89 rd c_sheaflaw18_parts_41 K t m = wpM E 34 89 rd (.seq c_sheaflaw18_parts_40 (.ops [⟨(some 84), .load 40 (.tmp 13), none⟩,
    ⟨(some 85), .move (.tmp 15), none⟩,
    ⟨(some 86), .buildSlice 40 1 #[(0, (.tmp 85))], none⟩,
    ⟨(some 87), .call ⟨.builtin .append, #[(.tmp 84), (.tmp 86)], #[40, 40]⟩, none⟩,
    ⟨none, .store 40 (.tmp 13) (.tmp 87), none⟩])) K t m := rfl

def c_sheaflaw18_parts_42 : MC := (.block 7 c_sheaflaw18_parts_41)
@[go_sem] theorem c_sheaflaw18_parts_42_at (rd : Option Nat) (K : Post3) (t : Fr) (m : Mem) : wpM E 34 89 rd c_sheaflaw18_parts_42 K t m = wpM E 34 89 rd (.block 7 c_sheaflaw18_parts_41) K t m := rfl

theorem asg_sheaflaw18_parts_0 : compile E 34 89 (asgAt E 34 0) = some c_sheaflaw18_parts_37 := by kernel_rfl

theorem body_sheaflaw18_parts_0 : compile E 34 89 (bodyAt E 34 0) = some c_sheaflaw18_parts_42 := by kernel_rfl

def c_sheaflaw18_parts_43 : MC := (.range (.tmp 79) #[80, 81] (asgAt E 34 0) (bodyAt E 34 0))
theorem c_sheaflaw18_parts_43_at (rd : Option Nat) (K : Post3) (t : Fr) (m : Mem) : wpM E 34 89 rd c_sheaflaw18_parts_43 K t m = wpM E 34 89 rd (.range (.tmp 79) #[80, 81] (asgAt E 34 0) (bodyAt E 34 0)) K t m := rfl

def c_sheaflaw18_parts_44 : MC := (.block 6 c_sheaflaw18_parts_43)
@[go_sem] theorem c_sheaflaw18_parts_44_at (rd : Option Nat) (K : Post3) (t : Fr) (m : Mem) : wpM E 34 89 rd c_sheaflaw18_parts_44 K t m = wpM E 34 89 rd (.block 6 c_sheaflaw18_parts_43) K t m := rfl

def c_sheaflaw18_parts_45 : MC := (.seq (.ops [⟨(some 79), .move (.tmp 14), none⟩]) c_sheaflaw18_parts_44)
@[go_sem] theorem c_sheaflaw18_parts_45_at (rd : Option Nat) (K : Post3) (t : Fr) (m : Mem) : wpM E 34 89 rd c_sheaflaw18_parts_45 K t m = wpM E 34 89 rd (.seq (.ops [⟨(some 79), .move (.tmp 14), none⟩]) c_sheaflaw18_parts_44) K t m := rfl

def c_sheaflaw18_parts_46 : MC := (.seq (.ops [⟨(some 88), .load 40 (.tmp 13), none⟩,
    ⟨none, .store 40 (.tmp 2) (.tmp 88), none⟩,
    ⟨none, .store 4 (.tmp 3) (.const (.bool true)), none⟩]) .ret)
@[go_sem] theorem c_sheaflaw18_parts_46_at (rd : Option Nat) (K : Post3) (t : Fr) (m : Mem) : wpM E 34 89 rd c_sheaflaw18_parts_46 K t m = wpM E 34 89 rd (.seq (.ops [⟨(some 88), .load 40 (.tmp 13), none⟩,
    ⟨none, .store 40 (.tmp 2) (.tmp 88), none⟩,
    ⟨none, .store 4 (.tmp 3) (.const (.bool true)), none⟩]) .ret) K t m := rfl

def c_sheaflaw18_parts_47 : MC := (.seq c_sheaflaw18_parts_45 c_sheaflaw18_parts_46)
@[go_sem] theorem c_sheaflaw18_parts_47_at (rd : Option Nat) (K : Post3) (t : Fr) (m : Mem) : wpM E 34 89 rd c_sheaflaw18_parts_47 K t m = wpM E 34 89 rd (.seq c_sheaflaw18_parts_45 c_sheaflaw18_parts_46) K t m := rfl

def c_sheaflaw18_parts_48 : MC := (.seq c_sheaflaw18_parts_36 c_sheaflaw18_parts_47)
@[go_sem] theorem c_sheaflaw18_parts_48_at (rd : Option Nat) (K : Post3) (t : Fr) (m : Mem) : wpM E 34 89 rd c_sheaflaw18_parts_48 K t m = wpM E 34 89 rd (.seq c_sheaflaw18_parts_36 c_sheaflaw18_parts_47) K t m := rfl

def c_sheaflaw18_parts_49 : MC := (.seq (.ops [⟨(some 74), .move (.tmp 8), none⟩,
    ⟨(some 75), .call ⟨.value (.func 28), #[(.tmp 74)], #[40]⟩, none⟩,
    ⟨(some 76), .call ⟨.value (.func 59), #[(.tmp 75)], #[54]⟩, none⟩,
    ⟨(some 14), .assign (.tmp 76), none⟩]) c_sheaflaw18_parts_48)
@[go_sem] theorem c_sheaflaw18_parts_49_at (rd : Option Nat) (K : Post3) (t : Fr) (m : Mem) : wpM E 34 89 rd c_sheaflaw18_parts_49 K t m = wpM E 34 89 rd (.seq (.ops [⟨(some 74), .move (.tmp 8), none⟩,
    ⟨(some 75), .call ⟨.value (.func 28), #[(.tmp 74)], #[40]⟩, none⟩,
    ⟨(some 76), .call ⟨.value (.func 59), #[(.tmp 75)], #[54]⟩, none⟩,
    ⟨(some 14), .assign (.tmp 76), none⟩]) c_sheaflaw18_parts_48) K t m := rfl

def c_sheaflaw18_parts_50 : MC := (.seq (.ops [⟨(some 13), .alloc 40, none⟩]) c_sheaflaw18_parts_49)
@[go_sem] theorem c_sheaflaw18_parts_50_at (rd : Option Nat) (K : Post3) (t : Fr) (m : Mem) : wpM E 34 89 rd c_sheaflaw18_parts_50 K t m = wpM E 34 89 rd (.seq (.ops [⟨(some 13), .alloc 40, none⟩]) c_sheaflaw18_parts_49) K t m := rfl

def c_sheaflaw18_parts_51 : MC := (.seq c_sheaflaw18_parts_33 c_sheaflaw18_parts_50)
@[go_sem] theorem c_sheaflaw18_parts_51_at (rd : Option Nat) (K : Post3) (t : Fr) (m : Mem) : wpM E 34 89 rd c_sheaflaw18_parts_51 K t m = wpM E 34 89 rd (.seq c_sheaflaw18_parts_33 c_sheaflaw18_parts_50) K t m := rfl

def c_sheaflaw18_parts_52 : MC := (.seq (.ops [⟨(some 8), .assign (.const (.slice none 0 0)), none⟩]) c_sheaflaw18_parts_51)
@[go_sem] theorem c_sheaflaw18_parts_52_at (rd : Option Nat) (K : Post3) (t : Fr) (m : Mem) : wpM E 34 89 rd c_sheaflaw18_parts_52 K t m = wpM E 34 89 rd (.seq (.ops [⟨(some 8), .assign (.const (.slice none 0 0)), none⟩]) c_sheaflaw18_parts_51) K t m := rfl

def c_sheaflaw18_parts_53 : MC := (.seq c_sheaflaw18_parts_13 c_sheaflaw18_parts_52)
@[go_sem] theorem c_sheaflaw18_parts_53_at (rd : Option Nat) (K : Post3) (t : Fr) (m : Mem) : wpM E 34 89 rd c_sheaflaw18_parts_53 K t m = wpM E 34 89 rd (.seq c_sheaflaw18_parts_13 c_sheaflaw18_parts_52) K t m := rfl

def c_sheaflaw18_parts_54 : MC := (.seq (.ops [⟨(some 4), .assign (.const (.slice none 0 0)), none⟩]) c_sheaflaw18_parts_53)
@[go_sem] theorem c_sheaflaw18_parts_54_at (rd : Option Nat) (K : Post3) (t : Fr) (m : Mem) : wpM E 34 89 rd c_sheaflaw18_parts_54 K t m = wpM E 34 89 rd (.seq (.ops [⟨(some 4), .assign (.const (.slice none 0 0)), none⟩]) c_sheaflaw18_parts_53) K t m := rfl

def c_sheaflaw18_parts_55 : MC := (.seq (.ops [⟨(some 2), .alloc 40, none⟩,
    ⟨(some 3), .alloc 4, none⟩]) c_sheaflaw18_parts_54)
@[go_sem] theorem c_sheaflaw18_parts_55_at (rd : Option Nat) (K : Post3) (t : Fr) (m : Mem) : wpM E 34 89 rd c_sheaflaw18_parts_55 K t m = wpM E 34 89 rd (.seq (.ops [⟨(some 2), .alloc 40, none⟩,
    ⟨(some 3), .alloc 4, none⟩]) c_sheaflaw18_parts_54) K t m := rfl

@[go_sem] theorem some34 : (E.fn 34).isSome = true := by kernel_rfl
set_option maxRecDepth 100000 in
theorem fn_sheaflaw18_parts : FnIs E 34 89 [.cell 2 40, .cell 3 4] c_sheaflaw18_parts_55 := ⟨by kernel_rfl, by kernel_rfl⟩

end
end Go.Proofs.Ytjmppooebppecaa.W
