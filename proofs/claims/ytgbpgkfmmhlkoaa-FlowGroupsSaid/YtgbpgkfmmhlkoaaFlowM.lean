/-
  FlowChain, the law.
-/
import Derived.Test.YtgbpgkfmmhlkoaaFlowL
import Derived.Test.YtgbpgkfmmhlkoaaCodeLaw2
namespace Go.Proofs.Ytgbpgkfmmhlkoaa.W
open Go.Abs
set_option linter.unusedSimpArgs false
set_option linter.unusedVariables false

theorem MapSI_at {m : Mem} {f g : Fn} {fa fb ga gb : Array Value} : CallQ E F_flow_Map_Sint_int [.func f fa fb, .func g ga gb].toArray m fun w m' => ∃ b1 b2, w = .func (.func F_flow_Map_Sint_int_1) #[] #[ptr b1, ptr b2] ∧ cap1 m' b1 (.func f fa fb) ∧ cap1 m' b2 (.func g ga gb) ∧ Old m m' := by
  refine .enter fn_flow_Map_Sint_int (by simp) ?_
  simp (decide := true) (implicitDefEqProofs := false) (maxDischargeDepth := 20) only [go_sem, ↓reduceIte, true_implies, false_implies]
  exact ⟨m.size, m.size + 1, rfl, by unfold cap1; rw [getM_push, if_neg (by simp), getM_push, if_pos rfl], by unfold cap1; rw [getM_push, if_pos (by simp)]⟩

theorem Groups_at {m : Mem} {f g : Fn} {fa fb ga gb : Array Value} : CallQ E F_flow_Groups_int [.func f fa fb, .func g ga gb].toArray m fun w m' => ∃ b1 b2, w = .func (.func F_flow_Groups_int_1) #[] #[ptr b1, ptr b2] ∧ cap1 m' b1 (.func f fa fb) ∧ cap1 m' b2 (.func g ga gb) ∧ Old m m' := by
  refine .enter fn_flow_Groups_int (by simp) ?_
  simp (decide := true) (implicitDefEqProofs := false) (maxDischargeDepth := 20) only [go_sem, ↓reduceIte, true_implies, false_implies]
  exact ⟨m.size, m.size + 1, rfl, by unfold cap1; rw [getM_push, if_neg (by simp), getM_push, if_pos rfl], by unfold cap1; rw [getM_push, if_pos (by simp)]⟩

theorem callF_of {E : Env} {g : FuncId} {cap : Array Value} {ys : List Value} {l : List Value} {m : Mem} {K : Value → Mem → Prop} (hs : (E.fn g).isSome = true) (e : #[] ++ ys.toArray ++ cap = l.toArray) (h : CallQ E g l.toArray m K) : CallF E (.func (.func g) #[] cap) ys m K := by
  rw [CallF_func, e]
  exact ⟨hs, h⟩

theorem Equal_ok (Z : Nat → Option Blk) (a b : Int) : PureF E Z (.func (.func F_sheaflaw10_equal) #[] #[]) [vI a, vI b] (.bool (a == b)) := fun m _ => by
  refine callF_of some25 (l := [vI a, vI b]) (by simp) (.enter fn_sheaflaw10_equal (by simp) ?_)
  simp (decide := true) (implicitDefEqProofs := false) (maxDischargeDepth := 20) only [go_sem, ↓reduceIte, true_implies, false_implies]
theorem Chain1 {Z : Nat → Option Blk} {b : Nat} {k : Int} (h : Z b = some (.cells false true [.int .i64 k])) (x : Int) : PureF E Z (.func (.func F_sheaflaw10_FlowChain_1) #[] #[ptr b]) [vI x] (vI (xorI .i64 x k)) := fun m z => by
  have r := frozen_at z h
  refine callF_of some44 (l := [vI x, ptr b]) (by simp) (.enter fn_sheaflaw10_FlowChain_1 (by simp) ?_)
  simp (decide := true) (implicitDefEqProofs := false) (maxDischargeDepth := 20) only [go_sem, r, ↓reduceIte, true_implies, false_implies]
theorem Chain2 {Z : Nat → Option Blk} {b : Nat} {k : Int} (h : Z b = some (.cells false true [.int .i64 k])) (x : Int) : PureF E Z (.func (.func F_sheaflaw10_FlowChain_2) #[] #[ptr b]) [vI x] (vI (IntKind.wrap .i64 (x + k))) := fun m z => by
  have r := frozen_at z h
  refine callF_of some45 (l := [vI x, ptr b]) (by simp) (.enter fn_sheaflaw10_FlowChain_2 (by simp) ?_)
  simp (decide := true) (implicitDefEqProofs := false) (maxDischargeDepth := 20) only [go_sem, r, ↓reduceIte, true_implies, false_implies]
def evenI (x : Int) : Bool := andI .i64 x 1 == 0
def lowI (x : Int) : Bool := andI .i64 x 2 == 0
theorem Chain3 (Z : Nat → Option Blk) (x : Int) : PureF E Z (.func (.func F_sheaflaw10_FlowChain_3) #[] #[]) [vI x] (.bool (evenI x)) := fun m _ => by
  refine callF_of some46 (l := [vI x]) (by simp) (.enter fn_sheaflaw10_FlowChain_3 (by simp) ?_)
  simp (decide := true) (implicitDefEqProofs := false) (maxDischargeDepth := 20) only [go_sem, ↓reduceIte, true_implies, false_implies]
  first | done | rfl
theorem Chain4 (Z : Nat → Option Blk) (x : Int) : PureF E Z (.func (.func F_sheaflaw10_FlowChain_4) #[] #[]) [vI x] (.bool (lowI x)) := fun m _ => by
  refine callF_of some47 (l := [vI x]) (by simp) (.enter fn_sheaflaw10_FlowChain_4 (by simp) ?_)
  simp (decide := true) (implicitDefEqProofs := false) (maxDischargeDepth := 20) only [go_sem, ↓reduceIte, true_implies, false_implies]
  first | done | rfl
theorem Chain7 (Z : Nat → Option Blk) (y x : Int) : PureF E Z (.func (.func F_sheaflaw10_FlowChain_7) #[] #[]) [vI y, vI x] (vI (IntKind.wrap .i64 (y + x))) := fun m _ => by
  refine callF_of some51 (l := [vI y, vI x]) (by simp) (.enter fn_sheaflaw10_FlowChain_7 (by simp) ?_)
  simp (decide := true) (implicitDefEqProofs := false) (maxDischargeDepth := 20) only [go_sem, ↓reduceIte, true_implies, false_implies]
theorem Chain6 (a : Option Addr) (n c : Nat) (m : Mem) : CallF E (.func (.func F_sheaflaw10_FlowChain_6) #[] #[]) [.slice a n c] m fun w m' => w = vI n ∧ Old m m' := by
  refine callF_of some50 (l := [.slice a n c]) (by simp) (.enter fn_sheaflaw10_FlowChain_6 (by simp) ?_)
  simp (decide := true) (implicitDefEqProofs := false) (maxDischargeDepth := 20) only [go_sem, ↓reduceIte, true_implies, false_implies]

/-- One block, that stays. -/
def oneZ (b : Nat) (k : Blk) : Nat → Option Blk := fun i => if i = b then some k else none
theorem oneZ_frozen {m : Mem} {b : Nat} {k : Blk} (h : m.get b = some k) : Frozen (oneZ b k) m := fun i c hi => by
  unfold oneZ at hi
  split at hi
  · rename_i e; rw [e, ← hi]; exact h
  · cases hi

set_option maxRecDepth 100000 in
theorem Chain5 {Z : Nat → Option Blk} {bg bf bm bn : Nat} {mm nn : Int} (hg : Z bg = some (.cells false true [.func (.func F_sheaflaw10_FlowChain_2) #[] #[ptr bn]])) (hf : Z bf = some (.cells false true [.func (.func F_sheaflaw10_FlowChain_1) #[] #[ptr bm]])) (hm : Z bm = some (.cells false true [.int .i64 mm])) (hn : Z bn = some (.cells false true [.int .i64 nn])) (x : Int) :
    PureF E Z (.func (.func F_sheaflaw10_FlowChain_5) #[] #[ptr bg, ptr bf]) [vI x] (vI (IntKind.wrap .i64 (xorI .i64 x mm + nn))) := fun m z => by
  have r1 := frozen_at z hg
  have r2 := frozen_at z hf
  have nbm : bm ≠ bg := by rintro rfl; rw [hg] at hm; cases hm
  refine callF_of some48 (l := [vI x, ptr bg, ptr bf]) (by simp) (.enter fn_sheaflaw10_FlowChain_5 (by simp) ?_)
  have gm : (m.gm [bg]).get bm = some (.cells false true [.int .i64 mm]) := by rw [get_gm, if_neg (by simpa using nbm)]; exact z _ _ hm
  have q := Chain1 (Z := oneZ bm (.cells false true [.int .i64 mm])) (b := bm) (k := mm) (by simp [oneZ]) x _ (oneZ_frozen gm)
  obtain ⟨_, q⟩ := q
  have e1 : (#[] ++ [vI x].toArray ++ #[ptr bm] : Array Value) = #[vI x, ptr bm] := by simp
  rw [e1] at q
  simp (decide := true) (implicitDefEqProofs := false) (maxDischargeDepth := 20) only [go_sem, r1, r2, ↓reduceIte, true_implies, false_implies]
  refine q.mono ?_
  rintro w m2 ⟨rfl, o2⟩
  obtain ⟨el, rfl, hu⟩ := o2.ugm
  have o3 : Old m (m.ext el) := ⟨el, rfl⟩
  obtain ⟨_, q2⟩ := Chain2 (Z := Z) hn (xorI .i64 x mm) (m.ext el) (z.old o3)
  have e2 : (#[] ++ [vI (xorI .i64 x mm)].toArray ++ #[ptr bn] : Array Value) = #[vI (xorI .i64 x mm), ptr bn] := by simp
  rw [e2] at q2
  simp (decide := true) (implicitDefEqProofs := false) (maxDischargeDepth := 20) only [go_sem, ↓reduceIte, true_implies, false_implies]
  refine q2.mono ?_
  rintro w m4 ⟨rfl, o4⟩
  simp (decide := true) (implicitDefEqProofs := false) (maxDischargeDepth := 20) only [go_sem, ↓reduceIte, true_implies, false_implies]
  exact o3.trans o4
end Go.Proofs.Ytgbpgkfmmhlkoaa.W
