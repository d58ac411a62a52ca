/-
  Rules for walking compact code by rewriting.
-/
import Derived.Test.YthlcbacmbcmgfaaAbs15
namespace Go.Abs
variable {E : Env} {f : FuncId} {n : Nat} {rd : Option Nat} {K : Post3} {t : Fr} {m : Mem}

/-! ### One run, one answer -/
theorem CallQ.det {g : FuncId} {args : Array Value} {v : Value} {m' : Mem} (h : CallQ E g args m fun w m2 => w = v ∧ m2 = m') (Q : Value → Mem → Prop) : CallQ E g args m Q = Q v m' := by
  obtain ⟨k, t, m2, h1, rfl, rfl⟩ := h
  refine propext ⟨fun ⟨j, t', m3, h2, h3⟩ => ?_, fun h => ⟨k, t, m2, h1, h⟩⟩
  have e1 := run_mono (Nat.le_max_left k j) h1
  have e2 := run_mono (Nat.le_max_right k j) h2
  rw [e1] at e2
  cases e2
  exact h3

/-! ### Heads -/
theorem StepQ_congr {s s' : Option Step} {K : Value → Mem → Prop} (h : s = s') : StepQ E s K = StepQ E s' K := by rw [h]

@[go_sem] theorem StepQ_val (v : Value) (m : Mem) (K : Value → Mem → Prop) : StepQ E (some (.val v m)) K = K v m := rfl
@[go_sem] theorem StepQ_enter (g : FuncId) (args : Array Value) (m : Mem) (K : Value → Mem → Prop) : StepQ E (some (.enter g args m)) K = CallQ E g args m K := rfl
@[go_sem] theorem StepQ_ite (c : Prop) [Decidable c] (s : Option Step) (K : Value → Mem → Prop) : StepQ E (if c then s else none) K = (c ∧ StepQ E s K) := by
  by_cases h : c
  · simp [h]
  · simp [h, StepQ]

@[go_sem] theorem wpM_seq (a b : MC) : wpM E f n rd (.seq a b) K t m = wpM E f n rd a (seqK (wpM E f n rd b K) K) t m := rfl
@[go_sem] theorem wpM_skip : wpM E f n rd .skip K t m = K .normal t m := rfl
@[go_sem] theorem wpM_ret : wpM E f n rd .ret K t m = K .ret t m := rfl
@[go_sem] theorem wpM_exit (i : Nat) : wpM E f n rd (.exit i) K t m = K (.exit i) t m := rfl
@[go_sem] theorem wpM_block (i : Nat) (b : MC) : wpM E f n rd (.block i b) K t m = wpM E f n rd b (blockK i K) t m := rfl
@[go_sem] theorem wpM_ops (l : List MO) : wpM E f n rd (.ops l) K t m = wpO E l (K .normal) t m := rfl
@[go_sem] theorem wpM_draw (l : List (Nat × List Nat × MO)) : wpM E f n rd (.draw l) K t m = wpD E l [] (K .normal) t m := rfl
@[go_sem] theorem wpM_cond (c : Operand) (a b : MC) : wpM E f n rd (.cond c a b) K t m = match evF t c with
    | .bool p => (p = true → wpM E f n rd a K t m) ∧ (p = false → wpM E f n rd b K t m)
    | _ => False := by
  show (∃ p, evF t c = .bool p ∧ _) = _
  cases evF t c <;> simp

@[go_sem] theorem seqK_normal (next : Fr → Mem → Prop) : seqK next K .normal t m = next t m := rfl
@[go_sem] theorem seqK_ret (next : Fr → Mem → Prop) : seqK next K .ret t m = K .ret t m := rfl
@[go_sem] theorem seqK_exit (next : Fr → Mem → Prop) (i : Nat) : seqK next K (.exit i) t m = K (.exit i) t m := rfl
@[go_sem] theorem blockK_normal (i : Nat) : blockK i K .normal t m = K .normal t m := rfl
@[go_sem] theorem blockK_ret (i : Nat) : blockK i K .ret t m = K .ret t m := rfl
@[go_sem] theorem blockK_exit (i j : Nat) : blockK i K (.exit j) t m = if j = i then K .normal t m else K (.exit j) t m := rfl

/-- Is a guard as it must be? -/
def Grd : Value → Bool → Prop
  | .bool p, b => p = b
  | _, _ => False
instance (v : Value) (b : Bool) : Decidable (Grd v b) := by
  cases v <;> unfold Grd <;> infer_instance
@[go_sem] theorem Grd_bool (p b : Bool) : Grd (.bool p) b = (p = b) := rfl
@[go_sem] theorem Grd_undef (b : Bool) : Grd undef b = False := rfl

section ops
variable {L : Fr → Mem → Prop} {l : List MO} {op : Op} {d : Option Nat}
/-- What comes behind an operation. -/
def contO (E : Env) (l : List MO) (L : Fr → Mem → Prop) (t : Fr) (d : Option Nat) : Value → Mem → Prop := fun v m' => wpO E l L (updO t d v) m'
@[go_sem] theorem contO_at (v : Value) : contO E l L t d v m = wpO E l L (updO t d v) m := rfl
@[go_sem] theorem wpO_nil : wpO E [] L t m = L t m := rfl
@[go_sem] theorem wpO_plain : wpO E (⟨d, op, none⟩ :: l) L t m = StepQ E (opW E op (evF t) m) (contO E l L t d) := by
  simp [wpO, wantedF]; rfl
@[go_sem] theorem wpO_guard (x : Nat) (b : Bool) : wpO E (⟨d, op, some (some x, b)⟩ :: l) L t m = if Grd (t x) b then StepQ E (opW E op (evF t) m) (contO E l L t d) else wpO E l L (updO t d undef) m := by
  simp only [wpO, wantedF]
  cases t x with
  | bool p => cases p <;> cases b <;> simp [Grd] <;> rfl
  | _ => simp [Grd]
end ops

section drawn
variable {L : Fr → Mem → Prop} {l : List (Nat × List Nat × MO)} {op : Op} {d : Option Nat} {i : Nat} {pr : List Nat} {log : List (Nat × Nat)}
def contD (E : Env) (l : List (Nat × List Nat × MO)) (log : List (Nat × Nat)) (L : Fr → Mem → Prop) (t : Fr) (d : Option Nat) (m : Mem) (ids : List Nat) : Value → Mem → Prop := fun v m' => wpD E l log L (updO t d v) (m.ugm m' ids)
@[go_sem] theorem contD_at (v : Value) (m' : Mem) (ids : List Nat) : contD E l log L t d m ids v m' = wpD E l log L (updO t d v) (m.ugm m' ids) := rfl
@[go_sem] theorem wpD_nil : wpD E [] log L t m = L t m := rfl
@[go_sem] theorem wpD_plain : wpD E ((i, pr, ⟨d, op, none⟩) :: l) log L t m = StepQ E (opW E op (evF t) (m.gm (keptBy pr log))) (contD E l (loggedW op (evF t) i log) L t d m (keptBy pr log)) := by
  simp [wpD, wantedF]; rfl
@[go_sem] theorem wpD_guard (x : Nat) (b : Bool) : wpD E ((i, pr, ⟨d, op, some (some x, b)⟩) :: l) log L t m = if Grd (t x) b then StepQ E (opW E op (evF t) (m.gm (keptBy pr log))) (contD E l (loggedW op (evF t) i log) L t d m (keptBy pr log)) else wpD E l log L (updO t d undef) m := by
  simp only [wpD, wantedF]
  cases t x with
  | bool p => cases p <;> cases b <;> simp [Grd] <;> rfl
  | _ => simp [Grd]
@[go_sem] theorem keptBy_nil : keptBy [] log = [] := rfl
@[go_sem] theorem gm_nil : m.gm [] = m := rfl
@[go_sem] theorem ugm_nil (m' : Mem) : m.ugm m' [] = m' := rfl
def look (j : Nat) : List (Nat × Nat) → Option Nat
  | [] => none
  | (i, b) :: l => if i = j then some b else look j l
theorem look_find (j : Nat) : ∀ (l : List (Nat × Nat)), (l.find? fun e => e.1 == j).map (·.2) = look j l
  | [] => rfl
  | (i, b) :: l => by
    rw [List.find?_cons, look]
    by_cases h : i = j
    · simp [h]
    · have : (i == j) = false := by simpa using h
      rw [if_neg h, ← look_find j l]
      simp [this]
@[go_sem] theorem keptBy_cons (j : Nat) : keptBy (j :: pr) log = match look j log with
    | some b => b :: keptBy pr log
    | none => keptBy pr log := by
  unfold keptBy
  rw [List.filterMap_cons, look_find]
  cases look j log <;> rfl
@[go_sem] theorem look_nil (j : Nat) : look j [] = none := rfl
@[go_sem] theorem look_cons (i j b : Nat) : look j ((i, b) :: log) = if i = j then some b else look j log := rfl
@[go_sem] theorem loggedW_load (ty : TypeId) (x : Operand) (r : Operand → Value) : loggedW (.load ty x) r i log = match r x with
    | .pointer (some a) => (i, a.block) :: log
    | _ => log := by
  unfold loggedW logged loadBlock
  cases hx : r x with
  | pointer a => cases a <;> simp [hx]
  | _ => simp [hx]
@[go_sem] theorem loggedW_move (x : Operand) (r : Operand → Value) : loggedW (.move x) r i log = log := rfl
@[go_sem] theorem loggedW_assign (x : Operand) (r : Operand → Value) : loggedW (.assign x) r i log = log := rfl
@[go_sem] theorem loggedW_pick (x y z : Operand) (r : Operand → Value) : loggedW (.pick x y z) r i log = log := rfl
@[go_sem] theorem loggedW_binOp (o : BinOp) (ty u : TypeId) (x y : Operand) (r : Operand → Value) : loggedW (.binOp o ty x y u) r i log = log := rfl
@[go_sem] theorem loggedW_unOp (o : UnOp) (ty : TypeId) (x : Operand) (r : Operand → Value) : loggedW (.unOp o ty x) r i log = log := rfl
@[go_sem] theorem loggedW_call (c : Call) (r : Operand → Value) : loggedW (.call c) r i log = log := rfl
@[go_sem] theorem loggedW_field (ty : TypeId) (x : Operand) (k : Nat) (r : Operand → Value) : loggedW (.field ty x k) r i log = log := rfl
@[go_sem] theorem loggedW_fieldAddr (ty : TypeId) (x : Operand) (k : Nat) (r : Operand → Value) : loggedW (.fieldAddr ty x k) r i log = log := rfl
@[go_sem] theorem loggedW_extract (x : Operand) (k : Nat) (r : Operand → Value) : loggedW (.extract x k) r i log = log := rfl
@[go_sem] theorem loggedW_build (ty : TypeId) (ps : Array (Nat × Operand)) (r : Operand → Value) : loggedW (.build ty ps) r i log = log := rfl
@[go_sem] theorem loggedW_store (ty : TypeId) (x y : Operand) (r : Operand → Value) : loggedW (.store ty x y) r i log = log := rfl
@[go_sem] theorem loggedW_alloc (ty : TypeId) (r : Operand → Value) : loggedW (.alloc ty) r i log = log := rfl
@[go_sem] theorem loggedW_indexAddr (ty : TypeId) (x y : Operand) (r : Operand → Value) : loggedW (.indexAddr ty x y) r i log = log := rfl
@[go_sem] theorem loggedW_index (ty : TypeId) (x y : Operand) (r : Operand → Value) : loggedW (.index ty x y) r i log = log := rfl
end drawn

@[go_sem] theorem updO_some (d : Nat) (v : Value) : updO t (some d) v = upd t d v := rfl
@[go_sem] theorem updO_none (v : Value) : updO t none v = t := rfl
@[go_sem] theorem upd_at (d i : Nat) (v : Value) : upd t d v i = if i = d then v else t i := rfl
@[go_sem] theorem evF_tmp (i : Nat) : evF t (.tmp i) = t i := rfl
@[go_sem] theorem evF_const (v : Value) : evF t (.const v) = v := rfl
@[go_sem] theorem evF_func (g : FuncId) : evF t (.func g) = .func (.func g) #[] #[] := rfl

/-! ### Operations -/
section opW
variable {r : Operand → Value}
@[go_sem] theorem opW_move (x : Operand) : opW E (.move x) r m = some (.val (r x) m) := rfl
@[go_sem] theorem opW_assign (x : Operand) : opW E (.assign x) r m = some (.val (r x) m) := rfl
@[go_sem] theorem opW_pick (c a b : Operand) : opW E (.pick c a b) r m = match r c with
    | .bool p => some (.val (if p then r a else r b) m)
    | _ => none := rfl
@[go_sem] theorem opW_binOp (op : BinOp) (ty u : TypeId) (x y : Operand) : opW E (.binOp op ty x y u) r m = val? m (binV E op ty (r x) (r y)) := rfl
@[go_sem] theorem opW_unOp (op : UnOp) (ty : TypeId) (x : Operand) : opW E (.unOp op ty x) r m = val? m (unV op (r x)) := rfl
@[go_sem] theorem opW_extract (x : Operand) (i : Nat) : opW E (.extract x i) r m = match r x with
    | .tuple vs => val? m vs[i]?
    | _ => none := rfl
@[go_sem] theorem opW_field (ty : TypeId) (x : Operand) (i : Nat) : opW E (.field ty x i) r m = val? m (fieldV E ty (r x) i) := rfl
@[go_sem] theorem opW_build (ty : TypeId) (parts : Array (Nat × Operand)) : opW E (.build ty parts) r m = val? m (buildV E ty (parts.toList.map fun e => (e.1, r e.2))) := rfl
@[go_sem] theorem opW_convert (s d : TypeId) (x : Operand) : opW E (.convert s d x) r m = val2? (convV E s d (r x) m) := rfl
@[go_sem] theorem opW_load (ty : TypeId) (x : Operand) : opW E (.load ty x) r m = val? m (loadV E m ty (r x)) := rfl
@[go_sem] theorem opW_call (c : Call) : opW E (.call c) r m = callV E c r m := rfl
theorem callV_func (g : FuncId) (args : Array Operand) (tys : Array TypeId) : callV E ⟨.value (.func g), args, tys⟩ (evF t) m = match E.fn g with
      | some _ => some (.enter g (args.map (evF t)) m)
      | none => match E.ext g with
        | some k => val? m (carryV k (args.map (evF t)).toList)
        | none => none := by
  simp only [callV, evF]
  cases E.fn g with
  | some _ => simp
  | none => cases E.ext g <;> simp
@[go_sem] theorem val?_some (v : Value) : val? m (some v) = some (.val v m) := rfl
@[go_sem] theorem val?_ite (c : Prop) [Decidable c] (v : Option Value) : val? m (if c then v else none) = if c then val? m v else none := by split <;> rfl
@[go_sem] theorem val2?_some (v : Value) (m' : Mem) : val2? (some (v, m')) = some (.val v m') := rfl

def shlI (k : IntKind) (a b : Int) : Int := k.wrap (a * 2 ^ (min b.toNat k.bits))
def shrI (k : IntKind) (a b : Int) : Int := a.fdiv (2 ^ (min b.toNat k.bits))
theorem binV_int (op : BinOp) (ty : TypeId) (k : IntKind) (a b : Int) : binV E op ty (.int k a) (.int k b) = match op with
    | .shl => if b < 0 then none else some (.int k (k.wrap (a * 2 ^ (min b.toNat k.bits))))
    | .shr => if b < 0 then none else some (.int k (a.fdiv (2 ^ (min b.toNat k.bits))))
    | op => binInt op k a b := by cases op <;> simp [binV]
@[go_sem] theorem binV_shl (ty : TypeId) (k j : IntKind) (a b : Int) : binV E .shl ty (.int k a) (.int j b) = if b < 0 then none else some (.int k (shlI k a b)) := rfl
@[go_sem] theorem binV_shr (ty : TypeId) (k j : IntKind) (a b : Int) : binV E .shr ty (.int k a) (.int j b) = if b < 0 then none else some (.int k (shrI k a b)) := rfl
@[go_sem] theorem binV_add (ty : TypeId) (k : IntKind) (a b : Int) : binV E .add ty (.int k a) (.int k b) = binInt .add k a b := by simp [binV]
@[go_sem] theorem binV_sub (ty : TypeId) (k : IntKind) (a b : Int) : binV E .sub ty (.int k a) (.int k b) = binInt .sub k a b := by simp [binV]
@[go_sem] theorem binV_mul (ty : TypeId) (k : IntKind) (a b : Int) : binV E .mul ty (.int k a) (.int k b) = binInt .mul k a b := by simp [binV]
@[go_sem] theorem binV_quo (ty : TypeId) (k : IntKind) (a b : Int) : binV E .quo ty (.int k a) (.int k b) = binInt .quo k a b := by simp [binV]
@[go_sem] theorem binV_rem (ty : TypeId) (k : IntKind) (a b : Int) : binV E .rem ty (.int k a) (.int k b) = binInt .rem k a b := by simp [binV]
@[go_sem] theorem binV_and (ty : TypeId) (k : IntKind) (a b : Int) : binV E .and ty (.int k a) (.int k b) = binInt .and k a b := by simp [binV]
@[go_sem] theorem binV_or (ty : TypeId) (k : IntKind) (a b : Int) : binV E .or ty (.int k a) (.int k b) = binInt .or k a b := by simp [binV]
@[go_sem] theorem binV_xor (ty : TypeId) (k : IntKind) (a b : Int) : binV E .xor ty (.int k a) (.int k b) = binInt .xor k a b := by simp [binV]
@[go_sem] theorem binV_eql (ty : TypeId) (k : IntKind) (a b : Int) : binV E .eql ty (.int k a) (.int k b) = binInt .eql k a b := by simp [binV]
@[go_sem] theorem binV_neq (ty : TypeId) (k : IntKind) (a b : Int) : binV E .neq ty (.int k a) (.int k b) = binInt .neq k a b := by simp [binV]
@[go_sem] theorem binV_lss (ty : TypeId) (k : IntKind) (a b : Int) : binV E .lss ty (.int k a) (.int k b) = binInt .lss k a b := by simp [binV]
@[go_sem] theorem binV_leq (ty : TypeId) (k : IntKind) (a b : Int) : binV E .leq ty (.int k a) (.int k b) = binInt .leq k a b := by simp [binV]
@[go_sem] theorem binV_gtr (ty : TypeId) (k : IntKind) (a b : Int) : binV E .gtr ty (.int k a) (.int k b) = binInt .gtr k a b := by simp [binV]
@[go_sem] theorem binV_geq (ty : TypeId) (k : IntKind) (a b : Int) : binV E .geq ty (.int k a) (.int k b) = binInt .geq k a b := by simp [binV]
@[go_sem] theorem binV_bool (ty : TypeId) (a b : Bool) (h : E.desc ty = some .bool) : binV E .eql ty (.bool a) (.bool b) = some (.bool (a == b)) := by simp [binV, eqV, h]
@[go_sem] theorem binV_bool' (ty : TypeId) (a b : Bool) (h : E.desc ty = some .bool) : binV E .neq ty (.bool a) (.bool b) = some (.bool !(a == b)) := by simp [binV, eqV, h]
end opW

section opW2
variable {r : Operand → Value}
@[go_sem] theorem opW_alloc (ty : TypeId) : opW E (.alloc ty) r m = (E.ti ty).map fun i => .val (newBlock m true i.zero.cells.toList).1 (newBlock m true i.zero.cells.toList).2 := rfl
@[go_sem] theorem opW_box (ty : TypeId) (x : Operand) : opW E (.box ty x) r m = some (.val (newBlock m true (r x).cells.toList).1 (newBlock m true (r x).cells.toList).2) := rfl
@[go_sem] theorem opW_store (ty : TypeId) (x y : Operand) : opW E (.store ty x y) r m = (storeV E m ty (r x) (r y)).map fun m' => .val undef m' := rfl
@[go_sem] theorem opW_fieldAddr (ty : TypeId) (x : Operand) (i : Nat) : opW E (.fieldAddr ty x i) r m = val? m (fieldAddrV E ty (r x) i) := rfl
@[go_sem] theorem opW_indexAddr (ty : TypeId) (x y : Operand) : opW E (.indexAddr ty x y) r m = val? m (indexAddrV E ty (r x) (r y)) := rfl
@[go_sem] theorem opW_index (ty : TypeId) (x y : Operand) : opW E (.index ty x y) r m = val? m (indexV E ty (r x) (r y)) := rfl
@[go_sem] theorem opW_nilCheck (x : Operand) : opW E (.nilCheck x) r m = if nilOk (r x) then some (.val (r x) m) else none := rfl
@[go_sem] theorem opW_slice (ty : TypeId) (x : Operand) (lo hi : Option Operand) : opW E (.slice ty x lo hi none) r m = val? m (sliceV E ty (r x) (lo.map r) (hi.map r)) := rfl
@[go_sem] theorem opW_slice3 (ty : TypeId) (x : Operand) (lo : Option Operand) (hi mx : Operand) : opW E (.slice ty x lo (some hi) (some mx)) r m = val? m (slice3V E ty (r x) (lo.map r) (r hi) (r mx)) := rfl
@[go_sem] theorem opW_makeSlice (ty : TypeId) (x y : Operand) : opW E (.makeSlice ty x y) r m = val2? (makeV E m ty (r x) (r y)) := rfl
@[go_sem] theorem opW_buildSlice (ty : TypeId) (k : Nat) (parts : Array (Nat × Operand)) : opW E (.buildSlice ty k parts) r m = val2? (buildSliceV E m ty k (parts.toList.map fun e => (e.1, r e.2))) := rfl
@[go_sem] theorem opW_makeFunc (g : FuncId) (a b : Array Operand) : opW E (.makeFunc (.func g) a b) r m = some (.val (.func (.func g) (a.map r) (b.map r)) m) := rfl

@[go_sem] theorem binInt_add (k : IntKind) (a b : Int) : binInt .add k a b = some (.int k (k.wrap (a + b))) := rfl
@[go_sem] theorem binInt_sub (k : IntKind) (a b : Int) : binInt .sub k a b = some (.int k (k.wrap (a - b))) := rfl
@[go_sem] theorem binInt_mul (k : IntKind) (a b : Int) : binInt .mul k a b = some (.int k (k.wrap (a * b))) := rfl
@[go_sem] theorem binInt_quo (k : IntKind) (a b : Int) : binInt .quo k a b = if b = 0 then none else some (.int k (k.wrap (a.tdiv b))) := rfl
@[go_sem] theorem binInt_rem (k : IntKind) (a b : Int) : binInt .rem k a b = if b = 0 then none else some (.int k (a.tmod b)) := rfl
@[go_sem] theorem binInt_eql (k : IntKind) (a b : Int) : binInt .eql k a b = some (.bool (a == b)) := rfl
@[go_sem] theorem binInt_neq (k : IntKind) (a b : Int) : binInt .neq k a b = some (.bool (a != b)) := rfl
@[go_sem] theorem binInt_lss (k : IntKind) (a b : Int) : binInt .lss k a b = some (.bool (decide (a < b))) := rfl
@[go_sem] theorem binInt_leq (k : IntKind) (a b : Int) : binInt .leq k a b = some (.bool (decide (a ≤ b))) := rfl
@[go_sem] theorem binInt_gtr (k : IntKind) (a b : Int) : binInt .gtr k a b = some (.bool (decide (a > b))) := rfl
@[go_sem] theorem binInt_geq (k : IntKind) (a b : Int) : binInt .geq k a b = some (.bool (decide (a ≥ b))) := rfl
@[go_sem] theorem unV_neg (k : IntKind) (n : Int) : unV .neg (.int k n) = some (.int k (k.wrap (0 - n))) := rfl
@[go_sem] theorem unV_not (b : Bool) : unV .not (.bool b) = some (.bool !b) := rfl
def notI (k : IntKind) (n : Int) : Int := k.wrap (BitVec.ofInt k.bits (if k.signed then -1 else k.max) ^^^ BitVec.ofInt k.bits n).toNat
@[go_sem] theorem unV_xor (k : IntKind) (n : Int) : unV .xor (.int k n) = some (.int k (notI k n)) := rfl
def andI (k : IntKind) (a b : Int) : Int := k.wrap (BitVec.ofInt k.bits a &&& BitVec.ofInt k.bits b).toNat
def orI (k : IntKind) (a b : Int) : Int := k.wrap (BitVec.ofInt k.bits a ||| BitVec.ofInt k.bits b).toNat
def xorI (k : IntKind) (a b : Int) : Int := k.wrap (BitVec.ofInt k.bits a ^^^ BitVec.ofInt k.bits b).toNat
@[go_sem] theorem binInt_and (k : IntKind) (a b : Int) : binInt .and k a b = some (.int k (andI k a b)) := rfl
@[go_sem] theorem binInt_or (k : IntKind) (a b : Int) : binInt .or k a b = some (.int k (orI k a b)) := rfl
@[go_sem] theorem binInt_xor (k : IntKind) (a b : Int) : binInt .xor k a b = some (.int k (xorI k a b)) := rfl
end opW2

/-! ### Blocks -/
def Mem.ext (m : Mem) (l : List (Option Blk)) : Mem := ⟨m.bl ++ l⟩

@[go_sem] theorem newBlock_1 (tg : Bool) (cs : List Value) : (newBlock m tg cs).1 = .pointer (some ⟨m.size, 0, none⟩) := rfl
@[go_sem] theorem newBlock_2 (tg : Bool) (cs : List Value) : (newBlock m tg cs).2 = m.push (.cells false tg cs) := rfl
attribute [go_sem] getM_push size_push size_put
@[go_sem] theorem getM_put' (i j : Nat) (b : Option Blk) : (m.put i b).get j = if j = i then (if i < m.size then b else m.get j) else m.get j := by
  rw [getM_put]
  by_cases h : j = i
  · subst h
    by_cases h2 : j < m.size
    · simp [h2]
    · simp [h2]
  · simp [h]
theorem put_push (b : Blk) (c : Option Blk) (i : Nat) (h : i = m.size) : (m.push b).put i c = m.ext [c] := by
  subst h
  unfold Mem.push Mem.put Mem.ext Mem.size
  simp

attribute [go_sem] convV storeV buildV buildSliceV Mem.write loadV fieldV fieldAddrV indexV indexAddrV lenV Value.cells isAggD oneCell fillAt setRow asI bound partV
attribute [go_sem] Option.map_some Option.map_none List.map_cons List.map_nil List.map_toArray List.length_cons List.length_nil List.getElem?_toArray List.getElem?_cons_zero List.getElem?_cons_succ List.set_cons_zero List.set_cons_succ List.size_toArray
  List.drop_zero List.drop_succ_cons List.drop_nil List.take_zero List.take_succ_cons List.take_nil List.all_cons List.all_nil Bool.and_true Bool.true_and Bool.and_self Nat.zero_add Nat.add_zero List.getD_cons_zero List.getD_cons_succ ge_iff_le
attribute [go_sem] Nat.lt_add_one Nat.left_eq_add Nat.add_eq_left Nat.add_left_cancel_iff Nat.add_assoc Nat.lt_add_right_iff_pos Nat.add_lt_add_iff_left Nat.le_refl Nat.lt_irrefl and_self and_true true_and

/-! ### Calls, first and last steps -/
def undefF : Fr := fun _ => undef
@[go_sem] theorem undefF_at (i : Nat) : undefF i = undef := rfl

theorem upd_comm (t : Fr) {i j : Nat} (h : i ≠ j) (a b : Value) : upd (upd t i a) j b = upd (upd t j b) i a := by
  funext k
  simp only [upd]
  by_cases e : k = j
  · subst e; rw [if_pos rfl, if_neg (fun e => h e.symm), if_pos rfl]
  · rw [if_neg e, if_neg e]

def initU : Nat → List Value → Fr → Fr
  | _, [], t => t
  | i, a :: l, t => initU (i + 1) l (upd t i a)

theorem initU_at : ∀ (l : List Value) (i : Nat) (t : Fr) (j : Nat), initU i l t j = if i ≤ j ∧ j < i + l.length then l.getD (j - i) undef else t j
  | [], i, t, j => by rw [if_neg (by simp)]; rfl
  | a :: l, i, t, j => by
    rw [initU, initU_at l (i + 1) (upd t i a) j]
    simp only [List.length_cons, upd]
    by_cases h1 : i + 1 ≤ j ∧ j < i + 1 + l.length
    · rw [if_pos h1, if_pos (by omega)]
      rw [show j - i = (j - (i + 1)) + 1 by omega]
      simp
    · rw [if_neg h1]
      by_cases h2 : j = i
      · subst h2; rw [if_pos rfl, if_pos (by omega)]; simp
      · rw [if_neg h2, if_neg (by omega)]

theorem initF_eq (l : List Value) : initF l = initU 0 l undefF := by
  funext j
  rw [initU_at]
  unfold initF
  by_cases h : j < l.length
  · rw [if_pos (by omega)]; simp
  · rw [if_neg (by omega), List.getD_eq_getElem?_getD, List.getElem?_eq_none (by omega)]; rfl

@[go_sem] theorem initU_nil (i : Nat) : initU i [] t = t := rfl
@[go_sem] theorem initU_0 (a : Value) (l : List Value) : initU 0 (a :: l) t = initU 1 l (upd t 0 a) := rfl
@[go_sem] theorem initU_1 (a : Value) (l : List Value) : initU 1 (a :: l) t = initU 2 l (upd t 1 a) := rfl
@[go_sem] theorem initU_2 (a : Value) (l : List Value) : initU 2 (a :: l) t = initU 3 l (upd t 2 a) := rfl
@[go_sem] theorem initU_3 (a : Value) (l : List Value) : initU 3 (a :: l) t = initU 4 l (upd t 3 a) := rfl
@[go_sem] theorem initU_4 (a : Value) (l : List Value) : initU 4 (a :: l) t = initU 5 l (upd t 4 a) := rfl
@[go_sem] theorem initU_5 (a : Value) (l : List Value) : initU 5 (a :: l) t = initU 6 l (upd t 5 a) := rfl

/-- What holds at a function's end. -/
def retK (Q : Fr → Mem → Prop) : Post3
  | .normal, t, m => Q t m
  | .ret, t, m => Q t m
  | _, _, _ => False
@[go_sem] theorem retK_normal (Q : Fr → Mem → Prop) : retK Q .normal t m = Q t m := rfl
@[go_sem] theorem retK_ret (Q : Fr → Mem → Prop) : retK Q .ret t m = Q t m := rfl

def ResK (E : Env) (rs : List ResultVar) (K : Value → Mem → Prop) (t : Fr) (m : Mem) : Prop := match resultsF E m t rs with
  | some vs => K (bundle vs) m
  | none => False
@[go_sem] theorem ResK_0 (K : Value → Mem → Prop) : ResK E [] K t m = K (.tuple #[]) m := rfl
@[go_sem] theorem ResK_1 (K : Value → Mem → Prop) (i : Nat) : ResK E [.tmp i] K t m = K (t i) m := rfl
@[go_sem] theorem ResK_2 (K : Value → Mem → Prop) (i j : Nat) : ResK E [.tmp i, .tmp j] K t m = K (.tuple #[t i, t j]) m := rfl
@[go_sem] theorem ResK_3 (K : Value → Mem → Prop) (i j k : Nat) : ResK E [.tmp i, .tmp j, .tmp k] K t m = K (.tuple #[t i, t j, t k]) m := rfl

@[go_sem] theorem callV_is (g : FuncId) (h : (E.fn g).isSome = true) (args : Array Operand) (tys : Array TypeId) : callV E ⟨.value (.func g), args, tys⟩ (evF t) m = some (.enter g (args.map (evF t)) m) := by
  rw [callV_func]
  cases e : E.fn g with
  | none => rw [e] at h; cases h
  | some _ => rfl

theorem callV_ext (g : FuncId) {k : Bool} (h : E.fn g = none) (h2 : E.ext g = some k) (args : Array Operand) (tys : Array TypeId) : callV E ⟨.value (.func g), args, tys⟩ (evF t) m = val? m (carryV k (args.map (evF t)).toList) := by
  rw [callV_func, h, h2]

/-! ### Weaker ends -/
theorem wpO_mono {L L' : Fr → Mem → Prop} (h : ∀ t m, L t m → L' t m) : ∀ (l : List MO) (t : Fr) (m : Mem), wpO E l L t m → wpO E l L' t m
  | [], _, _, k => h _ _ k
  | _ :: l, _, _, k => ⟨fun hw => (k.1 hw).mono fun _ _ hk => wpO_mono h l _ _ hk, fun hw => wpO_mono h l _ _ (k.2 hw)⟩

theorem wpD_mono {L L' : Fr → Mem → Prop} (h : ∀ t m, L t m → L' t m) : ∀ (l : List (Nat × List Nat × MO)) (log : List (Nat × Nat)) (t : Fr) (m : Mem), wpD E l log L t m → wpD E l log L' t m
  | [], _, _, _, k => h _ _ k
  | _ :: l, _, _, _, k => ⟨fun hw => (k.1 hw).mono fun _ _ hk => wpD_mono h l _ _ _ hk, fun hw => wpD_mono h l _ _ _ (k.2 hw)⟩

theorem seqK_mono {a a' : Fr → Mem → Prop} {K K' : Post3} (h : ∀ t m, a t m → a' t m) (hk : ∀ x t m, K x t m → K' x t m) (x : Exit) (t : Fr) (m : Mem) (k : seqK a K x t m) : seqK a' K' x t m := by
  cases x with
  | normal => exact h _ _ k
  | _ => exact hk _ _ _ k

theorem blockK_mono {i : Nat} {K K' : Post3} (hk : ∀ x t m, K x t m → K' x t m) (x : Exit) (t : Fr) (m : Mem) (k : blockK i K x t m) : blockK i K' x t m := by
  cases x with
  | exit j =>
    simp only [blockK] at k ⊢
    split at k
    · rename_i e; rw [if_pos e]; exact hk _ _ _ k
    · rename_i e; rw [if_neg e]; exact hk _ _ _ k
  | _ => exact hk _ _ _ k

theorem loopK_mono {W : Post3 → Fr → Mem → Prop} (hW : ∀ K K' : Post3, (∀ x t m, K x t m → K' x t m) → ∀ t m, W K t m → W K' t m) {K K' : Post3} (hk : ∀ x t m, K x t m → K' x t m) :
    ∀ (a b : Nat) (_ : a ≤ b) (t : Fr) (m : Mem), loopK W K a t m → loopK W K' b t m
  | 0, _, _, _, _, h => h.elim
  | a + 1, 0, hab, _, _, _ => by omega
  | a + 1, b + 1, hab, t, m, h => hW _ _ (seqK_mono (loopK_mono hW hk a b (by omega)) hk) t m h

theorem wpM_mono : ∀ (c : MC) (K K' : Post3) (_ : ∀ x t m, K x t m → K' x t m) (t : Fr) (m : Mem), wpM E f n rd c K t m → wpM E f n rd c K' t m := by
  intro c
  induction c with
  | skip => exact fun K K' h t m k => h _ _ _ k
  | ops l => exact fun K K' h t m k => wpO_mono (h .normal) l t m k
  | draw l => exact fun K K' h t m k => wpD_mono (h .normal) l [] t m k
  | seq a b iha ihb => exact fun K K' h t m k => iha _ _ (seqK_mono (ihb K K' h) h) t m k
  | cond c a b iha ihb => exact fun K K' h t m ⟨p, h1, h2, h3⟩ => ⟨p, h1, fun e => iha K K' h t m (h2 e), fun e => ihb K K' h t m (h3 e)⟩
  | block i b ih => exact fun K K' h t m k => ih _ _ (blockK_mono h) t m k
  | loop b ih => exact fun K K' h t m ⟨j, k⟩ => ⟨j, loopK_mono (fun K K' h => ih K K' h) h j j (Nat.le_refl _) t m k⟩
  | exit i => exact fun K K' h t m k => h _ _ _ k
  | ret => exact fun K K' h t m k => h _ _ _ k
  | range g ps asg body =>
    intro K K' h t m ⟨hh, first, captured, h1, h2, h3, h4⟩
    refine ⟨hh, first, captured, h1, h2, h3, h4.mono fun v m1 ⟨st, pend, f', t', ps', asg', body', h5, h6, h7⟩ => ⟨st, pend, f', t', ps', asg', body', h5, h6, ?_⟩⟩
    cases pend with
    | none => exact h _ _ _ h7
    | some pc => cases pc <;> first | exact h _ _ _ h7 | exact h7.elim

@[go_sem] theorem ResK_c (K : Value → Mem → Prop) (i : Nat) (ty : TypeId) : ResK E [.cell i ty] K t m = match loadV E m ty (t i) with
    | some v => K v m
    | none => False := by
  unfold ResK resultsF resultsF
  cases loadV E m ty (t i) <;> rfl

theorem CallQ.enter {g : FuncId} {n : Nat} {rs : List ResultVar} {c : MC} (hf : FnIs E g n rs c) {args : List Value} (hs : args.length ≤ n) {m : Mem} {K : Value → Mem → Prop}
    (h : wpM E g n none c (retK (ResK E rs K)) (initU 0 args undefF) m) : CallQ E g args.toArray m K := by
  refine .of_mc hf (by simpa using hs) (wpM_mono c _ _ (fun x t m' k => ?_) _ _ (by rw [initF_eq]; exact h))
  have key : ResK E rs K t m' → ∃ vs, resultsF E m' t rs = some vs ∧ K (bundle vs) m' := by
    intro k
    unfold ResK at k
    split at k
    · rename_i vs hv; exact ⟨vs, hv, k⟩
    · exact k.elim
  cases x with
  | normal => exact ⟨.inl rfl, key k⟩
  | ret => exact ⟨.inr rfl, key k⟩
  | _ => exact k.elim

/-! ### Memory that only grew -/
@[go_sem] theorem ext_nil (m : Mem) : m.ext [] = m := by simp [Mem.ext]
theorem ext_ext (m : Mem) (a b : List (Option Blk)) : (m.ext a).ext b = m.ext (a ++ b) := by simp [Mem.ext]
@[go_sem] theorem size_ext (m : Mem) (l : List (Option Blk)) : (m.ext l).size = m.size + l.length := by simp [Mem.ext, Mem.size]
@[go_sem] theorem get_ext (m : Mem) (l : List (Option Blk)) (i : Nat) (h : i < m.size) : (m.ext l).get i = m.get i := by
  unfold Mem.ext Mem.get Mem.size at *
  rw [List.getElem?_append_left h]
theorem push_ext (m : Mem) (b : Blk) : m.push b = m.ext [some b] := rfl
theorem put_ext (m : Mem) (l : List (Option Blk)) (i : Nat) (b : Option Blk) (h : m.size ≤ i) : (m.ext l).put i b = m.ext (l.set (i - m.size) b) := by
  unfold Mem.ext Mem.put Mem.size at *
  rw [List.set_append_right _ _ h]

/-- What was kept for a while is as it was. -/
@[go_sem] theorem ugm_gm_ext (m : Mem) (ids : List Nat) (l : List (Option Blk)) : m.ugm ((m.gm ids).ext l) ids = m.ext l := by
  unfold Mem.ugm Mem.gm
  split
  · rfl
  · unfold Mem.unguard Mem.guard Mem.ext
    congr 1
    apply List.ext_getElem?
    intro i
    simp only [List.getElem?_mapIdx, List.getElem?_append, List.length_mapIdx]
    by_cases h : i < m.bl.length
    · rw [if_pos h, if_pos h]
      have hg : m.get i = m.bl[i] := by simp [Mem.get, h]
      rw [List.getElem?_eq_getElem h]
      simp only [Option.map_some, hg]
      split
      · cases m.bl[i] with
        | none => rfl
        | some b => cases b <;> rfl
      · rfl
    · rw [if_neg h, if_neg h]
      have hg : m.get i = none := by unfold Mem.get; rw [List.getElem?_eq_none (by omega)]; rfl
      rw [hg]
      cases l[i - m.bl.length]? with
      | none => rfl
      | some b => simp
@[go_sem] theorem ugm_gm (m : Mem) (ids : List Nat) : m.ugm (m.gm ids) ids = m := by
  have := ugm_gm_ext m ids []
  rwa [ext_nil, ext_nil] at this
@[go_sem] theorem gm_size (m : Mem) (ids : List Nat) : (m.gm ids).size = m.size := size_gm m ids

/-- All old blocks are as they were. -/
def Old (m m' : Mem) : Prop := ∃ l, m' = m.ext l
@[go_sem] theorem Old.refl (m : Mem) : Old m m := ⟨[], (ext_nil m).symm⟩
@[go_sem] theorem Old.push {m m' : Mem} (h : Old m m') (b : Blk) : Old m (m'.push b) := by
  obtain ⟨l, rfl⟩ := h
  exact ⟨l ++ [some b], by rw [push_ext, ext_ext]⟩
@[go_sem] theorem Old.ext {m m' : Mem} (h : Old m m') (a : List (Option Blk)) : Old m (m'.ext a) := by
  obtain ⟨l, rfl⟩ := h
  exact ⟨l ++ a, ext_ext _ _ _⟩
@[go_sem] theorem Old.put {m m' : Mem} (h : Old m m') (i : Nat) (c : Option Blk) (hi : m.size ≤ i) : Old m (m'.put i c) := by
  obtain ⟨l, rfl⟩ := h
  exact ⟨_, put_ext _ _ _ _ hi⟩
attribute [go_sem] Nat.le_add_right Nat.lt_add_right_iff_pos
@[go_sem] theorem one_add_pos (n : Nat) : (0 < 1 + n) = True := by simp; omega
@[go_sem] theorem add_one_pos' (n : Nat) : (0 < n + 1) = True := by simp

/-- The call answers v, and leaves all blocks as they were. -/
def Ans (E : Env) (g : FuncId) (args : List Value) (v : Value) : Prop := ∀ m, CallQ E g args.toArray m fun w m' => w = v ∧ Old m m'

theorem Ans.use {g : FuncId} {args : List Value} {v : Value} (h : Ans E g args v) {m : Mem} {K : Value → Mem → Prop} (k : ∀ l, K v (m.ext l)) : CallQ E g args.toArray m K :=
  (h m).mono fun w m' ⟨e, l, e2⟩ => by subst e e2; exact k l

theorem Ans.of {g : FuncId} {n : Nat} {rs : List ResultVar} {c : MC} (hf : FnIs E g n rs c) {args : List Value} (hs : args.length ≤ n) {v : Value}
    (h : ∀ m, wpM E g n none c (retK (ResK E rs fun w m' => w = v ∧ Old m m')) (initU 0 args undefF) m) : Ans E g args v := fun m => .enter hf hs (h m)

/-! ### Numbers -/
theorem wrap_u64 (a : Int) : IntKind.wrap .u64 a = a % 18446744073709551616 := rfl
theorem wrap_u32 (a : Int) : IntKind.wrap .u32 a = a % 4294967296 := rfl
theorem wrap_u8 (a : Int) : IntKind.wrap .u8 a = a % 256 := rfl
theorem wrap_i64 (a : Int) : IntKind.wrap .i64 a = (a + 9223372036854775808) % 18446744073709551616 - 9223372036854775808 := by
  show (if (true && decide (a % 18446744073709551616 ≥ (9223372036854775808 : Int))) = true then a % 18446744073709551616 - 18446744073709551616 else a % 18446744073709551616) = _
  simp only [Bool.true_and, decide_eq_true_eq]
  split <;> omega
theorem wrap_i64_id (a : Int) (h : -9223372036854775808 ≤ a) (h' : a < 9223372036854775808) : IntKind.wrap .i64 a = a := by rw [wrap_i64]; omega
theorem wrap_u64_id (a : Int) (h : 0 ≤ a) (h' : a < 18446744073709551616) : IntKind.wrap .u64 a = a := by rw [wrap_u64]; omega
theorem shrI_eq (k : IntKind) (a : Int) (n : Nat) (h : n ≤ k.bits) : shrI k a (n : Int) = a / 2 ^ n := by
  unfold shrI
  rw [Int.toNat_natCast, Nat.min_eq_left h]
  exact Int.fdiv_eq_ediv_of_nonneg a (Int.le_of_lt (Int.pow_pos (by decide)))

/-! ### Loops -/
theorem wpM_loop {b : MC} (I : Nat → Fr → Mem → Prop) (h : ∀ k t m, I k t m → wpM E f n rd b (seqK (fun t' m' => ∃ j, j < k ∧ I j t' m') K) t m) (k : Nat) (t : Fr) (m : Mem) (h0 : I k t m) : wpM E f n rd (.loop b) K t m := by
  refine ⟨k + 1, ?_⟩
  induction k using Nat.strongRecOn generalizing t m with
  | ind k ih =>
    refine wpM_mono b _ _ (seqK_mono (fun t' m' ⟨j, hj, hI⟩ => ?_) (fun _ _ _ h => h)) t m (h k t m h0)
    exact loopK_mono (fun K K' h => wpM_mono b K K' h) (fun _ _ _ h => h) (j + 1) k (by omega) t' m' (ih j hj t' m' hI)

end Go.Abs
