/-
  The abstract executor: a Lean function that runs structured code over an abstract memory (blocks named by numbers, appends that always know their room, one fixed order in a region whose order is open).
-/
import Derived.CallsIn
import Derived.RangeFuncIn
import Derived.RangeFuncLeaves
import Derived.RangeFuncRecord
import Derived.KernelRfl
namespace Go.Abs

/-- A block of the abstract memory. `ro`: may not be written. `tight`: the real block ends where this one does. -/
inductive Blk where
  | cells (ro tight : Bool) (cs : List Value)
  | loop (st : LoopState) (pend : Option Code) (f : FuncId) (t : Array Value) (ps : Array Tmp) (asg body : Code)
  | map (es : List MapEntry) (clock : Nat)

structure Mem where
  bl : List (Option Blk)

def Mem.get (m : Mem) (i : Nat) : Option Blk := (m.bl[i]?).getD none
def Mem.size (m : Mem) : Nat := m.bl.length
def Mem.push (m : Mem) (b : Blk) : Mem := ⟨m.bl ++ [some b]⟩
def Mem.put (m : Mem) (i : Nat) (b : Option Blk) : Mem := ⟨m.bl.set i b⟩

def oneCell : Value → Bool
  | .agg _ | .tuple _ => false
  | _ => true

/-- A slice of a block that appends made bears how many cells an element has (in the place that Go's own addresses have for a byte). -/
def looseOk (a : Addr) (size : Nat) : Bool :=
  match a.spot with
  | none => true
  | some n => n == size

/-- What the executor knows of a type. -/
structure TI where
  desc : TypeDesc
  size : Nat
  zero : Value
  bytes : Nat

/-- What the executor knows of a function. -/
structure FI where
  code : Code
  ntmps : Nat
  results : Array ResultVar

structure Env where
  ti : TypeId → Option TI
  fn : FuncId → Option FI
  ord : FuncId → Nat → Option (List Nat)
  prot : FuncId → Nat → Nat → List Nat
  eqs : TypeId → Bool
  ext : FuncId → Option Bool
  closed : FuncId → Option Value

/-- A type's description. -/
def Env.desc (E : Env) (t : TypeId) : Option TypeDesc :=
  match E.ti t with
  | some i => some i.desc
  | none => none

inductive Step where
  | val (v : Value) (m : Mem)
  | enter (f : FuncId) (args : Array Value) (m : Mem)
  | round (l : Nat) (args : Array Value) (m : Mem)

def ev (t : Array Value) : Operand → Value
  | .tmp i => t.getD i undef
  | .const v => v
  | .global _ => undef
  | .func f => .func (.func f) #[] #[]

def putT (t : Array Value) (d : Option Tmp) (v : Value) : Array Value :=
  match d with
  | some d => t.setIfInBounds d v
  | none => t

def isAggD : TypeDesc → Bool
  | .struct _ | .array _ _ => true
  | _ => false

/-- n cells from an address on. -/
def Mem.row (m : Mem) (a : Addr) (n : Nat) : Option (List Value) :=
  match m.get a.block with
  | some (.cells _ _ cs) => if a.off + n ≤ cs.length then some ((cs.drop a.off).take n) else none
  | _ => none

def Mem.cell (m : Mem) (a : Addr) : Option Value :=
  match m.get a.block with
  | some (.cells _ _ cs) => cs[a.off]?
  | _ => none

def setRow (cs : List Value) (off : Nat) : List Value → List Value
  | [] => cs
  | v :: r => setRow (cs.set off v) (off + 1) r

def Mem.write (m : Mem) (a : Addr) (vs : List Value) : Option Mem :=
  match m.get a.block with
  | some (.cells false tg cs) =>
    if a.off + vs.length ≤ cs.length && vs.all oneCell then some (m.put a.block (some (.cells false tg (setRow cs a.off vs)))) else none
  | _ => none

def newBlock (m : Mem) (tight : Bool) (cs : List Value) : Value × Mem :=
  (.pointer (some ⟨m.size, 0, none⟩), m.push (.cells false tight cs))

def roomMost : Nat := 68719476736

def fillAt (place : Nat → Option (Nat × Nat)) (cells : List Value) : List (Nat × Value) → Option (List Value)
  | [] => some cells
  | (i, v) :: rest =>
    match place i with
    | none => none
    | some (off, size) =>
      if v.cells.size = size && off + size ≤ cells.length then fillAt place (setRow cells off v.cells.toList) rest else none

/-- n zero values, one behind the other. -/
def zeroRow (z : List Value) (n : Nat) : List Value :=
  match z with
  | [v] => List.replicate n v
  | z => (List.range (n * z.length)).map fun k => z.getD (k % z.length) undef

def binInt (op : BinOp) (k : IntKind) (x y : Int) : Option Value :=
  match op with
  | .add => some (.int k (k.wrap (x + y)))
  | .sub => some (.int k (k.wrap (x - y)))
  | .mul => some (.int k (k.wrap (x * y)))
  | .quo => if y = 0 then none else some (.int k (k.wrap (x.tdiv y)))
  | .rem => if y = 0 then none else some (.int k (x.tmod y))
  | .and => some (.int k (k.wrap (BitVec.ofInt k.bits x &&& BitVec.ofInt k.bits y).toNat))
  | .or => some (.int k (k.wrap (BitVec.ofInt k.bits x ||| BitVec.ofInt k.bits y).toNat))
  | .xor => some (.int k (k.wrap (BitVec.ofInt k.bits x ^^^ BitVec.ofInt k.bits y).toNat))
  | .andNot => some (.int k (k.wrap (BitVec.ofInt k.bits x &&& ~~~ BitVec.ofInt k.bits y).toNat))
  | .eql => some (.bool (x == y))
  | .neq => some (.bool (x != y))
  | .lss => some (.bool (x < y))
  | .leq => some (.bool (x ≤ y))
  | .gtr => some (.bool (x > y))
  | .geq => some (.bool (x ≥ y))
  | _ => none

def binStr (op : BinOp) (x y : ByteArray) : Option Value :=
  match op with
  | .add => if x.size + y.size ≤ roomMost then some (.string (x ++ y)) else none
  | .eql => some (.bool (x.toList == y.toList))
  | .neq => some (.bool !(x.toList == y.toList))
  | .lss => some (.bool (Op.bytesLess x.toList y.toList))
  | .leq => some (.bool (Op.bytesLess x.toList y.toList || x.toList == y.toList))
  | .gtr => some (.bool !(Op.bytesLess x.toList y.toList || x.toList == y.toList))
  | .geq => some (.bool !(Op.bytesLess x.toList y.toList))
  | _ => none

def scalarD : Option TypeDesc → Bool
  | some .bool | some (.int _) | some .string => true
  | _ => false

/-- A struct's fields are scalars, one behind the other. -/
def flatFields (E : Env) : Nat → List Field → Bool
  | _, [] => true
  | i, f :: fs => f.offset == i && scalarD (E.desc f.type) && flatFields E (i + 1) fs

def sameCell : Option TypeDesc → Value → Value → Option Bool
  | some (.int _), .int k a, .int k' b => if k = k' then some (a == b) else none
  | some .bool, .bool a, .bool b => some (a == b)
  | some .string, .string a, .string b => some (a == b)
  | _, _, _ => none

/-- Are two structs of scalars the same? -/
def sameFields (E : Env) : List Field → List Value → List Value → Option Bool
  | [], [], [] => some true
  | f :: fs, a :: x, b :: y =>
    match sameCell (E.desc f.type) a b, sameFields E fs x y with
    | some p, some q => some (p && q)
    | _, _ => none
  | _, _, _ => none

/-- '==' on what the executor takes. -/
def eqV (E : Env) (t : TypeId) (x y : Value) : Option Bool :=
  match E.desc t, x, y with
  | some .bool, .bool a, .bool b => some (a == b)
  | some (.pointer _), .pointer none, .pointer b => some b.isNone
  | some (.pointer _), .pointer a, .pointer none => some a.isNone
  | some (.slice _), .slice none _ _, .slice b _ _ => some b.isNone
  | some (.slice _), .slice a _ _, .slice none _ _ => some a.isNone
  | some (.func _ _ _), .nilFunc, .nilFunc => some true
  | some (.func _ _ _), .nilFunc, .func _ _ _ => some false
  | some (.func _ _ _), .func _ _ _, .nilFunc => some false
  | some (.struct fs), .agg a, .agg b => if E.eqs t && flatFields E 0 fs.toList then sameFields E fs.toList a.toList b.toList else none
  | _, _, _ => none

def binV (E : Env) (op : BinOp) (t : TypeId) (x y : Value) : Option Value :=
  match x, y with
  | .int k a, .int k' b =>
    match op with
    | .shl => if b < 0 then none else some (.int k (k.wrap (a * 2 ^ (min b.toNat k.bits))))
    | .shr => if b < 0 then none else some (.int k (a.fdiv (2 ^ (min b.toNat k.bits))))
    | _ => if k = k' then binInt op k a b else none
  | .string a, .string b => binStr op a b
  | x, y =>
    match op with
    | .eql => (eqV E t x y).map .bool
    | .neq => (eqV E t x y).map fun b => .bool (!b)
    | _ => none

def unV (op : UnOp) (x : Value) : Option Value :=
  match op, x with
  | .neg, .int k n => some (.int k (k.wrap (0 - n)))
  | .xor, .int k n => some (.int k (k.wrap (BitVec.ofInt k.bits (if k.signed then -1 else k.max) ^^^ BitVec.ofInt k.bits n).toNat))
  | .not, .bool b => some (.bool !b)
  | _, _ => none

def bytesOf : List Value → Option (List UInt8)
  | [] => some []
  | .int .u8 n :: r => (bytesOf r).map (UInt8.ofNat n.toNat :: ·)
  | _ => none

def convV (E : Env) (src dst : TypeId) (x : Value) (m : Mem) : Option (Value × Mem) :=
  match E.ti src, E.ti dst, x with
  | some _, some ⟨.int k, _, _, _⟩, .int _ n => some (.int k (k.wrap n), m)
  | some _, some ⟨.string, _, _, _⟩, .string s => some (.string s, m)
  | some ⟨.slice e, _, _, _⟩, some ⟨.string, _, _, _⟩, .slice a n _ =>
    match E.desc e, a with
    | some (.int .u8), none => some (.string .empty, m)
    | some (.int .u8), some a => ((m.row a n).bind bytesOf).map fun l => (.string ⟨l.toArray⟩, m)
    | _, _ => none
  | some ⟨.slice e, _, _, _⟩, some ⟨.slice _, _, _, _⟩, .slice (some a) n c =>
    match E.desc e, m.get a.block with
    | some (.int .u8), some (.cells false _ _) => if src = dst ∧ 0 < c then some (.slice (some a) n c, m) else none
    | _, _ => none
  | _, _, _ => none

def asI : Value → Option Int
  | .int _ n => some n
  | _ => none

/-- An upper or lower bound of a slice. -/
def bound (x : Option Value) (dflt y : Nat) : Option Nat :=
  match x with
  | none => some dflt
  | some v => match asI v with
    | some i => if 0 ≤ i ∧ i ≤ y then some i.toNat else none
    | none => none

def sliceV (E : Env) (t : TypeId) (x : Value) (lo hi : Option Value) : Option Value :=
  match E.desc t, x with
  | some .string, .string s =>
    match bound hi s.size s.size with
    | some h => (bound lo 0 h).map fun l => .string (s.extract l h)
    | none => none
  | some (.slice e), .slice a len cap =>
    match E.ti e, bound hi len cap with
    | some i, some h => if a.all (looseOk · i.size) then (bound lo 0 h).map fun l => .slice (if cap = l then a else a.map fun a => ⟨a.block, a.off + l * i.size, a.spot⟩) (h - l) (cap - l) else none
    | _, _ => none
  | _, _ => none

/-- A slice with three bounds. -/
def slice3V (E : Env) (t : TypeId) (x : Value) (lo : Option Value) (hi mx : Value) : Option Value :=
  match E.desc t, x with
  | some (.slice e), .slice a _ cap =>
    match E.ti e, bound (some mx) 0 cap with
    | some i, some k =>
      match bound (some hi) 0 k with
      | some h => if a.all (looseOk · i.size) then (bound lo 0 h).map fun l => .slice (if k = l then a else a.map fun a => ⟨a.block, a.off + l * i.size, a.spot⟩) (h - l) (k - l) else none
      | none => none
    | _, _ => none
  | _, _ => none

def partV (E : Env) (t : TypeId) (cs : Array Value) (off : Nat) : Option Value :=
  match E.ti t with
  | some i => if isAggD i.desc then some (.agg (cs.extract off (off + i.size))) else cs[off]?
  | none => none

def lenV (E : Env) (t : TypeId) (x : Value) : Option Nat :=
  match E.desc t, x with
  | some .string, .string s => some s.size
  | some (.slice _), .slice _ n _ => some n
  | some (.array n _), _ => some n
  | _, _ => none

def loadV (E : Env) (m : Mem) (t : TypeId) (p : Value) : Option Value :=
  match E.ti t, p with
  | some i, .pointer (some a) => if isAggD i.desc then (m.row a i.size).map fun l => .agg l.toArray else m.cell a
  | _, _ => none

def appended (E : Env) (m : Mem) (es : Nat) (xt : TypeId) (x : Value) : Option (Nat × List Value) :=
  match E.desc xt, x with
  | some (.slice _), .slice none 0 _ => some (0, [])
  | some (.slice _), .slice (some b) n _ => if n = 0 then some (0, []) else (m.row b (n * es)).map fun l => (n, l)
  | some .string, .string s => if es = 1 then some (s.size, s.data.toList.map fun b => .int .u8 b.toNat) else none
  | _, _ => none

/-- May a block be let go? -/
def Blk.free : Blk → Bool
  | .cells ro tight _ => tight || !ro
  | _ => false

def Blk.isTight : Blk → Bool
  | .cells _ tight _ => tight
  | _ => true

def appendV (E : Env) (m : Mem) (st xt : TypeId) (s x : Value) : Option (Value × Mem) :=
  match E.desc st, s with
  | some (.slice e), .slice base len cap =>
    match E.ti e with
    | none => none
    | some i =>
      match appended E m i.size xt x with
      | none => none
      | some (n, new) =>
        if len + n ≤ cap then
          match base, new with
          | none, [] => some (.slice none (len + n) cap, m)
          | some a, [] => some (.slice (some a) (len + n) cap, m)
          | some a, v :: r => (m.write ⟨a.block, a.off + len * i.size, a.spot⟩ (v :: r)).map fun m' => (.slice (some a) (len + n) cap, m')
          | _, _ => none
        else if (len + n) * i.bytes ≤ roomMost ∧ len + n ≤ roomMost then
          match base with
          | none => if len = 0 then some (.slice (some ⟨m.size, 0, some i.size⟩) n n, m.push (.cells false false new)) else none
          | some a =>
            match m.row a (len * i.size), m.get a.block with
            | some old, some b =>
              if looseOk a i.size && b.free && (b.isTight || new.all oneCell) then some (.slice (some ⟨m.size, 0, some i.size⟩) (len + n) (len + n), (if b.isTight then m else m.put a.block none).push (.cells false false (old ++ new))) else none
            | _, _ => none
        else none
  | _, _ => none

def srcCells (m : Mem) (es : Nat) (s : Value) (dlen : Nat) : Option (Nat × List Value) :=
  match s with
  | .slice (some b) n _ => if Nat.min n dlen = 0 then some (0, []) else (m.row b (Nat.min n dlen * es)).map fun l => (Nat.min n dlen, l)
  | .slice none 0 _ => some (0, [])
  | .string x => some (Nat.min x.size dlen, (x.extract 0 (Nat.min x.size dlen)).data.toList.map fun b => .int .u8 b.toNat)
  | _ => none

def copyV (E : Env) (m : Mem) (dt : TypeId) (d s : Value) : Option (Value × Mem) :=
  match E.desc dt, d with
  | some (.slice e), .slice base dlen _ =>
    match E.ti e with
    | some i =>
      match srcCells m i.size s dlen with
      | none => none
      | some (n, cells) =>
        match base, cells with
        | none, _ => some (.int .i64 n, m)
        | some _, [] => some (.int .i64 n, m)
        | some a, v :: r => if 0 < dlen then (m.write a (v :: r)).map fun m' => (.int .i64 n, m') else none
    | none => none
  | _, _ => none

def minmax (mx : Bool) : Value → List Value → Option Value
  | v, [] => some v
  | .int k x, .int k' y :: r => if k = k' then minmax mx (.int k (if mx then (if y > x then y else x) else (if y < x then y else x))) r else none
  | _, _ => none

def makeV (E : Env) (m : Mem) (t : TypeId) (l c : Value) : Option (Value × Mem) :=
  match E.desc t, asI l, asI c with
  | some (.slice e), some l, some c =>
    match E.ti e with
    | some i => if 0 ≤ l ∧ l ≤ c ∧ c ≤ roomMost ∧ c * i.bytes ≤ roomMost then
        some (.slice (some ⟨m.size, 0, none⟩) l.toNat c.toNat, m.push (.cells false true (zeroRow i.zero.cells.toList c.toNat)))
      else none
    | none => none
  | _, _, _ => none

def buildV (E : Env) (t : TypeId) (parts : List (Nat × Value)) : Option Value :=
  match E.ti t with
  | some ⟨.struct fields, _, zero, _⟩ =>
    if fields.toList.all fun f => (E.ti f.type).isSome then
      (fillAt (fun i => match fields[i]? with
        | some f => (E.ti f.type).map fun i => (f.offset, i.size)
        | none => none) zero.cells.toList parts).map fun l => .agg l.toArray
    else none
  | some ⟨.array _ e, _, zero, _⟩ =>
    match E.ti e with
    | some i => (fillAt (fun k => some (k * i.size, i.size)) zero.cells.toList parts).map fun l => .agg l.toArray
    | none => none
  | _ => none

def buildSliceV (E : Env) (m : Mem) (t : TypeId) (len : Nat) (parts : List (Nat × Value)) : Option (Value × Mem) :=
  match E.desc t with
  | some (.slice e) =>
    match E.ti e with
    | some i => if len * i.size ≤ 16777216 then
        (fillAt (fun k => some (k * i.size, i.size)) (zeroRow i.zero.cells.toList len) parts).map fun l =>
          (.slice (some ⟨m.size, 0, none⟩) len len, m.push (.cells false true l))
      else none
    | none => none
  | _ => none

def indexAddrV (E : Env) (t : TypeId) (x i : Value) : Option Value :=
  match E.desc t, x, asI i with
  | some (.slice e), .slice (some a) len _, some i =>
    match E.ti e with
    | some n => if 0 ≤ i ∧ i < len then some (.pointer (some ⟨a.block, a.off + i.toNat * n.size, none⟩)) else none
    | none => none
  | some (.array len e), .pointer (some a), some i =>
    match E.ti e with
    | some n => if 0 ≤ i ∧ i < len then some (.pointer (some ⟨a.block, a.off + i.toNat * n.size, a.spot⟩)) else none
    | none => none
  | _, _, _ => none

def indexV (E : Env) (t : TypeId) (x i : Value) : Option Value :=
  match E.desc t, x, asI i with
  | some (.array len e), .agg cs, some i =>
    match E.ti e with
    | some n => if 0 ≤ i ∧ i < len then partV E e cs (i.toNat * n.size) else none
    | none => none
  | some .string, .string s, some i => if 0 ≤ i then (s[i.toNat]?).map fun b => .int .u8 b.toNat else none
  | _, _, _ => none

def fieldAddrV (E : Env) (t : TypeId) (x : Value) (f : Nat) : Option Value :=
  match E.desc t, x with
  | some (.struct fields), .pointer (some a) =>
    match fields[f]? with
    | some f => match E.ti f.type with
      | some i => if i.size = 0 then none else some (.pointer (some ⟨a.block, a.off + f.offset, a.spot⟩))
      | none => none
    | none => none
  | _, _ => none

def fieldV (E : Env) (t : TypeId) (x : Value) (f : Nat) : Option Value :=
  match E.desc t, x with
  | some (.struct fields), .agg cs =>
    match fields[f]? with
    | some f => partV E f.type cs f.offset
    | none => none
  | _, _ => none

def storeV (E : Env) (m : Mem) (t : TypeId) (p v : Value) : Option Mem :=
  match E.ti t, p with
  | some i, .pointer (some a) => if v.cells.size = i.size then m.write a v.cells.toList else none
  | _, _ => none

/-- A key that the executor takes. -/
def keyD : TypeDesc → Value → Bool
  | .int k, .int k' _ => decide (k' = k)
  | .string, .string _ | .bool, .bool _ => true
  | _, _ => false

/-- A map's entries. -/
def entriesV (m : Mem) (x : Value) : Option (List MapEntry) :=
  match x with
  | .map none => some []
  | .map (some r) => match m.get r with
    | some (.map es _) => some es
    | _ => none
  | _ => none

/-- The types of a map's keys and values. -/
def mapD (E : Env) (t : TypeId) : Option (TypeId × TypeDesc × TI) :=
  match E.desc t with
  | some (.map kt et) => match E.desc kt, E.ti et with
    | some kd, some ei => some (kt, kd, ei)
    | _, _ => none
  | _ => none

def lookupV (E : Env) (m : Mem) (t : TypeId) (x k : Value) (ok : Bool) : Option Value :=
  match mapD E t, entriesV m x with
  | some (_, kd, ei), some es =>
    if keyD kd k then
      match Instr.findNow kd k es 0 with
      | some (some (_, v)) => some (if ok then .tuple #[v, .bool true] else v)
      | some none => some (if ok then .tuple #[ei.zero, .bool false] else ei.zero)
      | none => none
    else none
  | _, _ => none

def makeMapV (E : Env) (m : Mem) (t : TypeId) (hint : Option Value) : Option (Value × Mem) :=
  match mapD E t, hint with
  | some _, none => some (.map (some m.size), m.push (.map [] 0))
  | some _, some (.int _ _) => some (.map (some m.size), m.push (.map [] 0))
  | _, _ => none

def mapUpdateV (E : Env) (m : Mem) (t : TypeId) (x k v : Value) : Option Mem :=
  match mapD E t, x with
  | some (_, kd, _), .map (some r) =>
    match m.get r with
    | some (.map es clock) =>
      if keyD kd k then
        match Instr.findNow kd k es 0 with
        | some (some (i, _)) => some (m.put r (some (.map (es.modify i fun e => { e with key := k, val := v }) clock)))
        | some none => some (m.put r (some (.map (es ++ [{ key := k, val := v, born := clock }]) (clock + 1))))
        | none => none
      else none
    | _ => none
  | _, _ => none

def mapEntryV (E : Env) (m : Mem) (t : TypeId) (x k : Value) : Option (Value × Mem) :=
  match mapD E t, x with
  | some (_, kd, ei), .map (some r) =>
    match m.get r with
    | some (.map es clock) =>
      if keyD kd k then
        match Instr.findNow kd k es 0 with
        | some (some (i, v)) => some (.tuple #[v, .int .i64 ((((es[i]?).map (·.born)).getD 0 : Nat) : Int)], m.put r (some (.map (es.modify i fun e => { e with key := k }) clock)))
        | some none => some (.tuple #[ei.zero, .int .i64 (clock : Int)], m.put r (some (.map (es ++ [{ key := k, val := ei.zero, born := clock }]) (clock + 1))))
        | none => none
      else none
    | _ => none
  | _, _ => none

def entryStoreV (m : Mem) (x s v : Value) : Option Mem :=
  match x, asI s with
  | .map (some r), some born =>
    match m.get r with
    | some (.map es clock) =>
      match es.findIdx? (fun e => (e.born : Int) == born) with
      | some i => some (m.put r (some (.map (es.modify i fun e => { e with val := v }) clock)))
      | none => none
    | _ => none
  | _, _ => none

def val? (m : Mem) (v : Option Value) : Option Step := v.map fun v => .val v m
def val2? (v : Option (Value × Mem)) : Option Step := v.map fun (v, m) => .val v m

/-- math/bits.Add64, math/bits.Sub64. -/
def carryV (sub : Bool) : List Value → Option Value
  | [.int .u64 x, .int .u64 y, .int .u64 c] =>
    if 0 ≤ x ∧ x < 18446744073709551616 ∧ 0 ≤ y ∧ y < 18446744073709551616 ∧ 0 ≤ c ∧ c ≤ 1 then
      some (if sub then .tuple #[.int .u64 ((x - y - c) % 18446744073709551616), .int .u64 (if x < y + c then 1 else 0)]
        else .tuple #[.int .u64 ((x + y + c) % 18446744073709551616), .int .u64 ((x + y + c) / 18446744073709551616)])
    else none
  | _ => none

def callV (E : Env) (c : Call) (r : Operand → Value) (m : Mem) : Option Step :=
  match c.callee with
  | .value f =>
    match r f with
    | .func (.func g) first captured => match E.fn g with
      | some _ => some (.enter g (first ++ c.args.map r ++ captured) m)
      | none => match E.ext g with
        | some k => val? m (carryV k (first ++ c.args.map r ++ captured).toList)
        | none => none
    | .func (.yield l) first _ => some (.round l (first ++ c.args.map r) m)
    | _ => none
  | .builtin b =>
    match b, c.args.toList.map r, c.argTypes.toList with
    | .len, [x], [t] => val? m ((lenV E t x).map fun (n : Nat) => Value.int .i64 (n : Int))
    | .min, x :: r, _ => val? m (minmax false x r)
    | .max, x :: r, _ => val? m (minmax true x r)
    | .append, [s, x], [st, xt] => val2? (appendV E m st xt s x)
    | .copy, [d, s], [dt, _] => val2? (copyV E m dt d s)
    | _, _, _ => none
  | _ => none

def nilOk : Value → Bool
  | .pointer (some _) | .func (.func _) _ _ | .func (.yield _) _ _ => true
  | _ => false

def opV (E : Env) (o : Oper) (r : Operand → Value) (m : Mem) : Option Step :=
  match o.op with
  | .move x | .assign x => some (.val (r x) m)
  | .pick c a b => match r c with
    | .bool p => some (.val (if p then r a else r b) m)
    | _ => none
  | .alloc t => (E.ti t).map fun i => .val (newBlock m true i.zero.cells.toList).1 (newBlock m true i.zero.cells.toList).2
  | .box _ x => some (.val (newBlock m true (r x).cells.toList).1 (newBlock m true (r x).cells.toList).2)
  | .build t parts => val? m (buildV E t (parts.toList.map fun (i, x) => (i, r x)))
  | .buildSlice t len parts => val2? (buildSliceV E m t len (parts.toList.map fun (i, x) => (i, r x)))
  | .load t a => val? m (loadV E m t (r a))
  | .store t a x => (storeV E m t (r a) (r x)).map fun m' => .val undef m'
  | .nilCheck x => if nilOk (r x) then some (.val (r x) m) else none
  | .binOp op t x y _ => val? m (binV E op t (r x) (r y))
  | .unOp op _ x => val? m (unV op (r x))
  | .convert s d x => val2? (convV E s d (r x) m)
  | .makeFunc fn first captured => match fn with
    | .func _ => some (.val (.func fn (first.map r) (captured.map r)) m)
    | _ => none
  | .makeSlice t l c => val2? (makeV E m t (r l) (r c))
  | .slice t x lo hi none => val? m (sliceV E t (r x) (lo.map r) (hi.map r))
  | .slice t x lo (some hi) (some mx) => val? m (slice3V E t (r x) (lo.map r) (r hi) (r mx))
  | .fieldAddr t x f => val? m (fieldAddrV E t (r x) f)
  | .field t x f => val? m (fieldV E t (r x) f)
  | .indexAddr t x i => val? m (indexAddrV E t (r x) (r i))
  | .index t x i => val? m (indexV E t (r x) (r i))
  | .extract x i => match r x with
    | .tuple vs => val? m vs[i]?
    | _ => none
  | .call c => callV E c r m
  | .makeMap t h => val2? (makeMapV E m t (h.map r))
  | .lookup t x k ok => val? m (lookupV E m t (r x) (r k) ok)
  | .mapUpdate t x k v => (mapUpdateV E m t (r x) (r k) (r v)).map fun m' => .val undef m'
  | .mapEntry t x k => val2? (mapEntryV E m t (r x) (r k))
  | .entryStore _ x s v => (entryStoreV m (r x) (r s) (r v)).map fun m' => .val undef m'
  | _ => none

/-- What a load in a region reads: its block. -/
def loadBlock (o : Oper) (r : Operand → Value) : Option Nat :=
  match o.op with
  | .load _ a => match r a with
    | .pointer (some a) => some a.block
    | _ => none
  | .convert _ _ x => match r x with
    | .slice (some a) _ _ => some a.block
    | _ => none
  | .lookup _ x _ _ => match r x with
    | .map b => b
    | _ => none
  | _ => none

def resultOf (E : Env) (m : Mem) (t : Array Value) : ResultVar → Option Value
  | .tmp i => some (t.getD i undef)
  | .cell a ty => loadV E m ty (t.getD a undef)

def resultsOf (E : Env) (m : Mem) (t : Array Value) : List ResultVar → Option (List Value)
  | [] => some []
  | r :: rs => match resultOf E m t r, resultsOf E m t rs with
    | some v, some vs => some (v :: vs)
    | _, _ => none

def bundle : List Value → Value
  | [v] => v
  | vs => .tuple vs.toArray

/-- Blocks that may not be written for a while; a map is not even looked at. -/
def Mem.guard (m : Mem) (ids : List Nat) : Mem := ⟨m.bl.mapIdx fun i b => if ids.contains i then (match b with | some (.cells _ t cs) => some (.cells true t cs) | some (.map _ _) => none | b => b) else b⟩
def Mem.unguard (m0 m : Mem) (ids : List Nat) : Mem := ⟨m.bl.mapIdx fun i b => if ids.contains i then (match m0.get i with | some (.cells ro t cs) => some (.cells ro t cs) | some (.map es c) => some (.map es c) | _ => b) else b⟩

def Mem.gm (m : Mem) (ids : List Nat) : Mem := if ids.isEmpty then m else m.guard ids
def Mem.ugm (m0 m : Mem) (ids : List Nat) : Mem := if ids.isEmpty then m else m0.unguard m ids

/-- The blocks that may not be written while operation i of a region that draws runs: what loads read that may come ahead of it or behind it. -/
def guarded (E : Env) (f : FuncId) (id i : Nat) (log : List (Nat × Nat)) : List Nat :=
  (E.prot f id i).filterMap fun j => (log.find? fun e => e.1 == j).map (·.2)

def logged (o : Oper) (r : Operand → Value) (i : Nat) (log : List (Nat × Nat)) : List (Nat × Nat) :=
  match loadBlock o r with
  | some b => (i, b) :: log
  | none => log

inductive Task where
  | code (rd : Option Nat) (f : FuncId) (c : Code) (t : Array Value)
  | ops (ops : Array Oper) (l : List Nat) (t : Array Value)
  | draw (f : FuncId) (id : Nat) (ops : Array Oper) (l : List Nat) (log : List (Nat × Nat)) (t : Array Value)
  | call (f : FuncId) (args : Array Value)
  | round (l : Nat) (args : Array Value)

structure Out where
  x : Exit
  t : Array Value
  m : Mem

def initT (n : Nat) (args : Array Value) : Array Value := args ++ Array.replicate (n - args.size) undef

def withParams (t : Array Value) (ps : List Tmp) (args : List Value) : Array Value :=
  (ps.zip args).foldl (fun t (p, a) => t.setIfInBounds p a) t

/-- The loop in whose round the code runs is there. -/
def inLoop (m : Mem) : Option Nat → Bool
  | none => true
  | some l => match m.get l with
    | some (.loop ..) => true
    | _ => false

def stepT (E : Env) (run : Task → Mem → Option Out) : Task → Mem → Option Out
  | .code rd f c t, m =>
    match c with
    | .skip => some ⟨.normal, t, m⟩
    | .seq a b => match run (.code rd f a t) m with
      | some ⟨.normal, t1, m1⟩ => run (.code rd f b t1) m1
      | r => r
    | .cond c a b => match ev t c with
      | .bool true => run (.code rd f a t) m
      | .bool false => run (.code rd f b t) m
      | _ => none
    | .block id b => match run (.code rd f b t) m with
      | some ⟨.exit i, t1, m1⟩ => if i = id then some ⟨.normal, t1, m1⟩ else some ⟨.exit i, t1, m1⟩
      | r => r
    | .loop b => match run (.code rd f b t) m with
      | some ⟨.normal, t1, m1⟩ => run (.code rd f (.loop b) t1) m1
      | r => r
    | .region id ops draw => if draw then run (.draw f id ops ((E.ord f id).getD (List.range ops.size)) [] t) m else run (.ops ops (List.range ops.size) t) m
    | .exit id => some ⟨.exit id, t, m⟩
    | .ret => some ⟨.ret, t, m⟩
    | .rangeFunc g ps asg body =>
      match ev t g with
      | .func (.func h) first captured =>
        match E.fn h, inLoop m rd with
        | some _, true =>
          match run (.call h (first ++ #[.func (.yield m.size) #[] #[]] ++ captured)) (m.push (.loop .ready none f t ps asg body)) with
          | some ⟨.normal, _, m1⟩ =>
            match m1.get m.size with
            | some (.loop st pend f' t' ps' asg' body') =>
              if st = .busy then none else
              let m2 := m1.put m.size (some (.loop .exhausted pend f' t' ps' asg' body'))
              match pend with
              | none => some ⟨.normal, t, m2⟩
              | some .ret => some ⟨.ret, t, m2⟩
              | some (.exit i) => some ⟨.exit i, t, m2⟩
              | _ => none
            | _ => none
          | _ => none
        | _, _ => none
      | _ => none
    | _ => none
  | .ops ops l t, m =>
    match l with
    | [] => some ⟨.normal, t, m⟩
    | i :: rest =>
      match ops[i]? with
      | none => none
      | some o =>
        if Region.wanted o (yielded ops t) then
          match opV E o (ev t) m with
          | some (.val v m1) => run (.ops ops rest (putT t o.dst v)) m1
          | some (.enter g args m1) =>
            match run (.call g args) m1 with
            | some ⟨.normal, r, m2⟩ => run (.ops ops rest (putT t o.dst (r.getD 0 undef))) m2
            | _ => none
          | some (.round k args m1) =>
            match run (.round k args) m1 with
            | some ⟨.normal, r, m2⟩ => run (.ops ops rest (putT t o.dst (r.getD 0 undef))) m2
            | _ => none
          | none => none
        else run (.ops ops rest (putT t o.dst undef)) m
  | .draw f id ops l log t, m =>
    match l with
    | [] => some ⟨.normal, t, m⟩
    | i :: rest =>
      match ops[i]? with
      | none => none
      | some o =>
        if Region.wanted o (yielded ops t) then
          match opV E o (ev t) (m.gm (guarded E f id i log)) with
          | some (.val v m1) => run (.draw f id ops rest (logged o (ev t) i log) (putT t o.dst v)) (m.ugm m1 (guarded E f id i log))
          | some (.enter g args m1) =>
            match run (.call g args) m1 with
            | some ⟨.normal, r, m2⟩ => run (.draw f id ops rest (logged o (ev t) i log) (putT t o.dst (r.getD 0 undef))) (m.ugm m2 (guarded E f id i log))
            | _ => none
          | some (.round k args m1) =>
            match run (.round k args) m1 with
            | some ⟨.normal, r, m2⟩ => run (.draw f id ops rest (logged o (ev t) i log) (putT t o.dst (r.getD 0 undef))) (m.ugm m2 (guarded E f id i log))
            | _ => none
          | none => none
        else run (.draw f id ops rest log (putT t o.dst undef)) m
  | .call f args, m =>
    match E.closed f with
    | some v => if args.size = 0 then some ⟨.normal, #[v], m⟩ else none
    | none =>
    match E.fn f with
    | none => none
    | some fi =>
      match run (.code none f fi.code (initT fi.ntmps args)) m with
      | some ⟨x, t, m1⟩ =>
        match x with
        | .normal | .ret => (resultsOf E m1 t fi.results.toList).map fun vs => ⟨.normal, #[bundle vs], m1⟩
        | _ => none
      | none => none
  | .round l args, m =>
    match m.get l with
    | some (.loop .ready _ f t ps asg body) =>
      if args.size = ps.size then
        match run (.code (some l) f asg (withParams t ps.toList args.toList)) m with
        | some ⟨.normal, t1, m1⟩ =>
          match m1.get l with
          | some (.loop .ready pend f' t' ps' asg' body') =>
            match run (.code (some l) f body t1) (m1.put l (some (.loop .busy pend f' t' ps' asg' body'))) with
            | some ⟨x, _, m2⟩ =>
              match m2.get l with
              | some (.loop _ _ f' t' ps' asg' body') =>
                match x with
                | .normal => some ⟨.normal, #[.bool true], m2.put l (some (.loop .ready none f' t' ps' asg' body'))⟩
                | .ret => some ⟨.normal, #[.bool false], m2.put l (some (.loop .done (some .ret) f' t' ps' asg' body'))⟩
                | .exit i => some ⟨.normal, #[.bool false], m2.put l (some (.loop .done (some (.exit i)) f' t' ps' asg' body'))⟩
                | _ => none
              | _ => none
            | none => none
          | _ => none
        | _ => none
      else none
    | _ => none

def run (E : Env) : Nat → Task → Mem → Option Out
  | 0 => fun _ _ => none
  | n + 1 => stepT E (run E n)

def scalarOk : Value → Bool
  | .bool _ | .int _ _ | .string _ | .pointer none | .slice none _ _ | .nilFunc | .map none => true
  | _ => false

/-- A value that names no block. -/
def constOk : Value → Bool
  | .agg cs => cs.toList.all scalarOk
  | .tuple vs => vs.toList.all scalarOk
  | v => scalarOk v

/-- What the executor is told beside the program's text: the order of a region whose order is open; what loads are kept from what operation; structs that '==' may take; functions left out; Add64 and Sub64; functions without arguments whose answer is known. -/
structure Tab where
  ord : List (FuncId × Nat × List Nat)
  prot : List (FuncId × Nat × Nat × List Nat)
  eqs : List TypeId
  skip : List FuncId
  ext : List (FuncId × Bool)
  closed : List (FuncId × Value) := []

/-- The executor's knowledge, read off a program. -/
def envOf (P : Program) (T : Tab) : Env where
  ti t := match P.info? t, P.underlying t with
    | some i, some d => match i.zero with
      | some z => if constOk z && z.cells.size == i.size then some ⟨d, i.size, z, i.bytes⟩ else none
      | none => none
    | _, _ => none
  fn f := match P.funcs[f]? with
    | some fn => match fn.body with
      | some c => if T.skip.contains f then none else some ⟨c, fn.ntmps, fn.results⟩
      | none => none
    | none => none
  ord f id := (T.ord.find? fun e => e.1 == f && e.2.1 == id).map (·.2.2)
  prot f id i := ((T.prot.find? fun e => e.1 == f && e.2.1 == id && e.2.2.1 == i).map (·.2.2.2)).getD []
  eqs t := T.eqs.contains t
  ext f := (T.ext.find? fun e => e.1 == f).map (·.2)
  closed f := (T.closed.find? fun e => e.1 == f).map (·.2)

end Go.Abs
