/- An abstract machine for the model's code: values, heap, operations, and its run. Definitions alone. Own work. -/
import Derived.Tactics
import Derived.Orders
import Derived.Below
namespace Go.Am
set_option linter.unusedVariables false
set_option linter.unusedSimpArgs false
open Go

/-- Values. An object is named by a number; a reference carries the version of the object at which it was made. -/
inductive AV where
  | bool (b : Bool)
  | int (k : IntKind) (n : Int)
  | str (s : List UInt8)
  | nilPtr
  | ptr (o v off : Nat)
  | nilSlice
  | slice (o v off len esz : Nat)
  | nilMap
  | map (o : Nat)
  | nilFunc
  | func (f : Nat) (caps : List AV)
  | nilIface
  | iface (t : Nat) (v : AV)
  | agg (cs : List AV)
  | tuple (vs : List AV)
  | iter (o : Nat)
  deriving Inhabited

def AV.undef : AV := .tuple []
def AV.cells : AV → List AV
  | .agg cs => cs
  | v => [v]
def AV.isTup : AV → Bool
  | .tuple _ => true
  | _ => false
def AV.flat : AV → Bool
  | .agg _ => false
  | .tuple _ => false
  | _ => true

mutual
def AV.beq : AV → AV → Bool
  | .bool a, .bool b => a == b
  | .int k a, .int k' b => decide (k = k') && decide (a = b)
  | .str a, .str b => a == b
  | .nilPtr, .nilPtr => true
  | .ptr o v f, .ptr o' v' f' => decide (o = o') && decide (v = v') && decide (f = f')
  | .nilSlice, .nilSlice => true
  | .slice o v f n z, .slice o' v' f' n' z' => decide (o = o') && decide (v = v') && decide (f = f') && decide (n = n') && decide (z = z')
  | .nilMap, .nilMap => true
  | .map o, .map o' => decide (o = o')
  | .nilFunc, .nilFunc => true
  | .func f cs, .func f' cs' => decide (f = f') && AV.beqs cs cs'
  | .nilIface, .nilIface => true
  | .iface t v, .iface t' v' => decide (t = t') && AV.beq v v'
  | .agg cs, .agg cs' => AV.beqs cs cs'
  | .tuple cs, .tuple cs' => AV.beqs cs cs'
  | .iter o, .iter o' => decide (o = o')
  | _, _ => false
def AV.beqs : List AV → List AV → Bool
  | [], [] => true
  | x :: xs, y :: ys => AV.beq x y && AV.beqs xs ys
  | _, _ => false
end

/-- A map from numbers, as a binary tree. -/
inductive T (α : Type) where
  | nil
  | node (v : Option α) (l r : T α)
def T.get {α : Type} : T α → Nat → Option α
  | .nil, _ => none
  | .node v l r, n => match n with
    | 0 => v
    | k + 1 => bif Nat.beq (k % 2) 0 then l.get (k / 2) else r.get (k / 2)
def T.val {α : Type} : T α → Option α
  | .nil => none
  | .node v _ _ => v
def T.left {α : Type} : T α → T α
  | .nil => .nil
  | .node _ l _ => l
def T.right {α : Type} : T α → T α
  | .nil => .nil
  | .node _ _ r => r
def T.setF {α : Type} (x : α) : Nat → T α → Nat → T α
  | 0, t, _ => t
  | f + 1, t, n => match n with
    | 0 => .node (some x) t.left t.right
    | k + 1 => bif Nat.beq (k % 2) 0 then .node t.val (T.setF x f t.left (k / 2)) t.right else .node t.val t.left (T.setF x f t.right (k / 2))
def T.set {α : Type} (t : T α) (n : Nat) (x : α) : T α := T.setF x (n + 1) t n

inductive AObj where
  | row (cs : List AV) (ver : Nat) (wr : Bool)
  | map (es : List (AV × AV))
  | iter (s : List UInt8) (pos : Nat)
  deriving Inhabited

structure Heap where
  t : T AObj
  n : Nat
def Heap.get (h : Heap) (o : Nat) : Option AObj := bif Nat.blt o h.n then h.t.get o else none
def Heap.set (h : Heap) (o : Nat) (x : AObj) : Heap := ⟨h.t.set o x, h.n⟩
def Heap.push (h : Heap) (x : AObj) : Heap := ⟨h.t.set h.n x, h.n + 1⟩
abbrev Env := T AV

inductive Opd where
  | tmp (t : Nat)
  | const (v : AV)
def Opd.ev (e : Env) : Opd → Option AV
  | .tmp t => e.get t
  | .const v => some v
def evs (e : Env) : List Opd → Option (List AV)
  | [] => some []
  | x :: xs => match x.ev e with
    | none => none
    | some v => match evs e xs with
      | none => none
      | some vs => some (v :: vs)

/-- Operations that look at their operands alone. -/
inductive POp where
  | mv
  | pick
  | build (zero : List AV) (offs : List (Nat × Nat))
  | nilCheck
  | bin (op : BinOp)
  | eql (neg : Bool) (q : Nat)
  | eqAgg (neg : Bool) (idx : List (Nat × Nat))
  | un (op : UnOp)
  | conv (k : IntKind)
  | strId
  | mkIface (t : Nat)
  | mkFunc (f : Nat)
  | sliceStr (lo hi : Bool)
  | sliceSl (esz : Nat) (lo hi : Bool)
  | fieldAddr (off : Nat)
  | field1 (off : Nat)
  | fieldN (off n : Nat)
  | indexAddr (esz : Nat)
  | indexArrAddr (len esz : Nat)
  | indexStr
  | indexArr1 (len : Nat)
  | indexArrN (len esz : Nat)
  | extract (i : Nat)
  | lenStr
  | lenSl
  | lenArr (n : Nat)
  | min
  | max
/-- Operations that read the heap. -/
inductive ROp where
  | load1
  | loadN (n : Nat)
  | bytesToStr
  | lookup (kq : Nat) (ok : Bool) (zero : AV)
  | lenMap
/-- Operations that make one object, and touch nothing else. -/
inductive NOp where
  | alloc (zero : List AV)
  | box
  | buildSlice (esz len : Nat) (zero : List AV) (offs : List (Nat × Nat))
  | strToBytes
  | mkMap
  | mkSlice (esz bytes : Nat) (zero : List AV)
  | appendNil (esz bytes : Nat)
  | rangeStr
/-- Operations that write the heap. -/
inductive EOp where
  | store (n : Nat)
  | append (esz bytes : Nat)
  | copy (esz : Nat)
  | mapSet (kq : Nat)
  | nextStr
inductive AK where
  | p (o : POp)
  | r (o : ROp)
  | n (o : NOp)
  | e (o : EOp)
  | call (f : Nat)
  | callV
structure AOper where
  dst : Option Nat
  guard : Option (Nat × Bool)
  k : AK
  xs : List Opd
inductive ACode where
  | skip
  | seq (a b : ACode)
  | cond (c : Opd) (t f : ACode)
  | block (id : Nat) (b : ACode)
  | loop (b : ACode)
  | exit (id : Nat)
  | ret
  | region (ops : List AOper)
  | dregion (ops : List AOper) (pairs : List (Nat × Nat))
inductive ARes where
  | tmp (t : Nat)
  | cell1 (t : Nat)
  | cellN (t n : Nat)
structure AFn where
  np : Nat
  code : ACode
  res : List ARes
inductive AX where
  | normal
  | exit (id : Nat)
  | ret

/-! ### what the operations do -/
def splice (zero : List AV) (off : Nat) (cs : List AV) : List AV := zero.take off ++ (cs ++ zero.drop (off + cs.length))
def place : List AV → List (Nat × Nat) → List AV → Option (List AV)
  | zero, [], [] => some zero
  | zero, (off, size) :: offs, v :: vs =>
    bif Nat.beq v.cells.length size && Nat.ble (off + size) zero.length && !v.isTup then place (splice zero off v.cells) offs vs else none
  | _, _, _ => none
def binInt (op : BinOp) (k : IntKind) (a b : Int) : Option AV :=
  match op with
  | .add => some (.int k (k.wrap (a + b)))
  | .sub => some (.int k (k.wrap (a - b)))
  | .mul => some (.int k (k.wrap (a * b)))
  | .quo => if b = 0 then none else some (.int k (k.wrap (a.tdiv b)))
  | .rem => if b = 0 then none else some (.int k (a.tmod b))
  | .and => some (.int k (k.wrap ((BitVec.ofInt k.bits a &&& BitVec.ofInt k.bits b).toNat)))
  | .or => some (.int k (k.wrap ((BitVec.ofInt k.bits a ||| BitVec.ofInt k.bits b).toNat)))
  | .xor => some (.int k (k.wrap ((BitVec.ofInt k.bits a ^^^ BitVec.ofInt k.bits b).toNat)))
  | .andNot => some (.int k (k.wrap ((BitVec.ofInt k.bits a &&& ~~~BitVec.ofInt k.bits b).toNat)))
  | .eql => some (.bool (decide (a = b)))
  | .neq => some (.bool (!decide (a = b)))
  | .lss => some (.bool (decide (a < b)))
  | .leq => some (.bool (decide (a ≤ b)))
  | .gtr => some (.bool (decide (b < a)))
  | .geq => some (.bool (decide (b ≤ a)))
  | _ => none
def shiftInt (op : BinOp) (k : IntKind) (a b : Int) : Option AV :=
  if b < 0 then none else
  match op with
  | .shl => some (.int k (k.wrap (a * 2 ^ (Nat.min b.toNat k.bits))))
  | .shr => some (.int k (a.fdiv (2 ^ (Nat.min b.toNat k.bits))))
  | _ => none
def binStr (op : BinOp) (a b : List UInt8) : Option AV :=
  match op with
  | .add => if a.length + b.length ≤ 4611686018427387904 then some (.str (a ++ b)) else none
  | .eql => some (.bool (a == b))
  | .neq => some (.bool (!(a == b)))
  | .lss => some (.bool (Op.bytesLess a b))
  | .leq => some (.bool (Op.bytesLess a b || a == b))
  | .gtr => some (.bool (!(Op.bytesLess a b || a == b)))
  | .geq => some (.bool (!Op.bytesLess a b))
  | _ => none
def binEv (op : BinOp) : AV → AV → Option AV
  | .int k a, .int k' b => match op with
    | .shl => shiftInt .shl k a b
    | .shr => shiftInt .shr k a b
    | op => if k = k' then binInt op k a b else none
  | .str a, .str b => binStr op a b
  | _, _ => none
/-- Equality of single values that aren't both references: bools (0), pointers (1), slices (2), maps (3), functions (4), interfaces (5). -/
def eqlEv : Nat → AV → AV → Option Bool
  | 0, .bool a, .bool b => some (a == b)
  | 1, .nilPtr, .nilPtr => some true
  | 1, .nilPtr, .ptr _ _ _ => some false
  | 1, .ptr _ _ _, .nilPtr => some false
  | 2, .nilSlice, .nilSlice => some true
  | 2, .nilSlice, .slice _ _ _ _ _ => some false
  | 2, .slice _ _ _ _ _, .nilSlice => some false
  | 3, .nilMap, .nilMap => some true
  | 3, .nilMap, .map _ => some false
  | 3, .map _, .nilMap => some false
  | 4, .nilFunc, .nilFunc => some true
  | 4, .nilFunc, .func _ _ => some false
  | 4, .func _ _, .nilFunc => some false
  | 5, .nilIface, .nilIface => some true
  | 5, .nilIface, .iface _ _ => some false
  | 5, .iface _ _, .nilIface => some false
  | _, _, _ => none
/-- Equality of a struct's cells that are bools (0), numbers (1), texts (2). -/
def eqCell : Nat → AV → AV → Option Bool
  | 0, .bool a, .bool b => some (a == b)
  | 1, .int k a, .int k' b => if k = k' then some (decide (a = b)) else none
  | 2, .str a, .str b => some (a == b)
  | _, _, _ => none
def eqCells (xs ys : List AV) : List (Nat × Nat) → Option Bool
  | [] => some true
  | (i, q) :: is => match xs[i]?, ys[i]? with
    | some x, some y => match eqCell q x y with
      | none => none
      | some b => match eqCells xs ys is with
        | none => none
        | some c => some (b && c)
    | _, _ => none
def unEv (op : UnOp) : AV → Option AV
  | .int k n => match op with
    | .neg => some (.int k (k.wrap (0 - n)))
    | .xor => some (.int k (k.wrap ((BitVec.ofInt k.bits (if k.signed then -1 else k.max) ^^^ BitVec.ofInt k.bits n).toNat)))
    | _ => none
  | .bool b => match op with
    | .not => some (.bool (!b))
    | _ => none
  | _ => none
def boundLo : Bool → List AV → Option (Nat × List AV)
  | false, vs => some (0, vs)
  | true, .int _ i :: vs => if 0 ≤ i then some (i.toNat, vs) else none
  | _, _ => none
def boundHi (d : Nat) : Bool → List AV → Option Nat
  | false, [] => some d
  | true, [.int _ i] => if 0 ≤ i then some i.toNat else none
  | _, _ => none
def sliceStrEv (s : List UInt8) (lo hi : Bool) (vs : List AV) : Option AV :=
  match boundLo lo vs with
  | none => none
  | some (l, vs) => match boundHi s.length hi vs with
    | none => none
    | some h => if l ≤ h ∧ h ≤ s.length then some (.str ((s.take h).drop l)) else none
def AV.isSlice : AV → Bool
  | .slice _ _ _ _ _ => true
  | .nilSlice => true
  | _ => false
def AV.slen : AV → Nat
  | .slice _ _ _ n _ => n
  | _ => 0
/-- The address of the cell so many cells behind a slice's first one. -/
def AV.at : AV → Nat → AV
  | .slice o v off _ _, k => .ptr o v (off + k)
  | _, _ => .nilPtr
/-- The part of a slice from l on, below h. -/
def AV.sub (esz l h : Nat) : AV → AV
  | .slice o v off _ z => .slice o v (off + l * esz) (h - l) z
  | s => s
def AV.hasEsz (esz : Nat) : AV → Bool
  | .slice _ _ _ _ z => Nat.beq z esz
  | .nilSlice => true
  | _ => false
def sliceSlEv (s : AV) (esz : Nat) (lo hi : Bool) (vs : List AV) : Option AV :=
  match boundLo lo vs with
  | none => none
  | some (l, vs) => match boundHi s.slen hi vs with
    | none => none
    | some h => if s.hasEsz esz = true ∧ l ≤ h ∧ h ≤ s.slen then some (s.sub esz l h) else none
def minEv : List AV → Option AV
  | [.int k a, .int k' b] => if k = k' then some (.int k (if b < a then b else a)) else none
  | _ => none
def maxEv : List AV → Option AV
  | [.int k a, .int k' b] => if k = k' then some (.int k (if a < b then b else a)) else none
  | _ => none

def POp.ev : POp → List AV → Option AV
  | .mv, [x] => some x
  | .pick, [.bool c, a, b] => some (bif c then a else b)
  | .build zero offs, xs => match place zero offs xs with
    | some cs => some (.agg cs)
    | none => none
  | .nilCheck, [x] => match x with
    | .ptr o v off => some (.ptr o v off)
    | .func f cs => some (.func f cs)
    | .iface t v => some (.iface t v)
    | _ => none
  | .bin op, [x, y] => binEv op x y
  | .eql neg q, [x, y] => match eqlEv q x y with
    | some b => some (.bool (if neg = true then !b else b))
    | none => none
  | .eqAgg neg idx, [.agg xs, .agg ys] => match eqCells xs ys idx with
    | some b => some (.bool (if neg = true then !b else b))
    | none => none
  | .un op, [x] => unEv op x
  | .conv k, [.int _ n] => some (.int k (k.wrap n))
  | .strId, [.str s] => some (.str s)
  | .mkIface t, [x] => some (.iface t x)
  | .mkFunc f, xs => some (.func f xs)
  | .sliceStr lo hi, .str s :: vs => sliceStrEv s lo hi vs
  | .sliceSl esz lo hi, s :: vs => sliceSlEv s esz lo hi vs
  | .fieldAddr off, [.ptr o v p] => some (.ptr o v (p + off))
  | .field1 off, [.agg cs] => cs[off]?
  | .fieldN off n, [.agg cs] => if off + n ≤ cs.length then some (.agg ((cs.drop off).take n)) else none
  | .indexAddr esz, [s, .int _ i] => if s.isSlice = true ∧ 0 ≤ i ∧ i < s.slen then some (s.at (i.toNat * esz)) else none
  | .indexArrAddr len esz, [.ptr o v p, .int _ i] => if 0 ≤ i ∧ i < len then some (.ptr o v (p + i.toNat * esz)) else none
  | .indexStr, [.str s, .int _ i] => if 0 ≤ i then match s[i.toNat]? with
    | some b => some (.int .u8 b.toNat)
    | none => none else none
  | .indexArr1 len, [.agg cs, .int _ i] => if 0 ≤ i ∧ i < len then cs[i.toNat]? else none
  | .indexArrN len esz, [.agg cs, .int _ i] => if 0 ≤ i ∧ i < len ∧ i.toNat * esz + esz ≤ cs.length then some (.agg ((cs.drop (i.toNat * esz)).take esz)) else none
  | .extract i, [.tuple vs] => vs[i]?
  | .lenStr, [.str s] => some (.int .i64 s.length)
  | .lenSl, [s] => if s.isSlice = true then some (.int .i64 s.slen) else none
  | .lenArr n, [_] => some (.int .i64 n)
  | .min, xs => minEv xs
  | .max, xs => maxEv xs
  | _, _ => none

/-- The cells of a row from a reference on. -/
def Heap.cells (h : Heap) (o v off n : Nat) : Option (List AV) :=
  match h.get o with
  | some (.row cs ver _) => if v = ver ∧ off + n ≤ cs.length then some ((cs.drop off).take n) else none
  | _ => none
/-- The cells of a slice. -/
def Heap.rows (h : Heap) (esz : Nat) : AV → Option (List AV)
  | .nilSlice => some []
  | .slice o v off len _ => h.cells o v off (len * esz)
  | _ => none
def byteOf : AV → Option UInt8
  | .int .u8 n => some (UInt8.ofNat n.toNat)
  | _ => none
def bytesOf : List AV → Option (List UInt8)
  | [] => some []
  | x :: xs => match byteOf x with
    | none => none
    | some b => match bytesOf xs with
      | none => none
      | some bs => some (b :: bs)
def ofBytes (s : List UInt8) : List AV := s.map fun b => .int .u8 b.toNat
/-- May two values be keys of one map; are they one? -/
def keyEq : AV → AV → Option Bool
  | .int k a, .int k' b => if k = k' then some (decide (a = b)) else none
  | .str a, .str b => some (a == b)
  | _, _ => none
def findIn (k : AV) : List (AV × AV) → Option (Option AV)
  | [] => some none
  | (k', v) :: es => match keyEq k k' with
    | none => none
    | some true => some (some v)
    | some false => findIn k es
def putIn (k v : AV) : List (AV × AV) → Option (List (AV × AV))
  | [] => some [(k, v)]
  | (k', v') :: es => match keyEq k k' with
    | none => none
    | some true => some ((k, v) :: es)
    | some false => match putIn k v es with
      | none => none
      | some es' => some ((k', v') :: es')
/-- Is a value a key of that kind: a number (1), a text (2)? -/
def keyOk : Nat → AV → Bool
  | 1, .int _ _ => true
  | 2, .str _ => true
  | _, _ => false

def ROp.ev : ROp → List AV → Heap → Option AV
  | .load1, [.ptr o v off], h => match h.cells o v off 1 with
    | some [x] => some x
    | _ => none
  | .loadN n, [.ptr o v off], h => match h.cells o v off n with
    | some cs => some (.agg cs)
    | none => none
  | .bytesToStr, [s], h => match h.rows 1 s with
    | some cs => match bytesOf cs with
      | some bs => some (.str bs)
      | none => none
    | none => none
  | .lookup kq ok zero, [.nilMap, k], _ => if keyOk kq k = true then some (if ok = true then .tuple [zero, .bool false] else zero) else none
  | .lookup kq ok zero, [.map o, k], h => match h.get o with
    | some (.map es) => if keyOk kq k = true then match findIn k es with
      | some (some v) => some (if ok = true then .tuple [v, .bool true] else v)
      | some none => some (if ok = true then .tuple [zero, .bool false] else zero)
      | none => none else none
    | _ => none
  | .lenMap, [.nilMap], _ => some (.int .i64 0)
  | .lenMap, [.map o], h => match h.get o with
    | some (.map es) => some (.int .i64 es.length)
    | _ => none
  | _, _, _ => none

/-- How much a slice may take: cells, and bytes. -/
def roomCells : Nat := 1099511627776
def reps (zero : List AV) : Nat → List AV
  | 0 => []
  | n + 1 => zero ++ reps zero n
/-- What an operation appends: cells, and how many elements. -/
def appended (h : Heap) (esz : Nat) : AV → Option (List AV × Nat)
  | .str bs => if esz = 1 then some (ofBytes bs, bs.length) else none
  | x => match h.rows esz x with
    | some cs => some (cs, x.slen)
    | none => none
/-- The object that is made. -/
def NOp.ob : NOp → List AV → Heap → Option AObj
  | .alloc zero, [], _ => some (.row zero 0 true)
  | .box, [x], _ => if x.isTup = true then none else some (.row x.cells 0 true)
  | .buildSlice esz _ zero offs, xs, _ => match place zero offs xs with
    | some cs => some (.row cs 0 true)
    | none => none
  | .strToBytes, [.str s], _ => if s.length ≤ roomCells then some (.row (ofBytes s) 0 true) else none
  | .mkMap, [], _ => some (.map [])
  | .mkSlice esz bytes zero, [.int _ l, .int _ c], _ =>
    if 0 ≤ l ∧ l ≤ c ∧ c * bytes ≤ roomCells ∧ c ≤ roomCells then some (.row (reps zero l.toNat) 0 true) else none
  | .appendNil esz bytes, [x], h => match appended h esz x with
    | some (cs, k) => if k * bytes ≤ roomCells then some (.row cs 0 true) else none
    | none => none
  | .rangeStr, [.str s], _ => some (.iter s 0)
  | _, _, _ => none
def lenOfV : AV → Nat
  | .str bs => bs.length
  | x => x.slen
/-- What it is told by. -/
def NOp.mk : NOp → List AV → Nat → AV
  | .alloc _, _, o => .ptr o 0 0
  | .box, _, o => .ptr o 0 0
  | .buildSlice esz len _ _, _, o => .slice o 0 0 len esz
  | .strToBytes, xs, o => match xs with
    | [.str s] => .slice o 0 0 s.length 1
    | _ => .undef
  | .mkMap, _, o => .map o
  | .mkSlice esz _ _, xs, o => match xs with
    | [.int _ l, _] => .slice o 0 0 l.toNat esz
    | _ => .undef
  | .appendNil esz _, xs, o => match xs with
    | [x] => if lenOfV x = 0 then .nilSlice else .slice o 0 0 (lenOfV x) esz
    | _ => .undef
  | .rangeStr, _, o => .iter o
def appendTo (h : Heap) (esz : Nat) (s : AV) (new : List AV) (k : Nat) : Option (AV × Heap) :=
  match s with
  | .nilSlice => if k = 0 then some (.nilSlice, h) else some (.slice h.n 0 0 k esz, h.push (.row new 0 true))
  | .slice o v off len z => match h.get o with
    | some (.row cs ver wr) =>
      if v = ver ∧ off + len * esz ≤ cs.length ∧ z = esz ∧ wr = true then
        if k = 0 then some (.slice o v off len z, h)
        else some (.slice o (ver + 1) 0 (len + k) z, h.set o (.row ((cs.drop off).take (len * esz) ++ new) (ver + 1) true))
      else none
    | _ => none
  | _ => none
def EOp.ev : EOp → List AV → Heap → Option (AV × Heap)
  | .store n, [.ptr o v off, x], h => match h.get o with
    | some (.row cs ver wr) =>
      if v = ver ∧ off + n ≤ cs.length ∧ wr = true ∧ x.cells.length = n ∧ x.isTup = false then some (.undef, h.set o (.row (splice cs off x.cells) ver wr)) else none
    | _ => none
  | .append esz bytes, [s, x], h => match appended h esz x with
    | some (cs, k) => if (s.slen + k) * bytes ≤ roomCells then appendTo h esz s cs k else none
    | none => none
  | .mapSet kq, [.map o, k, v], h => match h.get o with
    | some (.map es) => if keyOk kq k = true then match putIn k v es with
      | some es' => some (.undef, h.set o (.map es'))
      | none => none else none
    | _ => none
  | .nextStr, [.iter o], h => match h.get o with
    | some (.iter s pos) =>
      if pos < s.length then
        some (.tuple [.bool true, .int .i64 pos, .int .i32 (Utf8.decode ⟨s.toArray⟩ pos).1], h.set o (.iter s (pos + (Utf8.decode ⟨s.toArray⟩ pos).2)))
      else some (.tuple [.bool false], h)
    | _ => none
  | _, _, _ => none

def putE (e : Env) : Option Nat → AV → Env
  | some d, v => e.set d v
  | none, _ => e
def wantedE (e : Env) : Option (Nat × Bool) → Option Bool
  | none => some true
  | some (t, want) => match e.get t with
    | some (.bool b) => some (b == want)
    | some _ => some false
    | none => none
/-- A function, and what it is called with. -/
def target : AK → List AV → Option (Nat × List AV)
  | .call f, xs => some (f, xs)
  | .callV, .func f caps :: xs => some (f, xs ++ caps)
  | _, _ => none
abbrev CallF := Nat → List AV → Heap → Option (AV × Heap)
def AK.ev (cf : CallF) (k : AK) (xs : List AV) (h : Heap) : Option (AV × Heap) :=
  match k with
  | .p o => match o.ev xs with
    | some v => some (v, h)
    | none => none
  | .r o => match o.ev xs h with
    | some v => some (v, h)
    | none => none
  | .n o => match o.ob xs h with
    | some ob => some (o.mk xs h.n, h.push ob)
    | none => none
  | .e o => o.ev xs h
  | k => match target k xs with
    | some (f, ys) => cf f ys h
    | none => none
def stepOp (cf : CallF) (o : AOper) (e : Env) (h : Heap) : Option (Env × Heap) :=
  match wantedE e o.guard with
  | none => none
  | some false => some (putE e o.dst .undef, h)
  | some true => match evs e o.xs with
    | none => none
    | some xs => match o.k.ev cf xs h with
      | none => none
      | some (v, h') => some (putE e o.dst v, h')
def runOps (cf : CallF) : List AOper → Env → Heap → Option (Env × Heap)
  | [], e, h => some (e, h)
  | o :: os, e, h => match stepOp cf o e h with
    | none => none
    | some (e', h') => runOps cf os e' h'
/-- The states ahead of each operation, and behind all. -/
def trace (cf : CallF) : List AOper → Env → Heap → List (Env × Heap)
  | [], e, h => [(e, h)]
  | o :: os, e, h => (e, h) :: match stepOp cf o e h with
    | none => []
    | some (e', h') => trace cf os e' h'
def sameAt (v : AV) : Option AV → Bool
  | some u => AV.beq v u
  | none => false
/-- Does operation r, a read, read the same ahead of operation x and behind it? -/
def chkPair (ops : List AOper) (ts : List (Env × Heap)) (p : Nat × Nat) : Bool :=
  match ops[p.1]?, ts[p.1]?, ts[p.2]?, ts[p.2 + 1]? with
  | some o, some (e, h), some (_, h1), some (_, h2) => match wantedE e o.guard with
    | none => false
    | some false => true
    | some true => match o.k, evs e o.xs with
      | .r q, some xs => match q.ev xs h with
        | some v => sameAt v (q.ev xs h1) && sameAt v (q.ev xs h2)
        | none => false
      | _, _ => false
  | _, _, _, _ => false
def resOne (e : Env) (h : Heap) : ARes → Option AV
  | .tmp t => e.get t
  | .cell1 t => match e.get t with
    | some x => ROp.ev .load1 [x] h
    | none => none
  | .cellN t n => match e.get t with
    | some x => ROp.ev (.loadN n) [x] h
    | none => none
def resAll (e : Env) (h : Heap) : List ARes → Option (List AV)
  | [] => some []
  | r :: rs => match resOne e h r with
    | none => none
    | some v => match resAll e h rs with
      | none => none
      | some vs => some (v :: vs)
def resOf (e : Env) (h : Heap) (rs : List ARes) : Option AV :=
  match resAll e h rs with
  | none => none
  | some [v] => some v
  | some vs => some (.tuple vs)
def envOf : Nat → List AV → Env → Env
  | _, [], e => e
  | i, v :: vs, e => envOf (i + 1) vs (e.set i v)

section
variable (F : Nat → Option AFn)
def run : Nat → ACode → Env → Heap → Option (AX × Env × Heap)
  | 0, _, _, _ => none
  | n + 1, c, e, h =>
    let cf : CallF := fun f xs h => match F f with
      | none => none
      | some fn => if xs.length = fn.np then match run n fn.code (envOf 0 xs .nil) h with
        | some (.normal, e', h') => match resOf e' h' fn.res with
          | some v => some (v, h')
          | none => none
        | some (.ret, e', h') => match resOf e' h' fn.res with
          | some v => some (v, h')
          | none => none
        | _ => none else none
    match c with
    | .skip => some (.normal, e, h)
    | .seq a b => match run n a e h with
      | some (.normal, e', h') => run n b e' h'
      | r => r
    | .cond c t f => match c.ev e with
      | some (.bool b) => bif b then run n t e h else run n f e h
      | _ => none
    | .block id b => match run n b e h with
      | some (.exit id', e', h') => if id' = id then some (.normal, e', h') else some (.exit id', e', h')
      | r => r
    | .loop b => match run n b e h with
      | some (.normal, e', h') => run n (.loop b) e' h'
      | r => r
    | .exit id => some (.exit id, e, h)
    | .ret => some (.ret, e, h)
    | .region ops => match runOps cf ops e h with
      | some (e', h') => some (.normal, e', h')
      | none => none
    | .dregion ops ps => match runOps cf ops e h with
      | some (e', h') => bif ps.all (chkPair ops (trace cf ops e h)) then some (.normal, e', h') else none
      | none => none
def callN (n : Nat) : CallF := fun f xs h => match F f with
  | none => none
  | some fn => if xs.length = fn.np then match run F n fn.code (envOf 0 xs .nil) h with
    | some (.normal, e', h') => match resOf e' h' fn.res with
      | some v => some (v, h')
      | none => none
    | some (.ret, e', h') => match resOf e' h' fn.res with
      | some v => some (v, h')
      | none => none
    | _ => none else none
end
end Go.Am
