/- An abstract machine for the model's code, and that the model does what it does. No condition. Own work. -/
import Derived.Tactics
import Derived.Orders
import Derived.Below
import Derived.Lib.Bytealg
import Derived.Laws.Strings
import Derived.Laws.Slices
import Derived.Laws.Cells
import Derived.WideShapes
set_option linter.unusedSimpArgs false
set_option linter.unusedVariables false
namespace Go.Am
open Go
inductive AV where
 | bool (b:Bool)
 | int (k:IntKind) (n:Int)
 | str (s:List UInt8)
 | nilPtr
 | ptr (o v off:Nat)
 | nilSlice
 | slice (o v off len esz:Nat)
 | nilMap
 | map (o:Nat)
 | nilFunc
 | func (f:Nat) (caps:List AV)
 | nilIface
 | iface (t:Nat) (v:AV)
 | agg (cs:List AV)
 | tuple (vs:List AV)
 | iter (o:Nat)
 deriving Inhabited
def AV.undef:AV:=.tuple []
def AV.cells:AV→List AV
 | .agg cs=>cs
 | v=>[v]
def AV.isTup:AV→Bool
 | .tuple _=>true
 | _=>false
def AV.flat:AV→Bool
 | .agg _=>false
 | .tuple _=>false
 | _=>true
mutual
def AV.beq:AV→AV→Bool
 | .bool a,.bool b=>a==b
 | .int k a,.int k' b=>decide (k=k')&&decide (a=b)
 | .str a,.str b=>a==b
 | .nilPtr,.nilPtr=>true
 | .ptr o v f,.ptr o' v' f'=>decide (o=o')&&decide (v=v')&&decide (f=f')
 | .nilSlice,.nilSlice=>true
 | .slice o v f n z,.slice o' v' f' n' z'=>decide (o=o')&&decide (v=v')&&decide (f=f')&&decide (n=n')&&decide (z=z')
 | .nilMap,.nilMap=>true
 | .map o,.map o'=>decide (o=o')
 | .nilFunc,.nilFunc=>true
 | .func f cs,.func f' cs'=>decide (f=f')&&AV.beqs cs cs'
 | .nilIface,.nilIface=>true
 | .iface t v,.iface t' v'=>decide (t=t')&&AV.beq v v'
 | .agg cs,.agg cs'=>AV.beqs cs cs'
 | .tuple cs,.tuple cs'=>AV.beqs cs cs'
 | .iter o,.iter o'=>decide (o=o')
 | _,_=>false
def AV.beqs:List AV→List AV→Bool
 | [],[]=>true
 | x::xs,y::ys=>AV.beq x y&&AV.beqs xs ys
 | _,_=>false
end
inductive T (α:Type) where
 | nil
 | node (v:Option α) (l r:T α)
def T.get {α:Type}:T α→Nat→Option α
 | .nil,_=>none
 | .node v l r,n=>match n with
  | 0=>v
  | k+1=>bif Nat.beq (k % 2) 0 then l.get (k / 2) else r.get (k / 2)
def T.val {α:Type}:T α→Option α
 | .nil=>none
 | .node v _ _=>v
def T.left {α:Type}:T α→T α
 | .nil=>.nil
 | .node _ l _=>l
def T.right {α:Type}:T α→T α
 | .nil=>.nil
 | .node _ _ r=>r
def T.setF {α:Type} (x:α):Nat→T α→Nat→T α
 | 0,t,_=>t
 | f+1,t,n=>match n with
  | 0=>.node (some x) t.left t.right
  | k+1=>bif Nat.beq (k % 2) 0 then .node t.val (T.setF x f t.left (k / 2)) t.right else .node t.val t.left (T.setF x f t.right (k / 2))
def T.set {α:Type} (t:T α) (n:Nat) (x:α):T α:=T.setF x (n+1) t n
inductive AObj where
 | row (cs:List AV) (ver:Nat) (wr:Bool)
 | map (es:List (AV×AV))
 | iter (s:List UInt8) (pos:Nat)
 deriving Inhabited
structure Heap where
 t:T AObj
 n:Nat
def Heap.get (h:Heap) (o:Nat):Option AObj:=bif Nat.blt o h.n then h.t.get o else none
def Heap.set (h:Heap) (o:Nat) (x:AObj):Heap:=⟨h.t.set o x,h.n⟩
def Heap.push (h:Heap) (x:AObj):Heap:=⟨h.t.set h.n x,h.n+1⟩
abbrev Env:=T AV
inductive Opd where
 | tmp (t:Nat)
 | const (v:AV)
def Opd.ev (e:Env):Opd→Option AV
 | .tmp t=>e.get t
 | .const v=>some v
def evs (e:Env):List Opd→Option (List AV)
 | []=>some []
 | x::xs=>match x.ev e with
  | none=>none
  | some v=>match evs e xs with
   | none=>none
   | some vs=>some (v::vs)
inductive POp where
 | mv
 | pick
 | build (zero:List AV) (offs:List (Nat×Nat))
 | nilCheck
 | bin (op:BinOp)
 | eql (neg:Bool) (q:Nat)
 | eqAgg (neg:Bool) (idx:List (Nat×Nat))
 | un (op:UnOp)
 | conv (k:IntKind)
 | strId
 | mkIface (t:Nat)
 | mkFunc (f:Nat)
 | sliceStr (lo hi:Bool)
 | sliceSl (esz:Nat) (lo hi:Bool)
 | fieldAddr (off:Nat)
 | field1 (off:Nat)
 | fieldN (off n:Nat)
 | indexAddr (esz:Nat)
 | indexArrAddr (len esz:Nat)
 | indexStr
 | indexArr1 (len:Nat)
 | indexArrN (len esz:Nat)
 | extract (i:Nat)
 | lenStr
 | lenSl
 | lenArr (n:Nat)
 | min
 | max
 | ext (k:Nat)
inductive ROp where
 | load1
 | loadN (n:Nat)
 | bytesToStr
 | lookup (kq:Nat) (ok:Bool) (zero:AV)
 | lenMap
inductive NOp where
 | alloc (zero:List AV)
 | box
 | buildSlice (esz len:Nat) (zero:List AV) (offs:List (Nat×Nat))
 | strToBytes
 | mkMap
 | mkSlice (esz bytes:Nat) (zero:List AV)
 | appendNil (esz bytes:Nat)
 | rangeStr
inductive EOp where
 | store (n:Nat)
 | append (esz bytes:Nat)
 | copy (esz:Nat)
 | mapSet (kq:Nat)
 | nextStr
 | byteConv
 | clear (zero:List AV)
 | panic
inductive AK where
 | p (o:POp)
 | r (o:ROp)
 | n (o:NOp)
 | e (o:EOp)
 | call (f:Nat)
 | callV
 | callM (tb:List (Nat×Nat))
structure AOper where
 dst:Option Nat
 guard:Option (Nat×Bool)
 k:AK
 xs:List Opd
inductive ACode where
 | skip
 | seq (a b:ACode)
 | cond (c:Opd) (t f:ACode)
 | block (id:Nat) (b:ACode)
 | loop (b:ACode)
 | exit (id:Nat)
 | ret
 | region (ops:List AOper)
 | dregion (ops:List AOper) (pairs:List (Nat×Nat))
inductive ARes where
 | tmp (t:Nat)
 | cell1 (t:Nat)
 | cellN (t n:Nat)
structure AFn where
 np:Nat
 code:ACode
 res:List ARes
inductive AX where
 | normal
 | exit (id:Nat)
 | ret
def splice (zero:List AV) (off:Nat) (cs:List AV):List AV:=zero.take off++(cs++zero.drop (off+cs.length))
def fH:List AV→List (Nat×Nat)→List AV→Option (List AV)
 | zero,[],[]=>some zero
 | zero,(off,size)::offs,v::vs=>
  bif Nat.beq v.cells.length size&&Nat.ble (off+size) zero.length&&!v.isTup then fH (splice zero off v.cells) offs vs else none
 | _,_,_=>none
def gX (op:BinOp) (k:IntKind) (a b:Int):Option AV:=
 match op with
 | .add=>some (.int k (k.wrap (a+b)))
 | .sub=>some (.int k (k.wrap (a - b)))
 | .mul=>some (.int k (k.wrap (a * b)))
 | .quo=>if b=0 then none else some (.int k (k.wrap (a.tdiv b)))
 | .rem=>if b=0 then none else some (.int k (a.tmod b))
 | .and=>some (.int k (k.wrap ((BitVec.ofInt k.bits a &&& BitVec.ofInt k.bits b).toNat)))
 | .or=>some (.int k (k.wrap ((BitVec.ofInt k.bits a ||| BitVec.ofInt k.bits b).toNat)))
 | .xor=>some (.int k (k.wrap ((BitVec.ofInt k.bits a ^^^ BitVec.ofInt k.bits b).toNat)))
 | .andNot=>some (.int k (k.wrap ((BitVec.ofInt k.bits a &&& ~~~BitVec.ofInt k.bits b).toNat)))
 | .eql=>some (.bool (decide (a=b)))
 | .neq=>some (.bool (!decide (a=b)))
 | .lss=>some (.bool (decide (a < b)))
 | .leq=>some (.bool (decide (a≤b)))
 | .gtr=>some (.bool (decide (b < a)))
 | .geq=>some (.bool (decide (b≤a)))
 | _=>none
def dz (op:BinOp) (k:IntKind) (a b:Int):Option AV:=
 if b < 0 then none else
 match op with
 | .shl=>some (.int k (k.wrap (a * 2 ^ (Nat.min b.toNat k.bits))))
 | .shr=>some (.int k (a.fdiv (2 ^ (Nat.min b.toNat k.bits))))
 | _=>none
def pY (op:BinOp) (a b:List UInt8):Option AV:=
 match op with
 | .add=>if a.length+b.length≤4611686018427387904 then some (.str (a++b)) else none
 | .eql=>some (.bool (a==b))
 | .neq=>some (.bool (!(a==b)))
 | .lss=>some (.bool (Op.bytesLess a b))
 | .leq=>some (.bool (Op.bytesLess a b||a==b))
 | .gtr=>some (.bool (!(Op.bytesLess a b||a==b)))
 | .geq=>some (.bool (!Op.bytesLess a b))
 | _=>none
def e8 (op:BinOp):AV→AV→Option AV
 | .int k a,.int k' b=>match op with
  | .shl=>dz .shl k a b
  | .shr=>dz .shr k a b
  | op=>if k=k' then gX op k a b else none
 | .str a,.str b=>pY op a b
 | _,_=>none
def kE:Nat→AV→AV→Option Bool
 | 0,.bool a,.bool b=>some (a==b)
 | 1,.nilPtr,.nilPtr=>some true
 | 1,.nilPtr,.ptr _ _ _=>some false
 | 1,.ptr _ _ _,.nilPtr=>some false
 | 2,.nilSlice,.nilSlice=>some true
 | 2,.nilSlice,.slice _ _ _ _ _=>some false
 | 2,.slice _ _ _ _ _,.nilSlice=>some false
 | 3,.nilMap,.nilMap=>some true
 | 3,.nilMap,.map _=>some false
 | 3,.map _,.nilMap=>some false
 | 4,.nilFunc,.nilFunc=>some true
 | 4,.nilFunc,.func _ _=>some false
 | 4,.func _ _,.nilFunc=>some false
 | 5,.nilIface,.nilIface=>some true
 | 5,.nilIface,.iface _ _=>some false
 | 5,.iface _ _,.nilIface=>some false
 | _,_,_=>none
def jW:Nat→AV→AV→Option Bool
 | 0,.bool a,.bool b=>some (a==b)
 | 1,.int k a,.int k' b=>if k=k' then some (decide (a=b)) else none
 | 2,.str a,.str b=>some (a==b)
 | _,_,_=>none
def bM (xs ys:List AV):List (Nat×Nat)→Option Bool
 | []=>some true
 | (i,q)::is=>match xs[i]?,ys[i]? with
  | some x,some y=>match jW q x y with
   | none=>none
   | some b=>match bM xs ys is with
    | none=>none
    | some c=>some (b&&c)
  | _,_=>none
def EW (op:UnOp):AV→Option AV
 | .int k n=>match op with
  | .neg=>some (.int k (k.wrap (0 - n)))
  | .xor=>some (.int k (k.wrap ((BitVec.ofInt k.bits (if k.signed then -1 else k.max) ^^^ BitVec.ofInt k.bits n).toNat)))
  | _=>none
 | .bool b=>match op with
  | .not=>some (.bool (!b))
  | _=>none
 | _=>none
def cq:Bool→List AV→Option (Nat×List AV)
 | false,vs=>some (0,vs)
 | true,.int _ i::vs=>if 0≤i then some (i.toNat,vs) else none
 | _,_=>none
def ce (d:Nat):Bool→List AV→Option Nat
 | false,[]=>some d
 | true,[.int _ i]=>if 0≤i then some i.toNat else none
 | _,_=>none
def cL (s:List UInt8) (lo hi:Bool) (vs:List AV):Option AV:=
 match cq lo vs with
 | none=>none
 | some (l,vs)=>match ce s.length hi vs with
  | none=>none
  | some h=>if l≤h∧h≤s.length then some (.str ((s.take h).drop l)) else none
def AV.isSlice:AV→Bool
 | .slice _ _ _ _ _=>true
 | .nilSlice=>true
 | _=>false
def AV.slen:AV→Nat
 | .slice _ _ _ n _=>n
 | _=>0
def AV.at:AV→Nat→AV
 | .slice o v off _ _,k=>.ptr o v (off+k)
 | _,_=>.nilPtr
def AV.sub (esz l h:Nat):AV→AV
 | .slice o v off _ z=>.slice o v (off+l * esz) (h - l) z
 | s=>s
def AV.hasEsz (esz:Nat):AV→Bool
 | .slice _ _ _ _ z=>Nat.beq z esz
 | .nilSlice=>true
 | _=>false
def dw (s:AV) (esz:Nat) (lo hi:Bool) (vs:List AV):Option AV:=
 match cq lo vs with
 | none=>none
 | some (l,vs)=>match ce s.slen hi vs with
  | none=>none
  | some h=>if s.hasEsz esz=true∧l≤h∧h≤s.slen then some (s.sub esz l h) else none
def xq:List AV→Option AV
 | [.int k a,.int k' b]=>if k=k' then some (.int k (if b < a then b else a)) else none
 | _=>none
def xK:List AV→Option AV
 | [.int k a,.int k' b]=>if k=k' then some (.int k (if a < b then b else a)) else none
 | _=>none
def GV:List AV→Option AV
 | [.str s,.int .u8 c]=>some (.int .i64 (Go.Lib.indexByte s c.toNat.toUInt8))
 | _=>none
def Gr:List AV→Option AV
 | [.str s,.int .u8 c]=>some (.int .i64 (Go.Lib.countByte s c.toNat.toUInt8))
 | _=>none
def EE:Nat→List AV→Option AV
 | 0,as=>GV as
 | 1,as=>Gr as
 | _,_=>none
def POp.ev:POp→List AV→Option AV
 | .mv,[x]=>some x
 | .pick,[.bool c,a,b]=>some (bif c then a else b)
 | .build zero offs,xs=>match fH zero offs xs with
  | some cs=>some (.agg cs)
  | none=>none
 | .nilCheck,[x]=>match x with
  | .ptr o v off=>some (.ptr o v off)
  | .func f cs=>some (.func f cs)
  | .iface t v=>some (.iface t v)
  | _=>none
 | .bin op,[x,y]=>e8 op x y
 | .eql neg q,[x,y]=>match kE q x y with
  | some b=>some (.bool (if neg=true then !b else b))
  | none=>none
 | .eqAgg neg idx,[.agg xs,.agg ys]=>match bM xs ys idx with
  | some b=>some (.bool (if neg=true then !b else b))
  | none=>none
 | .un op,[x]=>EW op x
 | .conv k,[.int _ n]=>some (.int k (k.wrap n))
 | .strId,[.str s]=>some (.str s)
 | .mkIface t,[x]=>some (.iface t x)
 | .mkFunc f,xs=>some (.func f xs)
 | .sliceStr lo hi,.str s::vs=>cL s lo hi vs
 | .sliceSl esz lo hi,s::vs=>dw s esz lo hi vs
 | .fieldAddr off,[.ptr o v p]=>some (.ptr o v (p+off))
 | .field1 off,[.agg cs]=>cs[off]?
 | .fieldN off n,[.agg cs]=>if off+n≤cs.length then some (.agg ((cs.drop off).take n)) else none
 | .indexAddr esz,[s,.int _ i]=>if s.isSlice=true∧0≤i∧i < s.slen then some (s.at (i.toNat * esz)) else none
 | .indexArrAddr len esz,[.ptr o v p,.int _ i]=>if 0≤i∧i < len then some (.ptr o v (p+i.toNat * esz)) else none
 | .indexStr,[.str s,.int _ i]=>if 0≤i then match s[i.toNat]? with
  | some b=>some (.int .u8 b.toNat)
  | none=>none else none
 | .indexArr1 len,[.agg cs,.int _ i]=>if 0≤i∧i < len then cs[i.toNat]? else none
 | .indexArrN len esz,[.agg cs,.int _ i]=>if 0≤i∧i < len∧i.toNat * esz+esz≤cs.length then some (.agg ((cs.drop (i.toNat * esz)).take esz)) else none
 | .extract i,[.tuple vs]=>vs[i]?
 | .lenStr,[.str s]=>some (.int .i64 s.length)
 | .lenSl,[s]=>if s.isSlice=true then some (.int .i64 s.slen) else none
 | .lenArr n,[_]=>some (.int .i64 n)
 | .min,xs=>xq xs
 | .max,xs=>xK xs
 | .ext k,xs=>EE k xs
 | _,_=>none
def Heap.cells (h:Heap) (o v off n:Nat):Option (List AV):=
 match h.get o with
 | some (.row cs ver _)=>if v=ver∧off+n≤cs.length then some ((cs.drop off).take n) else none
 | _=>none
def Heap.rows (h:Heap) (esz:Nat):AV→Option (List AV)
 | .nilSlice=>some []
 | .slice o v off len _=>h.cells o v off (len * esz)
 | _=>none
def tx:AV→Option UInt8
 | .int .u8 n=>some (UInt8.ofNat n.toNat)
 | _=>none
def d6:List AV→Option (List UInt8)
 | []=>some []
 | x::xs=>match tx x with
  | none=>none
  | some b=>match d6 xs with
   | none=>none
   | some bs=>some (b::bs)
def cT (s:List UInt8):List AV:=s.map fun b=>.int .u8 b.toNat
def mh:AV→AV→Option Bool
 | .int k a,.int k' b=>if k=k' then some (decide (a=b)) else none
 | .str a,.str b=>some (a==b)
 | _,_=>none
def i8 (k:AV):List (AV×AV)→Option (Option AV)
 | []=>some none
 | (k',v)::es=>match mh k k' with
  | none=>none
  | some true=>some (some v)
  | some false=>i8 k es
def qR (k v:AV):List (AV×AV)→Option (List (AV×AV))
 | []=>some [(k,v)]
 | (k',v')::es=>match mh k k' with
  | none=>none
  | some true=>some ((k,v)::es)
  | some false=>match qR k v es with
   | none=>none
   | some es'=>some ((k',v')::es')
def iy:Nat→AV→Bool
 | 1,.int _ _=>true
 | 2,.str _=>true
 | _,_=>false
def ROp.ev:ROp→List AV→Heap→Option AV
 | .load1,[.ptr o v off],h=>match h.cells o v off 1 with
  | some [x]=>some x
  | _=>none
 | .loadN n,[.ptr o v off],h=>match h.cells o v off n with
  | some cs=>some (.agg cs)
  | none=>none
 | .bytesToStr,[s],h=>match h.rows 1 s with
  | some cs=>match d6 cs with
   | some bs=>some (.str bs)
   | none=>none
  | none=>none
 | .lookup kq ok zero,[.nilMap,k],_=>if iy kq k=true then some (if ok=true then .tuple [zero,.bool false] else zero) else none
 | .lookup kq ok zero,[.map o,k],h=>match h.get o with
  | some (.map es)=>if iy kq k=true then match i8 k es with
   | some (some v)=>some (if ok=true then .tuple [v,.bool true] else v)
   | some none=>some (if ok=true then .tuple [zero,.bool false] else zero)
   | none=>none else none
  | _=>none
 | .lenMap,[.nilMap],_=>some (.int .i64 0)
 | .lenMap,[.map o],h=>match h.get o with
  | some (.map es)=>some (.int .i64 es.length)
  | _=>none
 | _,_,_=>none
def aE:Nat:=1099511627776
def d7 (zero:List AV):Nat→List AV
 | 0=>[]
 | n+1=>zero++d7 zero n
def appended (h:Heap) (esz:Nat):AV→Option (List AV×Nat)
 | .str bs=>if esz=1 then some (cT bs,bs.length) else none
 | x=>match h.rows esz x with
  | some cs=>some (cs,x.slen)
  | none=>none
def NOp.ob:NOp→List AV→Heap→Option AObj
 | .alloc zero,[],_=>some (.row zero 0 true)
 | .box,[x],_=>if x.isTup=true then none else some (.row x.cells 0 true)
 | .buildSlice esz _ zero offs,xs,_=>match fH zero offs xs with
  | some cs=>some (.row cs 0 true)
  | none=>none
 | .strToBytes,[.str s],_=>if s.length≤aE then some (.row (cT s) 0 true) else none
 | .mkMap,[],_=>some (.map [])
 | .mkSlice esz bytes zero,[.int _ l,.int _ c],_=>
  if 0≤l∧l≤c∧c * bytes≤aE∧c≤aE then some (.row (d7 zero l.toNat) 0 true) else none
 | .appendNil esz bytes,[x],h=>match appended h esz x with
  | some (cs,k)=>if k * bytes≤aE then some (.row cs 0 true) else none
  | none=>none
 | .rangeStr,[.str s],_=>some (.iter s 0)
 | _,_,_=>none
def iB:AV→Nat
 | .str bs=>bs.length
 | x=>x.slen
def NOp.mk:NOp→List AV→Nat→AV
 | .alloc _,_,o=>.ptr o 0 0
 | .box,_,o=>.ptr o 0 0
 | .buildSlice esz len _ _,_,o=>.slice o 0 0 len esz
 | .strToBytes,xs,o=>match xs with
  | [.str s]=>.slice o 0 0 s.length 1
  | _=>.undef
 | .mkMap,_,o=>.map o
 | .mkSlice esz _ _,xs,o=>match xs with
  | [.int _ l,_]=>.slice o 0 0 l.toNat esz
  | _=>.undef
 | .appendNil esz _,xs,o=>match xs with
  | [x]=>if iB x=0 then .nilSlice else .slice o 0 0 (iB x) esz
  | _=>.undef
 | .rangeStr,_,o=>.iter o
def bl (h:Heap) (esz:Nat) (s:AV) (new:List AV) (k:Nat):Option (AV×Heap):=
 match s with
 | .nilSlice=>if k=0 then some (.nilSlice,h) else some (.slice h.n 0 0 k esz,h.push (.row new 0 true))
 | .slice o v off len z=>match h.get o with
  | some (.row cs ver wr)=>
   if v=ver∧off+len * esz≤cs.length∧z=esz∧wr=true then
    if k=0 then some (.slice o v off len z,h)
    else some (.slice o (ver+1) 0 (len+k) z,h.set o (.row ((cs.drop off).take (len * esz)++new) (ver+1) true))
   else none
  | _=>none
 | _=>none
def EOp.ev:EOp→List AV→Heap→Option (AV×Heap)
 | .store n,[.ptr o v off,x],h=>match h.get o with
  | some (.row cs ver wr)=>
   if v=ver∧off+n≤cs.length∧wr=true∧x.cells.length=n∧x.isTup=false then some (.undef,h.set o (.row (splice cs off x.cells) ver wr)) else none
  | _=>none
 | .append esz bytes,[s,x],h=>match appended h esz x with
  | some (cs,k)=>if (s.slen+k) * bytes≤aE then bl h esz s cs k else none
  | none=>none
 | .mapSet kq,[.map o,k,v],h=>match h.get o with
  | some (.map es)=>if iy kq k=true then match qR k v es with
   | some es'=>some (.undef,h.set o (.map es'))
   | none=>none else none
  | _=>none
 | .nextStr,[.iter o],h=>match h.get o with
  | some (.iter s pos)=>
   if pos < s.length then
    some (.tuple [.bool true,.int .i64 pos,.int .i32 (Utf8.decode ⟨s.toArray⟩ pos).1],h.set o (.iter s (pos+(Utf8.decode ⟨s.toArray⟩ pos).2)))
   else some (.tuple [.bool false],h)
  | _=>none
 | .byteConv,[.slice o v off n z],h=>match h.get o with
  | some (.row cs ver true)=>if v=ver∧n≠0 then some (.slice o v off n z,h) else none
  | _=>none
 | .clear zero,[.slice o v off n z],h=>match h.get o with
  | some (.row cs ver wr)=>if v=ver∧off+n * zero.length≤cs.length∧wr=true∧n≠0∧zero.length=z then some (.tuple [],h.set o (.row (splice cs off (d7 zero n)) ver wr)) else none
  | _=>none
 | .copy z,[.slice o v off n z1,.slice o2 v2 off2 n2 z2],h=>match h.get o2 with
  | some (.row cs2 ver2 _)=>match h.get o with
   | some (.row cs ver wr)=>if v=ver∧v2=ver2∧off+n * z≤cs.length∧off2+n2 * z≤cs2.length∧wr=true∧n≠0∧n2≠0∧z1=z∧z2=z then
     some (.int .i64 (Nat.min n2 n:Nat),h.set o (.row (splice cs off ((cs2.drop off2).take (Nat.min n2 n * z))) ver wr)) else none
   | _=>none
  | _=>none
 | _,_,_=>none
def putE (e:Env):Option Nat→AV→Env
 | some d,v=>e.set d v
 | none,_=>e
def ak (e:Env):Option (Nat×Bool)→Option Bool
 | none=>some true
 | some (t,want)=>match e.get t with
  | some (.bool b)=>some (b==want)
  | some _=>some false
  | none=>none
def eG:List (Nat×Nat)→Nat→Option Nat
 | [],_=>none
 | (t,f)::l,u=>bif Nat.beq t u then some f else eG l u
def target:AK→List AV→Option (Nat×List AV)
 | .call f,xs=>some (f,xs)
 | .callV,.func f caps::xs=>some (f,xs++caps)
 | .callM tb,.iface t v::xs=>match eG tb t with
  | some f=>some (f,v::xs)
  | none=>none
 | _,_=>none
abbrev aZ:=Nat→List AV→Heap→Option (AV×Heap)
def AK.ev (cf:aZ) (k:AK) (xs:List AV) (h:Heap):Option (AV×Heap):=
 match k with
 | .p o=>match o.ev xs with
  | some v=>some (v,h)
  | none=>none
 | .r o=>match o.ev xs h with
  | some v=>some (v,h)
  | none=>none
 | .n o=>match o.ob xs h with
  | some ob=>some (o.mk xs h.n,h.push ob)
  | none=>none
 | .e o=>o.ev xs h
 | k=>match target k xs with
  | some (f,ys)=>cf f ys h
  | none=>none
def aP (cf:aZ) (o:AOper) (e:Env) (h:Heap):Option (Env×Heap):=
 match ak e o.guard with
 | none=>none
 | some false=>some (putE e o.dst .undef,h)
 | some true=>match evs e o.xs with
  | none=>none
  | some xs=>match o.k.ev cf xs h with
   | none=>none
   | some (v,h')=>some (putE e o.dst v,h')
def aG (cf:aZ):List AOper→Env→Heap→Option (Env×Heap)
 | [],e,h=>some (e,h)
 | o::os,e,h=>match aP cf o e h with
  | none=>none
  | some (e',h')=>aG cf os e' h'
def trace (cf:aZ):List AOper→Env→Heap→List (Env×Heap)
 | [],e,h=>[(e,h)]
 | o::os,e,h=>(e,h)::match aP cf o e h with
  | none=>[]
  | some (e',h')=>trace cf os e' h'
def jx (v:AV):Option AV→Bool
 | some u=>AV.beq v u
 | none=>false
def br:Option AObj→Option AObj→Bool
 | some (.row cs v true),some (.row cs' v' true)=>AV.beqs cs cs'&&Nat.beq v v'
 | some (.iter s p),some (.iter s' p')=>s==s'&&Nat.beq p p'
 | _,_=>false
def aY (ops:List AOper) (ts:List (Env×Heap)) (p:Nat×Nat):Bool:=
 match ops[p.1]?,ts[p.1]?,ts[p.2]?,ts[p.2+1]? with
 | some o,some (e,h),some (_,h1),some (_,h2)=>match ak e o.guard with
  | none=>false
  | some false=>true
  | some true=>match o.k,evs e o.xs with
   | .r q,some xs=>match q.ev xs h with
    | some v=>jx v (q.ev xs h1)&&jx v (q.ev xs h2)
    | none=>false
   | .n _,_=>br (h1.get h.n) (h2.get h.n)
   | _,_=>false
 | _,_,_,_=>false
def resOne (e:Env) (h:Heap):ARes→Option AV
 | .tmp t=>e.get t
 | .cell1 t=>match e.get t with
  | some x=>ROp.ev .load1 [x] h
  | none=>none
 | .cellN t n=>match e.get t with
  | some x=>ROp.ev (.loadN n) [x] h
  | none=>none
def resAll (e:Env) (h:Heap):List ARes→Option (List AV)
 | []=>some []
 | r::rs=>match resOne e h r with
  | none=>none
  | some v=>match resAll e h rs with
   | none=>none
   | some vs=>some (v::vs)
def resOf (e:Env) (h:Heap) (rs:List ARes):Option AV:=
 match resAll e h rs with
 | none=>none
 | some [v]=>some v
 | some vs=>some (.tuple vs)
def cY:Nat→List AV→Env→Env
 | _,[],e=>e
 | i,v::vs,e=>cY (i+1) vs (e.set i v)
section
variable (F:Nat→Option AFn)
def run:Nat→ACode→Env→Heap→Option (AX×Env×Heap)
 | 0,_,_,_=>none
 | n+1,c,e,h=>
  let cf:aZ:=fun f xs h=>match F f with
   | none=>none
   | some fn=>if xs.length=fn.np then match run n fn.code (cY 0 xs .nil) h with
    | some (.normal,e',h')=>match resOf e' h' fn.res with
     | some v=>some (v,h')
     | none=>none
    | some (.ret,e',h')=>match resOf e' h' fn.res with
     | some v=>some (v,h')
     | none=>none
    | _=>none else none
  match c with
  | .skip=>some (.normal,e,h)
  | .seq a b=>match run n a e h with
   | some (.normal,e',h')=>run n b e' h'
   | r=>r
  | .cond c t f=>match c.ev e with
   | some (.bool b)=>bif b then run n t e h else run n f e h
   | _=>none
  | .block id b=>match run n b e h with
   | some (.exit id',e',h')=>if id'=id then some (.normal,e',h') else some (.exit id',e',h')
   | r=>r
  | .loop b=>match run n b e h with
   | some (.normal,e',h')=>run n (.loop b) e' h'
   | r=>r
  | .exit id=>some (.exit id,e,h)
  | .ret=>some (.ret,e,h)
  | .region ops=>match aG cf ops e h with
   | some (e',h')=>some (.normal,e',h')
   | none=>none
  | .dregion ops ps=>match aG cf ops e h with
   | some (e',h')=>bif ps.all (aY ops (trace cf ops e h)) then some (.normal,e',h') else none
   | none=>none
def aQ (n:Nat):aZ:=fun f xs h=>match F f with
 | none=>none
 | some fn=>if xs.length=fn.np then match run F n fn.code (cY 0 xs .nil) h with
  | some (.normal,e',h')=>match resOf e' h' fn.res with
   | some v=>some (v,h')
   | none=>none
  | some (.ret,e',h')=>match resOf e' h' fn.res with
   | some v=>some (v,h')
   | none=>none
  | _=>none else none
end
end Go.Am
namespace Go.Am
open Go
def xN:Value→Option AV
 | .bool b=>some (.bool b)
 | .int k n=>some (.int k n)
 | .string s=>some (.str s.data.toList)
 | .pointer none=>some .nilPtr
 | .slice none 0 0=>some .nilSlice
 | .map none=>some .nilMap
 | .nilFunc=>some .nilFunc
 | .nilIface=>some .nilIface
 | _=>none
def r7:List Value→Option (List AV)
 | []=>some []
 | x::xs=>match xN x with
  | none=>none
  | some v=>match r7 xs with
   | none=>none
   | some vs=>some (v::vs)
def cF (P:Program) (t:TypeId):Option (List AV):=
 match P.info? t with
 | some i=>match i.zero with
  | some v=>r7 v.cells.toList
  | none=>none
 | none=>none
def kU (P:Program) (t:TypeId):Option AV:=
 match P.info? t with
 | some i=>match i.zero with
  | some (.agg cs)=>match r7 cs.toList with
   | some vs=>some (.agg vs)
   | none=>none
  | some v=>xN v
  | none=>none
 | none=>none
def kw:Operand→Option Opd
 | .tmp t=>some (.tmp t)
 | .const v=>match xN v with
  | some x=>some (.const x)
  | none=>none
 | .func f=>some (.const (.func f []))
 | _=>none
def ez:List Operand→Option (List Opd)
 | []=>some []
 | x::xs=>match kw x with
  | none=>none
  | some v=>match ez xs with
   | none=>none
   | some vs=>some (v::vs)
def bh (P:Program) (t:TypeId):Option Nat:=match P.info? t with
 | some i=>some i.size
 | none=>none
def jR (P:Program) (t:TypeId):Option Nat:=match P.info? t with
 | some i=>some i.bytes
 | none=>none
def p6 (P:Program) (t:TypeId):Option Bool:=match P.underlying t with
 | some (.struct _)=>some true
 | some (.array _ _)=>some true
 | some _=>some false
 | none=>none
def jU (n:Nat):Bool:=Nat.ble 1 n
def eE (P:Program):Nat→TypeId→Nat→Option (List (Nat×Nat))
 | 0,_,_=>none
 | d+1,t,off=>match P.underlying t with
  | some .bool=>some [(off,0)]
  | some (.int _)=>some [(off,1)]
  | some .string=>some [(off,2)]
  | some (.struct fs)=>bif P.stoodInHeld t then none else
   fs.toList.foldr (fun f acc => if f.name = "_" ∨ ¬ (f.offset + P.cellsOf f.type ≤ P.cellsOf t ∧ 1 ≤ P.cellsOf f.type) then none else match eE P d f.type (off + f.offset), acc with
    | some a,some b=>some (a++b)
    | _,_=>none) (some [])
  | _=>none
def dk (P:Program) (fs:Array Field):List (Nat×Operand)→Option (List (Nat×Nat))
 | []=>some []
 | (i,_)::ps=>match fs[i]? with
  | none=>none
  | some f=>match bh P f.type,dk P fs ps with
   | some n,some os=>some ((f.offset,n)::os)
   | _,_=>none
def eK (c:Option Operand) (l:List Operand):List Operand:=match c with
 | some x=>x::l
 | none=>l
def bE {α:Type}:Option α→Bool
 | some _=>true
 | none=>false
def ay (k:Option AK) (xs:List Operand):Option (AK×List Opd):=
 match k,ez xs with
 | some k,some xs=>some (k,xs)
 | _,_=>none
def cu:Operand→Bool
 | .const _=>true
 | _=>false
def bK (P:Program) (t:TypeId) (neg:Bool) (op:BinOp) (x y:Operand):Option AK:=
 match P.underlying t with
 | some (.int _)=>some (.p (.bin op))
 | some .string=>some (.p (.bin op))
 | some .bool=>some (.p (.eql neg 0))
 | some (.pointer _)=>some (.p (.eql neg 1))
 | some (.slice _)=>some (.p (.eql neg 2))
 | some (.map _ _)=>some (.p (.eql neg 3))
 | some (.func _ _ _)=>some (.p (.eql neg 4))
 | some (.interface _)=>if cu x||cu y then some (.p (.eql neg 5)) else none
 | some (.struct _)=>bif P.eqGuardType P.depth t then none else match eE P 20 t 0 with
  | some idx=>some (.p (.eqAgg neg idx))
  | none=>none
 | _=>none
def au (P:Program) (b:Builtin) (ts:List TypeId):Option AK:=
 match b,ts with
 | .len,[t]=>match P.underlying t with
  | some .string=>some (.p .lenStr)
  | some (.slice _)=>some (.p .lenSl)
  | some (.array n _)=>some (.p (.lenArr n))
  | some (.map _ _)=>some (.r .lenMap)
  | _=>none
 | .append,[t,u]=>match P.underlying t with
  | some (.slice e)=>match P.underlying u with
   | some (.int _)=>none
   | some _=>match cF P e,bh P e,jR P e with
    | some z,some n,some m=>if jU n&&jU m&&Nat.beq z.length n then some (.e (.append n m)) else none
    | _,_,_=>none
   | none=>none
  | _=>none
 | .copy,[t,_]=>match P.underlying t with
  | some (.slice e)=>match bh P e with
   | some n=>if jU n then some (.e (.copy n)) else none
   | none=>none
  | _=>none
 | .clear,[t]=>match P.underlying t with
  | some (.slice e)=>match cF P e with
   | some z=>if jU z.length then some (.e (.clear z)) else none
   | none=>none
  | _=>none
 | .min,[_,_]=>some (.p .min)
 | .max,[_,_]=>some (.p .max)
 | _,_=>none
def zB (P:Program) (f:Nat):Option Nat:=match P.funcs[f]? with
 | some fn => bif fn.body.isNone && fn.origin == "" then
   (bif fn.name == "internal/bytealg.IndexByteString" then some 0 else bif fn.name == "internal/bytealg.CountString" then some 1 else none) else none
 | none=>none
def nj (P:Program) (f:Nat):Option AK:=match zB P f with
 | some k=>some (.p (.ext k))
 | none=>some (.call f)
def pn (P:Program) (name:String) (t:Nat):Option Nat:=match P.info? t with
 | some i=>match i.methods.find? (·.name==name) with
  | some m=>match m.path.toList,m.func,P.underlying t with
   | [],some (f,true),some (.pointer _)=>some f
   | _,_,_=>none
  | none=>none
 | none=>none
def ju (P:Program) (name:String):Nat→List (Nat×Nat)
 | 0=>[]
 | t+1=>match pn P name t with
  | some f=>(t,f)::ju P name t
  | none=>ju P name t
def bo (P:Program):Op→Option (AK×List Opd)
 | .move x=>ay (some (.p .mv)) [x]
 | .assign x=>ay (some (.p .mv)) [x]
 | .pick c a b=>ay (some (.p .pick)) [c,a,b]
 | .alloc t=>ay (match cF P t with
  | some z=>some (.n (.alloc z))
  | none=>none) []
 | .box _ x=>ay (some (.n .box)) [x]
 | .build t ps=>ay (match cF P t,P.underlying t with
  | some z,some (.struct fs)=>match dk P fs ps.toList with
   | some os=>if fs.toList.all (fun f=>bE (bh P f.type)) then some (.p (.build z os)) else none
   | none=>none
  | some z,some (.array _ e)=>match bh P e with
   | some n=>some (.p (.build z (ps.toList.map fun p=>(p.1 * n,n))))
   | none=>none
  | _,_=>none) (ps.toList.map (·.2))
 | .buildSlice t len ps=>ay (match P.underlying t with
  | some (.slice e)=>match cF P e,bh P e with
   | some z,some n=>if jU n&&Nat.ble (len * n) 16777216&&Nat.beq z.length n then some (.n (.buildSlice n len (d7 z len) (ps.toList.map fun p=>(p.1 * n,n)))) else none
   | _,_=>none
  | _=>none) (ps.toList.map (·.2))
 | .load t a=>ay (match p6 P t,bh P t with
  | some true,some n=>some (.r (.loadN n))
  | some false,some _=>some (.r .load1)
  | _,_=>none) [a]
 | .store t a x=>ay (match bh P t with
  | some n=>some (.e (.store n))
  | none=>none) [a,x]
 | .nilCheck x=>ay (some (.p .nilCheck)) [x]
 | .binOp op t x y _=>ay (match op with
  | .eql=>bK P t false .eql x y
  | .neq=>bK P t true .neq x y
  | op=>some (.p (.bin op))) [x,y]
 | .unOp op _ x=>ay (some (.p (.un op))) [x]
 | .convert s d x=>ay (match P.underlying s,P.underlying d with
  | some (.int _),some (.int k)=>some (.p (.conv k))
  | some .string,some .string=>some (.p .strId)
  | some .string,some (.slice e)=>match P.underlying e with
   | some (.int .u8)=>some (.n .strToBytes)
   | _=>none
  | some (.slice e),some .string=>match P.underlying e with
   | some (.int .u8)=>some (.r .bytesToStr)
   | _=>none
  | some (.slice _),some (.slice e)=>if (s==d)=true then match P.underlying e with
   | some (.int .u8)=>some (.e .byteConv)
   | _=>none else none
  | _,_=>none) [x]
 | .makeInterface t x=>ay (match P.underlying t with
  | some (.interface _)=>none
  | some _=>some (.p (.mkIface t))
  | none=>none) [x]
 | .panic x=>ay (some (.e .panic)) [x]
 | .makeFunc fn first caps=>ay (match fn,first.toList with
  | .func f,[]=>some (.p (.mkFunc f))
  | _,_=>none) caps.toList
 | .makeMap _ none=>ay (some (.n .mkMap)) []
 | .makeSlice t l c=>ay (match P.underlying t with
  | some (.slice e)=>match cF P e,bh P e,jR P e with
   | some z,some n,some m=>if jU n&&jU m&&Nat.beq z.length n then some (.n (.mkSlice n m z)) else none
   | _,_,_=>none
  | _=>none) [l,c]
 | .slice t x lo hi none=>ay (match P.underlying t with
  | some .string=>some (.p (.sliceStr (bE lo) (bE hi)))
  | some (.slice e)=>match bh P e with
   | some n=>if jU n then some (.p (.sliceSl n (bE lo) (bE hi))) else none
   | none=>none
  | _=>none) (x::eK lo (eK hi []))
 | .fieldAddr t x f=>ay (match P.underlying t with
  | some (.struct fs)=>match fs[f]? with
   | some fd=>match bh P fd.type with
    | some n=>if jU n then some (.p (.fieldAddr fd.offset)) else none
    | none=>none
   | none=>none
  | _=>none) [x]
 | .field t x f=>ay (match P.underlying t with
  | some (.struct fs)=>match fs[f]? with
   | some fd=>match p6 P fd.type,bh P fd.type with
    | some true,some n=>some (.p (.fieldN fd.offset n))
    | some false,some _=>some (.p (.field1 fd.offset))
    | _,_=>none
   | none=>none
  | _=>none) [x]
 | .indexAddr t x i=>ay (match P.underlying t with
  | some (.slice e)=>match bh P e with
   | some n=>if jU n then some (.p (.indexAddr n)) else none
   | none=>none
  | some (.array len e)=>match bh P e with
   | some n=>if jU n then some (.p (.indexArrAddr len n)) else none
   | none=>none
  | _=>none) [x,i]
 | .index t x i=>ay (match P.underlying t with
  | some .string=>some (.p .indexStr)
  | some (.array len e)=>match p6 P e,bh P e with
   | some true,some n=>some (.p (.indexArrN len n))
   | some false,some 1=>some (.p (.indexArr1 len))
   | _,_=>none
  | _=>none) [x,i]
 | .lookup t x i ok=>ay (match P.underlying t with
  | some (.map k e)=>match P.underlying k,kU P e with
   | some (.int _),some z=>some (.r (.lookup 1 ok z))
   | some .string,some z=>some (.r (.lookup 2 ok z))
   | _,_=>none
  | _=>none) [x,i]
 | .mapUpdate t m k x=>ay (match P.underlying t with
  | some (.map kt _)=>match P.underlying kt with
   | some (.int _)=>some (.e (.mapSet 1))
   | some .string=>some (.e (.mapSet 2))
   | _=>none
  | _=>none) [m,k,x]
 | .insert t m k x=>ay (match P.underlying t with
  | some (.map kt _)=>match P.underlying kt with
   | some (.int _)=>some (.e (.mapSet 1))
   | some .string=>some (.e (.mapSet 2))
   | _=>none
  | _=>none) [m,k,x]
 | .range t x=>ay (match P.underlying t with
  | some .string=>some (.n .rangeStr)
  | _=>none) [x]
 | .next it true=>ay (some (.e .nextStr)) [it]
 | .extract t i=>ay (some (.p (.extract i))) [t]
 | .call c=>match c.callee with
  | .builtin .append=>match c.args.toList,au P .append c.argTypes.toList with
   | [.const (.slice none 0 0),x],some (.e (.append n m))=>ay (some (.n (.appendNil n m))) [x]
   | xs,k=>ay k xs
  | .builtin b=>ay (au P b c.argTypes.toList) c.args.toList
  | .value (.func f)=>ay (nj P f) c.args.toList
  | .value x=>ay (some .callV) (x::c.args.toList)
  | .invoke x name=>ay (some (.callM (ju P name P.types.size))) (x::c.args.toList)
 | _=>none
def fA (ops:List Oper):Option (Nat×Bool)→Option (Option (Nat×Bool))
 | none=>some none
 | some (j,want)=>match ops[j]? with
  | some o=>match o.dst with
   | some t=>some (some (t,want))
   | none=>none
  | none=>none
def tC (nt:Nat):Option Nat→Bool
 | some d=>Nat.blt d nt
 | none=>true
def dC (P:Program) (nt:Nat) (ops:List Oper) (o:Oper):Option AOper:=
 match fA ops o.guard,bo P o.op with
 | some g,some (k,xs)=>bif tC nt o.dst then some ⟨o.dst,g,k,xs⟩ else none
 | _,_=>none
def ef (P:Program) (nt:Nat) (ops:List Oper):List Oper→Option (List AOper)
 | []=>some []
 | o::os=>match dC P nt ops o with
  | none=>none
  | some a=>match ef P nt ops os with
   | none=>none
   | some as=>some (a::as)
def cE (o:AOper):List Nat:=
 (match o.guard with
 | some (t,_)=>[t]
 | none=>[])++o.xs.filterMap fun
  | .tmp t=>some t
  | .const _=>none
def AK.isE:AK→Bool
 | .p _=>false
 | .r _=>false
 | .n _=>false
 | _=>true
def AK.isN:AK→Bool
 | .n _=>true
 | _=>false
def AK.isC:AK→Bool
 | .n (.appendNil _ _)=>true
 | _=>false
def AK.isR:AK→Bool
 | .r _=>true
 | _=>false
def vG (d:Option Nat) (l:List Nat):Bool:=match d with
 | none=>false
 | some t=>l.any (Nat.beq t)
def nS (a b:Option Nat):Bool:=match a,b with
 | some x,some y=>Nat.beq x y
 | _,_=>false
def wE (a b:AOper):Bool:=!vG a.dst (cE b)&&!vG b.dst (cE a)&&!nS a.dst b.dst
def aS (ops:List Oper):List (List Bool):=
 ops.foldl (fun acc o=>
  let n:=acc.length
  acc++[(List.range n).map fun i=>o.after.any fun e=>Region.binds .any e&&(Nat.beq e.on i||((acc.getD e.on []).getD i false))]) []
def bef (B:List (List Bool)) (i j:Nat):Bool:=(B.getD j []).getD i false
def pa (B:List (List Bool)) (as:List AOper) (i j:Nat):Bool:=
 match as[i]?,as[j]? with
 | some a,some b=>bef B i j||(wE a b&&!bef B j i&&!(a.k.isE&&b.k.isE)&&!(a.k.isE&&b.k.isN)&&!(a.k.isN&&a.k.isC&&b.k.isE))
 | _,_=>false
def eZ (n:Nat) (f:Nat→Nat→Bool):Bool:=(List.range n).all fun j=>(List.range j).all fun i=>f i j
def bq (B:List (List Bool)) (as:List AOper):List (Nat×Nat):=
 (List.range as.length).flatMap fun j=>(List.range j).filterMap fun i=>
  match as[i]?,as[j]? with
  | some a,some b=>bif bef B i j then none else bif a.k.isR&&b.k.isE then some (i,j) else bif a.k.isE&&b.k.isR then some (j,i) else bif a.k.isN&&b.k.isE then some (i,j) else none
  | _,_=>none
def h8 (o:List Nat) (as:List AOper):List AOper:=o.filterMap fun i=>as[i]?
def mI (o:List Nat) (B:List (List Bool)):List (List Bool):=o.map fun j=>o.map fun i=>bef B i j
def o7 (o:List Nat) (n:Nat):Bool:=Nat.beq o.length n&&((List.range n).all (fun q=>(List.range n).any fun i=>Nat.beq (o.getD i 0) q)&&((List.range n).all (fun i=>Nat.blt (o.getD i 0) n)&&eZ n fun i j=>!Nat.beq (o.getD i 0) (o.getD j 0)))
def Aj (B:List (List Bool)) (as:List AOper):Nat→List Nat→List Nat
 | 0,_=>[]
 | f+1,rem=>
  let ready:=rem.filter fun j=>rem.all fun i=>Nat.beq i j||!bef B i j
  match ready.find? (fun j=>match as[j]? with
    | some a=>!a.k.isE&&!a.k.isR
    | none=>false),ready with
  | some j,_=>j::Aj B as f (rem.filter fun i=>!Nat.beq i j)
  | none,j::_=>j::Aj B as f (rem.filter fun i=>!Nat.beq i j)
  | none,[]=>[]
def pV (B:List (List Bool)) (as:List AOper):Nat→List Nat→List Nat
 | 0,_=>[]
 | f+1,rem=>
  let ready:=rem.filter fun j=>rem.all fun i=>Nat.beq i j||!bef B i j
  match ready.find? (fun j=>match as[j]? with
    | some a=>!a.k.isE&&!a.k.isR
    | none=>false),ready.find? (fun j=>match as[j]? with
    | some a=>!a.k.isE
    | none=>false),ready with
  | some j,_,_=>j::pV B as f (rem.filter fun i=>!Nat.beq i j)
  | none,some j,_=>j::pV B as f (rem.filter fun i=>!Nat.beq i j)
  | none,none,j::_=>j::pV B as f (rem.filter fun i=>!Nat.beq i j)
  | none,none,[]=>[]
def rg (ops:List Oper):Bool:=(List.range ops.length).all fun i=>match ops[i]? with
 | some o=>o.after.all fun e=>!Region.binds .any e||Nat.blt e.on i
 | none=>true
def kj (ops:List Oper) (as:List AOper) (o:List Nat):Option ACode:=
 if o7 o as.length&&(rg ops&&eZ as.length (pa (mI o (aS ops)) (h8 o as))) then some (.dregion (h8 o as) (bq (mI o (aS ops)) (h8 o as))) else none
def sd (P:Program) (nt:Nat) (ops:List Oper):Option ACode:=
 match ef P nt ops ops with
 | none=>none
 | some as=>match kj ops as (List.range as.length) with
  | some c=>some c
  | none=>match kj ops as (Aj (aS ops) as as.length (List.range as.length)) with
   | some c=>some c
   | none=>kj ops as (pV (aS ops) as as.length (List.range as.length))
def mS:ACode:=.region [⟨none,none,.e .panic,[]⟩]
def ot:Option ACode→Option ACode
 | some c=>some c
 | none=>some mS
def bc (P:Program) (nt:Nat):Code→Option ACode
 | .skip=>some .skip
 | .region _ ops false=>ot (match ef P nt ops.toList ops.toList with
  | some as=>some (.region as)
  | none=>none)
 | .region _ ops true=>ot (sd P nt ops.toList)
 | .seq a b=>match bc P nt a,bc P nt b with
  | some x,some y=>some (.seq x y)
  | _,_=>none
 | .cond c t f=>match kw c,bc P nt t,bc P nt f with
  | some c,some x,some y=>some (.cond c x y)
  | _,_,_=>none
 | .block id b=>match bc P nt b with
  | some x=>some (.block id x)
  | none=>none
 | .loop b=>match bc P nt b with
  | some x=>some (.loop x)
  | none=>none
 | .exit id=>some (.exit id)
 | .ret=>some .ret
 | _=>some mS
def i0 (P:Program):List ResultVar→Option (List ARes)
 | []=>some []
 | r::rs=>match i0 P rs with
  | none=>none
  | some as=>match r with
   | .tmp t=>some (.tmp t::as)
   | .cell a t=>match p6 P t,bh P t with
    | some true,some n=>some (.cellN a n::as)
    | some false,some _=>some (.cell1 a::as)
    | _,_=>none
def pO (P:Program) (fn:Func):Option AFn:=
 match fn.body with
 | none=>none
 | some c=>match bc P fn.ntmps c,i0 P fn.results.toList with
  | some x,some rs=>some ⟨fn.params.size+fn.nfree,x,rs⟩
  | _,_=>none
end Go.Am
namespace Go.Am
open Go
theorem T.get_nil {α:Type} (n:Nat):(T.nil:T α).get n=none:=by cases n<;>rfl
theorem T.get_zero {α:Type} (t:T α):t.get 0=t.val:=by cases t<;>rfl
theorem T.get_succ {α:Type} (t:T α) (k:Nat):t.get (k+1)=bif Nat.beq (k % 2) 0 then t.left.get (k / 2) else t.right.get (k / 2):=by
 cases t with
 | nil=>simp [T.left,T.right,T.get_nil]
 | node v l r=>rfl
theorem T.setF_zero {α:Type} (x:α) (f:Nat) (t:T α):T.setF x (f+1) t 0=.node (some x) t.left t.right:=rfl
theorem T.setF_succ {α:Type} (x:α) (f:Nat) (t:T α) (k:Nat):T.setF x (f+1) t (k+1)=bif Nat.beq (k % 2) 0 then .node t.val (T.setF x f t.left (k / 2)) t.right else .node t.val t.left (T.setF x f t.right (k / 2)):=rfl
theorem T.setF_get {α:Type} (x:α):∀ (f:Nat) (t:T α) (n m:Nat),n < f→(T.setF x f t n).get m=if m=n then some x else t.get m:=by
 intro f
 induction f with
 | zero=>intro t n m h; omega
 | succ f ih=>
  intro t n m h
  cases n with
  | zero=>
   rw [T.setF_zero]
   cases m with
   | zero=>simp [T.get_zero,T.val]
   | succ m=>simp [T.get_succ,T.left,T.right]
  | succ k=>
   rw [T.setF_succ]
   cases hk:Nat.beq (k % 2) 0 with
   | true=>
    have hk':k % 2=0:=Nat.eq_of_beq_eq_true hk
    rw [cond_true]
    cases m with
    | zero=>simp [T.get_zero,T.val]
    | succ m=>
     rw [T.get_succ,T.get_succ]
     cases hm:Nat.beq (m % 2) 0 with
     | true=>
      have hm':m % 2=0:=Nat.eq_of_beq_eq_true hm
      rw [cond_true,cond_true]
      simp only [T.left]
      rw [ih _ _ _ (by omega)]
      by_cases e:m=k
      ·subst e; simp
      rw [if_neg (by omega),if_neg (by omega)]
     | false=>
      have hm':¬ m % 2=0:=fun h=>by simp [h] at hm
      rw [cond_false,cond_false,if_neg (by omega)]; rfl
   | false=>
    have hk':¬ k % 2=0:=fun h=>by simp [h] at hk
    rw [cond_false]
    cases m with
    | zero=>simp [T.get_zero,T.val]
    | succ m=>
     rw [T.get_succ,T.get_succ]
     cases hm:Nat.beq (m % 2) 0 with
     | true=>
      have hm':m % 2=0:=Nat.eq_of_beq_eq_true hm
      rw [cond_true,cond_true,if_neg (by omega)]; rfl
     | false=>
      have hm':¬ m % 2=0:=fun h=>by simp [h] at hm
      rw [cond_false,cond_false]
      simp only [T.right]
      rw [ih _ _ _ (by omega)]
      by_cases e:m=k
      ·subst e; simp
      rw [if_neg (by omega),if_neg (by omega)]
theorem T.get_set {α:Type} (t:T α) (n m:Nat) (x:α):(t.set n x).get m=if m=n then some x else t.get m:=T.setF_get x _ t n m (Nat.lt_succ_self _)
theorem vo {a b:Nat} (h:a < b):Nat.blt a b=true:=Nat.ble_eq_true_of_le h
theorem ub {a b:Nat} (h:¬ a < b):Nat.blt a b=false:=by
 cases e:Nat.blt a b with
 | false=>rfl
 | true=>exact absurd (Nat.le_of_ble_eq_true e) h
theorem Heap.get_lt (h:Heap) {o:Nat} (hn:o < h.n):h.get o=h.t.get o:=by unfold Heap.get; rw [vo hn,cond_true]
theorem Heap.get_ge (h:Heap) {o:Nat} (hn:¬ o < h.n):h.get o=none:=by unfold Heap.get; rw [ub hn,cond_false]
theorem Heap.get_set (h:Heap) {n:Nat} (hn:n < h.n) (m:Nat) (x:AObj):(h.set n x).get m=if m=n then some x else h.get m:=by
 by_cases hm:m < h.n
 ·rw [Heap.get_lt _ (by exact hm),Heap.get_lt _ hm]; exact T.get_set _ _ _ _
 rw [Heap.get_ge _ (by exact hm),Heap.get_ge _ hm,if_neg (by omega)]
theorem Heap.get_push (h:Heap) (m:Nat) (x:AObj):(h.push x).get m=if m=h.n then some x else h.get m:=by
 have hp:(h.push x).n=h.n+1:=rfl
 by_cases hm:m < h.n
 ·rw [Heap.get_lt _ (by omega),Heap.get_lt _ hm]; exact T.get_set _ _ _ _
 by_cases e:m=h.n
 ·rw [Heap.get_lt _ (by omega),if_pos e]
  have:=T.get_set h.t h.n m x
  rw [if_pos e] at this; exact this
 rw [Heap.get_ge _ (by omega),Heap.get_ge _ hm,if_neg e]
theorem Heap.n_push (h:Heap) (x:AObj):(h.push x).n=h.n+1:=rfl
theorem Heap.n_set (h:Heap) (o:Nat) (x:AObj):(h.set o x).n=h.n:=rfl
mutual
theorem AV.eq_of_beq:∀ (a b:AV),AV.beq a b=true→a=b
 | .bool a,b,h=>by cases b<;>simp [AV.beq] at h; simp [h]
 | .int k a,b,h=>by cases b<;>simp [AV.beq] at h; simp [h]
 | .str a,b,h=>by cases b<;>simp [AV.beq] at h; simp [h]
 | .nilPtr,b,h=>by cases b<;>simp [AV.beq] at h; rfl
 | .ptr _ _ _,b,h=>by cases b<;>simp [AV.beq] at h; simp [h]
 | .nilSlice,b,h=>by cases b<;>simp [AV.beq] at h; rfl
 | .slice _ _ _ _ _,b,h=>by cases b<;>simp [AV.beq] at h; simp [h]
 | .nilMap,b,h=>by cases b<;>simp [AV.beq] at h; rfl
 | .map _,b,h=>by cases b<;>simp [AV.beq] at h; simp [h]
 | .nilFunc,b,h=>by cases b<;>simp [AV.beq] at h; rfl
 | .func _ cs,b,h=>by cases b<;>simp [AV.beq] at h; simp [h.1,AV.eq_of_beqs cs _ h.2]
 | .nilIface,b,h=>by cases b<;>simp [AV.beq] at h; rfl
 | .iface _ v,b,h=>by cases b<;>simp [AV.beq] at h; simp [h.1,AV.eq_of_beq v _ h.2]
 | .agg cs,b,h=>by cases b<;>simp [AV.beq] at h; simp [AV.eq_of_beqs cs _ h]
 | .tuple cs,b,h=>by cases b<;>simp [AV.beq] at h; simp [AV.eq_of_beqs cs _ h]
 | .iter _,b,h=>by cases b<;>simp [AV.beq] at h; simp [h]
theorem AV.eq_of_beqs:∀ (a b:List AV),AV.beqs a b=true→a=b
 | [],b,h=>by cases b<;>simp [AV.beqs] at h; rfl
 | x::xs,b,h=>by cases b<;>simp [AV.beqs] at h; simp [AV.eq_of_beq x _ h.1,AV.eq_of_beqs xs _ h.2]
end
mutual
theorem AV.beq_refl:∀ (a:AV),AV.beq a a=true
 | .bool a | .int k a | .str a | .nilPtr | .ptr _ _ _ | .nilSlice | .slice _ _ _ _ _ | .nilMap | .map _ | .nilFunc | .nilIface | .iter _=>by simp [AV.beq]
 | .func _ cs=>by simp [AV.beq,AV.beqs_refl cs]
 | .iface _ v=>by simp [AV.beq,AV.beq_refl v]
 | .agg cs=>by simp [AV.beq,AV.beqs_refl cs]
 | .tuple cs=>by simp [AV.beq,AV.beqs_refl cs]
theorem AV.beqs_refl:∀ (a:List AV),AV.beqs a a=true
 | []=>by simp [AV.beqs]
 | x::xs=>by simp [AV.beqs,AV.beq_refl x,AV.beqs_refl xs]
end
structure Info where
 ver:Nat
 blk:Nat
 base:Nat
 lim:Nat
abbrev KM:=Nat→Option Info
mutual
def VR (K:KM):AV→Value→Prop
 | .bool b,x=>x=.bool b
 | .int k n,x=>x=.int k n
 | .str s,x=>x=.string ⟨s.toArray⟩
 | .nilPtr,x=>x=.pointer none
 | .ptr o v f,x=>∃ a i,x=.pointer (some a)∧K o=some i∧v≤i.ver∧(v=i.ver→a=⟨i.blk,i.base+f,none⟩)
 | .nilSlice,x=>x=.slice none 0 0
 | .slice o v f n z,x=>∃ a c i,x=.slice (some a) n c∧K o=some i∧n≤c∧v≤i.ver∧(v=i.ver→i.base+f+c * z≤i.lim∧(0 < c→a=⟨i.blk,i.base+f,none⟩))
 | .nilMap,x=>x=.map none
 | .map o,x=>∃ r i,x=.map (some r)∧K o=some i∧(i.ver=0→r=i.blk)
 | .nilFunc,x=>x=.nilFunc
 | .func f cs,x=>∃ ys,x=.func (.func f) #[] ys∧VRs K cs ys.toList
 | .nilIface,x=>x=.nilIface
 | .iface t v,x=>∃ y,x=.iface t y∧VR K v y
 | .agg cs,x=>∃ ys,x=.agg ys∧VRs K cs ys.toList∧cs.all AV.flat=true
 | .tuple vs,x=>∃ ys,x=.tuple ys∧VRs K vs ys.toList
 | .iter o,x=>∃ r i,x=.pointer (some ⟨r,0,none⟩)∧K o=some i∧(i.ver=0→r=i.blk)
def VRs (K:KM):List AV→List Value→Prop
 | [],l=>l=[]
 | a::as,l=>∃ b bs,l=b::bs∧VR K a b∧VRs K as bs
end
def KLe (K K':KM):Prop:=∀ o i,K o=some i→∃ i',K' o=some i'∧i.ver≤i'.ver∧(i.ver=i'.ver→i'=i)
theorem KLe.refl (K:KM):KLe K K:=fun _ i h=>⟨i,h,Nat.le_refl _,fun _=>rfl⟩
theorem KLe.trans {A B C:KM} (h:KLe A B) (k:KLe B C):KLe A C:=by
 intro o i hi
 obtain ⟨i',h1,h2,h3⟩:=h o i hi
 obtain ⟨i'',k1,k2,k3⟩:=k o i' h1
 refine ⟨i'',k1,by omega,fun e=>?_⟩
 rw [k3 (by omega),h3 (by omega)]
mutual
theorem VR.mono {K K':KM} (hk:KLe K K'):∀ (a:AV) (x:Value),VR K a x→VR K' a x
 | .bool _,_,h | .int _ _,_,h | .str _,_,h | .nilPtr,_,h | .nilSlice,_,h | .nilMap,_,h | .nilFunc,_,h | .nilIface,_,h=>by simpa only [VR] using h
 | .ptr o v f,x,h=>by
  simp only [VR] at h ⊢
  obtain ⟨a,i,h1,h2,h3,h4⟩:=h
  obtain ⟨i',k1,k2,k3⟩:=hk o i h2
  exact ⟨a,i',h1,k1,by omega,fun e=>by rw [k3 (by omega)]; exact h4 (by omega)⟩
 | .slice o v f n z,x,h=>by
  simp only [VR] at h ⊢
  obtain ⟨a,c,i,h1,h2,h3,h4,h5⟩:=h
  obtain ⟨i',k1,k2,k3⟩:=hk o i h2
  exact ⟨a,c,i',h1,k1,h3,by omega,fun e=>by rw [k3 (by omega)]; exact h5 (by omega)⟩
 | .map o,x,h=>by
  simp only [VR] at h ⊢
  obtain ⟨r,i,h1,h2,h3⟩:=h
  obtain ⟨i',k1,k2,k3⟩:=hk o i h2
  exact ⟨r,i',h1,k1,fun e=>by rw [k3 (by omega)]; exact h3 (by omega)⟩
 | .iter o,x,h=>by
  simp only [VR] at h ⊢
  obtain ⟨r,i,h1,h2,h3⟩:=h
  obtain ⟨i',k1,k2,k3⟩:=hk o i h2
  exact ⟨r,i',h1,k1,fun e=>by rw [k3 (by omega)]; exact h3 (by omega)⟩
 | .func f cs,x,h=>by
  simp only [VR] at h ⊢
  obtain ⟨ys,h1,h2⟩:=h
  exact ⟨ys,h1,VRs.mono hk cs _ h2⟩
 | .iface t v,x,h=>by
  simp only [VR] at h ⊢
  obtain ⟨ys,h1,h2⟩:=h
  exact ⟨ys,h1,VR.mono hk v _ h2⟩
 | .agg cs,x,h=>by
  simp only [VR] at h ⊢
  obtain ⟨ys,h1,h2,h3⟩:=h
  exact ⟨ys,h1,VRs.mono hk cs _ h2,h3⟩
 | .tuple cs,x,h=>by
  simp only [VR] at h ⊢
  obtain ⟨ys,h1,h2⟩:=h
  exact ⟨ys,h1,VRs.mono hk cs _ h2⟩
theorem VRs.mono {K K':KM} (hk:KLe K K'):∀ (a:List AV) (x:List Value),VRs K a x→VRs K' a x
 | [],_,h=>by simpa only [VRs] using h
 | a::as,_,h=>by
  simp only [VRs] at h ⊢
  obtain ⟨b,bs,h1,h2,h3⟩:=h
  exact ⟨b,bs,h1,VR.mono hk a _ h2,VRs.mono hk as _ h3⟩
end
theorem VRs.nil {K:KM}:VRs K [] []:=by simp [VRs]
theorem VRs.cons {K:KM} {a:AV} {as:List AV} {b:Value} {bs:List Value} (h:VR K a b) (hs:VRs K as bs):VRs K (a::as) (b::bs):=by
 simp only [VRs]; exact ⟨b,bs,rfl,h,hs⟩
theorem VRs.length {K:KM}:∀ {as:List AV} {bs:List Value},VRs K as bs→as.length=bs.length
 | [],_,h=>by simp only [VRs] at h; subst h; rfl
 | _::as,_,h=>by
  simp only [VRs] at h
  obtain ⟨b,bs,rfl,_,h⟩:=h
  simp [VRs.length h]
theorem VRs.get {K:KM}:∀ {as:List AV} {bs:List Value},VRs K as bs→∀ (i:Nat) (a:AV),as[i]? = some a→∃ b,bs[i]? = some b∧VR K a b
 | [],_,_,i,a,hi=>by simp at hi
 | x::as,_,h,i,a,hi=>by
  simp only [VRs] at h
  obtain ⟨b,bs,rfl,hb,h⟩:=h
  cases i with
  | zero=>simp at hi; subst hi; exact ⟨b,rfl,hb⟩
  | succ i=>simpa using VRs.get h i a (by simpa using hi)
theorem VRs.of_get {K:KM}:∀ {as:List AV} {bs:List Value},as.length=bs.length→(∀ (i:Nat) (a:AV),as[i]? = some a→∃ b,bs[i]? = some b∧VR K a b)→VRs K as bs
 | [],bs,hl,_=>by simp at hl; simp only [VRs]; exact List.eq_nil_of_length_eq_zero hl.symm
 | a::as,[],hl,_=>by simp at hl
 | a::as,b::bs,hl,h=>by
  refine VRs.cons ?_ (VRs.of_get (by simpa using hl) fun i x hx=>by simpa using h (i+1) x (by simpa using hx))
  obtain ⟨b',hb,hv⟩:=h 0 a rfl
  simp at hb; subst hb; exact hv
theorem VRs.append {K:KM}:∀ {as:List AV} {bs:List Value} {cs:List AV} {ds:List Value},VRs K as bs→VRs K cs ds→VRs K (as++cs) (bs++ds)
 | [],_,_,_,h,k=>by simp only [VRs] at h; subst h; exact k
 | _::_,_,_,_,h,k=>by
  simp only [VRs] at h
  obtain ⟨b,bs,rfl,hb,h⟩:=h
  exact VRs.cons hb (VRs.append h k)
theorem VRs.drop {K:KM}:∀ (n:Nat) {as:List AV} {bs:List Value},VRs K as bs→VRs K (as.drop n) (bs.drop n)
 | 0,_,_,h=>h
 | n+1,[],_,h=>by simp only [VRs] at h; subst h; exact VRs.nil
 | n+1,_::_,_,h=>by
  simp only [VRs] at h
  obtain ⟨b,bs,rfl,hb,h⟩:=h
  exact VRs.drop n h
theorem VRs.take {K:KM}:∀ (n:Nat) {as:List AV} {bs:List Value},VRs K as bs→VRs K (as.take n) (bs.take n)
 | 0,_,_,_=>VRs.nil
 | n+1,[],_,h=>by simp only [VRs] at h; subst h; exact VRs.nil
 | n+1,_::_,_,h=>by
  simp only [VRs] at h
  obtain ⟨b,bs,rfl,hb,h⟩:=h
  exact VRs.cons hb (VRs.take n h)
theorem VR.cells {K:KM} {a:AV} {x:Value} (h:VR K a x) (hf:a.isTup=false):VRs K a.cells x.cells.toList∧a.cells.all AV.flat=true:=by
 cases a with
 | agg cs=>
  simp only [VR] at h
  obtain ⟨ys,rfl,h2,h3⟩:=h
  exact ⟨h2,h3⟩
 | tuple vs=>cases hf
 | bool b=>simp only [VR] at h; subst h; exact ⟨VRs.cons (by simp [VR]) VRs.nil,rfl⟩
 | int k n=>simp only [VR] at h; subst h; exact ⟨VRs.cons (by simp [VR]) VRs.nil,rfl⟩
 | str s=>simp only [VR] at h; subst h; exact ⟨VRs.cons (by simp [VR]) VRs.nil,rfl⟩
 | nilPtr=>simp only [VR] at h; subst h; exact ⟨VRs.cons (by simp [VR]) VRs.nil,rfl⟩
 | nilSlice=>simp only [VR] at h; subst h; exact ⟨VRs.cons (by simp [VR]) VRs.nil,rfl⟩
 | nilMap=>simp only [VR] at h; subst h; exact ⟨VRs.cons (by simp [VR]) VRs.nil,rfl⟩
 | nilFunc=>simp only [VR] at h; subst h; exact ⟨VRs.cons (by simp [VR]) VRs.nil,rfl⟩
 | nilIface=>simp only [VR] at h; subst h; exact ⟨VRs.cons (by simp [VR]) VRs.nil,rfl⟩
 | ptr o v f=>
  have h':=h
  simp only [VR] at h
  obtain ⟨a,i,rfl,_⟩:=h
  exact ⟨VRs.cons h' VRs.nil,rfl⟩
 | slice o v f n z=>
  have h':=h
  simp only [VR] at h
  obtain ⟨a,c,i,rfl,_⟩:=h
  exact ⟨VRs.cons h' VRs.nil,rfl⟩
 | map o=>
  have h':=h
  simp only [VR] at h
  obtain ⟨a,i,rfl,_⟩:=h
  exact ⟨VRs.cons h' VRs.nil,rfl⟩
 | iter o=>
  have h':=h
  simp only [VR] at h
  obtain ⟨a,i,rfl,_⟩:=h
  exact ⟨VRs.cons h' VRs.nil,rfl⟩
 | func f cs=>
  have h':=h
  simp only [VR] at h
  obtain ⟨ys,rfl,_⟩:=h
  exact ⟨VRs.cons h' VRs.nil,rfl⟩
 | iface t v=>
  have h':=h
  simp only [VR] at h
  obtain ⟨ys,rfl,_⟩:=h
  exact ⟨VRs.cons h' VRs.nil,rfl⟩
theorem VR.oneCell {K:KM} {a:AV} {x:Value} (h:VR K a x) (hf:a.flat=true):x.oneCell'=true:=by
 cases a<;>simp only [AV.flat,Bool.false_eq_true] at hf<;>simp only [VR] at h
 case func=>obtain ⟨ys,rfl,_⟩:=h; rfl
 case iface=>obtain ⟨ys,rfl,_⟩:=h; rfl
 case ptr=>obtain ⟨a,i,rfl,_⟩:=h; rfl
 case slice=>obtain ⟨a,c,i,rfl,_⟩:=h; rfl
 case map=>obtain ⟨a,i,rfl,_⟩:=h; rfl
 case iter=>obtain ⟨a,i,rfl,_⟩:=h; rfl
 all_goals subst h; rfl
theorem VR.undef {K:KM}:VR K .undef Go.undef:=by simp only [AV.undef,VR,Go.undef]; exact ⟨#[],rfl,VRs.nil⟩
def VRm (K:KM):List (AV×AV)→List MapEntry→Prop
 | [],l=>l=[]
 | (k,v)::es,l=>∃ e ents,l=e::ents∧VR K k e.key∧VR K v e.val∧VRm K es ents
def jI (B:Nat) (K:KM) (w:World) (i:Info):AObj→Prop
 | .row cs ver wr=>i.ver=ver∧∃ c el fz,w.heap[i.blk]? = some (.cells c el fz)∧c.size=i.lim∧i.base+cs.length≤i.lim∧
   (∀ (j:Nat) (x:AV),cs[j]? = some x→x.flat=true∧∃ y,c[i.base+j]? = some y∧VR K x y)∧
   (wr=true→B≤i.blk∧(fz.1=fz.2∨i.lim≤fz.1))
 | .map es=>i.ver=0∧B≤i.blk∧∃ ents clock,w.heap[i.blk]? = some (.map ents clock)∧VRm K es ents.toList
 | .iter s pos=>i.ver=0∧B≤i.blk∧w.heap[i.blk]? = some (.stringIter ⟨s.toArray⟩ pos)
def AObj.own:AObj→Bool
 | .row _ _ wr=>wr
 | _=>true
structure Sim (B:Nat) (K:KM) (H:Heap) (w:World):Prop where
 obj:∀ o i,K o=some i→∃ ob,H.get o=some ob∧jI B K w i ob
 dom:∀ o i,K o=some i→o < H.n
 excl:∀ o o' i i' ob,K o=some i→K o'=some i'→H.get o=some ob→ob.own=true→i.blk=i'.blk→o=o'
 big:B≤w.heap.size
theorem VRm.mono {K K':KM} (hk:KLe K K'):∀ (es:List (AV×AV)) (l:List MapEntry),VRm K es l→VRm K' es l
 | [],_,h=>h
 | (k,v)::es,_,h=>by
  obtain ⟨e,ents,h1,h2,h3,h4⟩:=h
  exact ⟨e,ents,h1,VR.mono hk _ _ h2,VR.mono hk _ _ h3,VRm.mono hk es _ h4⟩
theorem jI.blk_lt {B:Nat} {K:KM} {w:World} {i:Info} {ob:AObj} (h:jI B K w i ob):i.blk < w.heap.size:=by
 have key:∀ o,w.heap[i.blk]? = some o→i.blk < w.heap.size:=fun o ho=>by
  rcases Nat.lt_or_ge i.blk w.heap.size with h | h
  ·exact h
  rw [Array.getElem?_eq_none h] at ho; cases ho
 cases ob with
 | row cs ver wr=>obtain ⟨_,c,el,fz,h,_⟩:=h; exact key _ h
 | map es=>obtain ⟨_,_,ents,clock,h,_⟩:=h; exact key _ h
 | iter s pos=>obtain ⟨_,_,h⟩:=h; exact key _ h
theorem jI.step {B:Nat} {K K':KM} {w w':World} {i:Info} {ob:AObj} (h:jI B K w i ob) (hk:KLe K K') (hb:w'.heap[i.blk]? = w.heap[i.blk]?):jI B K' w' i ob:=by
 cases ob with
 | row cs ver wr=>
  obtain ⟨h1,c,el,fz,h3,h4,h5,h6,h7⟩:=h
  exact ⟨h1,c,el,fz,by rw [hb]; exact h3,h4,h5,fun j x hx=>⟨(h6 j x hx).1,let ⟨y,a,b⟩:=(h6 j x hx).2; ⟨y,a,VR.mono hk _ _ b⟩⟩,h7⟩
 | map es=>
  obtain ⟨h1,h2,ents,clock,h3,h4⟩:=h
  exact ⟨h1,h2,ents,clock,by rw [hb]; exact h3,VRm.mono hk _ _ h4⟩
 | iter s pos=>
  obtain ⟨h1,h2,h3⟩:=h
  exact ⟨h1,h2,by rw [hb]; exact h3⟩
theorem Sim.more {B:Nat} {K:KM} {H H':Heap} {w:World} (h:Sim B K H w) (hg:∀ o i,K o=some i→H'.get o=H.get o) (hn:H.n≤H'.n):Sim B K H' w:=
 ⟨fun o i hi=>by rw [hg o i hi]; exact h.obj o i hi,fun o i hi=>Nat.lt_of_lt_of_le (h.dom o i hi) hn,
  fun o o' i i' ob h1 h2 h3 h4 h5=>h.excl o o' i i' ob h1 h2 (by rw [← hg o i h1]; exact h3) h4 h5,h.big⟩
theorem Sim.push {B:Nat} {K:KM} {H:Heap} {w:World} (h:Sim B K H w) (ob:AObj):Sim B K (H.push ob) w:=
 h.more (fun o i hi=>by rw [Heap.get_push,if_neg (by have:=h.dom o i hi; omega)]) (by simp [Heap.n_push])
theorem Sim.drew {B:Nat} {K:KM} {H:Heap} {w w':World} (h:Sim B K H w) (hh:w'.heap=w.heap):Sim B K H w':=
 ⟨fun o i hi=>let ⟨ob,a,b⟩:=h.obj o i hi; ⟨ob,a,b.step (KLe.refl _) (by rw [hh])⟩,h.dom,h.excl,by rw [hh]; exact h.big⟩
def KM.put (K:KM) (o:Nat) (i:Info):KM:=fun x=>if x=o then some i else K x
theorem KLe.put {K:KM} {o:Nat} {i:Info} (h:K o=none):KLe K (K.put o i):=by
 intro x j hx
 refine ⟨j,?_,Nat.le_refl _,fun _=>rfl⟩
 unfold KM.put
 rw [if_neg (fun e=>by rw [e,h] at hx; cases hx)]; exact hx
theorem Sim.add {B:Nat} {K:KM} {H:Heap} {w w':World} {o:Nat} {ob:AObj} {i:Info} (h:Sim B K H w) (ho:K o=none) (hob:H.get o=some ob) (hn:o < H.n)
  (hblk:i.blk=w.heap.size) (hold:∀ k,k < w.heap.size→w'.heap[k]? = w.heap[k]?) (hbig:w.heap.size≤w'.heap.size) (hok:jI B (K.put o i) w' i ob):Sim B (K.put o i) H w':=by
 have hne:∀ o' i',K o'=some i'→o'≠o:=fun o' i' h1 e=>by rw [e,ho] at h1; cases h1
 have hlt:∀ o' i',K o'=some i'→i'.blk < w.heap.size:=fun o' i' h1=>let ⟨_,_,k⟩:=h.obj o' i' h1; k.blk_lt
 refine ⟨fun x j hx=>?_,fun x j hx=>?_,fun x x' j j' ob' h1 h2 h3 h4 h5=>?_,Nat.le_trans h.big hbig⟩
 ·unfold KM.put at hx
  by_cases e:x=o
  ·rw [if_pos e] at hx; cases hx; subst e; exact ⟨ob,hob,hok⟩
  rw [if_neg e] at hx
  obtain ⟨ob',a,b⟩:=h.obj x j hx
  exact ⟨ob',a,b.step (KLe.put ho) (hold _ (hlt x j hx))⟩
 ·unfold KM.put at hx
  by_cases e:x=o
  ·rw [e]; exact hn
  rw [if_neg e] at hx; exact h.dom x j hx
 unfold KM.put at h1 h2
 by_cases e:x=o
 ·by_cases e':x'=o
  ·rw [e,e']
  rw [if_pos e] at h1; rw [if_neg e'] at h2; cases h1
  have:=hlt x' j' h2; omega
 rw [if_neg e] at h1
 by_cases e':x'=o
 ·rw [if_pos e'] at h2; cases h2
  have:=hlt x j h1; omega
 rw [if_neg e'] at h2
 exact h.excl x x' j j' ob' h1 h2 h3 h4 h5
theorem Sim.turn {B:Nat} {K K':KM} {H:Heap} {w w':World} {o:Nat} {ob ob':AObj} {i i':Info} (h:Sim B K H w) (ho:K o=some i) (hob:H.get o=some ob) (hown:ob.own=true)
  (hK:K'=K.put o i') (hle:KLe K K') (hblk:i'.blk=i.blk∨i'.blk=w.heap.size)
  (hold:∀ k,k < w.heap.size→k≠i.blk→w'.heap[k]? = w.heap[k]?) (hbig:w.heap.size≤w'.heap.size) (hok:jI B K' w' i' ob'):Sim B K' (H.set o ob') w':=by
 have hlt:∀ o' i',K o'=some i'→i'.blk < w.heap.size:=fun o' i' h1=>let ⟨_,_,k⟩:=h.obj o' i' h1; k.blk_lt
 have hne:∀ x j,K x=some j→x≠o→j.blk≠i.blk:=fun x j hx e hb=>e (h.excl o x i j ob ho hx hob hown hb.symm).symm
 subst hK
 refine ⟨fun x j hx=>?_,fun x j hx=>?_,fun x x' j j' ob'' h1 h2 h3 h4 h5=>?_,Nat.le_trans h.big hbig⟩
 ·unfold KM.put at hx
  rw [Heap.get_set _ (h.dom o i ho)]
  by_cases e:x=o
  ·rw [if_pos e] at hx; cases hx; rw [if_pos e]; exact ⟨ob',rfl,hok⟩
  rw [if_neg e] at hx; rw [if_neg e]
  obtain ⟨ob'',a,b⟩:=h.obj x j hx
  exact ⟨ob'',a,b.step hle (hold _ (hlt x j hx) (hne x j hx e))⟩
 ·rw [Heap.n_set]
  unfold KM.put at hx
  by_cases e:x=o
  ·rw [e]; exact h.dom o i ho
  rw [if_neg e] at hx; exact h.dom x j hx
 unfold KM.put at h1 h2
 rw [Heap.get_set _ (h.dom o i ho)] at h3
 by_cases e:x=o
 ·by_cases e':x'=o
  ·rw [e,e']
  rw [if_pos e] at h1; rw [if_neg e'] at h2; cases h1
  have a:=hlt x' j' h2; have b:=hne x' j' h2 e'
  rcases hblk with hb | hb<;>omega
 rw [if_neg e] at h1; rw [if_neg e] at h3
 by_cases e':x'=o
 ·rw [if_pos e'] at h2; cases h2
  have a:=hlt x j h1; have b:=hne x j h1 e
  rcases hblk with hb | hb<;>omega
 rw [if_neg e'] at h2
 exact h.excl x x' j j' ob'' h1 h2 h3 h4 h5
def ER (K:KM) (e:Env) (tmps:Array Value):Prop:=∀ t v,e.get t=some v→∃ x,tmps[t]? = some x∧VR K v x
theorem ER.mono {K K':KM} (hk:KLe K K') {e:Env} {tmps:Array Value} (h:ER K e tmps):ER K' e tmps:=fun t v ht=>let ⟨x,a,b⟩:=h t v ht; ⟨x,a,VR.mono hk _ _ b⟩
end Go.Am
namespace Go.Am
open Go
theorem nk {K:KM} {v:Value} {x:AV} (h:xN v=some x):VR K x v:=by
 unfold xN at h
 split at h<;>cases h<;>simp [VR]
theorem tN {v:Value} {x:AV} (h:xN v=some x):x.flat=true:=by
 unfold xN at h
 split at h<;>cases h<;>rfl
theorem lG {K:KM}:∀ {l:List Value} {xs:List AV},r7 l=some xs→VRs K xs l∧xs.all AV.flat=true
 | [],xs,h=>by cases h; exact ⟨VRs.nil,rfl⟩
 | v::l,xs,h=>by
  unfold r7 at h
  split at h
  ·cases h
  rename_i x hx
  split at h
  ·cases h
  rename_i vs hvs
  cases h
  have:=lG (K:=K) hvs
  exact ⟨VRs.cons (nk hx) this.1,by simp [tN hx,this.2]⟩
section
variable {P:Program} {K:KM} {w:World}
theorem vX {a:Act} {e:Env} (he:ER K e a.tmps) {o:Operand} {x:Opd} {v:AV} (h:kw o=some x) (hv:x.ev e=some v):VR K v (a.eval o):=by
 cases o with
 | tmp t=>
  cases h
  obtain ⟨y,h1,h2⟩:=he t v hv
  simp only [Act.eval,Array.getD_eq_getD_getElem?,h1,Option.getD_some]; exact h2
 | const c=>
  simp only [kw] at h
  split at h
  ·rename_i y hy
   cases h; cases hv; exact nk hy
  cases h
 | func f=>
  cases h; cases hv
  simp only [VR,Act.eval]
  exact ⟨#[],rfl,VRs.nil⟩
 | global g=>cases h
theorem aD {a:Act} {e:Env} (he:ER K e a.tmps):∀ {l:List Operand} {xs:List Opd} {vs:List AV},ez l=some xs→evs e xs=some vs→VRs K vs (l.map a.eval)
 | [],xs,vs,h,hv=>by cases h; cases hv; exact VRs.nil
 | o::l,xs,vs,h,hv=>by
  unfold ez at h
  split at h
  ·cases h
  rename_i x hx
  split at h
  ·cases h
  rename_i ys hys
  cases h
  unfold evs at hv
  split at hv
  ·cases hv
  rename_i v hv1
  split at hv
  ·cases hv
  rename_i us hus
  cases hv
  exact VRs.cons (vX he hx hv1) (aD he hys hus)
theorem VRs.one {a:AV} {l:List Value} (h:VRs K [a] l):∃ x,l=[x]∧VR K a x:=by
 simp only [VRs] at h
 obtain ⟨b,bs,rfl,h1,rfl⟩:=h
 exact ⟨b,rfl,h1⟩
theorem VRs.two {a b:AV} {l:List Value} (h:VRs K [a,b] l):∃ x y,l=[x,y]∧VR K a x∧VR K b y:=by
 simp only [VRs] at h
 obtain ⟨x,_,rfl,h1,y,_,rfl,h2,rfl⟩:=h
 exact ⟨x,y,rfl,h1,h2⟩
theorem VRs.three {a b c:AV} {l:List Value} (h:VRs K [a,b,c] l):∃ x y z,l=[x,y,z]∧VR K a x∧VR K b y∧VR K c z:=by
 simp only [VRs] at h
 obtain ⟨x,_,rfl,h1,y,_,rfl,h2,z,_,rfl,h3,rfl⟩:=h
 exact ⟨x,y,z,rfl,h1,h2,h3⟩
theorem VRs.uncons {a:AV} {as:List AV} {l:List Value} (h:VRs K (a::as) l):∃ x xs,l=x::xs∧VR K a x∧VRs K as xs:=by
 simp only [VRs] at h; exact h
def aM (P:Program) (s:Sem Value) (w:World) (K:KM) (v:AV):Prop:=∃ v',s.run P w=.ok v' w∧VR K v v'
theorem km {t n:Nat} (h:bh P t=some n):∃ i,P.info? t=some i∧i.size=n:=by
 unfold bh at h; split at h
 ·rename_i i hi; cases h; exact ⟨i,hi,rfl⟩
 cases h
theorem iX {t n:Nat} (h:jR P t=some n):∃ i,P.info? t=some i∧i.bytes=n:=by
 unfold jR at h; split at h
 ·rename_i i hi; cases h; exact ⟨i,hi,rfl⟩
 cases h
theorem aI {t n:Nat} (h:bh P t=some n) (w:World):(sizeOf t).run P w=.ok n w:=by
 obtain ⟨i,h1,h2⟩:=km h
 simp [sizeOf,typeInfo,h1,h2]
theorem cN {t:Nat} {b:Bool} (h:p6 P t=some b) (w:World):(isAgg t).run P w=.ok b w:=by
 unfold p6 at h
 unfold isAgg
 split at h
 ·rename_i fs hd; cases h; simp [run_underlying hd]
 ·rename_i n e hd; cases h; simp [run_underlying hd]
 ·rename_i d hn1 hn2 hd
  cases h
  simp only [Sem.run_bind,run_underlying hd,Result.andThen_ok]
  rfl
 cases h
theorem cn {t:Nat} {z:List AV} (h:cF P t=some z) (w:World):∃ v,(zeroValue t).run P w=.ok v w∧VRs K z v.cells.toList∧z.all AV.flat=true:=by
 unfold cF at h
 split at h
 ·rename_i i hi
  split at h
  ·rename_i v hv
   exact ⟨v,by simp [zeroValue,typeInfo,hi,hv],lG h⟩
  cases h
 cases h
theorem oO {t:Nat} {z:AV} (h:kU P t=some z) (w:World):aM P (zeroValue t) w K z:=by
 unfold kU at h
 split at h
 ·rename_i i hi
  split at h
  ·rename_i cs hv
   split at h
   ·rename_i vs hvs
    cases h
    have:=lG (K:=K) hvs
    exact ⟨.agg cs,by simp [zeroValue,typeInfo,hi,hv],by simp only [VR]; exact ⟨cs,rfl,this.1,this.2⟩⟩
   cases h
  ·rename_i v _ hv
   exact ⟨v,by simp [zeroValue,typeInfo,hi,hv],nk h⟩
  cases h
 cases h
theorem tu {op:BinOp} {k:IntKind} {a b:Int} {v:AV} (h:gX op k a b=some v) (hs:op≠.shl) (hs':op≠.shr) (t:TypeId):aM P (binOp op t (.int k a) (.int k b)) w K v:=by
 have hk:¬ (k≠k):=by simp
 cases op<;>simp only [gX] at h
 case shl=>exact absurd rfl hs
 case shr=>exact absurd rfl hs'
 case quo=>
  split at h
  ·cases h
  rename_i hb; cases h
  exact ⟨_,by unfold binOp; simp only [if_neg hk,Op.intDiv,if_neg hb]; rfl,by simp only [VR]⟩
 case rem=>
  split at h
  ·cases h
  rename_i hb; cases h
  exact ⟨_,by unfold binOp; simp only [if_neg hk,Op.intDiv,if_neg hb]; rfl,by simp only [VR]⟩
 case eql=>
  cases h
  refine ⟨.bool (a==b),by unfold binOp; simp only [if_neg hk]; rfl,?_⟩
  simp only [VR]
  congr 1
 case neq=>
  cases h
  refine ⟨.bool (a != b),by unfold binOp; simp only [if_neg hk]; rfl,?_⟩
  simp only [VR]
  congr 1
 all_goals (cases h; refine ⟨_,by unfold binOp; simp only [if_neg hk]; rfl,?_⟩; simp only [VR])
theorem iG {op:BinOp} {k k':IntKind} {a b:Int} {v:AV} (h:dz op k a b=some v) (hs:op=.shl∨op=.shr) (t:TypeId):aM P (binOp op t (.int k a) (.int k' b)) w K v:=by
 rcases hs with rfl | rfl
 ·simp only [dz] at h
  split at h
  ·cases h
  rename_i hb; cases h
  exact ⟨_,by simp only [binOp,Op.shift,if_neg hb]; rfl,by simp only [VR]⟩
 simp only [dz] at h
 split at h
 ·cases h
 rename_i hb; cases h
 exact ⟨_,by simp only [binOp,Op.shift,if_neg hb]; rfl,by simp only [VR]⟩
theorem tQ {op:BinOp} {a b:List UInt8} {v:AV} (h:pY op a b=some v) (t:TypeId):aM P (binOp op t (.string ⟨a.toArray⟩) (.string ⟨b.toArray⟩)) w K v:=by
 have ha:(⟨a.toArray⟩:ByteArray).toList=a:=by rw [ByteArray.toList_eq]
 have hb:(⟨b.toArray⟩:ByteArray).toList=b:=by rw [ByteArray.toList_eq]
 cases op<;>simp only [pY] at h
 case add=>
  split at h
  ·rename_i hl
   cases h
   have h1:¬ (((ByteArray.size ⟨a.toArray⟩+ByteArray.size ⟨b.toArray⟩:Nat):Int) > IntKind.i64.max):=by
    simp only [ByteArray.size,List.size_toArray]
    have:IntKind.i64.max=9223372036854775807:=by decide
    omega
   refine ⟨_,by simp only [binOp,Op.stringOp,if_neg h1]; rfl,?_⟩
   simp only [VR,Value.string.injEq]
   apply WideShapes.bytes_inj
   simp
  cases h
 all_goals first
  | cases h; done
  | (cases h; refine ⟨_,by simp only [binOp,Op.stringOp,ha,hb]; rfl,?_⟩; simp only [VR])
theorem vb {op:BinOp} {x y:AV} {v:AV} {x' y':Value} (h:e8 op x y=some v) (hx:VR K x x') (hy:VR K y y') (t:TypeId):aM P (binOp op t x' y') w K v:=by
 unfold e8 at h
 split at h
 ·simp only [VR] at hx hy
  subst hx; subst hy
  split at h
  ·exact iG h (.inl rfl) t
  ·exact iG h (.inr rfl) t
  rename_i h1 h2
  split at h
  ·rename_i hk; subst hk; exact tu h h1 h2 t
  cases h
 ·simp only [VR] at hx hy
  subst hx; subst hy
  exact tQ h t
 cases h
theorem aF {t:TypeId} {d:TypeDesc} {x y:Value} {w:World} {r:Result Bool} (hd:P.underlying t=some d)
  (hr:(match d,x,y with
   | .bool,.bool a,.bool b=>(pure (a==b):Sem Bool).run P w
   | .pointer _,.pointer none,.pointer b=>(pure b.isNone:Sem Bool).run P w
   | .pointer _,.pointer (some _),.pointer none=>(pure false:Sem Bool).run P w
   | .interface _,.nilIface,.nilIface=>(pure true:Sem Bool).run P w
   | .interface _,.nilIface,.iface _ _ | .interface _,.iface _ _,.nilIface=>(pure false:Sem Bool).run P w
   | .slice _,.slice none _ _,.slice b _ _=>(pure b.isNone:Sem Bool).run P w
   | .slice _,.slice (some _) _ _,.slice none _ _=>(pure false:Sem Bool).run P w
   | .map _ _,.map none,.map b=>(pure b.isNone:Sem Bool).run P w
   | .map _ _,.map (some _),.map none=>(pure false:Sem Bool).run P w
   | .func _ _ _,.nilFunc,.nilFunc=>(pure true:Sem Bool).run P w
   | .func _ _ _,.nilFunc,.func _ _ _ | .func _ _ _,.func _ _ _,.nilFunc=>(pure false:Sem Bool).run P w
   | _, _, _ => .halt (.stuck "") w) = r) (hok : ∃ b, r = .ok b w) : (Op.equal t x y).run P w = r := by
 have e:Op.equal t x y=Op.equalIn (9999+1) t x y:=rfl
 rw [e]
 unfold Op.equalIn
 rw [Sem.run_bind,run_underlying hd]
 obtain ⟨b,rfl⟩:=hok
 split at hr<;>first | exact hr | cases hr
def pP:TypeDesc→Option Nat
 | .bool=>some 0
 | .pointer _=>some 1
 | .slice _=>some 2
 | .map _ _=>some 3
 | .func _ _ _=>some 4
 | .interface _=>some 5
 | _=>none
theorem uN {q:Nat} {x y:AV} {b:Bool} {x' y':Value} (h:kE q x y=some b) (hx:VR K x x') (hy:VR K y y') {t:TypeId} {d:TypeDesc} (hd:P.underlying t=some d)
  (hs:pP d=some q):(Op.equal t x' y').run P w=.ok b w:=by
 unfold kE at h
 split at h<;>first | (cases h; done) | skip
 all_goals cases h
 all_goals simp only [VR] at hx hy
 all_goals cases d<;>simp [pP] at hs
 ·subst hx; subst hy; exact aF hd rfl ⟨_,rfl⟩
 ·subst hx; subst hy; exact aF hd rfl ⟨_,rfl⟩
 ·obtain ⟨a,i,rfl,_⟩:=hy; subst hx; exact aF hd rfl ⟨_,rfl⟩
 ·obtain ⟨a,i,rfl,_⟩:=hx; subst hy; exact aF hd rfl ⟨_,rfl⟩
 ·subst hx; subst hy; exact aF hd rfl ⟨_,rfl⟩
 ·obtain ⟨a,c,i,rfl,_⟩:=hy; subst hx; exact aF hd rfl ⟨_,rfl⟩
 ·obtain ⟨a,c,i,rfl,_⟩:=hx; subst hy; exact aF hd rfl ⟨_,rfl⟩
 ·subst hx; subst hy; exact aF hd rfl ⟨_,rfl⟩
 ·obtain ⟨a,i,rfl,_⟩:=hy; subst hx; exact aF hd rfl ⟨_,rfl⟩
 ·obtain ⟨a,i,rfl,_⟩:=hx; subst hy; exact aF hd rfl ⟨_,rfl⟩
 ·subst hx; subst hy; exact aF hd rfl ⟨_,rfl⟩
 ·obtain ⟨a,rfl,_⟩:=hy; subst hx; exact aF hd rfl ⟨_,rfl⟩
 ·obtain ⟨a,rfl,_⟩:=hx; subst hy; exact aF hd rfl ⟨_,rfl⟩
 ·subst hx; subst hy; exact aF hd rfl ⟨_,rfl⟩
 ·obtain ⟨a,rfl,_⟩:=hy; subst hx; exact aF hd rfl ⟨_,rfl⟩
 obtain ⟨a,rfl,_⟩:=hx; subst hy; exact aF hd rfl ⟨_,rfl⟩
end
end Go.Am
