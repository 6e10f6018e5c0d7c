/- The model's code turned into the abstract machine's, with all types resolved. Definitions alone. Own work. -/
import Derived.Test.YtgbkpiaonlabgaaAmA
namespace Go.Am
set_option linter.unusedVariables false
set_option linter.unusedSimpArgs false
open Go

def avOf : Value → Option AV
  | .bool b => some (.bool b)
  | .int k n => some (.int k n)
  | .string s => some (.str s.data.toList)
  | .pointer none => some .nilPtr
  | .slice none 0 0 => some .nilSlice
  | .map none => some .nilMap
  | .nilFunc => some .nilFunc
  | .nilIface => some .nilIface
  | _ => none
def avsOf : List Value → Option (List AV)
  | [] => some []
  | x :: xs => match avOf x with
    | none => none
    | some v => match avsOf xs with
      | none => none
      | some vs => some (v :: vs)
/-- A zero value's cells. -/
def zeroOf (P : Program) (t : TypeId) : Option (List AV) :=
  match P.info? t with
  | some i => match i.zero with
    | some v => avsOf v.cells.toList
    | none => none
  | none => none
def zero1Of (P : Program) (t : TypeId) : Option AV :=
  match P.info? t with
  | some i => match i.zero with
    | some (.agg cs) => match avsOf cs.toList with
      | some vs => some (.agg vs)
      | none => none
    | some v => avOf v
    | none => none
  | none => none
def compOpd : Operand → Option Opd
  | .tmp t => some (.tmp t)
  | .const v => match avOf v with
    | some x => some (.const x)
    | none => none
  | .func f => some (.const (.func f []))
  | _ => none
def compOpds : List Operand → Option (List Opd)
  | [] => some []
  | x :: xs => match compOpd x with
    | none => none
    | some v => match compOpds xs with
      | none => none
      | some vs => some (v :: vs)
def size? (P : Program) (t : TypeId) : Option Nat := match P.info? t with
  | some i => some i.size
  | none => none
def bytes? (P : Program) (t : TypeId) : Option Nat := match P.info? t with
  | some i => some i.bytes
  | none => none
def agg? (P : Program) (t : TypeId) : Option Bool := match P.underlying t with
  | some (.struct _) => some true
  | some (.array _ _) => some true
  | some _ => some false
  | none => none
def posB (n : Nat) : Bool := Nat.ble 1 n
/-- Of a struct's fields the cells' places, if all are numbers, bools, texts, or such structs, and none is blank. -/
def eqPlan (P : Program) : Nat → TypeId → Nat → Option (List (Nat × Nat))
  | 0, _, _ => none
  | d + 1, t, off => match P.underlying t with
    | some .bool => some [(off, 0)]
    | some (.int _) => some [(off, 1)]
    | some .string => some [(off, 2)]
    | some (.struct fs) => bif P.stoodInHeld t then none else
      fs.toList.foldr (fun f acc => if f.name = "_" ∨ ¬ (f.offset + P.cellsOf f.type ≤ P.cellsOf t ∧ 1 ≤ P.cellsOf f.type) then none else match eqPlan P d f.type (off + f.offset), acc with
        | some a, some b => some (a ++ b)
        | _, _ => none) (some [])
    | _ => none
def fieldOffs (P : Program) (fs : Array Field) : List (Nat × Operand) → Option (List (Nat × Nat))
  | [] => some []
  | (i, _) :: ps => match fs[i]? with
    | none => none
    | some f => match size? P f.type, fieldOffs P fs ps with
      | some n, some os => some ((f.offset, n) :: os)
      | _, _ => none
def consIf (c : Option Operand) (l : List Operand) : List Operand := match c with
  | some x => x :: l
  | none => l
def isSome' {α : Type} : Option α → Bool
  | some _ => true
  | none => false
def withOpds (k : Option AK) (xs : List Operand) : Option (AK × List Opd) :=
  match k, compOpds xs with
  | some k, some xs => some (k, xs)
  | _, _ => none
def isConstO : Operand → Bool
  | .const _ => true
  | _ => false
def plainEq (P : Program) (t : TypeId) (neg : Bool) (op : BinOp) (x y : Operand) : Option AK :=
  match P.underlying t with
  | some (.int _) => some (.p (.bin op))
  | some .string => some (.p (.bin op))
  | some .bool => some (.p (.eql neg 0))
  | some (.pointer _) => some (.p (.eql neg 1))
  | some (.slice _) => some (.p (.eql neg 2))
  | some (.map _ _) => some (.p (.eql neg 3))
  | some (.func _ _ _) => some (.p (.eql neg 4))
  | some (.interface _) => if isConstO x || isConstO y then some (.p (.eql neg 5)) else none
  | some (.struct _) => bif P.eqGuardType P.depth t then none else match eqPlan P 20 t 0 with
    | some idx => some (.p (.eqAgg neg idx))
    | none => none
  | _ => none
def compBuiltin (P : Program) (b : Builtin) (ts : List TypeId) : Option AK :=
  match b, ts with
  | .len, [t] => match P.underlying t with
    | some .string => some (.p .lenStr)
    | some (.slice _) => some (.p .lenSl)
    | some (.array n _) => some (.p (.lenArr n))
    | some (.map _ _) => some (.r .lenMap)
    | _ => none
  | .append, [t, u] => match P.underlying t with
    | some (.slice e) => match P.underlying u with
      | some (.int _) => none
      | some _ => match zeroOf P e, size? P e, bytes? P e with
        | some z, some n, some m => if posB n && posB m && Nat.beq z.length n then some (.e (.append n m)) else none
        | _, _, _ => none
      | none => none
    | _ => none
  | .copy, [t, _] => match P.underlying t with
    | some (.slice e) => match size? P e with
      | some n => if posB n then some (.e (.copy n)) else none
      | none => none
    | _ => none
  | .min, [_, _] => some (.p .min)
  | .max, [_, _] => some (.p .max)
  | _, _ => none
def compOp (P : Program) : Op → Option (AK × List Opd)
  | .move x => withOpds (some (.p .mv)) [x]
  | .assign x => withOpds (some (.p .mv)) [x]
  | .pick c a b => withOpds (some (.p .pick)) [c, a, b]
  | .alloc t => withOpds (match zeroOf P t with
    | some z => some (.n (.alloc z))
    | none => none) []
  | .box _ x => withOpds (some (.n .box)) [x]
  | .build t ps => withOpds (match zeroOf P t, P.underlying t with
    | some z, some (.struct fs) => match fieldOffs P fs ps.toList with
      | some os => if fs.toList.all (fun f => isSome' (size? P f.type)) then some (.p (.build z os)) else none
      | none => none
    | some z, some (.array _ e) => match size? P e with
      | some n => some (.p (.build z (ps.toList.map fun p => (p.1 * n, n))))
      | none => none
    | _, _ => none) (ps.toList.map (·.2))
  | .buildSlice t len ps => withOpds (match P.underlying t with
    | some (.slice e) => match zeroOf P e, size? P e with
      | some z, some n => if posB n && Nat.ble (len * n) 16777216 && Nat.beq z.length n then some (.n (.buildSlice n len (reps z len) (ps.toList.map fun p => (p.1 * n, n)))) else none
      | _, _ => none
    | _ => none) (ps.toList.map (·.2))
  | .load t a => withOpds (match agg? P t, size? P t with
    | some true, some n => some (.r (.loadN n))
    | some false, some _ => some (.r .load1)
    | _, _ => none) [a]
  | .store t a x => withOpds (match size? P t with
    | some n => some (.e (.store n))
    | none => none) [a, x]
  | .nilCheck x => withOpds (some (.p .nilCheck)) [x]
  | .binOp op t x y _ => withOpds (match op with
    | .eql => plainEq P t false .eql x y
    | .neq => plainEq P t true .neq x y
    | op => some (.p (.bin op))) [x, y]
  | .unOp op _ x => withOpds (some (.p (.un op))) [x]
  | .convert s d x => withOpds (match P.underlying s, P.underlying d with
    | some (.int _), some (.int k) => some (.p (.conv k))
    | some .string, some .string => some (.p .strId)
    | some .string, some (.slice e) => match P.underlying e with
      | some (.int .u8) => some (.n .strToBytes)
      | _ => none
    | some (.slice e), some .string => match P.underlying e with
      | some (.int .u8) => some (.r .bytesToStr)
      | _ => none
    | _, _ => none) [x]
  | .makeInterface t x => withOpds (match P.underlying t with
    | some (.interface _) => none
    | some _ => some (.p (.mkIface t))
    | none => none) [x]
  | .makeFunc fn first caps => withOpds (match fn, first.toList with
    | .func f, [] => some (.p (.mkFunc f))
    | _, _ => none) caps.toList
  | .makeMap _ none => withOpds (some (.n .mkMap)) []
  | .makeSlice t l c => withOpds (match P.underlying t with
    | some (.slice e) => match zeroOf P e, size? P e, bytes? P e with
      | some z, some n, some m => if posB n && posB m && Nat.beq z.length n then some (.n (.mkSlice n m z)) else none
      | _, _, _ => none
    | _ => none) [l, c]
  | .slice t x lo hi none => withOpds (match P.underlying t with
    | some .string => some (.p (.sliceStr (isSome' lo) (isSome' hi)))
    | some (.slice e) => match size? P e with
      | some n => if posB n then some (.p (.sliceSl n (isSome' lo) (isSome' hi))) else none
      | none => none
    | _ => none) (x :: consIf lo (consIf hi []))
  | .fieldAddr t x f => withOpds (match P.underlying t with
    | some (.struct fs) => match fs[f]? with
      | some fd => match size? P fd.type with
        | some n => if posB n then some (.p (.fieldAddr fd.offset)) else none
        | none => none
      | none => none
    | _ => none) [x]
  | .field t x f => withOpds (match P.underlying t with
    | some (.struct fs) => match fs[f]? with
      | some fd => match agg? P fd.type, size? P fd.type with
        | some true, some n => some (.p (.fieldN fd.offset n))
        | some false, some _ => some (.p (.field1 fd.offset))
        | _, _ => none
      | none => none
    | _ => none) [x]
  | .indexAddr t x i => withOpds (match P.underlying t with
    | some (.slice e) => match size? P e with
      | some n => if posB n then some (.p (.indexAddr n)) else none
      | none => none
    | some (.array len e) => match size? P e with
      | some n => if posB n then some (.p (.indexArrAddr len n)) else none
      | none => none
    | _ => none) [x, i]
  | .index t x i => withOpds (match P.underlying t with
    | some .string => some (.p .indexStr)
    | some (.array len e) => match agg? P e, size? P e with
      | some true, some n => some (.p (.indexArrN len n))
      | some false, some 1 => some (.p (.indexArr1 len))
      | _, _ => none
    | _ => none) [x, i]
  | .lookup t x i ok => withOpds (match P.underlying t with
    | some (.map k e) => match P.underlying k, zero1Of P e with
      | some (.int _), some z => some (.r (.lookup 1 ok z))
      | some .string, some z => some (.r (.lookup 2 ok z))
      | _, _ => none
    | _ => none) [x, i]
  | .mapUpdate t m k x => withOpds (match P.underlying t with
    | some (.map kt _) => match P.underlying kt with
      | some (.int _) => some (.e (.mapSet 1))
      | some .string => some (.e (.mapSet 2))
      | _ => none
    | _ => none) [m, k, x]
  | .insert t m k x => withOpds (match P.underlying t with
    | some (.map kt _) => match P.underlying kt with
      | some (.int _) => some (.e (.mapSet 1))
      | some .string => some (.e (.mapSet 2))
      | _ => none
    | _ => none) [m, k, x]
  | .range t x => withOpds (match P.underlying t with
    | some .string => some (.n .rangeStr)
    | _ => none) [x]
  | .next it true => withOpds (some (.e .nextStr)) [it]
  | .extract t i => withOpds (some (.p (.extract i))) [t]
  | .call c => match c.callee with
    | .builtin .append => match c.args.toList, compBuiltin P .append c.argTypes.toList with
      | [.const (.slice none 0 0), x], some (.e (.append n m)) => withOpds (some (.n (.appendNil n m))) [x]
      | xs, k => withOpds k xs
    | .builtin b => withOpds (compBuiltin P b c.argTypes.toList) c.args.toList
    | .value (.func f) => withOpds (some (.call f)) c.args.toList
    | .value x => withOpds (some .callV) (x :: c.args.toList)
    | _ => none
  | _ => none
/-- The temporary that an operation's guard asks. -/
def compGuard (ops : List Oper) : Option (Nat × Bool) → Option (Option (Nat × Bool))
  | none => some none
  | some (j, want) => match ops[j]? with
    | some o => match o.dst with
      | some t => some (some (t, want))
      | none => none
    | none => none
def dstOk (nt : Nat) : Option Nat → Bool
  | some d => Nat.blt d nt
  | none => true
def compOper (P : Program) (nt : Nat) (ops : List Oper) (o : Oper) : Option AOper :=
  match compGuard ops o.guard, compOp P o.op with
  | some g, some (k, xs) => bif dstOk nt o.dst then some ⟨o.dst, g, k, xs⟩ else none
  | _, _ => none
def compOps (P : Program) (nt : Nat) (ops : List Oper) : List Oper → Option (List AOper)
  | [] => some []
  | o :: os => match compOper P nt ops o with
    | none => none
    | some a => match compOps P nt ops os with
      | none => none
      | some as => some (a :: as)

/-! ### regions that draw their order -/
/-- The slots that an operation looks at. -/
def readsOf (o : AOper) : List Nat :=
  (match o.guard with
  | some (t, _) => [t]
  | none => []) ++ o.xs.filterMap fun
    | .tmp t => some t
    | .const _ => none
def AK.isE : AK → Bool
  | .p _ => false
  | .r _ => false
  | .n _ => false
  | _ => true
def AK.isN : AK → Bool
  | .n _ => true
  | _ => false
def AK.isR : AK → Bool
  | .r _ => true
  | _ => false
def dstIn (d : Option Nat) (l : List Nat) : Bool := match d with
  | none => false
  | some t => l.any (Nat.beq t)
def sameDst (a b : Option Nat) : Bool := match a, b with
  | some x, some y => Nat.beq x y
  | _, _ => false
/-- May two operations stand in either order, as far as slots go? -/
def apartS (a b : AOper) : Bool := !dstIn a.dst (readsOf b) && !dstIn b.dst (readsOf a) && !sameDst a.dst b.dst
/-- The operations that must come ahead of each one (by edges that always hold). -/
def befores (ops : List Oper) : List (List Bool) :=
  ops.foldl (fun acc o =>
    let n := acc.length
    acc ++ [(List.range n).map fun i => o.after.any fun e => Region.binds .any e && (Nat.beq e.on i || ((acc.getD e.on []).getD i false))]) []
def bef (B : List (List Bool)) (i j : Nat) : Bool := (B.getD j []).getD i false
/-- Every two operations: one comes ahead, or they are apart; two that act: one comes ahead. Pairs of one that reads and one that acts, of which neither comes ahead. -/
def okPair (B : List (List Bool)) (as : List AOper) (i j : Nat) : Bool :=
  match as[i]?, as[j]? with
  | some a, some b => bef B i j || (apartS a b && !(a.k.isE && b.k.isE) && !(a.k.isE && b.k.isN) && !(a.k.isN && b.k.isE))
  | _, _ => false
def allPairs (n : Nat) (f : Nat → Nat → Bool) : Bool := (List.range n).all fun j => (List.range j).all fun i => f i j
def openPairs (B : List (List Bool)) (as : List AOper) : List (Nat × Nat) :=
  (List.range as.length).flatMap fun j => (List.range j).filterMap fun i =>
    match as[i]?, as[j]? with
    | some a, some b => bif bef B i j then none else bif a.k.isR && b.k.isE then some (i, j) else bif a.k.isE && b.k.isR then some (j, i) else none
    | _, _ => none
def edgesOk (ops : List Oper) : Bool := (List.range ops.length).all fun i => match ops[i]? with
  | some o => o.after.all fun e => !Region.binds .any e || Nat.blt e.on i
  | none => true
def compD (P : Program) (nt : Nat) (ops : List Oper) : Option ACode :=
  match compOps P nt ops ops with
  | none => none
  | some as => if edgesOk ops && allPairs as.length (okPair (befores ops) as) then some (.dregion as (openPairs (befores ops) as)) else none
def compCode (P : Program) (nt : Nat) : Code → Option ACode
  | .skip => some .skip
  | .region _ ops false => match compOps P nt ops.toList ops.toList with
    | some as => some (.region as)
    | none => none
  | .region _ ops true => compD P nt ops.toList
  | .seq a b => match compCode P nt a, compCode P nt b with
    | some x, some y => some (.seq x y)
    | _, _ => none
  | .cond c t f => match compOpd c, compCode P nt t, compCode P nt f with
    | some c, some x, some y => some (.cond c x y)
    | _, _, _ => none
  | .block id b => match compCode P nt b with
    | some x => some (.block id x)
    | none => none
  | .loop b => match compCode P nt b with
    | some x => some (.loop x)
    | none => none
  | .exit id => some (.exit id)
  | .ret => some .ret
  | _ => none
def compRes (P : Program) : List ResultVar → Option (List ARes)
  | [] => some []
  | r :: rs => match compRes P rs with
    | none => none
    | some as => match r with
      | .tmp t => some (.tmp t :: as)
      | .cell a t => match agg? P t, size? P t with
        | some true, some n => some (.cellN a n :: as)
        | some false, some _ => some (.cell1 a :: as)
        | _, _ => none
def compFn (P : Program) (fn : Func) : Option AFn :=
  match fn.body with
  | none => none
  | some c => match compCode P fn.ntmps c, compRes P fn.results.toList with
    | some x, some rs => some ⟨fn.params.size + fn.nfree, x, rs⟩
    | _, _ => none
end Go.Am
