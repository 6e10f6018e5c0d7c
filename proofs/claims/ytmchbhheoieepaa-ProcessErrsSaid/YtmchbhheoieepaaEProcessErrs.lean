/- Structs of the program as Lean structures, and what cells stand for them. No condition. Own work. -/
import Derived.Test.YtmchbhheoieepaaVm5ProcessErrs
import Derived.KernelRfl
import Derived.Test.YtmchbhheoieepaaPm2ProcessErrs
set_option linter.unusedVariables false
namespace Go.Proofs.Ytmchbhheoieepaa
open Go Go.Am
structure TArc where
 Place:Int
 N:Int
structure TTrans where
 Name:List UInt8
 Delay:Int
 Prio:Int
 In:List TArc
 Not:List TArc
 Out:List TArc
structure TPlace where
 Name:List UInt8
 Tokens:Int
structure TNet where
 Places:List TPlace
 Trans:List TTrans
structure TPart where
 N:Int
 Places:List Int
 Trans:List Int
structure TLane where
 From:Int
 To:Int
 Ahead:Int
structure TKey where
 Time:Int
 Prio:Int
 ID:Int
 N:Int
structure THeap where
 l:List TKey
structure TFire where
 Time:Int
 Trans:Int
structure TEvent where
 Time:Int
 Place:Int
 N:Int
structure TEngine where
 n:TNet
 mine:List Bool
 near:List (List Int)
 ready:List Bool
 marks:List Int
 wait:THeap
 in_:Option (List (Int×Int))
 log:List TFire
 way:List Int
 time:Int
 out:List TEvent
 away:List Bool
 count:Int
structure TProcess where
 id:Int
 x:Option TEngine
 p:TPart
 in_:List TLane
 out:List TLane
 clocks:List Int
 sent:List Int
 horizon:Int
 began:Bool
 done:Bool
structure TResult where
 Log:List TFire
 Marks:List Int
 Way:List Int
 Time:Int
structure TMail where
 From:Int
 To:Int
 E:TEvent
structure TAct where
 D:Int
 P:Int
 I:Int
 J:Int
 N:Int
 O:Int
 Q:Int
structure TDraft where
 Tokens:List Int
 Acts:List TAct
structure TArr2_Int where
 e0:Int
 e1:Int
structure TBox where
 lanes:List TLane
 l:List (List TEvent)
 sent:Int
structure TKernel where
 n:TNet
 l:List (Option TProcess)
 lanes:List TLane
 box:Option TBox
 e:Int
 picks:Int
 moves:Int
structure TPick where
 Deliver:Bool
 A:Int
 B:Int
def tS:Nat→Type
 | 0=>TArc
 | 1=>TTrans
 | 2=>TPlace
 | 3=>TNet
 | 4=>TPart
 | 5=>TLane
 | 6=>TKey
 | 7=>THeap
 | 8=>TFire
 | 9=>TEvent
 | 10=>TEngine
 | 11=>TProcess
 | 12=>TResult
 | 13=>TMail
 | 14=>TAct
 | 15=>TDraft
 | 16=>TArr2_Int
 | 17=>TBox
 | 18=>TKernel
 | 19=>TPick
 | _=>Unit
def tFl:Nat→List VT
 | 0=>[(.int .i64),(.int .i64)]
 | 1=>[.str,(.int .i64),(.int .i64),(.sl false (.st 0)),(.sl false (.st 0)),(.sl false (.st 0))]
 | 2=>[.str,(.int .i64)]
 | 3=>[(.sl true (.st 2)),(.sl true (.st 1))]
 | 4=>[(.int .i64),(.sl true (.int .i64)),(.sl true (.int .i64))]
 | 5=>[(.int .i64),(.int .i64),(.int .i64)]
 | 6=>[(.int .i64),(.int .i64),(.int .i64),(.int .i64)]
 | 7=>[(.sl true (.st 6))]
 | 8=>[(.int .i64),(.int .i64)]
 | 9=>[(.int .i64),(.int .i64),(.int .i64)]
 | 10=>[(.sl false (.st 2)),(.sl false (.st 1)),(.sl false .bool),(.sl true (.sl false (.int .i64))),(.sl true .bool),(.sl true (.int .i64)),(.sl true (.st 6)),(.mp (.int .i64) (.int .i64)),(.sl true (.st 8)),(.sl true (.int .i64)),(.int .i64),(.sl true (.st 9)),(.sl false .bool),(.int .i64)]
 | 11=>[(.int .i64),(.ic 101 (.st 10)),(.int .i64),(.sl false (.int .i64)),(.sl false (.int .i64)),(.sl true (.st 5)),(.sl true (.st 5)),(.sl true (.int .i64)),(.sl true (.int .i64)),(.int .i64),.bool,.bool]
 | 12=>[(.sl false (.st 8)),(.sl false (.int .i64)),(.sl false (.int .i64)),(.int .i64)]
 | 13=>[(.int .i64),(.int .i64),(.int .i64),(.int .i64),(.int .i64)]
 | 14=>[(.int .u8),(.int .u8),(.int .u8),(.int .u8),(.int .u8),(.int .u8),(.int .u8)]
 | 15=>[(.sl true (.int .u8)),(.sl true (.st 14))]
 | 16=>[(.int .i64),(.int .i64)]
 | 17=>[(.sl true (.st 5)),(.sl true (.sl true (.st 9))),(.int .i64)]
 | 18=>[(.sl false (.st 2)),(.sl false (.st 1)),(.sl true (.pt (.st 11))),(.sl true (.st 5)),(.pt (.st 17)),(.int .i64),(.int .i64),(.int .i64)]
 | 19=>[.bool,(.int .i64),(.int .i64)]
 | _=>[]
def tTo:∀ k,tS k→HL tS (tFl k)
 | 0,x=>(x.Place,x.N,())
 | 1,x=>(x.Name,x.Delay,x.Prio,x.In,x.Not,x.Out,())
 | 2,x=>(x.Name,x.Tokens,())
 | 3,x=>(x.Places,x.Trans,())
 | 4,x=>(x.N,x.Places,x.Trans,())
 | 5,x=>(x.From,x.To,x.Ahead,())
 | 6,x=>(x.Time,x.Prio,x.ID,x.N,())
 | 7,x=>(x.l,())
 | 8,x=>(x.Time,x.Trans,())
 | 9,x=>(x.Time,x.Place,x.N,())
 | 10,x=>(x.n.Places,x.n.Trans,x.mine,x.near,x.ready,x.marks,x.wait.l,x.in_,x.log,x.way,x.time,x.out,x.away,x.count,())
 | 11,x=>(x.id,x.x,x.p.N,x.p.Places,x.p.Trans,x.in_,x.out,x.clocks,x.sent,x.horizon,x.began,x.done,())
 | 12,x=>(x.Log,x.Marks,x.Way,x.Time,())
 | 13,x=>(x.From,x.To,x.E.Time,x.E.Place,x.E.N,())
 | 14,x=>(x.D,x.P,x.I,x.J,x.N,x.O,x.Q,())
 | 15,x=>(x.Tokens,x.Acts,())
 | 16,x=>(x.e0,x.e1,())
 | 17,x=>(x.lanes,x.l,x.sent,())
 | 18,x=>(x.n.Places,x.n.Trans,x.l,x.lanes,x.box,x.e,x.picks,x.moves,())
 | 19,x=>(x.Deliver,x.A,x.B,())
 | _+20,_=>()
def tOf:∀ k,HL tS (tFl k)→tS k
 | 0,x=>⟨x.1,x.2.1⟩
 | 1,x=>⟨x.1,x.2.1,x.2.2.1,x.2.2.2.1,x.2.2.2.2.1,x.2.2.2.2.2.1⟩
 | 2,x=>⟨x.1,x.2.1⟩
 | 3,x=>⟨x.1,x.2.1⟩
 | 4,x=>⟨x.1,x.2.1,x.2.2.1⟩
 | 5,x=>⟨x.1,x.2.1,x.2.2.1⟩
 | 6,x=>⟨x.1,x.2.1,x.2.2.1,x.2.2.2.1⟩
 | 7,x=>⟨x.1⟩
 | 8,x=>⟨x.1,x.2.1⟩
 | 9,x=>⟨x.1,x.2.1,x.2.2.1⟩
 | 10,x=>⟨⟨x.1,x.2.1⟩,x.2.2.1,x.2.2.2.1,x.2.2.2.2.1,x.2.2.2.2.2.1,⟨x.2.2.2.2.2.2.1⟩,x.2.2.2.2.2.2.2.1,x.2.2.2.2.2.2.2.2.1,x.2.2.2.2.2.2.2.2.2.1,x.2.2.2.2.2.2.2.2.2.2.1,x.2.2.2.2.2.2.2.2.2.2.2.1,x.2.2.2.2.2.2.2.2.2.2.2.2.1,x.2.2.2.2.2.2.2.2.2.2.2.2.2.1⟩
 | 11,x=>⟨x.1,x.2.1,⟨x.2.2.1,x.2.2.2.1,x.2.2.2.2.1⟩,x.2.2.2.2.2.1,x.2.2.2.2.2.2.1,x.2.2.2.2.2.2.2.1,x.2.2.2.2.2.2.2.2.1,x.2.2.2.2.2.2.2.2.2.1,x.2.2.2.2.2.2.2.2.2.2.1,x.2.2.2.2.2.2.2.2.2.2.2.1⟩
 | 12,x=>⟨x.1,x.2.1,x.2.2.1,x.2.2.2.1⟩
 | 13,x=>⟨x.1,x.2.1,⟨x.2.2.1,x.2.2.2.1,x.2.2.2.2.1⟩⟩
 | 14,x=>⟨x.1,x.2.1,x.2.2.1,x.2.2.2.1,x.2.2.2.2.1,x.2.2.2.2.2.1,x.2.2.2.2.2.2.1⟩
 | 15,x=>⟨x.1,x.2.1⟩
 | 16,x=>⟨x.1,x.2.1⟩
 | 17,x=>⟨x.1,x.2.1,x.2.2.1⟩
 | 18,x=>⟨⟨x.1,x.2.1⟩,x.2.2.1,x.2.2.2.1,x.2.2.2.2.1,x.2.2.2.2.2.1,x.2.2.2.2.2.2.1,x.2.2.2.2.2.2.2.1⟩
 | 19,x=>⟨x.1,x.2.1,x.2.2.1⟩
 | _+20,_=>()
def tE:TE where
 S:=tS
 fl:=tFl
 to:=tTo
 of:=tOf
 of_to:=fun k x=>match k,x with
  | 0,x=>rfl
  | 1,x=>rfl
  | 2,x=>rfl
  | 3,x=>rfl
  | 4,x=>rfl
  | 5,x=>rfl
  | 6,x=>rfl
  | 7,x=>rfl
  | 8,x=>rfl
  | 9,x=>rfl
  | 10,x=>rfl
  | 11,x=>rfl
  | 12,x=>rfl
  | 13,x=>rfl
  | 14,x=>rfl
  | 15,x=>rfl
  | 16,x=>rfl
  | 17,x=>rfl
  | 18,x=>rfl
  | 19,x=>rfl
  | _+20,x=>rfl
 to_of:=fun k x=>match k,x with
  | 0,x=>rfl
  | 1,x=>rfl
  | 2,x=>rfl
  | 3,x=>rfl
  | 4,x=>rfl
  | 5,x=>rfl
  | 6,x=>rfl
  | 7,x=>rfl
  | 8,x=>rfl
  | 9,x=>rfl
  | 10,x=>rfl
  | 11,x=>rfl
  | 12,x=>rfl
  | 13,x=>rfl
  | 14,x=>rfl
  | 15,x=>rfl
  | 16,x=>rfl
  | 17,x=>rfl
  | 18,x=>rfl
  | 19,x=>rfl
  | _+20,x=>rfl
 lf:=fun k=>match k with
  | 0=>rfl
  | 1=>rfl
  | 2=>rfl
  | 3=>rfl
  | 4=>rfl
  | 5=>rfl
  | 6=>rfl
  | 7=>rfl
  | 8=>rfl
  | 9=>rfl
  | 10=>rfl
  | 11=>rfl
  | 12=>rfl
  | 13=>rfl
  | 14=>rfl
  | 15=>rfl
  | 16=>rfl
  | 17=>rfl
  | 18=>rfl
  | 19=>rfl
  | _+20=>rfl
end Go.Proofs.Ytmchbhheoieepaa
namespace Go.Proofs.Ytmchbhheoieepaa
open Go Go.Am
def bf:Rep TLane:=GN (Au (Au (rI .i64) (rI .i64)) (rI .i64)) fun x=>((x.From,x.To),x.Ahead)
def Jo:ORep TLane:=qT (nF (nF (fz (rI .i64)) (fz (rI .i64))) (fz (rI .i64))) fun x=>((x.From,x.To),x.Ahead)
theorem cm {G:Hp} {cs:List AV} {x:TLane} (h:bf.R G cs x):cs=[.int .i64 x.From,.int .i64 x.To,.int .i64 x.Ahead]:=by
 obtain ⟨_,_,rfl,⟨_,_,rfl,rfl,rfl⟩,rfl⟩:=h
 exact rfl
theorem kK {G:Hp} {x:TLane}  : bf.R G [.int .i64 x.From,.int .i64 x.To,.int .i64 x.Ahead] x:=⟨[.int .i64 x.From,.int .i64 x.To],[.int .i64 x.Ahead],rfl,⟨[.int .i64 x.From],[.int .i64 x.To],rfl,rfl,rfl⟩,rfl⟩
end Go.Proofs.Ytmchbhheoieepaa
