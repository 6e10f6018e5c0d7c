/- Structures of the program as Lean structures, and what cells stand for them. No condition. Own work. -/
import Derived.Test.YtgbkpiaonlabgaaPm2LaneRing
set_option linter.unusedVariables false
namespace Go.Am
open Go
structure TAct where
 D:Int
 P:Int
 I:Int
 J:Int
 N:Int
 O:Int
 Q:Int
def rAct:Rep TAct:=rIso (rPair (rPair (rPair (rPair (rPair (rPair (rI .u8) (rI .u8)) (rI .u8)) (rI .u8)) (rI .u8)) (rI .u8)) (rI .u8)) fun x=>((((((x.D,x.P),x.I),x.J),x.N),x.O),x.Q)
def oAct:ORep TAct:=oIso (oPair (oPair (oPair (oPair (oPair (oPair (fz (rI .u8)) (fz (rI .u8))) (fz (rI .u8))) (fz (rI .u8))) (fz (rI .u8))) (fz (rI .u8))) (fz (rI .u8))) fun x=>((((((x.D,x.P),x.I),x.J),x.N),x.O),x.Q)
structure TDraft where
 Tokens:List Int
 Acts:List TAct
def rDraft:Rep TDraft:=rIso (rPair (rSl (rI .u8)) (rSl rAct)) fun x=>(x.Tokens,x.Acts)
def oDraft:ORep TDraft:=oIso (oPair (oSl (fz (rI .u8))) (oSl (fz rAct))) fun x=>(x.Tokens,x.Acts)
structure TPlace where
 Name:List UInt8
 Tokens:Int
def rPlace:Rep TPlace:=rIso (rPair rS (rI .i64)) fun x=>(x.Name,x.Tokens)
def oPlace:ORep TPlace:=oIso (oPair (fz rS) (fz (rI .i64))) fun x=>(x.Name,x.Tokens)
theorem rPlace_open {G:Hp} {cs:List AV} {x:TPlace} (h:rPlace.R G cs x):cs=[.str x.Name,.int .i64 x.Tokens]:=by
 obtain ⟨_,_,rfl,rfl,rfl⟩:=h
 exact rfl
theorem rPlace_mk {G:Hp} {x:TPlace}  : rPlace.R G [.str x.Name,.int .i64 x.Tokens] x:=⟨[.str x.Name],[.int .i64 x.Tokens],rfl,rfl,rfl⟩
structure TArc where
 Place:Int
 N:Int
def rArc:Rep TArc:=rIso (rPair (rI .i64) (rI .i64)) fun x=>(x.Place,x.N)
def oArc:ORep TArc:=oIso (oPair (fz (rI .i64)) (fz (rI .i64))) fun x=>(x.Place,x.N)
theorem rArc_open {G:Hp} {cs:List AV} {x:TArc} (h:rArc.R G cs x):cs=[.int .i64 x.Place,.int .i64 x.N]:=by
 obtain ⟨_,_,rfl,rfl,rfl⟩:=h
 exact rfl
theorem rArc_mk {G:Hp} {x:TArc}  : rArc.R G [.int .i64 x.Place,.int .i64 x.N] x:=⟨[.int .i64 x.Place],[.int .i64 x.N],rfl,rfl,rfl⟩
structure TTrans where
 Name:List UInt8
 Delay:Int
 Prio:Int
 In:List TArc
 Not:List TArc
 Out:List TArc
def rTrans:Rep TTrans:=rIso (rPair (rPair (rPair (rPair (rPair rS (rI .i64)) (rI .i64)) (rSl rArc)) (rSl rArc)) (rSl rArc)) fun x=>(((((x.Name,x.Delay),x.Prio),x.In),x.Not),x.Out)
def oTrans:ORep TTrans:=oIso (oPair (oPair (oPair (oPair (oPair (fz rS) (fz (rI .i64))) (fz (rI .i64))) (oSl (fz rArc))) (oSl (fz rArc))) (oSl (fz rArc))) fun x=>(((((x.Name,x.Delay),x.Prio),x.In),x.Not),x.Out)
theorem rTrans_open {G:Hp} {cs:List AV} {x:TTrans} (h:rTrans.R G cs x):∃ c0 c1 c2,cs=[.str x.Name,.int .i64 x.Delay,.int .i64 x.Prio,c0,c1,c2]∧SlR rArc G c0 x.In∧SlR rArc G c1 x.Not∧SlR rArc G c2 x.Out:=by
 obtain ⟨_,_,rfl,⟨_,_,rfl,⟨_,_,rfl,⟨_,_,rfl,⟨_,_,rfl,rfl,rfl⟩,rfl⟩,⟨_,rfl,h1⟩⟩,⟨_,rfl,h2⟩⟩,⟨_,rfl,h3⟩⟩:=h
 exact ⟨_,_,_,rfl,h1,h2,h3⟩
theorem rTrans_mk {G:Hp} {x:TTrans} {c0 c1 c2:AV} (f1:SlR rArc G c0 x.In) (f2:SlR rArc G c1 x.Not) (f3:SlR rArc G c2 x.Out):rTrans.R G [.str x.Name,.int .i64 x.Delay,.int .i64 x.Prio,c0,c1,c2] x:=⟨[.str x.Name,.int .i64 x.Delay,.int .i64 x.Prio,c0,c1],[c2],rfl,⟨[.str x.Name,.int .i64 x.Delay,.int .i64 x.Prio,c0],[c1],rfl,⟨[.str x.Name,.int .i64 x.Delay,.int .i64 x.Prio],[c0],rfl,⟨[.str x.Name,.int .i64 x.Delay],[.int .i64 x.Prio],rfl,⟨[.str x.Name],[.int .i64 x.Delay],rfl,rfl,rfl⟩,rfl⟩,⟨_,rfl,f1⟩⟩,⟨_,rfl,f2⟩⟩,⟨_,rfl,f3⟩⟩
theorem oTrans_close {g h:Heap} {M:Nat→Prop} {Γ:List Ch} {c0 c1 c2:AV} {x:TTrans} (S:St g M (own (oSl (fz rArc)) [c0] x.In::own (oSl (fz rArc)) [c1] x.Not::own (oSl (fz rArc)) [c2] x.Out::Γ) h):St g M (own oTrans [.str x.Name,.int .i64 x.Delay,.int .i64 x.Prio,c0,c1,c2] x::Γ) h:=by
 have S:=St.addAt (r:=rS) (cs:=[.str x.Name]) (x:=x.Name) [] S rfl
 have S:=St.addAt (r:=(rI .i64)) (cs:=[.int .i64 x.Delay]) (x:=x.Delay) [own (fz rS) [.str x.Name] x.Name] S rfl
 have S:=St.addAt (r:=(rI .i64)) (cs:=[.int .i64 x.Prio]) (x:=x.Prio) [own (fz rS) [.str x.Name] x.Name,own (fz (rI .i64)) [.int .i64 x.Delay] x.Delay] S rfl
 exact (S.pair.pair.pair.pair.pair).iso (f:=fun x:TTrans=>(((((x.Name,x.Delay),x.Prio),x.In),x.Not),x.Out)) rfl
structure TNet where
 Places:List TPlace
 Trans:List TTrans
def rNet:Rep TNet:=rIso (rPair (rSl rPlace) (rSl rTrans)) fun x=>(x.Places,x.Trans)
def oNet:ORep TNet:=oIso (oPair (oSl (fz rPlace)) (oSl oTrans)) fun x=>(x.Places,x.Trans)
structure TLane where
 From:Int
 To:Int
 Ahead:Int
def rLane:Rep TLane:=rIso (rPair (rPair (rI .i64) (rI .i64)) (rI .i64)) fun x=>((x.From,x.To),x.Ahead)
def oLane:ORep TLane:=oIso (oPair (oPair (fz (rI .i64)) (fz (rI .i64))) (fz (rI .i64))) fun x=>((x.From,x.To),x.Ahead)
theorem rLane_open {G:Hp} {cs:List AV} {x:TLane} (h:rLane.R G cs x):cs=[.int .i64 x.From,.int .i64 x.To,.int .i64 x.Ahead]:=by
 obtain ⟨_,_,rfl,⟨_,_,rfl,rfl,rfl⟩,rfl⟩:=h
 exact rfl
theorem rLane_mk {G:Hp} {x:TLane}  : rLane.R G [.int .i64 x.From,.int .i64 x.To,.int .i64 x.Ahead] x:=⟨[.int .i64 x.From,.int .i64 x.To],[.int .i64 x.Ahead],rfl,⟨[.int .i64 x.From],[.int .i64 x.To],rfl,rfl,rfl⟩,rfl⟩
structure TPart where
 N:Int
 Places:List Int
 Trans:List Int
def rPart:Rep TPart:=rIso (rPair (rPair (rI .i64) (rSl (rI .i64))) (rSl (rI .i64))) fun x=>((x.N,x.Places),x.Trans)
def oPart:ORep TPart:=oIso (oPair (oPair (fz (rI .i64)) (oSl (fz (rI .i64)))) (oSl (fz (rI .i64)))) fun x=>((x.N,x.Places),x.Trans)
structure TArr2_Int where
 e0:Int
 e1:Int
def rArr2_Int:Rep TArr2_Int:=rIso (rPair (rI .i64) (rI .i64)) fun x=>(x.e0,x.e1)
def oArr2_Int:ORep TArr2_Int:=oIso (oPair (fz (rI .i64)) (fz (rI .i64))) fun x=>(x.e0,x.e1)
end Go.Am
