/- Structures of the program as Lean structures, and what cells stand for them. No condition. Own work. -/
import Derived.Test.YtloaoofdbilpeaaPm2ParseNear
set_option linter.unusedVariables false
namespace Go.Am
open Go
structure TFault where
 Err:Int
 At:Int
 Line:Int
 Col:Int
def rFault:Rep TFault:=rIso (rPair (rPair (rPair (rI .i64) (rI .i64)) (rI .i64)) (rI .i64)) fun x=>(((x.Err,x.At),x.Line),x.Col)
def oFault:ORep TFault:=oIso (oPair (oPair (oPair (fz (rI .i64)) (fz (rI .i64))) (fz (rI .i64))) (fz (rI .i64))) fun x=>(((x.Err,x.At),x.Line),x.Col)
theorem rFault_open {G:Hp} {cs:List AV} {x:TFault} (h:rFault.R G cs x):cs=[.int .i64 x.Err,.int .i64 x.At,.int .i64 x.Line,.int .i64 x.Col]:=by
 obtain ⟨_,_,rfl,⟨_,_,rfl,⟨_,_,rfl,rfl,rfl⟩,rfl⟩,rfl⟩:=h
 exact rfl
theorem rFault_mk {G:Hp} {x:TFault}  : rFault.R G [.int .i64 x.Err,.int .i64 x.At,.int .i64 x.Line,.int .i64 x.Col] x:=⟨[.int .i64 x.Err,.int .i64 x.At,.int .i64 x.Line],[.int .i64 x.Col],rfl,⟨[.int .i64 x.Err,.int .i64 x.At],[.int .i64 x.Line],rfl,⟨[.int .i64 x.Err],[.int .i64 x.At],rfl,rfl,rfl⟩,rfl⟩,rfl⟩
structure TToken where
 Kind:Int
 Text:List UInt8
 N:Int
 At:Int
def rToken:Rep TToken:=rIso (rPair (rPair (rPair (rI .u8) rS) (rI .i64)) (rI .i64)) fun x=>(((x.Kind,x.Text),x.N),x.At)
def oToken:ORep TToken:=oIso (oPair (oPair (oPair (fz (rI .u8)) (fz rS)) (fz (rI .i64))) (fz (rI .i64))) fun x=>(((x.Kind,x.Text),x.N),x.At)
theorem rToken_open {G:Hp} {cs:List AV} {x:TToken} (h:rToken.R G cs x):cs=[.int .u8 x.Kind,.str x.Text,.int .i64 x.N,.int .i64 x.At]:=by
 obtain ⟨_,_,rfl,⟨_,_,rfl,⟨_,_,rfl,rfl,rfl⟩,rfl⟩,rfl⟩:=h
 exact rfl
theorem rToken_mk {G:Hp} {x:TToken}  : rToken.R G [.int .u8 x.Kind,.str x.Text,.int .i64 x.N,.int .i64 x.At] x:=⟨[.int .u8 x.Kind,.str x.Text,.int .i64 x.N],[.int .i64 x.At],rfl,⟨[.int .u8 x.Kind,.str x.Text],[.int .i64 x.N],rfl,⟨[.int .u8 x.Kind],[.str x.Text],rfl,rfl,rfl⟩,rfl⟩,rfl⟩
structure TTl where
 Kind:Int
 Text:List UInt8
 N:Int
 At:Int
def rTl:Rep TTl:=rIso (rPair (rPair (rPair (rI .u8) rS) (rI .i64)) (rI .i64)) fun x=>(((x.Kind,x.Text),x.N),x.At)
def oTl:ORep TTl:=oIso (oPair (oPair (oPair (fz (rI .u8)) (fz rS)) (fz (rI .i64))) (fz (rI .i64))) fun x=>(((x.Kind,x.Text),x.N),x.At)
theorem rTl_open {G:Hp} {cs:List AV} {x:TTl} (h:rTl.R G cs x):cs=[.int .u8 x.Kind,.str x.Text,.int .i64 x.N,.int .i64 x.At]:=by
 obtain ⟨_,_,rfl,⟨_,_,rfl,⟨_,_,rfl,rfl,rfl⟩,rfl⟩,rfl⟩:=h
 exact rfl
theorem rTl_mk {G:Hp} {x:TTl}  : rTl.R G [.int .u8 x.Kind,.str x.Text,.int .i64 x.N,.int .i64 x.At] x:=⟨[.int .u8 x.Kind,.str x.Text,.int .i64 x.N],[.int .i64 x.At],rfl,⟨[.int .u8 x.Kind,.str x.Text],[.int .i64 x.N],rfl,⟨[.int .u8 x.Kind],[.str x.Text],rfl,rfl,rfl⟩,rfl⟩,rfl⟩
structure TAct where
 D:Int
 P:Int
 I:Int
 J:Int
 N:Int
 O:Int
 Q:Int
def rAct:Rep TAct:=rIso (rPair (rPair (rPair (rPair (rPair (rPair (rI .u8) (rI .u8)) (rI .u8)) (rI .u8)) (rI .u8)) (rI .u8)) (rI .u8)) fun x=>((((((x.D,x.P),x.I),x.J),x.N),x.O),x.Q)
def oAct:ORep TAct:=oIso (oPair (oPair (oPair (oPair (oPair (oPair (fz (rI .u8)) (fz (rI .u8))) (fz (rI .u8))) (fz (rI .u8))) (fz (rI .u8))) (fz (rI .u8))) (fz (rI .u8))) fun x=>((((((x.D,x.P),x.I),x.J),x.N),x.O),x.Q)
theorem rAct_open {G:Hp} {cs:List AV} {x:TAct} (h:rAct.R G cs x):cs=[.int .u8 x.D,.int .u8 x.P,.int .u8 x.I,.int .u8 x.J,.int .u8 x.N,.int .u8 x.O,.int .u8 x.Q]:=by
 obtain ⟨_,_,rfl,⟨_,_,rfl,⟨_,_,rfl,⟨_,_,rfl,⟨_,_,rfl,⟨_,_,rfl,rfl,rfl⟩,rfl⟩,rfl⟩,rfl⟩,rfl⟩,rfl⟩:=h
 exact rfl
theorem rAct_mk {G:Hp} {x:TAct}  : rAct.R G [.int .u8 x.D,.int .u8 x.P,.int .u8 x.I,.int .u8 x.J,.int .u8 x.N,.int .u8 x.O,.int .u8 x.Q] x:=⟨[.int .u8 x.D,.int .u8 x.P,.int .u8 x.I,.int .u8 x.J,.int .u8 x.N,.int .u8 x.O],[.int .u8 x.Q],rfl,⟨[.int .u8 x.D,.int .u8 x.P,.int .u8 x.I,.int .u8 x.J,.int .u8 x.N],[.int .u8 x.O],rfl,⟨[.int .u8 x.D,.int .u8 x.P,.int .u8 x.I,.int .u8 x.J],[.int .u8 x.N],rfl,⟨[.int .u8 x.D,.int .u8 x.P,.int .u8 x.I],[.int .u8 x.J],rfl,⟨[.int .u8 x.D,.int .u8 x.P],[.int .u8 x.I],rfl,⟨[.int .u8 x.D],[.int .u8 x.P],rfl,rfl,rfl⟩,rfl⟩,rfl⟩,rfl⟩,rfl⟩,rfl⟩
structure TDraft where
 Tokens:List Int
 Acts:List TAct
def rDraft:Rep TDraft:=rIso (rPair (rSl (rI .u8)) (rSl rAct)) fun x=>(x.Tokens,x.Acts)
def oDraft:ORep TDraft:=oIso (oPair (oSl (fz (rI .u8))) (oSl (fz rAct))) fun x=>(x.Tokens,x.Acts)
structure TPlace where
 Name:List UInt8
 Tokens:Int
def rPlace:Rep TPlace:=rIso (rPair rS (rI .i64)) fun x=>(x.Name,x.Tokens)
def oPlace:ORep TPlace:=oIso (oPair (fz rS) (fz (rI .i64))) fun x=>(x.Name,x.Tokens)
theorem flat_Place:Flat rPlace:=flat_iso (flat_pair flat_S (flat_I _))
theorem rPlace_open {G:Hp} {cs:List AV} {x:TPlace} (h:rPlace.R G cs x):cs=[.str x.Name,.int .i64 x.Tokens]:=by
 obtain ⟨_,_,rfl,rfl,rfl⟩:=h
 exact rfl
theorem rPlace_mk {G:Hp} {x:TPlace}  : rPlace.R G [.str x.Name,.int .i64 x.Tokens] x:=⟨[.str x.Name],[.int .i64 x.Tokens],rfl,rfl,rfl⟩
structure TArc where
 Place:Int
 N:Int
def rArc:Rep TArc:=rIso (rPair (rI .i64) (rI .i64)) fun x=>(x.Place,x.N)
def oArc:ORep TArc:=oIso (oPair (fz (rI .i64)) (fz (rI .i64))) fun x=>(x.Place,x.N)
theorem flat_Arc:Flat rArc:=flat_iso (flat_pair (flat_I _) (flat_I _))
theorem rArc_open {G:Hp} {cs:List AV} {x:TArc} (h:rArc.R G cs x):cs=[.int .i64 x.Place,.int .i64 x.N]:=by
 obtain ⟨_,_,rfl,rfl,rfl⟩:=h
 exact rfl
theorem rArc_mk {G:Hp} {x:TArc}  : rArc.R G [.int .i64 x.Place,.int .i64 x.N] x:=⟨[.int .i64 x.Place],[.int .i64 x.N],rfl,rfl,rfl⟩
structure TTrans where
 Name:List UInt8
 Delay:Int
 Prio:Int
 In:List TArc
 Not:List TArc
 Out:List TArc
def rTrans:Rep TTrans:=rIso (rPair (rPair (rPair (rPair (rPair rS (rI .i64)) (rI .i64)) (rSl rArc)) (rSl rArc)) (rSl rArc)) fun x=>(((((x.Name,x.Delay),x.Prio),x.In),x.Not),x.Out)
def oTrans:ORep TTrans:=oIso (oPair (oPair (oPair (oPair (oPair (fz rS) (fz (rI .i64))) (fz (rI .i64))) (oSl (fz rArc))) (oSl (fz rArc))) (oSl (fz rArc))) fun x=>(((((x.Name,x.Delay),x.Prio),x.In),x.Not),x.Out)
theorem rTrans_open {G:Hp} {cs:List AV} {x:TTrans} (h:rTrans.R G cs x):∃ c0 c1 c2,cs=[.str x.Name,.int .i64 x.Delay,.int .i64 x.Prio,c0,c1,c2]∧SlR rArc G c0 x.In∧SlR rArc G c1 x.Not∧SlR rArc G c2 x.Out:=by
 obtain ⟨_,_,rfl,⟨_,_,rfl,⟨_,_,rfl,⟨_,_,rfl,⟨_,_,rfl,rfl,rfl⟩,rfl⟩,⟨_,rfl,h1⟩⟩,⟨_,rfl,h2⟩⟩,⟨_,rfl,h3⟩⟩:=h
 exact ⟨_,_,_,rfl,h1,h2,h3⟩
theorem rTrans_mk {G:Hp} {x:TTrans} {c0 c1 c2:AV} (f1:SlR rArc G c0 x.In) (f2:SlR rArc G c1 x.Not) (f3:SlR rArc G c2 x.Out):rTrans.R G [.str x.Name,.int .i64 x.Delay,.int .i64 x.Prio,c0,c1,c2] x:=⟨[.str x.Name,.int .i64 x.Delay,.int .i64 x.Prio,c0,c1],[c2],rfl,⟨[.str x.Name,.int .i64 x.Delay,.int .i64 x.Prio,c0],[c1],rfl,⟨[.str x.Name,.int .i64 x.Delay,.int .i64 x.Prio],[c0],rfl,⟨[.str x.Name,.int .i64 x.Delay],[.int .i64 x.Prio],rfl,⟨[.str x.Name],[.int .i64 x.Delay],rfl,rfl,rfl⟩,rfl⟩,⟨_,rfl,f1⟩⟩,⟨_,rfl,f2⟩⟩,⟨_,rfl,f3⟩⟩
theorem oTrans_close {g h:Heap} {M:Nat→Prop} {Γ:List Ch} {c0 c1 c2:AV} {x:TTrans} (S:St g M (own (oSl (fz rArc)) [c0] x.In::own (oSl (fz rArc)) [c1] x.Not::own (oSl (fz rArc)) [c2] x.Out::Γ) h):St g M (own oTrans [.str x.Name,.int .i64 x.Delay,.int .i64 x.Prio,c0,c1,c2] x::Γ) h:=by
 have S:=St.addAt (r:=rS) (cs:=[.str x.Name]) (x:=x.Name) [] S rfl
 have S:=St.addAt (r:=(rI .i64)) (cs:=[.int .i64 x.Delay]) (x:=x.Delay) [own (fz rS) [.str x.Name] x.Name] S rfl
 have S:=St.addAt (r:=(rI .i64)) (cs:=[.int .i64 x.Prio]) (x:=x.Prio) [own (fz rS) [.str x.Name] x.Name,own (fz (rI .i64)) [.int .i64 x.Delay] x.Delay] S rfl
 exact (S.pair.pair.pair.pair.pair).iso (f:=fun x:TTrans=>(((((x.Name,x.Delay),x.Prio),x.In),x.Not),x.Out)) rfl
structure TNet where
 Places:List TPlace
 Trans:List TTrans
def rNet:Rep TNet:=rIso (rPair (rSl rPlace) (rSl rTrans)) fun x=>(x.Places,x.Trans)
def oNet:ORep TNet:=oIso (oPair (oSl (fz rPlace)) (oSl oTrans)) fun x=>(x.Places,x.Trans)
theorem rNet_open {G:Hp} {cs:List AV} {x:TNet} (h:rNet.R G cs x):∃ c0 c1,cs=[c0,c1]∧SlR rPlace G c0 x.Places∧SlR rTrans G c1 x.Trans:=by
 obtain ⟨_,_,rfl,⟨_,rfl,h1⟩,⟨_,rfl,h2⟩⟩:=h
 exact ⟨_,_,rfl,h1,h2⟩
theorem rNet_mk {G:Hp} {x:TNet} {c0 c1:AV} (f1:SlR rPlace G c0 x.Places) (f2:SlR rTrans G c1 x.Trans):rNet.R G [c0,c1] x:=⟨[c0],[c1],rfl,⟨_,rfl,f1⟩,⟨_,rfl,f2⟩⟩
theorem oNet_open {g h:Heap} {M:Nat→Prop} {Γ:List Ch} {cs:List AV} {x:TNet} (S:St g M (own oNet cs x::Γ) h):∃ c0 c1,cs=[c0,c1]∧St g M (own (oSl (fz rPlace)) [c0] x.Places::own (oSl oTrans) [c1] x.Trans::Γ) h:=by
 obtain ⟨b1,d1,rfl,-,-,S⟩:=St.unpair (x:=(x.Places,x.Trans)) S
 obtain ⟨z0,rfl,-⟩:=S.snap (r:=(oSl (fz rPlace))) (x:=x.Places) (.head _)
 obtain ⟨z1,rfl,-⟩:=S.snap (r:=(oSl oTrans)) (x:=x.Trans) (.tail _ (.head _))
 exact ⟨z0,z1,rfl,S⟩
theorem oNet_openL {g h:Heap} {M:Nat→Prop} {Γ:List Ch} {c0 c1:AV} {x:TNet} (S:St g M (own oNet [c0,c1] x::Γ) h):St g M (own (oSl (fz rPlace)) [c0] x.Places::own (oSl oTrans) [c1] x.Trans::Γ) h:=by
 obtain ⟨_,_,e,S⟩:=oNet_open S
 cases e
 exact S
theorem oNet_close {g h:Heap} {M:Nat→Prop} {Γ:List Ch} {c0 c1:AV} {x:TNet} (S:St g M (own (oSl (fz rPlace)) [c0] x.Places::own (oSl oTrans) [c1] x.Trans::Γ) h):St g M (own oNet [c0,c1] x::Γ) h:=by
 exact (S.pair).iso (f:=fun x:TNet=>(x.Places,x.Trans)) rfl
structure Tparser where
 p:List Int
 l:List TTl
 f:TFault
 n:TNet
 places:List (List UInt8×Int)
 told:List (List UInt8×Bool)
def rparser:Rep Tparser:=rIso (rPair (rPair (rPair (rPair (rPair (rSl (rI .u8)) (rSl rTl)) rFault) rNet) (rMap (List (List UInt8×Int)))) (rMap (List (List UInt8×Bool)))) fun x=>(((((x.p,x.l),x.f),x.n),x.places),x.told)
def oparser:ORep Tparser:=oIso (oPair (oPair (oPair (oPair (oPair (fz (rSl (rI .u8))) (oSl (fz rTl))) (fz rFault)) oNet) (oMap keS (AV.int .i64))) (oMap keS AV.bool)) fun x=>(((((x.p,x.l),x.f),x.n),x.places),x.told)
theorem oparser_open {g h:Heap} {M:Nat→Prop} {Γ:List Ch} {cs:List AV} {x:Tparser} (S:St g M (own oparser cs x::Γ) h):∃ c0 c1 c2 c3 c4 c5,cs=[c0,c1,.int .i64 x.f.Err,.int .i64 x.f.At,.int .i64 x.f.Line,.int .i64 x.f.Col,c2,c3,c4,c5]∧St g M (own (fz (rSl (rI .u8))) [c0] x.p::own (oSl (fz rTl)) [c1] x.l::own oNet [c2,c3] x.n::own (oMap keS (AV.int .i64)) [c4] x.places::own (oMap keS AV.bool) [c5] x.told::Γ) h:=by
 obtain ⟨b5,d5,rfl,-,-,S⟩:=St.unpair (x:=(((((x.p,x.l),x.f),x.n),x.places),x.told)) S
 obtain ⟨b4,d4,rfl,-,-,S⟩:=St.unpair (x:=((((x.p,x.l),x.f),x.n),x.places)) S
 obtain ⟨b3,d3,rfl,-,-,S⟩:=St.unpair (x:=(((x.p,x.l),x.f),x.n)) S
 obtain ⟨b2,d2,rfl,-,-,S⟩:=St.unpair (x:=((x.p,x.l),x.f)) S
 obtain ⟨b1,d1,rfl,-,-,S⟩:=St.unpair (x:=(x.p,x.l)) S
 obtain ⟨z0,rfl,-⟩:=S.snap (r:=(fz (rSl (rI .u8)))) (x:=x.p) (.head _)
 obtain ⟨z1,rfl,-⟩:=S.snap (r:=(oSl (fz rTl))) (x:=x.l) (.tail _ (.head _))
 obtain rfl:=rFault_open (S.fzr (r:=rFault) (x:=x.f) (.tail _ (.tail _ (.head _))))
 have S:=St.dropAt [_,_] S
 obtain ⟨z3_0,z3_1,rfl,-,-⟩:=rNet_open (S.snap (r:=oNet) (x:=x.n) (.tail _ (.tail _ (.head _))))
 obtain ⟨z4,rfl,-⟩:=S.snap (r:=(oMap keS (AV.int .i64))) (x:=x.places) (.tail _ (.tail _ (.tail _ (.head _))))
 obtain ⟨z5,rfl,-⟩:=S.snap (r:=(oMap keS AV.bool)) (x:=x.told) (.tail _ (.tail _ (.tail _ (.tail _ (.head _)))))
 exact ⟨z0,z1,z3_0,z3_1,z4,z5,rfl,S⟩
theorem oparser_close {g h:Heap} {M:Nat→Prop} {Γ:List Ch} {c0 c1 c2 c3 c4 c5:AV} {x:Tparser} (S:St g M (own (fz (rSl (rI .u8))) [c0] x.p::own (oSl (fz rTl)) [c1] x.l::own oNet [c2,c3] x.n::own (oMap keS (AV.int .i64)) [c4] x.places::own (oMap keS AV.bool) [c5] x.told::Γ) h):St g M (own oparser [c0,c1,.int .i64 x.f.Err,.int .i64 x.f.At,.int .i64 x.f.Line,.int .i64 x.f.Col,c2,c3,c4,c5] x::Γ) h:=by
 have S:=St.addAt (r:=rFault) (cs:=[.int .i64 x.f.Err,.int .i64 x.f.At,.int .i64 x.f.Line,.int .i64 x.f.Col]) (x:=x.f) [own (fz (rSl (rI .u8))) [c0] x.p,own (oSl (fz rTl)) [c1] x.l] S rFault_mk
 exact (S.pair.pair.pair.pair.pair).iso (f:=fun x:Tparser=>(((((x.p,x.l),x.f),x.n),x.places),x.told)) rfl
theorem oparser_deref {g h:Heap} {M:Nat→Prop} {Γ:List Ch} {a:AV} {q:Option Tparser} {x:Tparser} (e:q=some x) (S:St g M (own (oPtr oparser) [a] q::Γ) h):∃ (o v:Nat) (c0 c1 c2 c3 c4 c5:AV),a=.ptr o v 0∧St g M (own (fz (rSl (rI .u8))) [c0] x.p::own (oSl (fz rTl)) [c1] x.l::own (oSl (fz rPlace)) [c2] x.n.Places::own (oSl oTrans) [c3] x.n.Trans::own (oMap keS (AV.int .i64)) [c4] x.places::own (oMap keS AV.bool) [c5] x.told::rowC o [c0,c1,.int .i64 x.f.Err,.int .i64 x.f.At,.int .i64 x.f.Line,.int .i64 x.f.Col,c2,c3,c4,c5] v::Γ) h:=by
 subst e
 obtain ⟨o,v,row,e,S⟩:=St.ptrOpen S
 have S:=S.swap
 obtain ⟨c0,c1,c2,c3,c4,c5,e2,S⟩:=oparser_open S
 subst e2
 have S:=St.mvF [_,_] S
 have S:=oNet_openL S
 have S:=St.mvB [_,_] [_,_] S
 exact ⟨o,v,c0,c1,c2,c3,c4,c5,e,S⟩
theorem oparser_derefAt {g h:Heap} {M:Nat→Prop} {Γ:List Ch} {o v:Nat} {q:Option Tparser} {x:Tparser} (e:q=some x) (S:St g M (own (oPtr oparser) [.ptr o v 0] q::Γ) h):∃ (c0 c1 c2 c3 c4 c5:AV),St g M (own (fz (rSl (rI .u8))) [c0] x.p::own (oSl (fz rTl)) [c1] x.l::own (oSl (fz rPlace)) [c2] x.n.Places::own (oSl oTrans) [c3] x.n.Trans::own (oMap keS (AV.int .i64)) [c4] x.places::own (oMap keS AV.bool) [c5] x.told::rowC o [c0,c1,.int .i64 x.f.Err,.int .i64 x.f.At,.int .i64 x.f.Line,.int .i64 x.f.Col,c2,c3,c4,c5] v::Γ) h:=by
 obtain ⟨o',v',c0,c1,c2,c3,c4,c5,e,S⟩:=oparser_deref e S
 cases e
 exact ⟨c0,c1,c2,c3,c4,c5,S⟩
theorem oparser_shut {g h:Heap} {M:Nat→Prop} {Γ:List Ch} {o v:Nat} {c0 c1 c2 c3 c4 c5:AV} {x:Tparser} (S:St g M (own (fz (rSl (rI .u8))) [c0] x.p::own (oSl (fz rTl)) [c1] x.l::own (oSl (fz rPlace)) [c2] x.n.Places::own (oSl oTrans) [c3] x.n.Trans::own (oMap keS (AV.int .i64)) [c4] x.places::own (oMap keS AV.bool) [c5] x.told::rowC o [c0,c1,.int .i64 x.f.Err,.int .i64 x.f.At,.int .i64 x.f.Line,.int .i64 x.f.Col,c2,c3,c4,c5] v::Γ) h):St g M (own (oPtr oparser) [.ptr o v 0] (some x)::Γ) h:=by
 have S:=St.mvB [_,_] [_,_] S
 have S:=oNet_close (x:=x.n) S
 have S:=St.mvB [_] [_,_] S
 have S:=oparser_close (x:=x) S
 exact (S.swap).ptrClose
structure Tq5 where
 l:List TToken
 i:Int
 e:Int
 at_:Int
 n:TNet
 places:List (List UInt8)
 told:List (List UInt8)
def rq5:Rep Tq5:=rIso (rPair (rPair (rPair (rPair (rPair (rPair (rSl rToken) (rI .i64)) (rI .i64)) (rI .i64)) rNet) (rSl rS)) (rSl rS)) fun x=>((((((x.l,x.i),x.e),x.at_),x.n),x.places),x.told)
def oq5:ORep Tq5:=oIso (oPair (oPair (oPair (oPair (oPair (oPair (fz (rSl rToken)) (fz (rI .i64))) (fz (rI .i64))) (fz (rI .i64))) oNet) (oSl (fz rS))) (oSl (fz rS))) fun x=>((((((x.l,x.i),x.e),x.at_),x.n),x.places),x.told)
theorem rq5_open {G:Hp} {cs:List AV} {x:Tq5} (h:rq5.R G cs x):∃ c0 c1 c2 c3 c4,cs=[c0,.int .i64 x.i,.int .i64 x.e,.int .i64 x.at_,c1,c2,c3,c4]∧SlR rToken G c0 x.l∧SlR rPlace G c1 x.n.Places∧SlR rTrans G c2 x.n.Trans∧SlR rS G c3 x.places∧SlR rS G c4 x.told:=by
 obtain ⟨_,_,rfl,⟨_,_,rfl,⟨_,_,rfl,⟨_,_,rfl,⟨_,_,rfl,⟨_,_,rfl,⟨_,rfl,h1⟩,rfl⟩,rfl⟩,rfl⟩,⟨_,_,rfl,⟨_,rfl,h2⟩,⟨_,rfl,h3⟩⟩⟩,⟨_,rfl,h4⟩⟩,⟨_,rfl,h5⟩⟩:=h
 exact ⟨_,_,_,_,_,rfl,h1,h2,h3,h4,h5⟩
theorem oq5_open {g h:Heap} {M:Nat→Prop} {Γ:List Ch} {cs:List AV} {x:Tq5} (S:St g M (own oq5 cs x::Γ) h):∃ c0 c1 c2 c3 c4,cs=[c0,.int .i64 x.i,.int .i64 x.e,.int .i64 x.at_,c1,c2,c3,c4]∧St g M (own (fz (rSl rToken)) [c0] x.l::own oNet [c1,c2] x.n::own (oSl (fz rS)) [c3] x.places::own (oSl (fz rS)) [c4] x.told::Γ) h:=by
 obtain ⟨b6,d6,rfl,-,-,S⟩:=St.unpair (x:=((((((x.l,x.i),x.e),x.at_),x.n),x.places),x.told)) S
 obtain ⟨b5,d5,rfl,-,-,S⟩:=St.unpair (x:=(((((x.l,x.i),x.e),x.at_),x.n),x.places)) S
 obtain ⟨b4,d4,rfl,-,-,S⟩:=St.unpair (x:=((((x.l,x.i),x.e),x.at_),x.n)) S
 obtain ⟨b3,d3,rfl,-,-,S⟩:=St.unpair (x:=(((x.l,x.i),x.e),x.at_)) S
 obtain ⟨b2,d2,rfl,-,-,S⟩:=St.unpair (x:=((x.l,x.i),x.e)) S
 obtain ⟨b1,d1,rfl,-,-,S⟩:=St.unpair (x:=(x.l,x.i)) S
 obtain ⟨z0,rfl,-⟩:=S.snap (r:=(fz (rSl rToken))) (x:=x.l) (.head _)
 obtain rfl:d1=[.int .i64 x.i]:=S.fzr (r:=(rI .i64)) (x:=x.i) (.tail _ (.head _))
 have S:=St.dropAt [_] S
 obtain rfl:d2=[.int .i64 x.e]:=S.fzr (r:=(rI .i64)) (x:=x.e) (.tail _ (.head _))
 have S:=St.dropAt [_] S
 obtain rfl:d3=[.int .i64 x.at_]:=S.fzr (r:=(rI .i64)) (x:=x.at_) (.tail _ (.head _))
 have S:=St.dropAt [_] S
 obtain ⟨z4_0,z4_1,rfl,-,-⟩:=rNet_open (S.snap (r:=oNet) (x:=x.n) (.tail _ (.head _)))
 obtain ⟨z5,rfl,-⟩:=S.snap (r:=(oSl (fz rS))) (x:=x.places) (.tail _ (.tail _ (.head _)))
 obtain ⟨z6,rfl,-⟩:=S.snap (r:=(oSl (fz rS))) (x:=x.told) (.tail _ (.tail _ (.tail _ (.head _))))
 exact ⟨z0,z4_0,z4_1,z5,z6,rfl,S⟩
theorem oq5_close {g h:Heap} {M:Nat→Prop} {Γ:List Ch} {c0 c1 c2 c3 c4:AV} {x:Tq5} (S:St g M (own (fz (rSl rToken)) [c0] x.l::own oNet [c1,c2] x.n::own (oSl (fz rS)) [c3] x.places::own (oSl (fz rS)) [c4] x.told::Γ) h):St g M (own oq5 [c0,.int .i64 x.i,.int .i64 x.e,.int .i64 x.at_,c1,c2,c3,c4] x::Γ) h:=by
 have S:=St.addAt (r:=(rI .i64)) (cs:=[.int .i64 x.i]) (x:=x.i) [own (fz (rSl rToken)) [c0] x.l] S rfl
 have S:=St.addAt (r:=(rI .i64)) (cs:=[.int .i64 x.e]) (x:=x.e) [own (fz (rSl rToken)) [c0] x.l,own (fz (rI .i64)) [.int .i64 x.i] x.i] S rfl
 have S:=St.addAt (r:=(rI .i64)) (cs:=[.int .i64 x.at_]) (x:=x.at_) [own (fz (rSl rToken)) [c0] x.l,own (fz (rI .i64)) [.int .i64 x.i] x.i,own (fz (rI .i64)) [.int .i64 x.e] x.e] S rfl
 exact (S.pair.pair.pair.pair.pair.pair).iso (f:=fun x:Tq5=>((((((x.l,x.i),x.e),x.at_),x.n),x.places),x.told)) rfl
theorem oq5_deref {g h:Heap} {M:Nat→Prop} {Γ:List Ch} {a:AV} {q:Option Tq5} {x:Tq5} (e:q=some x) (S:St g M (own (oPtr oq5) [a] q::Γ) h):∃ (o v:Nat) (c0 c1 c2 c3 c4:AV),a=.ptr o v 0∧St g M (own (fz (rSl rToken)) [c0] x.l::own (oSl (fz rPlace)) [c1] x.n.Places::own (oSl oTrans) [c2] x.n.Trans::own (oSl (fz rS)) [c3] x.places::own (oSl (fz rS)) [c4] x.told::rowC o [c0,.int .i64 x.i,.int .i64 x.e,.int .i64 x.at_,c1,c2,c3,c4] v::Γ) h:=by
 subst e
 obtain ⟨o,v,row,e,S⟩:=St.ptrOpen S
 have S:=S.swap
 obtain ⟨c0,c1,c2,c3,c4,e2,S⟩:=oq5_open S
 subst e2
 have S:=St.mvF [_] S
 have S:=oNet_openL S
 have S:=St.mvB [_,_] [_] S
 exact ⟨o,v,c0,c1,c2,c3,c4,e,S⟩
theorem oq5_derefAt {g h:Heap} {M:Nat→Prop} {Γ:List Ch} {o v:Nat} {q:Option Tq5} {x:Tq5} (e:q=some x) (S:St g M (own (oPtr oq5) [.ptr o v 0] q::Γ) h):∃ (c0 c1 c2 c3 c4:AV),St g M (own (fz (rSl rToken)) [c0] x.l::own (oSl (fz rPlace)) [c1] x.n.Places::own (oSl oTrans) [c2] x.n.Trans::own (oSl (fz rS)) [c3] x.places::own (oSl (fz rS)) [c4] x.told::rowC o [c0,.int .i64 x.i,.int .i64 x.e,.int .i64 x.at_,c1,c2,c3,c4] v::Γ) h:=by
 obtain ⟨o',v',c0,c1,c2,c3,c4,e,S⟩:=oq5_deref e S
 cases e
 exact ⟨c0,c1,c2,c3,c4,S⟩
theorem oq5_shut {g h:Heap} {M:Nat→Prop} {Γ:List Ch} {o v:Nat} {c0 c1 c2 c3 c4:AV} {x:Tq5} (S:St g M (own (fz (rSl rToken)) [c0] x.l::own (oSl (fz rPlace)) [c1] x.n.Places::own (oSl oTrans) [c2] x.n.Trans::own (oSl (fz rS)) [c3] x.places::own (oSl (fz rS)) [c4] x.told::rowC o [c0,.int .i64 x.i,.int .i64 x.e,.int .i64 x.at_,c1,c2,c3,c4] v::Γ) h):St g M (own (oPtr oq5) [.ptr o v 0] (some x)::Γ) h:=by
 have S:=St.mvB [_] [_,_] S
 have S:=oNet_close (x:=x.n) S
 have S:=St.mvB [_] [_] S
 have S:=oq5_close (x:=x) S
 exact (S.swap).ptrClose
end Go.Am
