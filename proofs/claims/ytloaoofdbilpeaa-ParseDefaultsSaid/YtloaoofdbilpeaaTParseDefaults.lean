/- Structures of the program as Lean structures, and what cells stand for them. No condition. Own work. -/
import Derived.Test.YtloaoofdbilpeaaPm2ParseDefaults
/- Structures of the program as Lean structures; what cells stand for them; printed by a program of mine (mkty.py). Own work. -/
namespace Go.Am
open Go
set_option linter.unusedVariables false
structure TFault where
 Err:Int
 At:Int
 Line:Int
 Col:Int
def rFault:Rep TFault:=rIso (rPair (rPair (rPair (rI .i64) (rI .i64)) (rI .i64)) (rI .i64)) fun x=>(((x.Err,x.At),x.Line),x.Col)
def oFault:ORep TFault:=oIso (oPair (oPair (oPair (fz (rI .i64)) (fz (rI .i64))) (fz (rI .i64))) (fz (rI .i64))) fun x=>(((x.Err,x.At),x.Line),x.Col)
theorem rFault_open {G:Hp} {cs:List AV} {x:TFault} (h:rFault.R G cs x):cs=[.int .i64 x.Err,.int .i64 x.At,.int .i64 x.Line,.int .i64 x.Col]:=by
 obtain ⟨_,_,rfl,⟨_,_,rfl,⟨_,_,rfl,rfl,rfl⟩,rfl⟩,rfl⟩:=h
 exact rfl
theorem rFault_mk {G:Hp} {x:TFault}  : rFault.R G [.int .i64 x.Err,.int .i64 x.At,.int .i64 x.Line,.int .i64 x.Col] x:=⟨[.int .i64 x.Err,.int .i64 x.At,.int .i64 x.Line],[.int .i64 x.Col],rfl,⟨[.int .i64 x.Err,.int .i64 x.At],[.int .i64 x.Line],rfl,⟨[.int .i64 x.Err],[.int .i64 x.At],rfl,rfl,rfl⟩,rfl⟩,rfl⟩
structure TToken where
 Kind:Int
 Text:List UInt8
 N:Int
 At:Int
def rToken:Rep TToken:=rIso (rPair (rPair (rPair (rI .u8) rS) (rI .i64)) (rI .i64)) fun x=>(((x.Kind,x.Text),x.N),x.At)
def oToken:ORep TToken:=oIso (oPair (oPair (oPair (fz (rI .u8)) (fz rS)) (fz (rI .i64))) (fz (rI .i64))) fun x=>(((x.Kind,x.Text),x.N),x.At)
structure TTokenlex where
 Kind:Int
 Text:List UInt8
 N:Int
 At:Int
def rTokenlex:Rep TTokenlex:=rIso (rPair (rPair (rPair (rI .u8) rS) (rI .i64)) (rI .i64)) fun x=>(((x.Kind,x.Text),x.N),x.At)
def oTokenlex:ORep TTokenlex:=oIso (oPair (oPair (oPair (fz (rI .u8)) (fz rS)) (fz (rI .i64))) (fz (rI .i64))) fun x=>(((x.Kind,x.Text),x.N),x.At)
theorem rTokenlex_open {G:Hp} {cs:List AV} {x:TTokenlex} (h:rTokenlex.R G cs x):cs=[.int .u8 x.Kind,.str x.Text,.int .i64 x.N,.int .i64 x.At]:=by
 obtain ⟨_,_,rfl,⟨_,_,rfl,⟨_,_,rfl,rfl,rfl⟩,rfl⟩,rfl⟩:=h
 exact rfl
theorem rTokenlex_mk {G:Hp} {x:TTokenlex}  : rTokenlex.R G [.int .u8 x.Kind,.str x.Text,.int .i64 x.N,.int .i64 x.At] x:=⟨[.int .u8 x.Kind,.str x.Text,.int .i64 x.N],[.int .i64 x.At],rfl,⟨[.int .u8 x.Kind,.str x.Text],[.int .i64 x.N],rfl,⟨[.int .u8 x.Kind],[.str x.Text],rfl,rfl,rfl⟩,rfl⟩,rfl⟩
structure TPlace where
 Name:List UInt8
 Tokens:Int
def rPlace:Rep TPlace:=rIso (rPair rS (rI .i64)) fun x=>(x.Name,x.Tokens)
def oPlace:ORep TPlace:=oIso (oPair (fz rS) (fz (rI .i64))) fun x=>(x.Name,x.Tokens)
theorem flat_Place:Flat rPlace:=flat_iso (flat_pair flat_S (flat_I _))
theorem rPlace_open {G:Hp} {cs:List AV} {x:TPlace} (h:rPlace.R G cs x):cs=[.str x.Name,.int .i64 x.Tokens]:=by
 obtain ⟨_,_,rfl,rfl,rfl⟩:=h
 exact rfl
theorem rPlace_mk {G:Hp} {x:TPlace}  : rPlace.R G [.str x.Name,.int .i64 x.Tokens] x:=⟨[.str x.Name],[.int .i64 x.Tokens],rfl,rfl,rfl⟩
structure TArc where
 Place:Int
 N:Int
def rArc:Rep TArc:=rIso (rPair (rI .i64) (rI .i64)) fun x=>(x.Place,x.N)
def oArc:ORep TArc:=oIso (oPair (fz (rI .i64)) (fz (rI .i64))) fun x=>(x.Place,x.N)
theorem flat_Arc:Flat rArc:=flat_iso (flat_pair (flat_I _) (flat_I _))
theorem rArc_open {G:Hp} {cs:List AV} {x:TArc} (h:rArc.R G cs x):cs=[.int .i64 x.Place,.int .i64 x.N]:=by
 obtain ⟨_,_,rfl,rfl,rfl⟩:=h
 exact rfl
theorem rArc_mk {G:Hp} {x:TArc}  : rArc.R G [.int .i64 x.Place,.int .i64 x.N] x:=⟨[.int .i64 x.Place],[.int .i64 x.N],rfl,rfl,rfl⟩
structure TTrans where
 Name:List UInt8
 Delay:Int
 Prio:Int
 In:List TArc
 Not:List TArc
 Out:List TArc
def rTrans:Rep TTrans:=rIso (rPair (rPair (rPair (rPair (rPair rS (rI .i64)) (rI .i64)) (rSl rArc)) (rSl rArc)) (rSl rArc)) fun x=>(((((x.Name,x.Delay),x.Prio),x.In),x.Not),x.Out)
def oTrans:ORep TTrans:=oIso (oPair (oPair (oPair (oPair (oPair (fz rS) (fz (rI .i64))) (fz (rI .i64))) (oSl (fz rArc))) (oSl (fz rArc))) (oSl (fz rArc))) fun x=>(((((x.Name,x.Delay),x.Prio),x.In),x.Not),x.Out)
theorem rTrans_open {G:Hp} {cs:List AV} {x:TTrans} (h:rTrans.R G cs x):∃ c0 c1 c2,cs=[.str x.Name,.int .i64 x.Delay,.int .i64 x.Prio,c0,c1,c2]∧SlR rArc G c0 x.In∧SlR rArc G c1 x.Not∧SlR rArc G c2 x.Out:=by
 obtain ⟨_,_,rfl,⟨_,_,rfl,⟨_,_,rfl,⟨_,_,rfl,⟨_,_,rfl,rfl,rfl⟩,rfl⟩,⟨_,rfl,h1⟩⟩,⟨_,rfl,h2⟩⟩,⟨_,rfl,h3⟩⟩:=h
 exact ⟨_,_,_,rfl,h1,h2,h3⟩
theorem rTrans_mk {G:Hp} {x:TTrans} {c0 c1 c2:AV} (f1:SlR rArc G c0 x.In) (f2:SlR rArc G c1 x.Not) (f3:SlR rArc G c2 x.Out):rTrans.R G [.str x.Name,.int .i64 x.Delay,.int .i64 x.Prio,c0,c1,c2] x:=⟨[.str x.Name,.int .i64 x.Delay,.int .i64 x.Prio,c0,c1],[c2],rfl,⟨[.str x.Name,.int .i64 x.Delay,.int .i64 x.Prio,c0],[c1],rfl,⟨[.str x.Name,.int .i64 x.Delay,.int .i64 x.Prio],[c0],rfl,⟨[.str x.Name,.int .i64 x.Delay],[.int .i64 x.Prio],rfl,⟨[.str x.Name],[.int .i64 x.Delay],rfl,rfl,rfl⟩,rfl⟩,⟨_,rfl,f1⟩⟩,⟨_,rfl,f2⟩⟩,⟨_,rfl,f3⟩⟩
theorem oTrans_close {g h:Heap} {M:Nat→Prop} {Γ:List Ch} {c0 c1 c2:AV} {x:TTrans} (S:St g M (own (oSl (fz rArc)) [c0] x.In::own (oSl (fz rArc)) [c1] x.Not::own (oSl (fz rArc)) [c2] x.Out::Γ) h):St g M (own oTrans [.str x.Name,.int .i64 x.Delay,.int .i64 x.Prio,c0,c1,c2] x::Γ) h:=by
 have S:=St.addAt (r:=rS) (cs:=[.str x.Name]) (x:=x.Name) [] S rfl
 have S:=St.addAt (r:=(rI .i64)) (cs:=[.int .i64 x.Delay]) (x:=x.Delay) [own (fz rS) [.str x.Name] x.Name] S rfl
 have S:=St.addAt (r:=(rI .i64)) (cs:=[.int .i64 x.Prio]) (x:=x.Prio) [own (fz rS) [.str x.Name] x.Name,own (fz (rI .i64)) [.int .i64 x.Delay] x.Delay] S rfl
 exact (S.pair.pair.pair.pair.pair).iso (f:=fun x:TTrans=>(((((x.Name,x.Delay),x.Prio),x.In),x.Not),x.Out)) rfl
structure TNet where
 Places:List TPlace
 Trans:List TTrans
def rNet:Rep TNet:=rIso (rPair (rSl rPlace) (rSl rTrans)) fun x=>(x.Places,x.Trans)
def oNet:ORep TNet:=oIso (oPair (oSl (fz rPlace)) (oSl oTrans)) fun x=>(x.Places,x.Trans)
theorem rNet_open {G:Hp} {cs:List AV} {x:TNet} (h:rNet.R G cs x):∃ c0 c1,cs=[c0,c1]∧SlR rPlace G c0 x.Places∧SlR rTrans G c1 x.Trans:=by
 obtain ⟨_,_,rfl,⟨_,rfl,h1⟩,⟨_,rfl,h2⟩⟩:=h
 exact ⟨_,_,rfl,h1,h2⟩
theorem rNet_mk {G:Hp} {x:TNet} {c0 c1:AV} (f1:SlR rPlace G c0 x.Places) (f2:SlR rTrans G c1 x.Trans):rNet.R G [c0,c1] x:=⟨[c0],[c1],rfl,⟨_,rfl,f1⟩,⟨_,rfl,f2⟩⟩
theorem oNet_open {g h:Heap} {M:Nat→Prop} {Γ:List Ch} {cs:List AV} {x:TNet} (S:St g M (own oNet cs x::Γ) h):∃ c0 c1,cs=[c0,c1]∧St g M (own (oSl (fz rPlace)) [c0] x.Places::own (oSl oTrans) [c1] x.Trans::Γ) h:=by
 obtain ⟨b1,d1,rfl,-,-,S⟩:=St.unpair (x:=(x.Places,x.Trans)) S
 obtain ⟨z0,rfl,-⟩:=S.snap (r:=(oSl (fz rPlace))) (x:=x.Places) (.head _)
 obtain ⟨z1,rfl,-⟩:=S.snap (r:=(oSl oTrans)) (x:=x.Trans) (.tail _ (.head _))
 exact ⟨z0,z1,rfl,S⟩
theorem oNet_openL {g h:Heap} {M:Nat→Prop} {Γ:List Ch} {c0 c1:AV} {x:TNet} (S:St g M (own oNet [c0,c1] x::Γ) h):St g M (own (oSl (fz rPlace)) [c0] x.Places::own (oSl oTrans) [c1] x.Trans::Γ) h:=by
 obtain ⟨_,_,e,S⟩:=oNet_open S
 cases e
 exact S
theorem oNet_close {g h:Heap} {M:Nat→Prop} {Γ:List Ch} {c0 c1:AV} {x:TNet} (S:St g M (own (oSl (fz rPlace)) [c0] x.Places::own (oSl oTrans) [c1] x.Trans::Γ) h):St g M (own oNet [c0,c1] x::Γ) h:=by
 exact (S.pair).iso (f:=fun x:TNet=>(x.Places,x.Trans)) rfl
structure Tparser where
 p:List Int
 l:List TTokenlex
 f:TFault
 n:TNet
 places:List (List UInt8×Int)
 told:List (List UInt8×Bool)
def rparser:Rep Tparser:=rIso (rPair (rPair (rPair (rPair (rPair (rSl (rI .u8)) (rSl rTokenlex)) rFault) rNet) (rMap (List (List UInt8×Int)))) (rMap (List (List UInt8×Bool)))) fun x=>(((((x.p,x.l),x.f),x.n),x.places),x.told)
def oparser:ORep Tparser:=oIso (oPair (oPair (oPair (oPair (oPair (fz (rSl (rI .u8))) (oSl (fz rTokenlex))) (fz rFault)) oNet) (oMap keS (AV.int .i64))) (oMap keS AV.bool)) fun x=>(((((x.p,x.l),x.f),x.n),x.places),x.told)
theorem oparser_open {g h:Heap} {M:Nat→Prop} {Γ:List Ch} {cs:List AV} {x:Tparser} (S:St g M (own oparser cs x::Γ) h):∃ c0 c1 c2 c3 c4 c5,cs=[c0,c1,.int .i64 x.f.Err,.int .i64 x.f.At,.int .i64 x.f.Line,.int .i64 x.f.Col,c2,c3,c4,c5]∧St g M (own (fz (rSl (rI .u8))) [c0] x.p::own (oSl (fz rTokenlex)) [c1] x.l::own oNet [c2,c3] x.n::own (oMap keS (AV.int .i64)) [c4] x.places::own (oMap keS AV.bool) [c5] x.told::Γ) h:=by
 obtain ⟨b5,d5,rfl,-,-,S⟩:=St.unpair (x:=(((((x.p,x.l),x.f),x.n),x.places),x.told)) S
 obtain ⟨b4,d4,rfl,-,-,S⟩:=St.unpair (x:=((((x.p,x.l),x.f),x.n),x.places)) S
 obtain ⟨b3,d3,rfl,-,-,S⟩:=St.unpair (x:=(((x.p,x.l),x.f),x.n)) S
 obtain ⟨b2,d2,rfl,-,-,S⟩:=St.unpair (x:=((x.p,x.l),x.f)) S
 obtain ⟨b1,d1,rfl,-,-,S⟩:=St.unpair (x:=(x.p,x.l)) S
 obtain ⟨z0,rfl,-⟩:=S.snap (r:=(fz (rSl (rI .u8)))) (x:=x.p) (.head _)
 obtain ⟨z1,rfl,-⟩:=S.snap (r:=(oSl (fz rTokenlex))) (x:=x.l) (.tail _ (.head _))
 obtain rfl:=rFault_open (S.fzr (r:=rFault) (x:=x.f) (.tail _ (.tail _ (.head _))))
 have S:=St.dropAt [_,_] S
 obtain ⟨z3_0,z3_1,rfl,-,-⟩:=rNet_open (S.snap (r:=oNet) (x:=x.n) (.tail _ (.tail _ (.head _))))
 obtain ⟨z4,rfl,-⟩:=S.snap (r:=(oMap keS (AV.int .i64))) (x:=x.places) (.tail _ (.tail _ (.tail _ (.head _))))
 obtain ⟨z5,rfl,-⟩:=S.snap (r:=(oMap keS AV.bool)) (x:=x.told) (.tail _ (.tail _ (.tail _ (.tail _ (.head _)))))
 exact ⟨z0,z1,z3_0,z3_1,z4,z5,rfl,S⟩
theorem oparser_close {g h:Heap} {M:Nat→Prop} {Γ:List Ch} {c0 c1 c2 c3 c4 c5:AV} {x:Tparser} (S:St g M (own (fz (rSl (rI .u8))) [c0] x.p::own (oSl (fz rTokenlex)) [c1] x.l::own oNet [c2,c3] x.n::own (oMap keS (AV.int .i64)) [c4] x.places::own (oMap keS AV.bool) [c5] x.told::Γ) h):St g M (own oparser [c0,c1,.int .i64 x.f.Err,.int .i64 x.f.At,.int .i64 x.f.Line,.int .i64 x.f.Col,c2,c3,c4,c5] x::Γ) h:=by
 have S:=St.addAt (r:=rFault) (cs:=[.int .i64 x.f.Err,.int .i64 x.f.At,.int .i64 x.f.Line,.int .i64 x.f.Col]) (x:=x.f) [own (fz (rSl (rI .u8))) [c0] x.p,own (oSl (fz rTokenlex)) [c1] x.l] S rFault_mk
 exact (S.pair.pair.pair.pair.pair).iso (f:=fun x:Tparser=>(((((x.p,x.l),x.f),x.n),x.places),x.told)) rfl
theorem oparser_deref {g h:Heap} {M:Nat→Prop} {Γ:List Ch} {a:AV} {q:Option Tparser} {x:Tparser} (e:q=some x) (S:St g M (own (oPtr oparser) [a] q::Γ) h):∃ (o v:Nat) (c0 c1 c2 c3 c4 c5:AV),a=.ptr o v 0∧St g M (own (fz (rSl (rI .u8))) [c0] x.p::own (oSl (fz rTokenlex)) [c1] x.l::own (oSl (fz rPlace)) [c2] x.n.Places::own (oSl oTrans) [c3] x.n.Trans::own (oMap keS (AV.int .i64)) [c4] x.places::own (oMap keS AV.bool) [c5] x.told::rowC o [c0,c1,.int .i64 x.f.Err,.int .i64 x.f.At,.int .i64 x.f.Line,.int .i64 x.f.Col,c2,c3,c4,c5] v::Γ) h:=by
 subst e
 obtain ⟨o,v,row,e,S⟩:=St.ptrOpen S
 have S:=S.swap
 obtain ⟨c0,c1,c2,c3,c4,c5,e2,S⟩:=oparser_open S
 subst e2
 have S:=St.mvF [_,_] S
 have S:=oNet_openL S
 have S:=St.mvB [_,_] [_,_] S
 exact ⟨o,v,c0,c1,c2,c3,c4,c5,e,S⟩
theorem oparser_derefAt {g h:Heap} {M:Nat→Prop} {Γ:List Ch} {o v:Nat} {q:Option Tparser} {x:Tparser} (e:q=some x) (S:St g M (own (oPtr oparser) [.ptr o v 0] q::Γ) h):∃ (c0 c1 c2 c3 c4 c5:AV),St g M (own (fz (rSl (rI .u8))) [c0] x.p::own (oSl (fz rTokenlex)) [c1] x.l::own (oSl (fz rPlace)) [c2] x.n.Places::own (oSl oTrans) [c3] x.n.Trans::own (oMap keS (AV.int .i64)) [c4] x.places::own (oMap keS AV.bool) [c5] x.told::rowC o [c0,c1,.int .i64 x.f.Err,.int .i64 x.f.At,.int .i64 x.f.Line,.int .i64 x.f.Col,c2,c3,c4,c5] v::Γ) h:=by
 obtain ⟨o',v',c0,c1,c2,c3,c4,c5,e,S⟩:=oparser_deref e S
 cases e
 exact ⟨c0,c1,c2,c3,c4,c5,S⟩
theorem oparser_shut {g h:Heap} {M:Nat→Prop} {Γ:List Ch} {o v:Nat} {c0 c1 c2 c3 c4 c5:AV} {x:Tparser} (S:St g M (own (fz (rSl (rI .u8))) [c0] x.p::own (oSl (fz rTokenlex)) [c1] x.l::own (oSl (fz rPlace)) [c2] x.n.Places::own (oSl oTrans) [c3] x.n.Trans::own (oMap keS (AV.int .i64)) [c4] x.places::own (oMap keS AV.bool) [c5] x.told::rowC o [c0,c1,.int .i64 x.f.Err,.int .i64 x.f.At,.int .i64 x.f.Line,.int .i64 x.f.Col,c2,c3,c4,c5] v::Γ) h):St g M (own (oPtr oparser) [.ptr o v 0] (some x)::Γ) h:=by
 have S:=St.mvB [_,_] [_,_] S
 have S:=oNet_close (x:=x.n) S
 have S:=St.mvB [_] [_,_] S
 have S:=oparser_close (x:=x) S
 exact (S.swap).ptrClose
end Go.Am
