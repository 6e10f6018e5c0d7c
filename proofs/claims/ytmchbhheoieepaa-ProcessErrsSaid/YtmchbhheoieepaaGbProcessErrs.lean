/- Pure functions of the law's functions, and that these do so. No condition. Own work. -/
import Derived.Test.YtmchbhheoieepaaCProcessErrs
import Derived.Test.YtmchbhheoieepaaEProcessErrs
import Derived.Test.YtmchbhheoieepaaPProcessErrs
import Derived.Test.YtmchbhheoieepaaVm5ProcessErrs
import Derived.Test.YtmchbhheoieepaaGaProcessErrs
set_option linter.unusedVariables false
namespace Go.Proofs.Ytmchbhheoieepaa
open Go Go.Am
noncomputable section
def wN (x0:List UInt8) (y10:Nat) (b11:Bool):Option (Nat⊕(Unit⊕Unit)):=if b11=true then (some (.inr (.inl ()))) else (some (.inl (we x0 y10)))
def wj (x0:List UInt8) (y10:Nat) (b12:Bool):Option (Nat⊕(Unit⊕Unit)):=wN x0 y10 b12
def vZ (x0:List UInt8) (y10:Nat) (b13:Bool):Option (Nat⊕(Unit⊕Unit)):=wj x0 y10 b13
def wV (x0:List UInt8) (y10:Nat) (b14:Bool):Option (Nat⊕(Unit⊕Unit)):=vZ x0 y10 b14
def Ce (x0:List UInt8) (y10:Nat):Option (Nat⊕(Unit⊕Unit)):=if y10 < x0.length then (if (122:Int) < (mK x0 y10) then (wN x0 y10 true) else ((Jc (IntKind.wrap .u8 (mK x0 y10))).bind fun y15=>if (!y15)=true then (if (y10:Int)=(0:Int) then (vZ x0 y10 true) else ((Jp (IntKind.wrap .u8 (mK x0 y10))).bind fun y16=>if (!y16)=true then (wV x0 y10 (!decide ((mK x0 y10)=(46:Int)))) else (wV x0 y10 false))) else (wj x0 y10 false))) else (some (.inr (.inr ())))
def w9 (b17:Bool):Option Bool:=some b17
def p96 (x0:List UInt8):Option Bool:=(aq (Ce x0) 0).bind fun res18=>(match res18 with | .inl _=>some false | .inr _=>if (!(x0==([]:List UInt8)))=true then (w9 (decide ((x0.length:Int)≤(12:Int)))) else (w9 false))
def p73:List TPlace×List TTrans→Option Bool:=fun (x:List TPlace×List TTrans)=>
  (p95 (x.fst,x.snd)).bind fun (l1:List (List UInt8))=>
    (aq
          (fun (x2:Int×Option (List (List UInt8×Bool))×List (List UInt8))=>
            if x2.fst < (↑l1.length:Int) then
              (idx x2.snd.snd x2.fst).bind fun (l3:List UInt8)=>
                ((p96 l3).bind fun (b4:Bool)=>if (!b4)=true then some (Sum.inl (l3,x2.fst,true,x2.snd.fst,x2.snd.snd)) else some (Sum.inl (l3,x2.fst,(x2.snd.fst.bind fun (l5:List (List UInt8×Bool))=>qp keS l5 l3).getD false,x2.snd.fst,x2.snd.snd))).bind fun (x4:List UInt8×Int×Bool×Option (List (List UInt8×Bool))×List (List UInt8)⊕Int×Option (List (List UInt8×Bool))×List (List UInt8)⊕Unit⊕Unit)=>
                  match x4 with
                  | Sum.inl x=>if x.snd.snd.fst=true then some (Sum.inr (Sum.inr ())) else x.snd.snd.snd.fst.bind fun (l6:List (List UInt8×Bool))=>some (Sum.inl (IntKind.i64.wrap (x.snd.fst+1),some (lP keS l6 x.fst true),x.snd.snd.snd.snd))
                  | Sum.inr r=>some r
            else some (Sum.inr (Sum.inl ())))
          (0,some [],l1)).bind
      fun (x2:Unit⊕Unit)=>
      match x2 with
      | Sum.inl x=>some true
      | Sum.inr y=>some false
def zQ:Int×Int×TArc→Option (Bool×TArc):=fun (x:Int×Int×TArc)=>some (decide (x.fst=x.snd.snd.Place),x.snd.snd)
def Bh:List TArc×TArc→Option Int:=fun (x:List TArc×TArc)=>
  (aq (fun (x1:Int×Int×TArc)=>if x1.snd.fst < (↑x.fst.length:Int) then (idx x.fst x1.snd.fst).bind fun (x2:TArc)=>(zQ (x2.Place,x2.N,x1.snd.snd)).bind fun (x3:Bool×TArc)=>if x3.fst=true then some (Sum.inr (Sum.inr x1.snd.fst)) else some (Sum.inl (x1.fst,IntKind.i64.wrap (x1.snd.fst+1),x3.snd)) else some (Sum.inr (Sum.inl ()))) (0,0,x.snd)).bind fun (x1:Unit⊕Int)=>
    match x1 with
    | Sum.inl x=>some (-1)
    | Sum.inr y=>some y
def yE:List TArc×TArc→Option Bool:=fun (x:List TArc×TArc)=>(Bh (x.fst,x.snd)).bind fun (n1:Int)=>some (decide (0≤n1))
def p98:List TArc×Int→Option Int:=fun (x:List TArc×Int)=>
  (aq
        (fun (x1:Int×Int)=>
          if x1.snd < (↑x.fst.length:Int) then
            (idx x.fst x1.snd).bind fun (x2:TArc)=>
              (p97 (x2.N,1)).bind fun (b3:Bool)=>
                if b3=true then some (Sum.inr (Sum.inr 3))
                else
                  (if x2.Place < 0 then some (Sum.inl (x1.fst,x1.snd,x1.snd,true,x2)) else some (Sum.inl (x1.fst,x1.snd,x1.snd,decide (x.snd≤x2.Place),x2))).bind fun (x4:Int×Int×Int×Bool×TArc⊕Int×Int⊕Unit⊕Int)=>
                    match x4 with
                    | Sum.inl x_1=>if x_1.snd.snd.snd.fst=true then some (Sum.inr (Sum.inr 2)) else (slc x.fst 0 x_1.snd.fst).bind fun (l6:List TArc)=>(yE (l6,x_1.snd.snd.snd.snd)).bind fun (b7:Bool)=>if b7=true then some (Sum.inr (Sum.inr 1)) else some (Sum.inl (x_1.fst,IntKind.i64.wrap (x_1.snd.snd.fst+1)))
                    | Sum.inr r=>some r
          else some (Sum.inr (Sum.inl ())))
        (0,0)).bind
    fun (x1:Unit⊕Int)=>
    match x1 with
    | Sum.inl x=>some 0
    | Sum.inr y=>some y
def p74:List TPlace×List TTrans→Option Int:=fun (x:List TPlace×List TTrans)=>
  (aq (fun (x1:Int×Int×List TPlace×List TTrans)=>if x1.snd.fst < (↑x.fst.length:Int) then (idx x.fst x1.snd.fst).bind fun (x2:TPlace)=>(p97 (x2.Tokens,0)).bind fun (b3:Bool)=>if b3=true then some (Sum.inr (Sum.inr 3)) else some (Sum.inl (x1.fst,IntKind.i64.wrap (x1.snd.fst+1),x1.snd.snd.fst,x1.snd.snd.snd)) else some (Sum.inr (Sum.inl (x1.fst,x1.snd.snd.fst,x1.snd.snd.snd)))) (0,0,x.fst,x.snd)).bind fun (x1:Int×List TPlace×List TTrans⊕Int)=>
    match x1 with
    | Sum.inl x=>
      (aq
            (fun (x3:Int×Int×List TPlace×List TTrans)=>
              if x3.snd.fst < (↑x.snd.snd.length:Int) then
                (idx x.snd.snd x3.snd.fst).bind fun (x4:TTrans)=>
                  ((p97 (x4.Delay,0)).bind fun (b5:Bool)=>if b5=true then some (Sum.inl (x3.fst,x3.snd.fst,true,x3.snd.snd.fst,x3.snd.snd.snd,x4)) else (p97 (x4.Prio,0)).bind fun (b6:Bool)=>some (Sum.inl (x3.fst,x3.snd.fst,b6,x3.snd.snd.fst,x3.snd.snd.snd,x4))).bind fun (x5:Int×Int×Bool×List TPlace×List TTrans×TTrans⊕Int×Int×List TPlace×List TTrans⊕Unit⊕Int)=>
                    match x5 with
                    | Sum.inl x=>
                      if x.snd.snd.fst=true then some (Sum.inr (Sum.inr 3))
                      else
                        (aq (fun (x7:Int×Int×List TPlace×List TTrans×List (List TArc))=>if x7.snd.fst < (↑[x.snd.snd.snd.snd.snd.In,x.snd.snd.snd.snd.snd.Not,x.snd.snd.snd.snd.snd.Out].length:Int) then (idx x7.snd.snd.snd.snd x7.snd.fst).bind fun (l8:List TArc)=>(p98 (l8,(↑x7.snd.snd.fst.length:Int))).bind fun (n9:Int)=>if (!decide (n9=0))=true then some (Sum.inr (Sum.inr n9)) else some (Sum.inl (x7.fst,IntKind.i64.wrap (x7.snd.fst+1),x7.snd.snd.fst,x7.snd.snd.snd.fst,x7.snd.snd.snd.snd)) else some (Sum.inr (Sum.inl (x7.fst,x7.snd.snd.fst,x7.snd.snd.snd.fst)))) (x.fst,0,x.snd.snd.snd.fst,x.snd.snd.snd.snd.fst,[x.snd.snd.snd.snd.snd.In,x.snd.snd.snd.snd.snd.Not,x.snd.snd.snd.snd.snd.Out])).bind fun (x7:Int×List TPlace×List TTrans⊕Int)=>
                          match x7 with
                          | Sum.inl x_1=>some (Sum.inl (x_1.fst,IntKind.i64.wrap (x.snd.fst+1),x_1.snd.fst,x_1.snd.snd))
                          | Sum.inr y=>some (Sum.inr (Sum.inr y))
                    | Sum.inr r=>some r
              else some (Sum.inr (Sum.inl ())))
            (x.fst,0,x.snd.fst,x.snd.snd)).bind
        fun (x3:Unit⊕Int)=>
        match x3 with
        | Sum.inl x=>some 0
        | Sum.inr y=>some y
    | Sum.inr y=>some y
def p55:List TPlace×List TTrans→Option Int:=fun (x:List TPlace×List TTrans)=>
  (if 32 < (↑x.fst.length:Int) then some (Sum.inl ((0:Int),true,x.fst,x.snd)) else some (Sum.inl ((0:Int),decide (32 < (↑x.snd.length:Int)),x.fst,x.snd))).bind fun (x1:Int×Bool×List TPlace×List TTrans⊕Int)=>
    match x1 with
    | Sum.inl x=>
      if x.snd.fst=true then some 5
      else
        (aq (fun (x3:Int×Int×List TPlace×List TTrans)=>if x3.snd.fst < (↑x.snd.snd.snd.length:Int) then (idx x.snd.snd.snd x3.snd.fst).bind fun (x4:TTrans)=>(p72 [x4.In,x4.Not,x4.Out]).bind fun (b5:Bool)=>if b5=true then some (Sum.inr (Sum.inr 5)) else some (Sum.inl (x3.fst,IntKind.i64.wrap (x3.snd.fst+1),x3.snd.snd.fst,x3.snd.snd.snd)) else some (Sum.inr (Sum.inl (x3.snd.snd.fst,x3.snd.snd.snd)))) (x.fst,0,x.snd.snd.fst,x.snd.snd.snd)).bind fun (x3:List TPlace×List TTrans⊕Int)=>
          match x3 with
          | Sum.inl x=>(p73 (x.fst,x.snd)).bind fun (b5:Bool)=>if (!b5)=true then some 7 else (p74 (x.fst,x.snd)).bind fun (n6:Int)=>some n6
          | Sum.inr y=>some y
    | Sum.inr r=>some r
def p75:List TPlace→Option (List TPlace):=fun (x:List TPlace)=>((app 24 [] x).bind fun (l1:List TPlace)=>some l1)
def p76:List TTrans→Option (List TTrans):=fun (x:List TTrans)=>((app 104 [] x).bind fun (l1:List TTrans)=>some l1)
def p77:List TArc→Option (List TArc):=fun (x:List TArc)=>((app 16 [] x).bind fun (l1:List TArc)=>some l1)
def p56:List TPlace×List TTrans→Option (List TPlace×List TTrans):=fun (x:List TPlace×List TTrans)=>(p75 x.fst).bind fun (l1:List TPlace)=>(p76 x.snd).bind fun (l2:List TTrans)=>(aq (fun (x3:Int×TNet×TNet)=>if x3.fst < (↑l2.length:Int) then (idx x3.snd.snd.Trans x3.fst).bind fun (x4:TTrans)=>(p77 x4.In).bind fun (l5:List TArc)=>(p77 x4.Not).bind fun (l6:List TArc)=>(p77 x4.Out).bind fun (l7:List TArc)=>(idx (x3.snd.snd.Trans.set x3.fst.toNat { Name:=x4.Name,Delay:=x4.Delay,Prio:=x4.Prio,In:=l5,Not:=x4.Not,Out:=x4.Out }) x3.fst).bind fun (x8:TTrans)=>(idx ((x3.snd.snd.Trans.set x3.fst.toNat { Name:=x4.Name,Delay:=x4.Delay,Prio:=x4.Prio,In:=l5,Not:=x4.Not,Out:=x4.Out }).set x3.fst.toNat { Name:=x8.Name,Delay:=x8.Delay,Prio:=x8.Prio,In:=x8.In,Not:=l6,Out:=x8.Out }) x3.fst).bind fun (x9:TTrans)=>some (Sum.inl (IntKind.i64.wrap (x3.fst+1),x3.snd.fst,{ Places:=x3.snd.snd.Places,Trans:=((x3.snd.snd.Trans.set x3.fst.toNat { Name:=x4.Name,Delay:=x4.Delay,Prio:=x4.Prio,In:=l5,Not:=x4.Not,Out:=x4.Out }).set x3.fst.toNat { Name:=x8.Name,Delay:=x8.Delay,Prio:=x8.Prio,In:=x8.In,Not:=l6,Out:=x8.Out }).set x3.fst.toNat { Name:=x9.Name,Delay:=x9.Delay,Prio:=x9.Prio,In:=x9.In,Not:=x9.Not,Out:=l7 } })) else some (Sum.inr (x3.snd.fst,x3.snd.snd))) (0,{ Places:=[],Trans:=[] },{ Places:=l1,Trans:=l2 })).bind fun (x3:TNet×TNet)=>some (x3.snd.Places,x3.snd.Trans)
def q57:FSp:=⟨[(false,[.d false (.sl false (.st 5))])],[],[],[.ld 0 false,.ptr 0 0,.slot 0 false,.pr (.st 17)]⟩
def p57:List TLane→Option TBox:=fun (x:List TLane)=>(app 24 [] x).bind fun (l1:List TLane)=>(mkS 24 (↑x.length:Int) (↑x.length:Int) []).bind fun (l2:List (List TEvent))=>some { lanes:=l1,l:=l2,sent:=0 }
abbrev n57:En tE:=⟨57,[],q57,p57⟩
def q59:FSp:=⟨[(false,[.e false (.st 17) 0])],[],[],[.ld 0 false,.d true (.int .i64),.slot 0 false]⟩
def p59:TBox→Option Int:=fun (x:TBox)=>(aq (fun (x1:Int×Int)=>if x1.snd < (↑x.l.length:Int) then (idx x.l x1.snd).bind fun (l2:List TEvent)=>some (Sum.inl (IntKind.i64.wrap (x1.fst+(↑l2.length:Int)),IntKind.i64.wrap (x1.snd+1))) else some (Sum.inr x1.fst)) (0,0)).bind fun (n1:Int)=>some n1
abbrev n59:En tE:=⟨59,[],q59,p59⟩
def Ah:FSp:=⟨[(false,[.e false (.st 18) 0]),(false,[.c (.func 18 [])])],[],[],[.ld 0 false,.d true .bool,.slot 0 false]⟩
def s8:TKernel→Option Bool:=fun (x:TKernel)=>
  (aq (fun (n1:Int)=>if n1 < (↑x.l.length:Int) then (idx x.l n1).bind fun (x2:Option TProcess)=>x2.bind fun (x3:TProcess)=>(p18 x3).bind fun (b4:Bool)=>if (!b4)=true then some (Sum.inr (Sum.inr ())) else some (Sum.inl (IntKind.i64.wrap (n1+1))) else some (Sum.inr (Sum.inl ()))) 0).bind fun (x1:Unit⊕Unit)=>
    match x1 with
    | Sum.inl x=>some true
    | Sum.inr y=>some false
abbrev zO:En tE:=⟨58,[(1,18)],Ah,s8⟩
def q33:FSp:=⟨[(false,[.e false (.st 18) 0])],[],[],[.ld 0 false,.d true .bool,.slot 0 false]⟩
def L33:List (Nat×Lb):=[]
def H33:List (Nat×VT):=[]
def p33:TKernel→Option Bool:=fun (x:TKernel)=>if (!decide (x.e=0))=true then some false else (s8 x).bind fun (b1:Bool)=>if b1=true then x.box.bind fun (x2:TBox)=>(p59 x2).bind fun (n3:Int)=>some (decide (n3=0)) else some false
theorem e33:vfn (T:=tE) lpK H33 (a6 [zO,n59]) q33 Et.res (vOf Et.code L33)=p33:=by kernel_rfl
def p78:TBox×Int×Int→Option Int:=fun (x:TBox×Int×Int)=>(p25 (x.fst.lanes,x.snd.fst,x.snd.snd)).bind fun (n1:Int)=>if n1 < 0 then some 0 else (p25 (x.fst.lanes,x.snd.fst,x.snd.snd)).bind fun (n2:Int)=>(idx x.fst.l n2).bind fun (l3:List TEvent)=>some (↑l3.length:Int)
def p60:TKernel×Bool×Int×Int→Option Bool:=fun (x:TKernel×Bool×Int×Int)=>if (!decide (x.fst.e=0))=true then some false else if x.snd.fst=true then x.fst.box.bind fun (x1:TBox)=>(p78 (x1,x.snd.snd.fst,x.snd.snd.snd)).bind fun (n2:Int)=>some (decide (0 < n2)) else if 0≤x.snd.snd.fst then if x.snd.snd.fst < (↑x.fst.l.length:Int) then (idx x.fst.l x.snd.snd.fst).bind fun (x1:Option TProcess)=>x1.bind fun (x2:TProcess)=>(p16 x2).bind fun (b3:Bool)=>some b3 else some false else some false
def p61:Int×Int×TBox→Option (Int×Int×Int×Int×Int×Bool×TBox):=fun (x:Int×Int×TBox)=>(p78 (x.snd.snd,x.fst,x.snd.fst)).bind fun (n1:Int)=>if n1=0 then some (0,0,0,0,0,false,x.snd.snd) else (p25 (x.snd.snd.lanes,x.fst,x.snd.fst)).bind fun (n2:Int)=>(idx x.snd.snd.l n2).bind fun (l3:List TEvent)=>(idx l3 0).bind fun (x4:TEvent)=>(idx x.snd.snd.l n2).bind fun (l5:List TEvent)=>(idx (x.snd.snd.l.set n2.toNat l3) n2).bind fun (l6:List TEvent)=>(slc l6 1 (↑l6.length:Int)).bind fun (l7:List TEvent)=>(idx (x.snd.snd.l.set n2.toNat l3) n2).bind fun (l8:List TEvent)=>if n2.toNat=n2.toNat then some (x.fst,x.snd.fst,x4.Time,x4.Place,x4.N,true,{ lanes:=x.snd.snd.lanes,l:=(x.snd.snd.l.set n2.toNat l3).set n2.toNat l7,sent:=x.snd.snd.sent }) else none
def p62:Int×Int×Int×Int×Int×TBox→Option (Bool×TBox):=fun (x:Int×Int×Int×Int×Int×TBox)=>(p25 (x.snd.snd.snd.snd.snd.lanes,x.fst,x.snd.fst)).bind fun (n1:Int)=>if n1 < 0 then some (false,x.snd.snd.snd.snd.snd) else (p25 (x.snd.snd.snd.snd.snd.lanes,x.fst,x.snd.fst)).bind fun (n2:Int)=>(idx x.snd.snd.snd.snd.snd.l n2).bind fun (l3:List TEvent)=>(app 24 l3 [{ Time:=x.snd.snd.fst,Place:=x.snd.snd.snd.fst,N:=x.snd.snd.snd.snd.fst }]).bind fun (l4:List TEvent)=>(idx x.snd.snd.snd.snd.snd.l n2).bind fun (l5:List TEvent)=>if n2.toNat=n2.toNat then some (true,{ lanes:=x.snd.snd.snd.snd.snd.lanes,l:=x.snd.snd.snd.snd.snd.l.set n2.toNat l4,sent:=IntKind.i64.wrap (x.snd.snd.snd.snd.snd.sent+1) }) else none
def p34:Bool×Int×Int×TKernel→Option (Bool×Int×TKernel):=fun (x:Bool×Int×Int×TKernel)=>(p60 ({ n:=x.snd.snd.snd.n,l:=x.snd.snd.snd.l,lanes:=x.snd.snd.snd.lanes,box:=x.snd.snd.snd.box,e:=x.snd.snd.snd.e,picks:=IntKind.i64.wrap (x.snd.snd.snd.picks+1),moves:=x.snd.snd.snd.moves },x.fst,x.snd.fst,x.snd.snd.fst)).bind fun (b1:Bool)=>if (!b1)=true then some (false,x.snd.snd.snd.e,{ n:=x.snd.snd.snd.n,l:=x.snd.snd.snd.l,lanes:=x.snd.snd.snd.lanes,box:=x.snd.snd.snd.box,e:=x.snd.snd.snd.e,picks:=IntKind.i64.wrap (x.snd.snd.snd.picks+1),moves:=x.snd.snd.snd.moves }) else if x.fst=true then x.snd.snd.snd.box.bind fun (x2:TBox)=>(p61 (x.snd.fst,x.snd.snd.fst,x2)).bind fun (x3:Int×Int×Int×Int×Int×Bool×TBox)=>(idx x.snd.snd.snd.l x.snd.snd.fst).bind fun (x4:Option TProcess)=>x4.bind fun (x5:TProcess)=>(p22 (x3.fst,x3.snd.fst,x3.snd.snd.fst,x3.snd.snd.snd.fst,x3.snd.snd.snd.snd.fst,x5)).bind fun (x6:TProcess)=>some (true,0,{ n:=x.snd.snd.snd.n,l:=x.snd.snd.snd.l.set x.snd.snd.fst.toNat (some x6),lanes:=x.snd.snd.snd.lanes,box:=some x3.snd.snd.snd.snd.snd.snd,e:=x.snd.snd.snd.e,picks:=IntKind.i64.wrap (x.snd.snd.snd.picks+1),moves:=IntKind.i64.wrap (x.snd.snd.snd.moves+1) }) else (idx x.snd.snd.snd.l x.snd.fst).bind fun (x2:Option TProcess)=>x2.bind fun (x3:TProcess)=>(p17 x3).bind fun (x4:Int×List TMail×TProcess)=>(aq (fun (x5:Int×TKernel×List TMail)=>if x5.fst < (↑x4.snd.fst.length:Int) then (idx x5.snd.snd x5.fst).bind fun (x6:TMail)=>x5.snd.fst.box.bind fun (x7:TBox)=>(p62 (x6.From,x6.To,x6.E.Time,x6.E.Place,x6.E.N,x7)).bind fun (x8:Bool×TBox)=>some (Sum.inl (IntKind.i64.wrap (x5.fst+1),{ n:=x5.snd.fst.n,l:=x5.snd.fst.l,lanes:=x5.snd.fst.lanes,box:=some x8.snd,e:=x5.snd.fst.e,picks:=x5.snd.fst.picks,moves:=x5.snd.fst.moves },x5.snd.snd)) else some (Sum.inr x5.snd.fst)) (0,{ n:=x.snd.snd.snd.n,l:=x.snd.snd.snd.l.set x.snd.fst.toNat (some x4.snd.snd),lanes:=x.snd.snd.snd.lanes,box:=x.snd.snd.snd.box,e:=x.snd.snd.snd.e,picks:=IntKind.i64.wrap (x.snd.snd.snd.picks+1),moves:=IntKind.i64.wrap (x.snd.snd.snd.moves+1) },x4.snd.fst)).bind fun (x5:TKernel)=>some (true,x4.fst,{ n:=x5.n,l:=x5.l,lanes:=x5.lanes,box:=x5.box,e:=x4.fst,picks:=x5.picks,moves:=x5.moves })
def q28:FSp:=⟨[(false,[.ptr 0 0]),(false,[.d false (.sl false (.st 19))])],[.pr (.st 18)],[0],[.ld 0 false,.d true (.int .i64),.slot 0 false,.ld 1 false,.ptr 0 0,.slot 1 false,.pr (.st 18)]⟩
def p28:List TPick×TKernel→Option (Int×TKernel):=fun (x:List TPick×TKernel)=>
  (aq (fun (x1:Int×Int×TKernel)=>if x1.snd.fst < (↑x.fst.length:Int) then (idx x.fst x1.snd.fst).bind fun (x2:TPick)=>(p33 x1.snd.snd).bind fun (b3:Bool)=>if b3=true then some (Sum.inr (Sum.inl x1.snd.snd)) else (p34 (x2.Deliver,x2.A,x2.B,x1.snd.snd)).bind fun (x4:Bool×Int×TKernel)=>if (!decide (x4.snd.fst=0))=true then some (Sum.inr (Sum.inr (x4.snd.fst,x4.snd.snd))) else some (Sum.inl (x1.fst,IntKind.i64.wrap (x1.snd.fst+1),x4.snd.snd)) else some (Sum.inr (Sum.inl x1.snd.snd))) (0,0,x.snd)).bind fun (x1:TKernel⊕Int×TKernel)=>
    match x1 with
    | Sum.inl x=>if (!decide (x.e=0))=true then some (x.e,x) else (p33 x).bind fun (b3:Bool)=>if (!b3)=true then some (8,x) else some (0,x)
    | Sum.inr y=>some (y.fst,y.snd)
abbrev n28:En tE:=⟨28,[],q28,p28⟩
def q29:FSp:=⟨[(false,[.e false (.st 18) 0])],[],[],[.ld 0 false,.r 0,.slot 0 false,.sl (.st 19)]⟩
def L29:List (Nat×Lb):=[(7,.l [.ld 0 false,.e false (.st 18) 0,.slot 0 false,.ld 13 false,.d true (.int .i64),.slot 13 false] [.ld 3 false,.r 0,.slot 3 false,.ld 14 false,.d true (.int .i64),.slot 14 false,.sl (.st 19)] [(some 0,[.ld 3 false,.r 0,.slot 3 false,.sl (.st 19)])]),(14,.l [.ld 26 false,.d false (.sl true (.st 5)),.slot 26 false,.ld 27 false,.d true (.int .i64),.slot 27 false] [.ld 3 false,.r 0,.slot 3 false,.ld 28 false,.d true (.int .i64),.slot 28 false,.sl (.st 19)] [(some 2,[.ld 3 false,.r 0,.slot 3 false,.sl (.st 19)])])]
def H29:List (Nat×VT):=[(20,(.st 19)),(38,(.st 19))]
def p29:TKernel→Option (List TPick):=fun (x:TKernel)=>(aq (fun (x1:Int×List TPick)=>if x1.fst < (↑x.l.length:Int) then (app 24 x1.snd [{ Deliver:=false,A:=x1.fst,B:=0 }]).bind fun (l2:List TPick)=>some (Sum.inl (IntKind.i64.wrap (x1.fst+1),l2)) else some (Sum.inr x1.snd)) (0,[])).bind fun (l1:List TPick)=>(aq (fun (x2:Int×List TPick)=>if x2.fst < (↑x.lanes.length:Int) then (idx x.lanes x2.fst).bind fun (x3:TLane)=>(app 24 x2.snd [{ Deliver:=true,A:=x3.From,B:=x3.To }]).bind fun (l4:List TPick)=>some (Sum.inl (IntKind.i64.wrap (x2.fst+1),l4)) else some (Sum.inr x2.snd)) (0,l1)).bind fun (l2:List TPick)=>some l2
theorem e29:vfn (T:=tE) lpK H29 (a6 []) q29 Ec.res (vOf Ec.code L29)=p29:=by kernel_rfl
abbrev n29:En tE:=⟨29,[],q29,p29⟩
def q30:FSp:=⟨[(false,[.e false (.st 18) 0])],[],[],[.ld 0 false,.r 0,.slot 0 false,.sl (.st 12)]⟩
def L30:List (Nat×Lb):=[(7,.l [.ld 11 false,.d false (.sl true (.pt (.st 11))),.slot 11 false,.ld 12 false,.d true (.int .i64),.slot 12 false] [.ld 3 false,.r 0,.slot 3 false,.ld 13 false,.d true (.int .i64),.slot 13 false,.sl (.st 12)] [(some 0,[.ld 3 false,.r 0,.slot 3 false,.sl (.st 12)])])]
def H30:List (Nat×VT):=[(20,(.st 12))]
def p30:TKernel→Option (List TResult):=fun (x:TKernel)=>(aq (fun (x1:Int×List TResult)=>if x1.fst < (↑x.l.length:Int) then (idx x.l x1.fst).bind fun (x2:Option TProcess)=>x2.bind fun (x3:TProcess)=>(p20 x3).bind fun (x4:Int×List TFire×List Int×List Int)=>(app 80 x1.snd [{ Log:=x4.snd.fst,Marks:=x4.snd.snd.fst,Way:=x4.snd.snd.snd,Time:=x4.fst }]).bind fun (l5:List TResult)=>some (Sum.inl (IntKind.i64.wrap (x1.fst+1),l5)) else some (Sum.inr x1.snd)) (0,[])).bind fun (l1:List TResult)=>some l1
theorem e30:vfn (T:=tE) lpK H30 (a6 [n20]) q30 Ey.res (vOf Ey.code L30)=p30:=by kernel_rfl
abbrev n30:En tE:=⟨30,[],q30,p30⟩
def p54:TKernel→Option (List TLane):=fun (x:TKernel)=>(app 24 [] x.lanes).bind fun (l1:List TLane)=>some l1
def q27:FSp:=⟨[(true,[.d false (.sl false (.st 2)),.d true (.sl false (.st 1))]),(true,[.d true (.int .i64),.d true (.sl false (.int .i64)),.d true (.sl false (.int .i64))]),(false,[.d true (.int .i64)])],[],[],[.ld 0 false,.r 0,.slot 0 false,.ld 1 false,.d true (.int .i64),.slot 1 false,.po (.st 18)]⟩
def p27:List TPlace×List TTrans×Int×List Int×List Int×Int→Option (Int×Option TKernel):=fun (x:List TPlace×List TTrans×Int×List Int×List Int×Int)=>(p55 (x.fst,x.snd.fst)).bind fun (n1:Int)=>if (!decide (n1=0))=true then some (n1,none) else (p36 (x.fst,x.snd.fst,x.snd.snd.fst,x.snd.snd.snd.fst,x.snd.snd.snd.snd.fst)).bind fun (n2:Int)=>if (!decide (n2=0))=true then some (n2,none) else (p56 (x.fst,x.snd.fst)).bind fun (x3:List TPlace×List TTrans)=>(p24 (x.fst,x.snd.fst,x.snd.snd.fst,x.snd.snd.snd.fst,x.snd.snd.snd.snd.fst)).bind fun (l4:List TLane)=>(p57 l4).bind fun (x5:TBox)=>(aq (fun (x6:Int×Int×List Int×List Int×List TPlace×List TTrans×Int×Int×Int×List (Option TProcess)×List TLane×TBox)=>if x6.fst < x.snd.snd.fst then (p14 (x6.snd.snd.snd.snd.fst,x6.snd.snd.snd.snd.snd.fst,x6.snd.fst,x6.snd.snd.fst,x6.snd.snd.snd.fst,x6.fst,x.snd.snd.snd.snd.snd)).bind fun (x7:Int×Option TProcess)=>(app 8 x6.snd.snd.snd.snd.snd.snd.snd.snd.snd.fst [x7.snd]).bind fun (l8:List (Option TProcess))=>some (Sum.inl (IntKind.i64.wrap (x6.fst+1),x6.snd.fst,x6.snd.snd.fst,x6.snd.snd.snd.fst,x6.snd.snd.snd.snd.fst,x6.snd.snd.snd.snd.snd.fst,x6.snd.snd.snd.snd.snd.snd.fst,x6.snd.snd.snd.snd.snd.snd.snd.fst,x6.snd.snd.snd.snd.snd.snd.snd.snd.fst,l8,x6.snd.snd.snd.snd.snd.snd.snd.snd.snd.snd.fst,x6.snd.snd.snd.snd.snd.snd.snd.snd.snd.snd.snd)) else some (Sum.inr { n:={ Places:=x6.snd.snd.snd.snd.fst,Trans:=x6.snd.snd.snd.snd.snd.fst },l:=x6.snd.snd.snd.snd.snd.snd.snd.snd.snd.fst,lanes:=x6.snd.snd.snd.snd.snd.snd.snd.snd.snd.snd.fst,box:=some x6.snd.snd.snd.snd.snd.snd.snd.snd.snd.snd.snd,e:=x6.snd.snd.snd.snd.snd.snd.fst,picks:=x6.snd.snd.snd.snd.snd.snd.snd.fst,moves:=x6.snd.snd.snd.snd.snd.snd.snd.snd.fst })) (0,x.snd.snd.fst,x.snd.snd.snd.fst,x.snd.snd.snd.snd.fst,x3.fst,x3.snd,0,0,0,[],l4,x5)).bind fun (x6:TKernel)=>some (0,some x6)
abbrev n27:En tE:=⟨27,[],q27,p27⟩
def q26:FSp:=⟨[],[],[],[.ld 0 false,.d true .bool,.slot 0 false]⟩
def p26:Unit→Option Bool:=fun (x:Unit)=>
  (p27 ([{ Name:=[112],Tokens:=1 },{ Name:=[113],Tokens:=0 }],[{ Name:=[116],Delay:=2,Prio:=0,In:=[{ Place:=0,N:=1 }],Not:=[],Out:=[{ Place:=1,N:=1 }] }],2,[0,1],[0],5)).bind fun (x1:Int×Option TKernel)=>
    (if (!decide (x1.fst=0))=true then some (Sum.inl (true,x1.snd)) else some (Sum.inl (x1.snd.isNone,x1.snd))).bind fun (x2:Bool×Option TKernel⊕Bool)=>
      match x2 with
      | Sum.inl x=>
        if x.fst=true then some false
        else
          (aq
                (fun (x4:Int×Option TKernel)=>
                  (if x4.fst < 20 then x4.snd.bind fun (x5:TKernel)=>(p33 x5).bind fun (b6:Bool)=>some (Sum.inl (x4.fst,!b6,x4.snd)) else some (Sum.inl (x4.fst,false,x4.snd))).bind fun (x5:Int×Bool×Option TKernel⊕Int×Option TKernel⊕Option TKernel)=>
                    match x5 with
                    | Sum.inl x=>if x.snd.fst=true then x.snd.snd.bind fun (x7:TKernel)=>(p29 x7).bind fun (l8:List TPick)=>x.snd.snd.bind fun (x9:TKernel)=>(p28 (l8,x9)).bind fun (x10:Int×TKernel)=>some (Sum.inl (IntKind.i64.wrap (x.fst+1),some x10.snd)) else some (Sum.inr x.snd.snd)
                    | Sum.inr r=>some r)
                (0,x.snd)).bind
            fun (x4:Option TKernel)=>x4.bind fun (x5:TKernel)=>(p33 x5).bind fun (b6:Bool)=>if b6=true then x4.bind fun (x7:TKernel)=>(p30 x7).bind fun (l8:List TResult)=>if (↑l8.length:Int)=2 then x4.bind fun (x9:TKernel)=>(p54 x9).bind fun (l10:List TLane)=>some (decide ((↑l10.length:Int)=1)) else some false else some false
      | Sum.inr r=>some r
abbrev n26:En tE:=⟨26,[],q26,p26⟩
def q31:FSp:=⟨[(true,[.d false (.sl false (.st 2)),.d false (.sl false (.st 1))]),(false,[.d false (.sl false (.st 12))])],[],[],[.ld 0 false,.d true .bool,.slot 0 false]⟩
def L31:List (Nat×Lb):=[(3,.l [.ld 1 false,.d false (.sl false (.st 12)),.slot 1 false] [.ld 2 false,.ptr 0 0,.slot 2 false,.ld 4 false,.c (.bool false),.slot 4 false,.ld 5 false,.d true (.int .i64),.slot 5 false,.ldr,.d false (.sl false (.st 2)),.d false (.sl false (.st 1)),.row] [(some 0,[]),(none,[.ld 4 false,.c (.bool false),.slot 4 false])]),(8,.j [.ld 2 false,.ptr 0 0,.slot 2 false,.ld 4 false,.c (.bool false),.slot 4 false,.ld 5 false,.d true (.int .i64),.slot 5 false,.ld 34 false,.d true .bool,.slot 34 false,.ldr,.d false (.sl false (.st 2)),.d false (.sl false (.st 1)),.row]),(11,.l [.ld 5 false,.d true (.int .i64),.slot 5 false] [.ld 2 false,.ptr 0 0,.slot 2 false,.ld 4 false,.c (.bool false),.slot 4 false,.ld 6 false,.d true (.int .i64),.slot 6 false,.ldr,.d false (.sl false (.st 2)),.d false (.sl false (.st 1)),.row] [(some 2,[.ld 2 false,.ptr 0 0,.slot 2 false,.ld 4 false,.c (.bool false),.slot 4 false,.ldr,.d false (.sl false (.st 2)),.d false (.sl false (.st 1)),.row]),(none,[.ld 4 false,.c (.bool false),.slot 4 false])]),(15,.j [.ld 2 false,.ptr 0 0,.slot 2 false,.ld 4 false,.c (.bool false),.slot 4 false,.ld 6 false,.d true (.int .i64),.slot 6 false,.ld 69 false,.d true .bool,.slot 69 false,.ldr,.d false (.sl false (.st 2)),.d false (.sl false (.st 1)),.row])]
def H31:List (Nat×VT):=[]
def p31:List TPlace×List TTrans×List TResult→Option Bool:=fun (x:List TPlace×List TTrans×List TResult)=>
  (aq
        (fun (x1:Int×List TPlace×List TTrans)=>
          if x1.fst < (↑x.snd.snd.length:Int) then
            ((idx x.snd.snd x1.fst).bind fun (x2:TResult)=>if (!decide ((↑x2.Marks.length:Int)=(↑x1.snd.fst.length:Int)))=true then some (Sum.inl (x1.fst,true,x1.snd.fst,x1.snd.snd)) else (idx x.snd.snd x1.fst).bind fun (x3:TResult)=>some (Sum.inl (x1.fst,!decide ((↑x3.Way.length:Int)=(↑x1.snd.fst.length:Int)),x1.snd.fst,x1.snd.snd))).bind fun (x2:Int×Bool×List TPlace×List TTrans⊕Int×List TPlace×List TTrans⊕Unit⊕Unit)=>
              match x2 with
              | Sum.inl x_1=>
                if x_1.snd.fst=true then some (Sum.inr (Sum.inr ()))
                else
                  (aq
                        (fun (x4:Int×List TPlace×List TTrans)=>
                          (idx x.snd.snd x_1.fst).bind fun (x5:TResult)=>
                            if x4.fst < (↑x5.Log.length:Int) then
                              ((idx x.snd.snd x_1.fst).bind fun (x6:TResult)=>(idx x6.Log x4.fst).bind fun (x7:TFire)=>if x7.Trans < 0 then some (Sum.inl (x4.fst,true,x4.snd.fst,x4.snd.snd)) else (idx x.snd.snd x_1.fst).bind fun (x8:TResult)=>(idx x8.Log x4.fst).bind fun (x9:TFire)=>some (Sum.inl (x4.fst,decide ((↑x4.snd.snd.length:Int)≤x9.Trans),x4.snd.fst,x4.snd.snd))).bind fun (x6:Int×Bool×List TPlace×List TTrans⊕Int×List TPlace×List TTrans⊕List TPlace×List TTrans⊕Unit)=>
                                match x6 with
                                | Sum.inl x=>if x.snd.fst=true then some (Sum.inr (Sum.inr ())) else some (Sum.inl (IntKind.i64.wrap (x.fst+1),x.snd.snd.fst,x.snd.snd.snd))
                                | Sum.inr r=>some r
                            else some (Sum.inr (Sum.inl (x4.snd.fst,x4.snd.snd))))
                        (0,x_1.snd.snd.fst,x_1.snd.snd.snd)).bind
                    fun (x4:List TPlace×List TTrans⊕Unit)=>
                    match x4 with
                    | Sum.inl x=>some (Sum.inl (IntKind.i64.wrap (x_1.fst+1),x.fst,x.snd))
                    | Sum.inr y=>some (Sum.inr (Sum.inr ()))
              | Sum.inr r=>some r
          else some (Sum.inr (Sum.inl ())))
        (0,x.fst,x.snd.fst)).bind
    fun (x1:Unit⊕Unit)=>
    match x1 with
    | Sum.inl x=>some true
    | Sum.inr y=>some false
theorem e31:vfn (T:=tE) lpK H31 (a6 []) q31 Eh.res (vOf Eh.code L31)=p31:=by kernel_rfl
def q32:FSp:=⟨[(true,[.d false (.sl false (.st 2)),.d false (.sl false (.st 1))]),(false,[.d false (.sl false (.int .i64))]),(false,[.d false (.sl false (.st 12))])],[],[],[.ld 0 true,.r 0,.r 1,.r 2,.d true (.int .i64),.slot 0 true,.sl (.st 8),.sl (.int .i64),.sl (.int .i64)]⟩
def L32:List (Nat×Lb):=[(4,.l [.ld 1 false,.d false (.sl false (.int .i64)),.slot 1 false,.ld 2 false,.d false (.sl false (.st 12)),.slot 2 false] [.ld 3 false,.ptr 0 0,.slot 3 false,.ld 6 false,.ptr 1 0,.slot 6 false,.ld 7 false,.ptr 2 0,.slot 7 false,.ld 8 false,.r 3,.slot 8 false,.ldr,.d false (.sl false (.st 2)),.d false (.sl false (.st 1)),.row,.ldr,.c .nilSlice,.c .nilSlice,.c .nilSlice,.d true (.int .i64),.row,.ldr,.r 4,.c .nilSlice,.c .nilSlice,.d true (.int .i64),.row,.sl (.int .i64),.sl (.st 8)] [(some 0,[.ld 6 false,.ptr 0 0,.slot 6 false,.ld 7 false,.ptr 1 0,.slot 7 false,.ldr,.c .nilSlice,.c .nilSlice,.c .nilSlice,.d true (.int .i64),.row,.ldr,.r 2,.c .nilSlice,.c .nilSlice,.d true (.int .i64),.row,.sl (.st 8)])]),(8,.l [] [.ld 3 false,.ptr 0 0,.slot 3 false,.ld 6 false,.ptr 1 0,.slot 6 false,.ld 7 false,.ptr 2 0,.slot 7 false,.ld 8 false,.r 3,.slot 8 false,.ld 9 false,.d true (.int .i64),.slot 9 false,.ld 10 false,.d true (.int .i64),.slot 10 false,.ldr,.d false (.sl false (.st 2)),.d false (.sl false (.st 1)),.row,.ldr,.c .nilSlice,.c .nilSlice,.c .nilSlice,.d true (.int .i64),.row,.ldr,.r 4,.c .nilSlice,.c .nilSlice,.d true (.int .i64),.row,.sl (.int .i64),.sl (.st 8)] [(some 2,[.ld 3 false,.ptr 0 0,.slot 3 false,.ld 6 false,.ptr 1 0,.slot 6 false,.ld 7 false,.ptr 2 0,.slot 7 false,.ld 8 false,.r 3,.slot 8 false,.ld 9 false,.d true (.int .i64),.slot 9 false,.ldr,.d false (.sl false (.st 2)),.d false (.sl false (.st 1)),.row,.ldr,.c .nilSlice,.c .nilSlice,.c .nilSlice,.d true (.int .i64),.row,.ldr,.r 4,.c .nilSlice,.c .nilSlice,.d true (.int .i64),.row,.sl (.int .i64),.sl (.st 8)])]),(20,.j [.ld 3 false,.ptr 0 0,.slot 3 false,.ld 6 false,.ptr 1 0,.slot 6 false,.ld 7 false,.ptr 2 0,.slot 7 false,.ld 8 false,.r 3,.slot 8 false,.ld 9 false,.d true (.int .i64),.slot 9 false,.ld 10 false,.d true (.int .i64),.slot 10 false,.ld 103 false,.d true .bool,.slot 103 false,.ldr,.d false (.sl false (.st 2)),.d false (.sl false (.st 1)),.row,.ldr,.c .nilSlice,.c .nilSlice,.c .nilSlice,.d true (.int .i64),.row,.ldr,.r 4,.c .nilSlice,.c .nilSlice,.d true (.int .i64),.row,.sl (.int .i64),.sl (.st 8)]),(26,.l [.ld 1 false,.d false (.sl false (.int .i64)),.slot 1 false,.ld 2 false,.d false (.sl false (.st 12)),.slot 2 false] [.ld 6 false,.ptr 0 0,.slot 6 false,.ld 7 false,.ptr 1 0,.slot 7 false,.ld 15 false,.d true (.int .i64),.slot 15 false,.ldr,.c .nilSlice,.c .nilSlice,.c .nilSlice,.d true (.int .i64),.row,.ldr,.r 2,.r 3,.r 4,.d true (.int .i64),.row,.sl (.st 8),.sl (.int .i64),.sl (.int .i64)] [(some 4,[.ld 6 false,.ptr 0 0,.slot 6 false,.ld 7 false,.ptr 1 0,.slot 7 false,.ldr,.c .nilSlice,.c .nilSlice,.c .nilSlice,.d true (.int .i64),.row,.ldr,.r 2,.r 3,.r 4,.d true (.int .i64),.row,.sl (.st 8),.sl (.int .i64),.sl (.int .i64)])]),(33,.l [.ld 2 false,.d false (.sl false (.st 12)),.slot 2 false] [.ld 6 false,.ptr 0 0,.slot 6 false,.ld 7 false,.ptr 1 0,.slot 7 false,.ld 16 false,.d true (.int .i64),.slot 16 false,.ldr,.c .nilSlice,.c .nilSlice,.c .nilSlice,.d true (.int .i64),.row,.ldr,.r 2,.r 3,.r 4,.d true (.int .i64),.row,.sl (.st 8),.sl (.int .i64),.sl (.int .i64)] [(some 6,[.ld 6 false,.ptr 0 0,.slot 6 false,.ld 7 false,.ptr 1 0,.slot 7 false,.ldr,.c .nilSlice,.c .nilSlice,.c .nilSlice,.d true (.int .i64),.row,.ldr,.r 2,.r 3,.r 4,.d true (.int .i64),.row,.sl (.st 8),.sl (.int .i64),.sl (.int .i64)])])]
def H32:List (Nat×VT):=[(19,(.int .i64)),(120,(.st 8)),(148,(.int .i64)),(164,(.int .i64))]
def p32:List TPlace×List TTrans×List Int×List TResult→Option (Int×List TFire×List Int×List Int):=fun (x:List TPlace×List TTrans×List Int×List TResult)=>
  (mkS 8 (↑x.snd.snd.snd.length:Int) (↑x.snd.snd.snd.length:Int) 0).bind fun (l1:List Int)=>
    (aq
          (fun (x2:List TPlace×List TTrans×Int×Int×List Int×List TFire)=>
            (aq
                  (fun (x3:Int×Int×List TPlace×List TTrans×Int×Int×List Int×List TFire)=>
                    if x3.snd.fst < (↑x.snd.snd.snd.length:Int) then
                      (idx x3.snd.snd.snd.snd.snd.snd.fst x3.snd.fst).bind fun (n4:Int)=>
                        (idx x.snd.snd.snd x3.snd.fst).bind fun (x5:TResult)=>
                          if n4=(↑x5.Log.length:Int) then some (Sum.inl (x3.fst,IntKind.i64.wrap (x3.snd.fst+1),x3.snd.snd.fst,x3.snd.snd.snd.fst,x3.snd.snd.snd.snd.fst,x3.snd.snd.snd.snd.snd.fst,x3.snd.snd.snd.snd.snd.snd.fst,x3.snd.snd.snd.snd.snd.snd.snd))
                          else
                            (idx x.snd.snd.snd x3.snd.fst).bind fun (x6:TResult)=>
                              (idx x3.snd.snd.snd.snd.snd.snd.fst x3.snd.fst).bind fun (n7:Int)=>
                                (idx x6.Log n7).bind fun (x8:TFire)=>
                                  if 0≤x3.fst then
                                    (idx x.snd.snd.snd x3.fst).bind fun (x9:TResult)=>
                                      (idx x3.snd.snd.snd.snd.snd.snd.fst x3.fst).bind fun (n10:Int)=>
                                        (idx x9.Log n10).bind fun (x11:TFire)=>
                                          (idx x3.snd.snd.snd.fst x8.Trans).bind fun (x12:TTrans)=>
                                            (idx x3.snd.snd.snd.fst x11.Trans).bind fun (x13:TTrans)=>
                                              (if x11.Time < x8.Time then some (Sum.inl (x3.fst,x3.snd.fst,true,x3.snd.snd.fst,x3.snd.snd.snd.fst,x3.snd.snd.snd.snd.fst,x3.snd.snd.snd.snd.snd.fst,x3.snd.snd.snd.snd.snd.snd.fst,x3.snd.snd.snd.snd.snd.snd.snd)) else if x8.Time=x11.Time then if x13.Prio < x12.Prio then some (Sum.inl (x3.fst,x3.snd.fst,true,x3.snd.snd.fst,x3.snd.snd.snd.fst,x3.snd.snd.snd.snd.fst,x3.snd.snd.snd.snd.snd.fst,x3.snd.snd.snd.snd.snd.snd.fst,x3.snd.snd.snd.snd.snd.snd.snd)) else if x12.Prio=x13.Prio then some (Sum.inl (x3.fst,x3.snd.fst,decide (x11.Trans≤x8.Trans),x3.snd.snd.fst,x3.snd.snd.snd.fst,x3.snd.snd.snd.snd.fst,x3.snd.snd.snd.snd.snd.fst,x3.snd.snd.snd.snd.snd.snd.fst,x3.snd.snd.snd.snd.snd.snd.snd)) else some (Sum.inl (x3.fst,x3.snd.fst,false,x3.snd.snd.fst,x3.snd.snd.snd.fst,x3.snd.snd.snd.snd.fst,x3.snd.snd.snd.snd.snd.fst,x3.snd.snd.snd.snd.snd.snd.fst,x3.snd.snd.snd.snd.snd.snd.snd)) else some (Sum.inl (x3.fst,x3.snd.fst,false,x3.snd.snd.fst,x3.snd.snd.snd.fst,x3.snd.snd.snd.snd.fst,x3.snd.snd.snd.snd.snd.fst,x3.snd.snd.snd.snd.snd.snd.fst,x3.snd.snd.snd.snd.snd.snd.snd))).bind fun (x14:Int×Int×Bool×List TPlace×List TTrans×Int×Int×List Int×List TFire⊕Int×Int×List TPlace×List TTrans×Int×Int×List Int×List TFire⊕Int×List TPlace×List TTrans×Int×Int×List Int×List TFire)=>
                                                match x14 with
                                                | Sum.inl x=>if x.snd.snd.fst=true then some (Sum.inl (x.fst,IntKind.i64.wrap (x.snd.fst+1),x.snd.snd.snd.fst,x.snd.snd.snd.snd.fst,x.snd.snd.snd.snd.snd.fst,x.snd.snd.snd.snd.snd.snd.fst,x.snd.snd.snd.snd.snd.snd.snd.fst,x.snd.snd.snd.snd.snd.snd.snd.snd)) else some (Sum.inl (x.snd.fst,IntKind.i64.wrap (x.snd.fst+1),x.snd.snd.snd.fst,x.snd.snd.snd.snd.fst,x.snd.snd.snd.snd.snd.fst,x.snd.snd.snd.snd.snd.snd.fst,x.snd.snd.snd.snd.snd.snd.snd.fst,x.snd.snd.snd.snd.snd.snd.snd.snd))
                                                | Sum.inr r=>some r
                                  else some (Sum.inl (x3.snd.fst,IntKind.i64.wrap (x3.snd.fst+1),x3.snd.snd.fst,x3.snd.snd.snd.fst,x3.snd.snd.snd.snd.fst,x3.snd.snd.snd.snd.snd.fst,x3.snd.snd.snd.snd.snd.snd.fst,x3.snd.snd.snd.snd.snd.snd.snd))
                    else some (Sum.inr (x3.fst,x3.snd.snd.fst,x3.snd.snd.snd.fst,x3.snd.snd.snd.snd.fst,x3.snd.snd.snd.snd.snd.fst,x3.snd.snd.snd.snd.snd.snd.fst,x3.snd.snd.snd.snd.snd.snd.snd)))
                  (-1,0,x2.fst,x2.snd.fst,x2.snd.snd.fst,x2.snd.snd.snd.fst,x2.snd.snd.snd.snd.fst,x2.snd.snd.snd.snd.snd)).bind
              fun (x3:Int×List TPlace×List TTrans×Int×Int×List Int×List TFire)=>if x3.fst < 0 then some (Sum.inr (x3.snd.snd.snd.fst,x3.snd.snd.snd.snd.fst,x3.snd.snd.snd.snd.snd.snd)) else (idx x.snd.snd.snd x3.fst).bind fun (x4:TResult)=>(idx x3.snd.snd.snd.snd.snd.fst x3.fst).bind fun (n5:Int)=>(idx x4.Log n5).bind fun (x6:TFire)=>(app 16 x3.snd.snd.snd.snd.snd.snd [x6]).bind fun (l7:List TFire)=>(idx x3.snd.snd.snd.snd.snd.fst x3.fst).bind fun (n8:Int)=>(idx x3.snd.snd.snd.snd.snd.fst x3.fst).bind fun (n9:Int)=>some (Sum.inl (x3.snd.fst,x3.snd.snd.fst,x3.snd.snd.snd.fst,x3.snd.snd.snd.snd.fst,x3.snd.snd.snd.snd.snd.fst.set x3.fst.toNat (IntKind.i64.wrap (n8+1)),l7)))
          (x.fst,x.snd.fst,0,0,l1,[])).bind
      fun (x2:Int×Int×List TFire)=>(aq (fun (x3:Int×Int×Int×List TFire×List Int×List Int)=>if x3.fst < (↑x.snd.snd.fst.length:Int) then (idx x.snd.snd.fst x3.fst).bind fun (n4:Int)=>(idx x.snd.snd.snd n4).bind fun (x5:TResult)=>(idx x5.Marks x3.fst).bind fun (n6:Int)=>(app 8 x3.snd.snd.snd.snd.fst [n6]).bind fun (l7:List Int)=>(idx x.snd.snd.fst x3.fst).bind fun (n8:Int)=>(idx x.snd.snd.snd n8).bind fun (x9:TResult)=>(idx x9.Way x3.fst).bind fun (n10:Int)=>(app 8 x3.snd.snd.snd.snd.snd [n10]).bind fun (l11:List Int)=>some (Sum.inl (IntKind.i64.wrap (x3.fst+1),x3.snd.fst,x3.snd.snd.fst,x3.snd.snd.snd.fst,l7,l11)) else some (Sum.inr (x3.snd.fst,x3.snd.snd.fst,x3.snd.snd.snd.fst,x3.snd.snd.snd.snd.fst,x3.snd.snd.snd.snd.snd))) (0,x2.fst,x2.snd.fst,x2.snd.snd,[],[])).bind fun (x3:Int×Int×List TFire×List Int×List Int)=>(aq (fun (x4:Int×Int×Int×List TFire×List Int×List Int)=>if x4.fst < (↑x.snd.snd.snd.length:Int) then (idx x.snd.snd.snd x4.fst).bind fun (x5:TResult)=>some (Sum.inl (IntKind.i64.wrap (x4.fst+1),x4.snd.fst,if x4.snd.snd.fst < x5.Time then x5.Time else x4.snd.snd.fst,x4.snd.snd.snd.fst,x4.snd.snd.snd.snd.fst,x4.snd.snd.snd.snd.snd)) else some (Sum.inr (x4.snd.fst,x4.snd.snd.fst,x4.snd.snd.snd.fst,x4.snd.snd.snd.snd.fst,x4.snd.snd.snd.snd.snd))) (0,x3.fst,x3.snd.fst,x3.snd.snd.fst,x3.snd.snd.snd.fst,x3.snd.snd.snd.snd)).bind fun (x4:Int×Int×List TFire×List Int×List Int)=>some (x4.snd.fst,x4.snd.snd.fst,x4.snd.snd.snd.fst,x4.snd.snd.snd.snd)
theorem e32:vfn (T:=tE) lpK H32 (a6 []) q32 Er.res (vOf Er.code L32)=p32:=by kernel_rfl
def q79:FSp:=⟨[(true,[.d true .str,.d true (.int .i64),.d true (.int .i64),.d false (.sl false (.st 0)),.d false (.sl false (.st 0)),.d false (.sl false (.st 0))]),(false,[.d false (.sl false (.int .i64))])],[],[],[.ld 0 false,.d true .bool,.slot 0 false]⟩
def L79:List (Nat×Lb):=[(3,.l [.ld 1 false,.d false (.sl false (.int .i64)),.slot 1 false] [.ld 2 false,.ptr 0 0,.slot 2 false,.ld 4 false,.c (.bool false),.slot 4 false,.ld 5 false,.d true (.int .i64),.slot 5 false,.ldr,.d true .str,.d true (.int .i64),.d true (.int .i64),.d false (.sl false (.st 0)),.d false (.sl false (.st 0)),.d false (.sl false (.st 0)),.row] [(some 0,[.ld 2 false,.ptr 0 0,.slot 2 false,.ld 4 false,.c (.bool false),.slot 4 false,.ldr,.d true .str,.d true (.int .i64),.d true (.int .i64),.d false (.sl false (.st 0)),.d false (.sl false (.st 0)),.d false (.sl false (.st 0)),.row]),(none,[.ld 4 false,.c (.bool false),.slot 4 false])]),(11,.l [.ld 1 false,.d false (.sl false (.int .i64)),.slot 1 false] [.ld 2 false,.ptr 0 0,.slot 2 false,.ld 4 false,.c (.bool false),.slot 4 false,.ld 6 false,.d true (.int .i64),.slot 6 false,.ldr,.d true .str,.d true (.int .i64),.d true (.int .i64),.d false (.sl false (.st 0)),.d false (.sl false (.st 0)),.d false (.sl false (.st 0)),.row] [(some 2,[]),(none,[.ld 4 false,.c (.bool false),.slot 4 false])])]
def H79:List (Nat×VT):=[]
def p79:List UInt8×Int×Int×List TArc×List TArc×List TArc×List Int→Option Bool:=fun (x:List UInt8×Int×Int×List TArc×List TArc×List TArc×List Int)=>
  (aq (fun (x1:Int×List UInt8×Int×Int×List TArc×List TArc×List TArc)=>if x1.fst < (↑x1.snd.snd.snd.snd.fst.length:Int) then (idx x1.snd.snd.snd.snd.fst x1.fst).bind fun (x2:TArc)=>(idx x.snd.snd.snd.snd.snd.snd x2.Place).bind fun (n3:Int)=>(idx x1.snd.snd.snd.snd.fst x1.fst).bind fun (x4:TArc)=>if n3 < x4.N then some (Sum.inr (Sum.inr ())) else some (Sum.inl (IntKind.i64.wrap (x1.fst+1),x1.snd.fst,x1.snd.snd.fst,x1.snd.snd.snd.fst,x1.snd.snd.snd.snd.fst,x1.snd.snd.snd.snd.snd.fst,x1.snd.snd.snd.snd.snd.snd)) else some (Sum.inr (Sum.inl (x1.snd.fst,x1.snd.snd.fst,x1.snd.snd.snd.fst,x1.snd.snd.snd.snd.fst,x1.snd.snd.snd.snd.snd.fst,x1.snd.snd.snd.snd.snd.snd)))) (0,x.fst,x.snd.fst,x.snd.snd.fst,x.snd.snd.snd.fst,x.snd.snd.snd.snd.fst,x.snd.snd.snd.snd.snd.fst)).bind fun (x1:List UInt8×Int×Int×List TArc×List TArc×List TArc⊕Unit)=>
    match x1 with
    | Sum.inl x_1=>
      (aq (fun (x3:Int×List UInt8×Int×Int×List TArc×List TArc×List TArc)=>if x3.fst < (↑x3.snd.snd.snd.snd.snd.fst.length:Int) then (idx x3.snd.snd.snd.snd.snd.fst x3.fst).bind fun (x4:TArc)=>(idx x.snd.snd.snd.snd.snd.snd x4.Place).bind fun (n5:Int)=>(idx x3.snd.snd.snd.snd.snd.fst x3.fst).bind fun (x6:TArc)=>if x6.N≤n5 then some (Sum.inr (Sum.inr ())) else some (Sum.inl (IntKind.i64.wrap (x3.fst+1),x3.snd.fst,x3.snd.snd.fst,x3.snd.snd.snd.fst,x3.snd.snd.snd.snd.fst,x3.snd.snd.snd.snd.snd.fst,x3.snd.snd.snd.snd.snd.snd)) else some (Sum.inr (Sum.inl ()))) (0,x_1.fst,x_1.snd.fst,x_1.snd.snd.fst,x_1.snd.snd.snd.fst,x_1.snd.snd.snd.snd.fst,x_1.snd.snd.snd.snd.snd)).bind fun (x3:Unit⊕Unit)=>
        match x3 with
        | Sum.inl x=>some true
        | Sum.inr y=>some false
    | Sum.inr y=>some false
theorem e79:vfn (T:=tE) lpK H79 (a6 []) q79 BU.res (vOf BU.code L79)=p79:=by kernel_rfl
abbrev n79:En tE:=⟨79,[],q79,p79⟩
theorem o79:aB F tE 79 q79 2 p79:=by
 rw [← e79]
 exact aw (fn:=BU) ah rfl (by kernel_rfl)
def q67:FSp:=⟨[(true,[.d false (.sl false (.st 2)),.d false (.sl false (.st 1))]),(false,[.d false (.sl false (.int .i64))])],[],[],[.ld 0 false,.d true (.int .i64),.slot 0 false]⟩
def L67:List (Nat×Lb):=[(4,.l [.ld 1 false,.d false (.sl false (.int .i64)),.slot 1 false] [.ld 2 false,.ptr 0 0,.slot 2 false,.ld 5 false,.d true (.int .i64),.slot 5 false,.ld 6 false,.d true (.int .i64),.slot 6 false,.ldr,.d false (.sl false (.st 2)),.d false (.sl false (.st 1)),.row] [(some 0,[.ld 5 false,.d true (.int .i64),.slot 5 false])]),(8,.j [.ld 2 false,.ptr 0 0,.slot 2 false,.ld 5 false,.d true (.int .i64),.slot 5 false,.ld 6 false,.d true (.int .i64),.slot 6 false,.ld 39 false,.d true .bool,.slot 39 false,.ldr,.d false (.sl false (.st 2)),.d false (.sl false (.st 1)),.row])]
def H67:List (Nat×VT):=[]
def p67:List TPlace×List TTrans×List Int→Option Int:=fun (x:List TPlace×List TTrans×List Int)=>
  (aq
        (fun (x1:Int×Int×List TPlace×List TTrans)=>
          if x1.snd.fst < (↑x1.snd.snd.snd.length:Int) then
            ((idx x1.snd.snd.snd x1.snd.fst).bind fun (x2:TTrans)=>(p79 (x2.Name,x2.Delay,x2.Prio,x2.In,x2.Not,x2.Out,x.snd.snd)).bind fun (b3:Bool)=>if b3=true then if x1.fst < 0 then some (Sum.inl (x1.fst,x1.snd.fst,true,x1.snd.snd.fst,x1.snd.snd.snd)) else (idx x1.snd.snd.snd x1.snd.fst).bind fun (x4:TTrans)=>(idx x1.snd.snd.snd x1.fst).bind fun (x5:TTrans)=>some (Sum.inl (x1.fst,x1.snd.fst,decide (x4.Prio < x5.Prio),x1.snd.snd.fst,x1.snd.snd.snd)) else some (Sum.inl (x1.fst,x1.snd.fst,false,x1.snd.snd.fst,x1.snd.snd.snd))).bind fun (x2:Int×Int×Bool×List TPlace×List TTrans⊕Int×Int×List TPlace×List TTrans⊕Int)=>
              match x2 with
              | Sum.inl x=>if x.snd.snd.fst=true then some (Sum.inl (x.snd.fst,IntKind.i64.wrap (x.snd.fst+1),x.snd.snd.snd.fst,x.snd.snd.snd.snd)) else some (Sum.inl (x.fst,IntKind.i64.wrap (x.snd.fst+1),x.snd.snd.snd.fst,x.snd.snd.snd.snd))
              | Sum.inr r=>some r
          else some (Sum.inr x1.fst))
        (-1,0,x.fst,x.snd.fst)).bind
    fun (n1:Int)=>some n1
theorem e67:vfn (T:=tE) lpK H67 (a6 [n79]) q67 D7.res (vOf D7.code L67)=p67:=by kernel_rfl
abbrev n67:En tE:=⟨67,[],q67,p67⟩
theorem o67:aB F tE 67 q67 2 p67:=by
 rw [← e67]
 exact aw (fn:=D7) (af (en:=n79) ah o79 rfl) rfl (by kernel_rfl)
def q38:FSp:=⟨[(true,[.d false (.sl false (.st 2)),.d false (.sl false (.st 1))]),(false,[.d false (.sl false (.int .i64))])],[],[],[.ld 0 false,.d true (.int .i64),.slot 0 false]⟩
def L38:List (Nat×Lb):=[]
def H38:List (Nat×VT):=[]
def p38:List TPlace×List TTrans×List Int→Option Int:=fun (x:List TPlace×List TTrans×List Int)=>(p67 (x.fst,x.snd.fst,x.snd.snd)).bind fun (n1:Int)=>some n1
theorem e38:vfn (T:=tE) lpK H38 (a6 [n67]) q38 Du.res (vOf Du.code L38)=p38:=by kernel_rfl
abbrev n38:En tE:=⟨38,[],q38,p38⟩
theorem o38:aB F tE 38 q38 2 p38:=by
 rw [← e38]
 exact aw (fn:=Du) (af (en:=n67) ah o67 rfl) rfl (by kernel_rfl)
def q15:FSp:=⟨[(true,[.d false (.sl false (.st 2)),.d false (.sl false (.st 1))]),(false,[.d true (.int .i64)])],[],[],[.ld 0 true,.r 0,.r 1,.r 2,.d true (.int .i64),.slot 0 true,.ld 1 false,.d true (.int .i64),.slot 1 false,.sl (.st 8),.sl (.int .i64),.sl (.int .i64)]⟩
def L15:List (Nat×Lb):=[(4,.l [.ld 1 false,.d true (.int .i64),.slot 1 false,.ld 5 false,.d true (.int .i64),.slot 5 false] [.ld 2 false,.ptr 0 0,.slot 2 false,.ld 4 false,.ptr 1 0,.slot 4 false,.ld 6 false,.ptr 2 0,.slot 6 false,.ld 7 false,.d true (.int .i64),.slot 7 false,.ldr,.d false (.sl false (.st 2)),.d false (.sl false (.st 1)),.row,.ldr,.c .nilSlice,.c .nilSlice,.c .nilSlice,.d true (.int .i64),.row,.ldr,.c .nilSlice,.r 3,.r 4,.d true (.int .i64),.row,.sl (.int .i64),.sl (.int .i64)] [(some 0,[.ld 2 false,.ptr 0 0,.slot 2 false,.ld 4 false,.ptr 1 0,.slot 4 false,.ld 6 false,.ptr 2 0,.slot 6 false,.ldr,.d false (.sl false (.st 2)),.d false (.sl false (.st 1)),.row,.ldr,.c .nilSlice,.c .nilSlice,.c .nilSlice,.d true (.int .i64),.row,.ldr,.c .nilSlice,.r 3,.r 4,.d true (.int .i64),.row,.sl (.int .i64),.sl (.int .i64)])]),(12,.l [.ld 1 false,.d true (.int .i64),.slot 1 false] [.ld 2 false,.ptr 0 0,.slot 2 false,.ld 4 false,.ptr 1 0,.slot 4 false,.ld 5 false,.d true (.int .i64),.slot 5 false,.ld 6 false,.ptr 2 0,.slot 6 false,.ld 8 false,.r 3,.slot 8 false,.ld 9 false,.d true (.int .i64),.slot 9 false,.ldr,.d false (.sl false (.st 2)),.d false (.sl false (.st 1)),.row,.ldr,.c .nilSlice,.c .nilSlice,.c .nilSlice,.d true (.int .i64),.row,.ldr,.r 4,.r 5,.r 6,.d true (.int .i64),.row,.sl (.st 9),.sl (.st 8),.sl (.int .i64),.sl (.int .i64)] [(some 2,[.ld 4 false,.ptr 0 0,.slot 4 false,.ld 6 false,.ptr 1 0,.slot 6 false,.ldr,.c .nilSlice,.c .nilSlice,.c .nilSlice,.d true (.int .i64),.row,.ldr,.r 2,.r 3,.r 4,.d true (.int .i64),.row,.sl (.st 8),.sl (.int .i64),.sl (.int .i64)]),(none,[.ld 4 false,.ptr 0 0,.slot 4 false,.ld 5 false,.d true (.int .i64),.slot 5 false,.ldr,.r 1,.r 2,.r 3,.d true (.int .i64),.row,.sl (.st 8),.sl (.int .i64),.sl (.int .i64)])]),(20,.l [.ld 5 false,.d true (.int .i64),.slot 5 false,.ld 8 false,.r 0,.slot 8 false,.ld 9 false,.d true (.int .i64),.slot 9 false,.ld 10 false,.c (.bool false),.slot 10 false,.sl (.st 9)] [.ld 2 false,.ptr 0 0,.slot 2 false,.ld 4 false,.ptr 1 0,.slot 4 false,.ld 6 false,.ptr 2 0,.slot 6 false,.ld 11 false,.r 3,.slot 11 false,.ld 12 false,.d true (.int .i64),.slot 12 false,.ldr,.d false (.sl false (.st 2)),.d false (.sl false (.st 1)),.row,.ldr,.c .nilSlice,.c .nilSlice,.c .nilSlice,.d true (.int .i64),.row,.ldr,.r 4,.r 5,.r 6,.d true (.int .i64),.row,.sl (.st 9),.sl (.st 8),.sl (.int .i64),.sl (.int .i64)] [(some 4,[.ld 2 false,.ptr 0 0,.slot 2 false,.ld 4 false,.ptr 1 0,.slot 4 false,.ld 6 false,.ptr 2 0,.slot 6 false,.ld 11 false,.r 3,.slot 11 false,.ldr,.d false (.sl false (.st 2)),.d false (.sl false (.st 1)),.row,.ldr,.c .nilSlice,.c .nilSlice,.c .nilSlice,.d true (.int .i64),.row,.ldr,.r 4,.r 5,.r 6,.d true (.int .i64),.row,.sl (.st 9),.sl (.st 8),.sl (.int .i64),.sl (.int .i64)])]),(32,.l [.ld 5 false,.d true (.int .i64),.slot 5 false,.ld 8 false,.r 0,.slot 8 false,.ld 9 false,.d true (.int .i64),.slot 9 false,.sl (.st 9)] [.ld 2 false,.ptr 0 0,.slot 2 false,.ld 4 false,.ptr 1 0,.slot 4 false,.ld 6 false,.ptr 2 0,.slot 6 false,.ld 10 false,.d true .bool,.slot 10 false,.ld 14 false,.d true (.int .i64),.slot 14 false,.ldr,.d false (.sl false (.st 2)),.d false (.sl false (.st 1)),.row,.ldr,.c .nilSlice,.c .nilSlice,.c .nilSlice,.d true (.int .i64),.row,.ldr,.r 3,.r 4,.r 5,.d true (.int .i64),.row,.sl (.st 8),.sl (.int .i64),.sl (.int .i64)] [(some 6,[.ld 2 false,.ptr 0 0,.slot 2 false,.ld 4 false,.ptr 1 0,.slot 4 false,.ld 6 false,.ptr 2 0,.slot 6 false,.ld 10 false,.d true .bool,.slot 10 false,.ldr,.d false (.sl false (.st 2)),.d false (.sl false (.st 1)),.row,.ldr,.c .nilSlice,.c .nilSlice,.c .nilSlice,.d true (.int .i64),.row,.ldr,.r 3,.r 4,.r 5,.d true (.int .i64),.row,.sl (.st 8),.sl (.int .i64),.sl (.int .i64)])]),(41,.l [.ld 9 false,.d true (.int .i64),.slot 9 false] [.ld 2 false,.ptr 0 0,.slot 2 false,.ld 4 false,.ptr 1 0,.slot 4 false,.ld 5 false,.d true (.int .i64),.slot 5 false,.ld 6 false,.ptr 2 0,.slot 6 false,.ld 8 false,.r 3,.slot 8 false,.ld 10 false,.d true .bool,.slot 10 false,.ld 15 false,.r 4,.slot 15 false,.ldr,.d false (.sl false (.st 2)),.d false (.sl false (.st 1)),.row,.ldr,.c .nilSlice,.c .nilSlice,.c .nilSlice,.d true (.int .i64),.row,.ldr,.r 5,.r 6,.r 7,.d true (.int .i64),.row,.sl (.st 9),.sl (.int .i64),.sl (.st 8),.sl (.int .i64),.sl (.int .i64)] [(some 8,[.ld 2 false,.ptr 0 0,.slot 2 false,.ld 4 false,.ptr 1 0,.slot 4 false,.ld 5 false,.d true (.int .i64),.slot 5 false,.ld 6 false,.ptr 2 0,.slot 6 false,.ld 8 false,.r 3,.slot 8 false,.ldr,.d false (.sl false (.st 2)),.d false (.sl false (.st 1)),.row,.ldr,.c .nilSlice,.c .nilSlice,.c .nilSlice,.d true (.int .i64),.row,.ldr,.r 4,.r 5,.r 6,.d true (.int .i64),.row,.sl (.st 9),.sl (.st 8),.sl (.int .i64),.sl (.int .i64)]),(none,[.ld 4 false,.ptr 0 0,.slot 4 false,.ld 5 false,.d true (.int .i64),.slot 5 false,.ldr,.r 1,.r 2,.r 3,.d true (.int .i64),.row,.sl (.st 8),.sl (.int .i64),.sl (.int .i64)])]),(53,.j [.ld 2 false,.ptr 0 0,.slot 2 false,.ld 4 false,.ptr 1 0,.slot 4 false,.ld 5 false,.d true (.int .i64),.slot 5 false,.ld 6 false,.ptr 2 0,.slot 6 false,.ld 8 false,.r 3,.slot 8 false,.ld 10 false,.d true .bool,.slot 10 false,.ld 15 false,.r 4,.slot 15 false,.ld 16 false,.d true (.int .i64),.slot 16 false,.ld 17 false,.ptr 5 0,.slot 17 false,.ld 144 false,.d true .bool,.slot 144 false,.ldr,.d false (.sl false (.st 2)),.d false (.sl false (.st 1)),.row,.ldr,.c .nilSlice,.c .nilSlice,.c .nilSlice,.d true (.int .i64),.row,.ldr,.r 6,.r 7,.r 8,.d true (.int .i64),.row,.sl (.st 9),.sl (.int .i64),.ldr,.d true .str,.d true (.int .i64),.d true (.int .i64),.d false (.sl false (.st 0)),.d false (.sl false (.st 0)),.d false (.sl false (.st 0)),.row,.sl (.st 8),.sl (.int .i64),.sl (.int .i64)]),(59,.l [.ld 5 false,.d true (.int .i64),.slot 5 false,.ld 8 false,.r 0,.slot 8 false,.ld 10 false,.d true .bool,.slot 10 false,.sl (.st 9)] [.ld 2 false,.ptr 0 0,.slot 2 false,.ld 4 false,.ptr 1 0,.slot 4 false,.ld 6 false,.ptr 2 0,.slot 6 false,.ld 15 false,.r 3,.slot 15 false,.ld 17 false,.ptr 4 0,.slot 17 false,.ld 18 false,.d true (.int .i64),.slot 18 false,.ldr,.d false (.sl false (.st 2)),.d false (.sl false (.st 1)),.row,.ldr,.c .nilSlice,.c .nilSlice,.c .nilSlice,.d true (.int .i64),.row,.ldr,.r 5,.r 6,.r 7,.d true (.int .i64),.row,.sl (.int .i64),.ldr,.d true .str,.d true (.int .i64),.d true (.int .i64),.d false (.sl false (.st 0)),.d false (.sl false (.st 0)),.d false (.sl false (.st 0)),.row,.sl (.st 8),.sl (.int .i64),.sl (.int .i64)] [(some 10,[.ld 2 false,.ptr 0 0,.slot 2 false,.ld 4 false,.ptr 1 0,.slot 4 false,.ld 6 false,.ptr 2 0,.slot 6 false,.ld 15 false,.r 3,.slot 15 false,.ld 17 false,.ptr 4 0,.slot 17 false,.ldr,.d false (.sl false (.st 2)),.d false (.sl false (.st 1)),.row,.ldr,.c .nilSlice,.c .nilSlice,.c .nilSlice,.d true (.int .i64),.row,.ldr,.r 5,.r 6,.r 7,.d true (.int .i64),.row,.sl (.int .i64),.ldr,.d true .str,.d true (.int .i64),.d true (.int .i64),.d false (.sl false (.st 0)),.d false (.sl false (.st 0)),.d false (.sl false (.st 0)),.row,.sl (.st 8),.sl (.int .i64),.sl (.int .i64)])]),(65,.l [.ld 5 false,.d true (.int .i64),.slot 5 false] [.ld 2 false,.ptr 0 0,.slot 2 false,.ld 4 false,.ptr 1 0,.slot 4 false,.ld 6 false,.ptr 2 0,.slot 6 false,.ld 8 false,.r 3,.slot 8 false,.ld 10 false,.d true .bool,.slot 10 false,.ld 15 false,.r 4,.slot 15 false,.ld 17 false,.ptr 5 0,.slot 17 false,.ld 19 false,.d true (.int .i64),.slot 19 false,.ldr,.d false (.sl false (.st 2)),.d false (.sl false (.st 1)),.row,.ldr,.c .nilSlice,.c .nilSlice,.c .nilSlice,.d true (.int .i64),.row,.ldr,.r 6,.r 7,.r 8,.d true (.int .i64),.row,.sl (.st 9),.sl (.int .i64),.ldr,.d true .str,.d true (.int .i64),.d true (.int .i64),.d false (.sl false (.st 0)),.d false (.sl false (.st 0)),.d false (.sl false (.st 0)),.row,.sl (.st 8),.sl (.int .i64),.sl (.int .i64)] [(some 12,[.ld 2 false,.ptr 0 0,.slot 2 false,.ld 4 false,.ptr 1 0,.slot 4 false,.ld 6 false,.ptr 2 0,.slot 6 false,.ld 8 false,.r 3,.slot 8 false,.ld 10 false,.d true .bool,.slot 10 false,.ld 15 false,.r 4,.slot 15 false,.ldr,.d false (.sl false (.st 2)),.d false (.sl false (.st 1)),.row,.ldr,.c .nilSlice,.c .nilSlice,.c .nilSlice,.d true (.int .i64),.row,.ldr,.r 5,.r 6,.r 7,.d true (.int .i64),.row,.sl (.st 9),.sl (.int .i64),.sl (.st 8),.sl (.int .i64),.sl (.int .i64)])]),(78,.l [.ld 5 false,.d true (.int .i64),.slot 5 false] [.ld 2 false,.ptr 0 0,.slot 2 false,.ld 4 false,.ptr 1 0,.slot 4 false,.ld 6 false,.ptr 2 0,.slot 6 false,.ld 8 false,.r 3,.slot 8 false,.ld 21 false,.d true (.int .i64),.slot 21 false,.ld 22 false,.d true (.int .i64),.slot 22 false,.ldr,.d false (.sl false (.st 2)),.d false (.sl false (.st 1)),.row,.ldr,.c .nilSlice,.c .nilSlice,.c .nilSlice,.d true (.int .i64),.row,.ldr,.r 4,.r 5,.r 6,.d true (.int .i64),.row,.sl (.st 9),.sl (.st 8),.sl (.int .i64),.sl (.int .i64)] [(some 14,[.ld 2 false,.ptr 0 0,.slot 2 false,.ld 4 false,.ptr 1 0,.slot 4 false,.ld 6 false,.ptr 2 0,.slot 6 false,.ld 8 false,.r 3,.slot 8 false,.ld 21 false,.d true (.int .i64),.slot 21 false,.ldr,.d false (.sl false (.st 2)),.d false (.sl false (.st 1)),.row,.ldr,.c .nilSlice,.c .nilSlice,.c .nilSlice,.d true (.int .i64),.row,.ldr,.r 4,.r 5,.r 6,.d true (.int .i64),.row,.sl (.st 9),.sl (.st 8),.sl (.int .i64),.sl (.int .i64)])]),(82,.j [.ld 2 false,.ptr 0 0,.slot 2 false,.ld 4 false,.ptr 1 0,.slot 4 false,.ld 6 false,.ptr 2 0,.slot 6 false,.ld 8 false,.r 3,.slot 8 false,.ld 21 false,.d true (.int .i64),.slot 21 false,.ld 22 false,.d true (.int .i64),.slot 22 false,.ld 260 false,.d true .bool,.slot 260 false,.ldr,.d false (.sl false (.st 2)),.d false (.sl false (.st 1)),.row,.ldr,.c .nilSlice,.c .nilSlice,.c .nilSlice,.d true (.int .i64),.row,.ldr,.r 4,.r 5,.r 6,.d true (.int .i64),.row,.sl (.st 9),.sl (.st 8),.sl (.int .i64),.sl (.int .i64)])]
def H15:List (Nat×VT):=[(38,(.int .i64)),(43,(.int .i64)),(67,(.st 9)),(111,(.int .i64)),(157,(.st 8)),(240,(.st 9))]
def p15:List TPlace×List TTrans×Int→Option (Int×Int×List TFire×List Int×List Int):=fun (x:List TPlace×List TTrans×Int)=>
  (aq (fun (x1:Int×List TPlace×List TTrans×Int×Int×List Int×List Int)=>if x1.fst < (↑x1.snd.fst.length:Int) then (idx x1.snd.fst x1.fst).bind fun (x2:TPlace)=>(app 8 x1.snd.snd.snd.snd.snd.fst [x2.Tokens]).bind fun (l3:List Int)=>(app 8 x1.snd.snd.snd.snd.snd.snd [0]).bind fun (l4:List Int)=>some (Sum.inl (IntKind.i64.wrap (x1.fst+1),x1.snd.fst,x1.snd.snd.fst,x1.snd.snd.snd.fst,x1.snd.snd.snd.snd.fst,l3,l4)) else some (Sum.inr (x1.snd.fst,x1.snd.snd.fst,x1.snd.snd.snd.fst,x1.snd.snd.snd.snd.fst,x1.snd.snd.snd.snd.snd.fst,x1.snd.snd.snd.snd.snd.snd))) (0,x.fst,x.snd.fst,0,0,[],[])).bind fun (x1:List TPlace×List TTrans×Int×Int×List Int×List Int)=>
    (aq
          (fun (x2:Int×Int×List TPlace×List TTrans×Int×Int×List TEvent×List TFire×List Int×List Int)=>
            if x2.snd.fst≤x.snd.snd then
              (aq (fun (x3:Int×List TPlace×List TTrans×Int×Int×List TEvent×List TFire×List Int×List Int)=>if x3.fst < (↑x2.snd.snd.snd.snd.snd.snd.fst.length:Int) then (idx x2.snd.snd.snd.snd.snd.snd.fst x3.fst).bind fun (x4:TEvent)=>if (!decide (x4.Time=x2.snd.fst))=true then (app 24 x3.snd.snd.snd.snd.snd.fst [x4]).bind fun (l5:List TEvent)=>some (Sum.inl (IntKind.i64.wrap (x3.fst+1),x3.snd.fst,x3.snd.snd.fst,x3.snd.snd.snd.fst,x3.snd.snd.snd.snd.fst,l5,x3.snd.snd.snd.snd.snd.snd.fst,x3.snd.snd.snd.snd.snd.snd.snd.fst,x3.snd.snd.snd.snd.snd.snd.snd.snd)) else (idx x3.snd.snd.snd.snd.snd.snd.snd.snd x4.Place).bind fun (n5:Int)=>(idx x3.snd.snd.snd.snd.snd.snd.snd.snd x4.Place).bind fun (n6:Int)=>(idx x3.snd.snd.snd.snd.snd.snd.snd.fst x4.Place).bind fun (n7:Int)=>(idx x3.snd.snd.snd.snd.snd.snd.snd.fst x4.Place).bind fun (n8:Int)=>some (Sum.inl (IntKind.i64.wrap (x3.fst+1),x3.snd.fst,x3.snd.snd.fst,x3.snd.snd.snd.fst,x3.snd.snd.snd.snd.fst,x3.snd.snd.snd.snd.snd.fst,x3.snd.snd.snd.snd.snd.snd.fst,x3.snd.snd.snd.snd.snd.snd.snd.fst.set x4.Place.toNat (IntKind.i64.wrap (n7+x4.N)),x3.snd.snd.snd.snd.snd.snd.snd.snd.set x4.Place.toNat (IntKind.i64.wrap (n5 - x4.N)))) else some (Sum.inr (x3.snd.fst,x3.snd.snd.fst,x3.snd.snd.snd.fst,x3.snd.snd.snd.snd.fst,x3.snd.snd.snd.snd.snd.fst,x3.snd.snd.snd.snd.snd.snd.fst,x3.snd.snd.snd.snd.snd.snd.snd.fst,x3.snd.snd.snd.snd.snd.snd.snd.snd))) (0,x2.snd.snd.fst,x2.snd.snd.snd.fst,x2.snd.snd.snd.snd.fst,x2.snd.fst,[],x2.snd.snd.snd.snd.snd.snd.snd.fst,x2.snd.snd.snd.snd.snd.snd.snd.snd.fst,x2.snd.snd.snd.snd.snd.snd.snd.snd.snd)).bind fun (x3:List TPlace×List TTrans×Int×Int×List TEvent×List TFire×List Int×List Int)=>
                (aq (fun (x4:Bool×Int×List TPlace×List TTrans×Int×Int×List TFire×List Int×List Int)=>if x4.snd.fst < (↑x4.snd.snd.snd.snd.snd.snd.snd.fst.length:Int) then if x4.fst=true then some (Sum.inl (true,IntKind.i64.wrap (x4.snd.fst+1),x4.snd.snd.fst,x4.snd.snd.snd.fst,x4.snd.snd.snd.snd.fst,x4.snd.snd.snd.snd.snd.fst,x4.snd.snd.snd.snd.snd.snd.fst,x4.snd.snd.snd.snd.snd.snd.snd.fst,x4.snd.snd.snd.snd.snd.snd.snd.snd)) else (idx x4.snd.snd.snd.snd.snd.snd.snd.fst x4.snd.fst).bind fun (n5:Int)=>some (Sum.inl (decide (1099511627776 < n5),IntKind.i64.wrap (x4.snd.fst+1),x4.snd.snd.fst,x4.snd.snd.snd.fst,x4.snd.snd.snd.snd.fst,x4.snd.snd.snd.snd.snd.fst,x4.snd.snd.snd.snd.snd.snd.fst,x4.snd.snd.snd.snd.snd.snd.snd.fst,x4.snd.snd.snd.snd.snd.snd.snd.snd)) else some (Sum.inr (x4.fst,x4.snd.snd.fst,x4.snd.snd.snd.fst,x4.snd.snd.snd.snd.fst,x4.snd.snd.snd.snd.snd.fst,x4.snd.snd.snd.snd.snd.snd.fst,x4.snd.snd.snd.snd.snd.snd.snd.fst,x4.snd.snd.snd.snd.snd.snd.snd.snd))) (false,0,x3.fst,x3.snd.fst,x3.snd.snd.fst,x3.snd.snd.snd.fst,x3.snd.snd.snd.snd.snd.fst,x3.snd.snd.snd.snd.snd.snd.fst,x3.snd.snd.snd.snd.snd.snd.snd)).bind fun (x4:Bool×List TPlace×List TTrans×Int×Int×List TFire×List Int×List Int)=>
                  if x4.fst=true then some (Sum.inr (Sum.inr ((3:Int),x4.snd.snd.snd.snd.fst,x4.snd.snd.snd.snd.snd.fst,x4.snd.snd.snd.snd.snd.snd.fst,x4.snd.snd.snd.snd.snd.snd.snd)))
                  else
                    (mkS 8 (↑x4.snd.snd.fst.length:Int) (↑x4.snd.snd.fst.length:Int) 0).bind fun (l5:List Int)=>
                      (aq
                            (fun (x6:Int×Bool×List TPlace×List TTrans×Int×Int×List TEvent×List Int×List TFire×List Int×List Int)=>
                              (p38 (x6.snd.snd.fst,x6.snd.snd.snd.fst,x6.snd.snd.snd.snd.snd.snd.snd.snd.snd.fst)).bind fun (n7:Int)=>
                                if n7 < 0 then some (Sum.inr (Sum.inl (x6.fst,x6.snd.snd.fst,x6.snd.snd.snd.fst,x6.snd.snd.snd.snd.fst,x6.snd.snd.snd.snd.snd.fst,x6.snd.snd.snd.snd.snd.snd.fst,x6.snd.snd.snd.snd.snd.snd.snd.snd.fst,x6.snd.snd.snd.snd.snd.snd.snd.snd.snd.fst,x6.snd.snd.snd.snd.snd.snd.snd.snd.snd.snd)))
                                else
                                  (idx x6.snd.snd.snd.fst n7).bind fun (x8:TTrans)=>
                                    (idx x6.snd.snd.snd.snd.snd.snd.snd.fst n7).bind fun (n9:Int)=>
                                      if n9=20 then some (Sum.inr (Sum.inr ((4:Int),x6.snd.snd.snd.snd.snd.fst,x6.snd.snd.snd.snd.snd.snd.snd.snd.fst,x6.snd.snd.snd.snd.snd.snd.snd.snd.snd.fst,x6.snd.snd.snd.snd.snd.snd.snd.snd.snd.snd)))
                                      else
                                        if (↑x6.snd.snd.snd.snd.snd.snd.snd.snd.fst.length:Int)=2000 then some (Sum.inr (Sum.inr ((5:Int),x6.snd.snd.snd.snd.snd.fst,x6.snd.snd.snd.snd.snd.snd.snd.snd.fst,x6.snd.snd.snd.snd.snd.snd.snd.snd.snd.fst,x6.snd.snd.snd.snd.snd.snd.snd.snd.snd.snd)))
                                        else
                                          (if 0 < (↑x8.Out.length:Int) then some (Sum.inl (x6.fst,x6.snd.fst,n7,decide (1099511627776 < IntKind.i64.wrap (x2.snd.fst+x8.Delay)),x6.snd.snd.fst,x6.snd.snd.snd.fst,x6.snd.snd.snd.snd.fst,x6.snd.snd.snd.snd.snd.fst,x6.snd.snd.snd.snd.snd.snd.fst,x6.snd.snd.snd.snd.snd.snd.snd.fst,x8.Name,x8.Delay,x8.Prio,x8.In,x8.Not,x8.Out,x6.snd.snd.snd.snd.snd.snd.snd.snd.fst,x6.snd.snd.snd.snd.snd.snd.snd.snd.snd.fst,x6.snd.snd.snd.snd.snd.snd.snd.snd.snd.snd)) else some (Sum.inl (x6.fst,x6.snd.fst,n7,false,x6.snd.snd.fst,x6.snd.snd.snd.fst,x6.snd.snd.snd.snd.fst,x6.snd.snd.snd.snd.snd.fst,x6.snd.snd.snd.snd.snd.snd.fst,x6.snd.snd.snd.snd.snd.snd.snd.fst,x8.Name,x8.Delay,x8.Prio,x8.In,x8.Not,x8.Out,x6.snd.snd.snd.snd.snd.snd.snd.snd.fst,x6.snd.snd.snd.snd.snd.snd.snd.snd.snd.fst,x6.snd.snd.snd.snd.snd.snd.snd.snd.snd.snd))).bind fun (x10:Int×Bool×Int×Bool×List TPlace×List TTrans×Int×Int×List TEvent×List Int×List UInt8×Int×Int×List TArc×List TArc×List TArc×List TFire×List Int×List Int⊕Int×Bool×List TPlace×List TTrans×Int×Int×List TEvent×List Int×List TFire×List Int×List Int⊕Int×List TPlace×List TTrans×Int×Int×List TEvent×List TFire×List Int×List Int⊕Int×Int×List TFire×List Int×List Int)=>
                                            match x10 with
                                            | Sum.inl x=>if x.snd.snd.snd.fst=true then some (Sum.inr (Sum.inr ((3:Int),x.snd.snd.snd.snd.snd.snd.snd.fst,x.snd.snd.snd.snd.snd.snd.snd.snd.snd.snd.snd.snd.snd.snd.snd.snd.fst,x.snd.snd.snd.snd.snd.snd.snd.snd.snd.snd.snd.snd.snd.snd.snd.snd.snd.fst,x.snd.snd.snd.snd.snd.snd.snd.snd.snd.snd.snd.snd.snd.snd.snd.snd.snd.snd))) else (idx x.snd.snd.snd.snd.snd.snd.snd.snd.snd.fst x.snd.snd.fst).bind fun (n12:Int)=>(idx x.snd.snd.snd.snd.snd.snd.snd.snd.snd.fst x.snd.snd.fst).bind fun (n13:Int)=>(app 16 x.snd.snd.snd.snd.snd.snd.snd.snd.snd.snd.snd.snd.snd.snd.snd.snd.fst [{ Time:=x2.snd.fst,Trans:=x.snd.snd.fst }]).bind fun (l14:List TFire)=>(aq (fun (x15:Int×List TPlace×List TTrans×Int×Int×List Int×List UInt8×Int×Int×List TArc×List TArc×List TArc×List TFire×List Int×List Int)=>if x15.fst < (↑x15.snd.snd.snd.snd.snd.snd.snd.snd.snd.fst.length:Int) then (idx x15.snd.snd.snd.snd.snd.snd.snd.snd.snd.fst x15.fst).bind fun (x16:TArc)=>(idx x15.snd.snd.snd.snd.snd.snd.snd.snd.snd.snd.snd.snd.snd.fst x16.Place).bind fun (n17:Int)=>(idx x15.snd.snd.snd.snd.snd.snd.snd.snd.snd.fst x15.fst).bind fun (x18:TArc)=>(idx x15.snd.snd.snd.snd.snd.snd.snd.snd.snd.snd.snd.snd.snd.fst x16.Place).bind fun (n19:Int)=>some (Sum.inl (IntKind.i64.wrap (x15.fst+1),x15.snd.fst,x15.snd.snd.fst,x15.snd.snd.snd.fst,x15.snd.snd.snd.snd.fst,x15.snd.snd.snd.snd.snd.fst,x15.snd.snd.snd.snd.snd.snd.fst,x15.snd.snd.snd.snd.snd.snd.snd.fst,x15.snd.snd.snd.snd.snd.snd.snd.snd.fst,x15.snd.snd.snd.snd.snd.snd.snd.snd.snd.fst,x15.snd.snd.snd.snd.snd.snd.snd.snd.snd.snd.fst,x15.snd.snd.snd.snd.snd.snd.snd.snd.snd.snd.snd.fst,x15.snd.snd.snd.snd.snd.snd.snd.snd.snd.snd.snd.snd.fst,x15.snd.snd.snd.snd.snd.snd.snd.snd.snd.snd.snd.snd.snd.fst.set x16.Place.toNat (IntKind.i64.wrap (n17 - x18.N)),x15.snd.snd.snd.snd.snd.snd.snd.snd.snd.snd.snd.snd.snd.snd)) else some (Sum.inr (x15.snd.fst,x15.snd.snd.fst,x15.snd.snd.snd.fst,x15.snd.snd.snd.snd.fst,x15.snd.snd.snd.snd.snd.fst,x15.snd.snd.snd.snd.snd.snd.fst,x15.snd.snd.snd.snd.snd.snd.snd.fst,x15.snd.snd.snd.snd.snd.snd.snd.snd.fst,x15.snd.snd.snd.snd.snd.snd.snd.snd.snd.fst,x15.snd.snd.snd.snd.snd.snd.snd.snd.snd.snd.fst,x15.snd.snd.snd.snd.snd.snd.snd.snd.snd.snd.snd.fst,x15.snd.snd.snd.snd.snd.snd.snd.snd.snd.snd.snd.snd.fst,x15.snd.snd.snd.snd.snd.snd.snd.snd.snd.snd.snd.snd.snd.fst,x15.snd.snd.snd.snd.snd.snd.snd.snd.snd.snd.snd.snd.snd.snd))) (0,x.snd.snd.snd.snd.fst,x.snd.snd.snd.snd.snd.fst,x.snd.snd.snd.snd.snd.snd.fst,x.snd.snd.snd.snd.snd.snd.snd.fst,x.snd.snd.snd.snd.snd.snd.snd.snd.snd.fst.set x.snd.snd.fst.toNat (IntKind.i64.wrap (n12+1)),x.snd.snd.snd.snd.snd.snd.snd.snd.snd.snd.fst,x.snd.snd.snd.snd.snd.snd.snd.snd.snd.snd.snd.fst,x.snd.snd.snd.snd.snd.snd.snd.snd.snd.snd.snd.snd.fst,x.snd.snd.snd.snd.snd.snd.snd.snd.snd.snd.snd.snd.snd.fst,x.snd.snd.snd.snd.snd.snd.snd.snd.snd.snd.snd.snd.snd.snd.fst,x.snd.snd.snd.snd.snd.snd.snd.snd.snd.snd.snd.snd.snd.snd.snd.fst,l14,x.snd.snd.snd.snd.snd.snd.snd.snd.snd.snd.snd.snd.snd.snd.snd.snd.snd.fst,x.snd.snd.snd.snd.snd.snd.snd.snd.snd.snd.snd.snd.snd.snd.snd.snd.snd.snd)).bind fun (x15:List TPlace×List TTrans×Int×Int×List Int×List UInt8×Int×Int×List TArc×List TArc×List TArc×List TFire×List Int×List Int)=>(aq (fun (x16:Bool×Int×List TPlace×List TTrans×Int×Int×List TEvent×List Int×List UInt8×Int×Int×List TArc×List TArc×List TArc×List TFire×List Int×List Int)=>if x16.snd.fst < (↑x16.snd.snd.snd.snd.snd.snd.snd.snd.snd.snd.snd.snd.snd.fst.length:Int) then (idx x16.snd.snd.snd.snd.snd.snd.snd.snd.snd.snd.snd.snd.snd.fst x16.snd.fst).bind fun (x17:TArc)=>if x16.snd.snd.snd.snd.snd.snd.snd.snd.snd.fst=0 then (idx x16.snd.snd.snd.snd.snd.snd.snd.snd.snd.snd.snd.snd.snd.snd.snd.fst x17.Place).bind fun (n18:Int)=>(idx x16.snd.snd.snd.snd.snd.snd.snd.snd.snd.snd.snd.snd.snd.snd.snd.fst x17.Place).bind fun (n19:Int)=>if x16.fst=true then some (Sum.inl (true,IntKind.i64.wrap (x16.snd.fst+1),x16.snd.snd.fst,x16.snd.snd.snd.fst,x16.snd.snd.snd.snd.fst,x16.snd.snd.snd.snd.snd.fst,x16.snd.snd.snd.snd.snd.snd.fst,x16.snd.snd.snd.snd.snd.snd.snd.fst,x16.snd.snd.snd.snd.snd.snd.snd.snd.fst,x16.snd.snd.snd.snd.snd.snd.snd.snd.snd.fst,x16.snd.snd.snd.snd.snd.snd.snd.snd.snd.snd.fst,x16.snd.snd.snd.snd.snd.snd.snd.snd.snd.snd.snd.fst,x16.snd.snd.snd.snd.snd.snd.snd.snd.snd.snd.snd.snd.fst,x16.snd.snd.snd.snd.snd.snd.snd.snd.snd.snd.snd.snd.snd.fst,x16.snd.snd.snd.snd.snd.snd.snd.snd.snd.snd.snd.snd.snd.snd.fst,x16.snd.snd.snd.snd.snd.snd.snd.snd.snd.snd.snd.snd.snd.snd.snd.fst.set x17.Place.toNat (IntKind.i64.wrap (n18+x17.N)),x16.snd.snd.snd.snd.snd.snd.snd.snd.snd.snd.snd.snd.snd.snd.snd.snd)) else (idx (x16.snd.snd.snd.snd.snd.snd.snd.snd.snd.snd.snd.snd.snd.snd.snd.fst.set x17.Place.toNat (IntKind.i64.wrap (n18+x17.N))) x17.Place).bind fun (n20:Int)=>some (Sum.inl (decide (1099511627776 < n20),IntKind.i64.wrap (x16.snd.fst+1),x16.snd.snd.fst,x16.snd.snd.snd.fst,x16.snd.snd.snd.snd.fst,x16.snd.snd.snd.snd.snd.fst,x16.snd.snd.snd.snd.snd.snd.fst,x16.snd.snd.snd.snd.snd.snd.snd.fst,x16.snd.snd.snd.snd.snd.snd.snd.snd.fst,x16.snd.snd.snd.snd.snd.snd.snd.snd.snd.fst,x16.snd.snd.snd.snd.snd.snd.snd.snd.snd.snd.fst,x16.snd.snd.snd.snd.snd.snd.snd.snd.snd.snd.snd.fst,x16.snd.snd.snd.snd.snd.snd.snd.snd.snd.snd.snd.snd.fst,x16.snd.snd.snd.snd.snd.snd.snd.snd.snd.snd.snd.snd.snd.fst,x16.snd.snd.snd.snd.snd.snd.snd.snd.snd.snd.snd.snd.snd.snd.fst,x16.snd.snd.snd.snd.snd.snd.snd.snd.snd.snd.snd.snd.snd.snd.snd.fst.set x17.Place.toNat (IntKind.i64.wrap (n18+x17.N)),x16.snd.snd.snd.snd.snd.snd.snd.snd.snd.snd.snd.snd.snd.snd.snd.snd)) else (idx x16.snd.snd.snd.snd.snd.snd.snd.snd.snd.snd.snd.snd.snd.snd.snd.snd x17.Place).bind fun (n18:Int)=>(idx x16.snd.snd.snd.snd.snd.snd.snd.snd.snd.snd.snd.snd.snd.snd.snd.snd x17.Place).bind fun (n19:Int)=>(app 24 x16.snd.snd.snd.snd.snd.snd.fst [{ Time:=IntKind.i64.wrap (x2.snd.fst+x16.snd.snd.snd.snd.snd.snd.snd.snd.snd.fst),Place:=x17.Place,N:=x17.N }]).bind fun (l20:List TEvent)=>some (Sum.inl (x16.fst,IntKind.i64.wrap (x16.snd.fst+1),x16.snd.snd.fst,x16.snd.snd.snd.fst,x16.snd.snd.snd.snd.fst,x16.snd.snd.snd.snd.snd.fst,l20,x16.snd.snd.snd.snd.snd.snd.snd.fst,x16.snd.snd.snd.snd.snd.snd.snd.snd.fst,x16.snd.snd.snd.snd.snd.snd.snd.snd.snd.fst,x16.snd.snd.snd.snd.snd.snd.snd.snd.snd.snd.fst,x16.snd.snd.snd.snd.snd.snd.snd.snd.snd.snd.snd.fst,x16.snd.snd.snd.snd.snd.snd.snd.snd.snd.snd.snd.snd.fst,x16.snd.snd.snd.snd.snd.snd.snd.snd.snd.snd.snd.snd.snd.fst,x16.snd.snd.snd.snd.snd.snd.snd.snd.snd.snd.snd.snd.snd.snd.fst,x16.snd.snd.snd.snd.snd.snd.snd.snd.snd.snd.snd.snd.snd.snd.snd.fst,x16.snd.snd.snd.snd.snd.snd.snd.snd.snd.snd.snd.snd.snd.snd.snd.snd.set x17.Place.toNat (IntKind.i64.wrap (n18+x17.N)))) else some (Sum.inr (x16.fst,x16.snd.snd.fst,x16.snd.snd.snd.fst,x16.snd.snd.snd.snd.fst,x16.snd.snd.snd.snd.snd.fst,x16.snd.snd.snd.snd.snd.snd.fst,x16.snd.snd.snd.snd.snd.snd.snd.fst,x16.snd.snd.snd.snd.snd.snd.snd.snd.snd.snd.snd.snd.snd.snd.fst,x16.snd.snd.snd.snd.snd.snd.snd.snd.snd.snd.snd.snd.snd.snd.snd.fst,x16.snd.snd.snd.snd.snd.snd.snd.snd.snd.snd.snd.snd.snd.snd.snd.snd))) (x.snd.fst,0,x15.fst,x15.snd.fst,x15.snd.snd.fst,x15.snd.snd.snd.fst,x.snd.snd.snd.snd.snd.snd.snd.snd.fst,x15.snd.snd.snd.snd.fst,x15.snd.snd.snd.snd.snd.fst,x15.snd.snd.snd.snd.snd.snd.fst,x15.snd.snd.snd.snd.snd.snd.snd.fst,x15.snd.snd.snd.snd.snd.snd.snd.snd.fst,x15.snd.snd.snd.snd.snd.snd.snd.snd.snd.fst,x15.snd.snd.snd.snd.snd.snd.snd.snd.snd.snd.fst,x15.snd.snd.snd.snd.snd.snd.snd.snd.snd.snd.snd.fst,x15.snd.snd.snd.snd.snd.snd.snd.snd.snd.snd.snd.snd.fst,x15.snd.snd.snd.snd.snd.snd.snd.snd.snd.snd.snd.snd.snd)).bind fun (x16:Bool×List TPlace×List TTrans×Int×Int×List TEvent×List Int×List TFire×List Int×List Int)=>if x16.fst=true then some (Sum.inr (Sum.inr ((3:Int),x16.snd.snd.snd.snd.fst,x16.snd.snd.snd.snd.snd.snd.snd.fst,x16.snd.snd.snd.snd.snd.snd.snd.snd.fst,x16.snd.snd.snd.snd.snd.snd.snd.snd.snd))) else some (Sum.inl (x.fst,x16.fst,x16.snd.fst,x16.snd.snd.fst,x16.snd.snd.snd.fst,x16.snd.snd.snd.snd.fst,x16.snd.snd.snd.snd.snd.fst,x16.snd.snd.snd.snd.snd.snd.fst,x16.snd.snd.snd.snd.snd.snd.snd.fst,x16.snd.snd.snd.snd.snd.snd.snd.snd.fst,x16.snd.snd.snd.snd.snd.snd.snd.snd.snd))
                                            | Sum.inr r=>some r)
                            (x2.fst,x4.fst,x4.snd.fst,x4.snd.snd.fst,x4.snd.snd.snd.fst,x4.snd.snd.snd.snd.fst,x3.snd.snd.snd.snd.fst,l5,x4.snd.snd.snd.snd.snd.fst,x4.snd.snd.snd.snd.snd.snd.fst,x4.snd.snd.snd.snd.snd.snd.snd)).bind
                        fun (x6:Int×List TPlace×List TTrans×Int×Int×List TEvent×List TFire×List Int×List Int⊕Int×Int×List TFire×List Int×List Int)=>
                        match x6 with
                        | Sum.inl x=>
                          (aq
                                (fun (x8:Int×Int×List TPlace×List TTrans×Int×Int×List TEvent×List TFire×List Int×List Int)=>
                                  if x8.snd.fst < (↑x8.snd.snd.snd.snd.snd.snd.fst.length:Int) then
                                    (if x8.fst < 0 then some (Sum.inl (x8.fst,x8.snd.fst,true,x8.snd.snd.fst,x8.snd.snd.snd.fst,x8.snd.snd.snd.snd.fst,x8.snd.snd.snd.snd.snd.fst,x8.snd.snd.snd.snd.snd.snd.fst,x8.snd.snd.snd.snd.snd.snd.snd.fst,x8.snd.snd.snd.snd.snd.snd.snd.snd.fst,x8.snd.snd.snd.snd.snd.snd.snd.snd.snd)) else (idx x8.snd.snd.snd.snd.snd.snd.fst x8.snd.fst).bind fun (x9:TEvent)=>some (Sum.inl (x8.fst,x8.snd.fst,decide (x9.Time < x8.fst),x8.snd.snd.fst,x8.snd.snd.snd.fst,x8.snd.snd.snd.snd.fst,x8.snd.snd.snd.snd.snd.fst,x8.snd.snd.snd.snd.snd.snd.fst,x8.snd.snd.snd.snd.snd.snd.snd.fst,x8.snd.snd.snd.snd.snd.snd.snd.snd.fst,x8.snd.snd.snd.snd.snd.snd.snd.snd.snd))).bind fun (x9:Int×Int×Bool×List TPlace×List TTrans×Int×Int×List TEvent×List TFire×List Int×List Int⊕Int×Int×List TPlace×List TTrans×Int×Int×List TEvent×List TFire×List Int×List Int⊕Int×List TPlace×List TTrans×Int×Int×List TEvent×List TFire×List Int×List Int)=>
                                      match x9 with
                                      | Sum.inl x=>if x.snd.snd.fst=true then (idx x.snd.snd.snd.snd.snd.snd.snd.fst x.snd.fst).bind fun (x11:TEvent)=>some (Sum.inl (x11.Time,IntKind.i64.wrap (x.snd.fst+1),x.snd.snd.snd.fst,x.snd.snd.snd.snd.fst,x.snd.snd.snd.snd.snd.fst,x.snd.snd.snd.snd.snd.snd.fst,x.snd.snd.snd.snd.snd.snd.snd.fst,x.snd.snd.snd.snd.snd.snd.snd.snd.fst,x.snd.snd.snd.snd.snd.snd.snd.snd.snd.fst,x.snd.snd.snd.snd.snd.snd.snd.snd.snd.snd)) else some (Sum.inl (x.fst,IntKind.i64.wrap (x.snd.fst+1),x.snd.snd.snd.fst,x.snd.snd.snd.snd.fst,x.snd.snd.snd.snd.snd.fst,x.snd.snd.snd.snd.snd.snd.fst,x.snd.snd.snd.snd.snd.snd.snd.fst,x.snd.snd.snd.snd.snd.snd.snd.snd.fst,x.snd.snd.snd.snd.snd.snd.snd.snd.snd.fst,x.snd.snd.snd.snd.snd.snd.snd.snd.snd.snd))
                                      | Sum.inr r=>some r
                                  else some (Sum.inr (x8.fst,x8.snd.snd.fst,x8.snd.snd.snd.fst,x8.snd.snd.snd.snd.fst,x8.snd.snd.snd.snd.snd.fst,x8.snd.snd.snd.snd.snd.snd.fst,x8.snd.snd.snd.snd.snd.snd.snd.fst,x8.snd.snd.snd.snd.snd.snd.snd.snd.fst,x8.snd.snd.snd.snd.snd.snd.snd.snd.snd)))
                                (-1,0,x.snd.fst,x.snd.snd.fst,x.snd.snd.snd.fst,x.snd.snd.snd.snd.fst,x.snd.snd.snd.snd.snd.fst,x.snd.snd.snd.snd.snd.snd.fst,x.snd.snd.snd.snd.snd.snd.snd.fst,x.snd.snd.snd.snd.snd.snd.snd.snd)).bind
                            fun (x8:Int×List TPlace×List TTrans×Int×Int×List TEvent×List TFire×List Int×List Int)=>if x8.fst < 0 then some (Sum.inr (Sum.inl (x8.snd.snd.snd.fst,x8.snd.snd.snd.snd.fst,x8.snd.snd.snd.snd.snd.snd.fst,x8.snd.snd.snd.snd.snd.snd.snd.fst,x8.snd.snd.snd.snd.snd.snd.snd.snd))) else some (Sum.inl (x.fst,x8.fst,x8.snd.fst,x8.snd.snd.fst,x8.snd.snd.snd.fst,x8.snd.snd.snd.snd.fst,x8.snd.snd.snd.snd.snd.fst,x8.snd.snd.snd.snd.snd.snd.fst,x8.snd.snd.snd.snd.snd.snd.snd.fst,x8.snd.snd.snd.snd.snd.snd.snd.snd))
                        | Sum.inr y=>some (Sum.inr (Sum.inr (y.fst,y.snd.fst,y.snd.snd.fst,y.snd.snd.snd.fst,y.snd.snd.snd.snd)))
            else some (Sum.inr (Sum.inl (x2.snd.snd.snd.snd.fst,x2.snd.snd.snd.snd.snd.fst,x2.snd.snd.snd.snd.snd.snd.snd.fst,x2.snd.snd.snd.snd.snd.snd.snd.snd.fst,x2.snd.snd.snd.snd.snd.snd.snd.snd.snd))))
          (0,0,x1.fst,x1.snd.fst,x1.snd.snd.fst,x1.snd.snd.snd.fst,[],[],x1.snd.snd.snd.snd.fst,x1.snd.snd.snd.snd.snd)).bind
      fun (x2:Int×Int×List TFire×List Int×List Int⊕Int×Int×List TFire×List Int×List Int)=>
      match x2 with
      | Sum.inl x=>some (x.snd.fst,0,x.snd.snd.fst,x.snd.snd.snd.fst,x.snd.snd.snd.snd)
      | Sum.inr y=>some (y.snd.fst,y.fst,y.snd.snd.fst,y.snd.snd.snd.fst,y.snd.snd.snd.snd)
theorem e15:vfn (T:=tE) lpK H15 (a6 [n38]) q15 BJ.res (vOf BJ.code L15)=p15:=by kernel_rfl
abbrev n15:En tE:=⟨15,[],q15,p15⟩
theorem o15:aB F tE 15 q15 2 p15:=by
 rw [← e15]
 exact aw (fn:=BJ) (af (en:=n38) ah o38 rfl) rfl (by kernel_rfl)
def q43:FSp:=⟨[(false,[.d false (.sl false (.st 8))]),(false,[.d false (.sl false (.st 8))])],[],[],[.ld 0 false,.d true .bool,.slot 0 false]⟩
def L43:List (Nat×Lb):=[(6,.l [.ld 0 false,.d false (.sl false (.st 8)),.slot 0 false,.ld 1 false,.d false (.sl false (.st 8)),.slot 1 false] [.ld 4 false,.c (.bool false),.slot 4 false,.ld 5 false,.d true (.int .i64),.slot 5 false] [(some 0,[]),(none,[.ld 4 false,.c (.bool false),.slot 4 false])])]
def H43:List (Nat×VT):=[]
def p43:List TFire×List TFire→Option Bool:=fun (x:List TFire×List TFire)=>
  if (!decide ((↑x.fst.length:Int)=(↑x.snd.length:Int)))=true then some false
  else
    (aq (fun (n1:Int)=>if n1 < (↑x.fst.length:Int) then (idx x.fst n1).bind fun (x2:TFire)=>(idx x.snd n1).bind fun (x3:TFire)=>if (!(decide (x2.Time=x3.Time)&&(decide (x2.Trans=x3.Trans)&&true)))=true then some (Sum.inr (Sum.inr ())) else some (Sum.inl (IntKind.i64.wrap (n1+1))) else some (Sum.inr (Sum.inl ()))) 0).bind fun (x1:Unit⊕Unit)=>
      match x1 with
      | Sum.inl x=>some true
      | Sum.inr y=>some false
theorem e43:vfn (T:=tE) lpK H43 (a6 []) q43 BD.res (vOf BD.code L43)=p43:=by kernel_rfl
abbrev n43:En tE:=⟨43,[],q43,p43⟩
theorem o43:aB F tE 43 q43 2 p43:=by
 rw [← e43]
 exact aw (fn:=BD) ah rfl (by kernel_rfl)
def q44:FSp:=⟨[(false,[.d false (.sl false (.int .i64))]),(false,[.d false (.sl false (.int .i64))])],[],[],[.ld 0 false,.d true .bool,.slot 0 false]⟩
def L44:List (Nat×Lb):=[(6,.l [.ld 0 false,.d false (.sl false (.int .i64)),.slot 0 false,.ld 1 false,.d false (.sl false (.int .i64)),.slot 1 false] [.ld 4 false,.c (.bool false),.slot 4 false,.ld 5 false,.d true (.int .i64),.slot 5 false] [(some 0,[]),(none,[.ld 4 false,.c (.bool false),.slot 4 false])])]
def H44:List (Nat×VT):=[]
def p44:List Int×List Int→Option Bool:=fun (x:List Int×List Int)=>
  if (!decide ((↑x.fst.length:Int)=(↑x.snd.length:Int)))=true then some false
  else
    (aq (fun (n1:Int)=>if n1 < (↑x.fst.length:Int) then (idx x.fst n1).bind fun (n2:Int)=>(idx x.snd n1).bind fun (n3:Int)=>if (!decide (n2=n3))=true then some (Sum.inr (Sum.inr ())) else some (Sum.inl (IntKind.i64.wrap (n1+1))) else some (Sum.inr (Sum.inl ()))) 0).bind fun (x1:Unit⊕Unit)=>
      match x1 with
      | Sum.inl x=>some true
      | Sum.inr y=>some false
theorem e44:vfn (T:=tE) lpK H44 (a6 []) q44 Ct.res (vOf Ct.code L44)=p44:=by kernel_rfl
abbrev n44:En tE:=⟨44,[],q44,p44⟩
theorem o44:aB F tE 44 q44 2 p44:=by
 rw [← e44]
 exact aw (fn:=Ct) ah rfl (by kernel_rfl)
def q19:FSp:=⟨[(true,[.d false (.sl false (.st 8)),.d false (.sl false (.int .i64)),.d false (.sl false (.int .i64)),.d true (.int .i64)]),(true,[.d false (.sl false (.st 8)),.d false (.sl false (.int .i64)),.d false (.sl false (.int .i64)),.d true (.int .i64)])],[],[],[.ld 0 false,.d true .bool,.slot 0 false]⟩
def L19:List (Nat×Lb):=[]
def H19:List (Nat×VT):=[]
def p19:List TFire×List Int×List Int×Int×List TFire×List Int×List Int×Int→Option Bool:=fun (x:List TFire×List Int×List Int×Int×List TFire×List Int×List Int×Int)=>if x.snd.snd.snd.fst=x.snd.snd.snd.snd.snd.snd.snd then (p43 (x.fst,x.snd.snd.snd.snd.fst)).bind fun (b1:Bool)=>if b1=true then (p44 (x.snd.fst,x.snd.snd.snd.snd.snd.fst)).bind fun (b2:Bool)=>if b2=true then (p44 (x.snd.snd.fst,x.snd.snd.snd.snd.snd.snd.fst)).bind fun (b3:Bool)=>some b3 else some false else some false else some false
theorem e19:vfn (T:=tE) lpK H19 (a6 [n43,n44]) q19 C0.res (vOf C0.code L19)=p19:=by kernel_rfl
abbrev n19:En tE:=⟨19,[],q19,p19⟩
theorem o19:aB F tE 19 q19 2 p19:=by
 rw [← e19]
 exact aw (fn:=C0) (af (en:=n43) (af (en:=n44) ah o44 rfl) o43 rfl) rfl (by kernel_rfl)
def q3:FSp:=⟨[(true,[.d false (.sl false (.int .u8)),.d false (.sl false (.st 14))]),(false,[.d true (.int .u8)])],[],[],[.ld 0 false,.d true .bool,.slot 0 false]⟩
def L3:List (Nat×Lb):=[(2,.j [.ld 1 false,.d true (.int .u8),.slot 1 false,.ld 2 false,.ptr 0 0,.slot 2 false,.ld 4 false,.c (.bool false),.slot 4 false,.ld 22 false,.d true .bool,.slot 22 false,.ldr,.d false (.sl false (.int .u8)),.d false (.sl false (.st 14)),.row]),(8,.j [.ld 4 false,.c (.bool false),.slot 4 false,.ld 5 false,.ptr 0 0,.slot 5 false,.ld 6 false,.d true (.int .i64),.slot 6 false,.ld 7 false,.r 1,.slot 7 false,.ld 50 false,.d true .bool,.slot 50 false,.ldr,.d true (.sl false (.st 2)),.d true (.sl false (.st 1)),.row,.po (.st 11)]),(13,.l [.ld 10 false,.d true (.int .i64),.slot 10 false] [.ld 4 false,.c (.bool false),.slot 4 false,.ld 7 false,.r 0,.slot 7 false,.ld 9 false,.ptr 1 0,.slot 9 false,.ld 11 false,.d true (.int .i64),.slot 11 false,.po (.st 11),.ldr,.r 2,.r 3,.r 4,.d true (.int .i64),.row,.sl (.st 8),.sl (.int .i64),.sl (.int .i64)] [(some 0,[.ld 7 false,.r 0,.slot 7 false,.ld 9 false,.ptr 1 0,.slot 9 false,.po (.st 11),.ldr,.r 2,.r 3,.r 4,.d true (.int .i64),.row,.sl (.st 8),.sl (.int .i64),.sl (.int .i64)]),(none,[.ld 4 false,.d true .bool,.slot 4 false])]),(15,.j [.ld 4 false,.c (.bool false),.slot 4 false,.ld 7 false,.r 0,.slot 7 false,.ld 9 false,.ptr 1 0,.slot 9 false,.ld 11 false,.d true (.int .i64),.slot 11 false,.ld 62 false,.d true .bool,.slot 62 false,.po (.st 11),.ldr,.r 2,.r 3,.r 4,.d true (.int .i64),.row,.sl (.st 8),.sl (.int .i64),.sl (.int .i64)]),(18,.j [.ld 4 false,.c (.bool false),.slot 4 false,.ld 7 false,.r 0,.slot 7 false,.ld 9 false,.ptr 1 0,.slot 9 false,.ld 11 false,.d true (.int .i64),.slot 11 false,.ld 12 false,.r 2,.slot 12 false,.ld 13 false,.d true (.int .i64),.slot 13 false,.ld 76 false,.d true .bool,.slot 76 false,.pr (.st 11),.ldr,.r 3,.r 4,.r 5,.d true (.int .i64),.row,.sl (.st 13),.sl (.st 8),.sl (.int .i64),.sl (.int .i64)])]
def H3:List (Nat×VT):=[(35,(.int .i64)),(39,(.int .i64))]
def p3:List Int×List TAct×Int→Option Bool:=fun (x:List Int×List TAct×Int)=>
  ((p11 ()).bind fun (b1:Bool)=>if (!b1)=true then some (Sum.inl (x.snd.snd,true,x.fst,x.snd.fst)) else (p12 (x.fst,x.snd.fst)).bind fun (b2:Bool)=>some (Sum.inl (x.snd.snd,!b2,x.fst,x.snd.fst))).bind fun (x1:Int×Bool×List Int×List TAct⊕Bool)=>
    match x1 with
    | Sum.inl x=>
      if x.snd.fst=true then (p11 ()).bind fun (b3:Bool)=>some b3
      else
        (p13 (x.snd.snd.fst,x.snd.snd.snd)).bind fun (x3:List TPlace×List TTrans)=>
          (remI IntKind.u8 x.fst 20).bind fun (n4:Int)=>
            (mkS 8 (↑x3.fst.length:Int) (↑x3.fst.length:Int) 0).bind fun (l5:List Int)=>
              (mkS 8 (↑x3.snd.length:Int) (↑x3.snd.length:Int) 0).bind fun (l6:List Int)=>
                (p14 (x3.fst,x3.snd,1,l5,l6,0,IntKind.i64.wrap (IntKind.i64.wrap n4 - 1))).bind fun (x7:Int×Option TProcess)=>
                  (if (!decide (x7.fst=0))=true then some (Sum.inl (IntKind.i64.wrap (IntKind.i64.wrap n4 - 1),true,x3.fst,x3.snd,x7.snd)) else some (Sum.inl (IntKind.i64.wrap (IntKind.i64.wrap n4 - 1),x7.snd.isNone,x3.fst,x3.snd,x7.snd))).bind fun (x8:Int×Bool×List TPlace×List TTrans×Option TProcess⊕Bool)=>
                    match x8 with
                    | Sum.inl x=>
                      if x.snd.fst=true then some false
                      else
                        (p15 (x.snd.snd.fst,x.snd.snd.snd.fst,x.fst)).bind fun (x10:Int×Int×List TFire×List Int×List Int)=>
                          (aq
                                (fun (x11:Int×Option TProcess×Int×List TFire×List Int×List Int)=>
                                  (if x11.fst < 30 then x11.snd.fst.bind fun (x12:TProcess)=>(p16 x12).bind fun (b13:Bool)=>some (Sum.inl (x11.fst,b13,x11.snd.fst,x11.snd.snd.fst,x11.snd.snd.snd.fst,x11.snd.snd.snd.snd.fst,x11.snd.snd.snd.snd.snd)) else some (Sum.inl (x11.fst,false,x11.snd.fst,x11.snd.snd.fst,x11.snd.snd.snd.fst,x11.snd.snd.snd.snd.fst,x11.snd.snd.snd.snd.snd))).bind fun (x12:Int×Bool×Option TProcess×Int×List TFire×List Int×List Int⊕Int×Option TProcess×Int×List TFire×List Int×List Int⊕Option TProcess×Int×List TFire×List Int×List Int⊕Bool)=>
                                    match x12 with
                                    | Sum.inl x=>
                                      if x.snd.fst=true then
                                        x.snd.snd.fst.bind fun (x14:TProcess)=>
                                          (p17 x14).bind fun (x15:Int×List TMail×TProcess)=>
                                            (if (!decide ((↑x15.snd.fst.length:Int)=0))=true then some (Sum.inl (x.fst,x15.fst,true,x15.snd.snd,x.snd.snd.snd.fst,x15.snd.fst,x.snd.snd.snd.snd.fst,x.snd.snd.snd.snd.snd.fst,x.snd.snd.snd.snd.snd.snd)) else some (Sum.inl (x.fst,x15.fst,!decide (x15.fst=0),x15.snd.snd,x.snd.snd.snd.fst,x15.snd.fst,x.snd.snd.snd.snd.fst,x.snd.snd.snd.snd.snd.fst,x.snd.snd.snd.snd.snd.snd))).bind fun (x16:Int×Int×Bool×TProcess×Int×List TMail×List TFire×List Int×List Int⊕Int×Option TProcess×Int×List TFire×List Int×List Int⊕Option TProcess×Int×List TFire×List Int×List Int⊕Bool)=>
                                              match x16 with
                                              | Sum.inl x=>if x.snd.snd.fst=true then if x.snd.fst=x10.snd.fst then some (Sum.inr (Sum.inr (decide ((↑x.snd.snd.snd.snd.snd.fst.length:Int)=0)))) else some (Sum.inr (Sum.inr false)) else some (Sum.inl (IntKind.i64.wrap (x.fst+1),some x.snd.snd.snd.fst,x.snd.snd.snd.snd.fst,x.snd.snd.snd.snd.snd.snd.fst,x.snd.snd.snd.snd.snd.snd.snd.fst,x.snd.snd.snd.snd.snd.snd.snd.snd))
                                              | Sum.inr r=>some r
                                      else some (Sum.inr (Sum.inl (x.snd.snd.fst,x.snd.snd.snd.fst,x.snd.snd.snd.snd.fst,x.snd.snd.snd.snd.snd.fst,x.snd.snd.snd.snd.snd.snd)))
                                    | Sum.inr r=>some r)
                                (0,x.snd.snd.snd.snd,x10.fst,x10.snd.snd.fst,x10.snd.snd.snd.fst,x10.snd.snd.snd.snd)).bind
                            fun (x11:Option TProcess×Int×List TFire×List Int×List Int⊕Bool)=>
                            match x11 with
                            | Sum.inl x=>x.fst.bind fun (x13:TProcess)=>(p17 x13).bind fun (x14:Int×List TMail×TProcess)=>if x10.snd.fst=0 then (p18 x14.snd.snd).bind fun (b15:Bool)=>if b15=true then (p16 x14.snd.snd).bind fun (b16:Bool)=>if (!b16)=true then if (↑x14.snd.fst.length:Int)=0 then if x14.fst=0 then (p20 x14.snd.snd).bind fun (x17:Int×List TFire×List Int×List Int)=>(p19 (x17.snd.fst,x17.snd.snd.fst,x17.snd.snd.snd,x17.fst,x.snd.snd.fst,x.snd.snd.snd.fst,x.snd.snd.snd.snd,x.snd.fst)).bind fun (b18:Bool)=>some b18 else some false else some false else some false else some false else some false
                            | Sum.inr y=>some y
                    | Sum.inr r=>some r
    | Sum.inr r=>some r
theorem e3:vfn (T:=tE) lpK H3 (a6 [n11,n12,n13,n14,n15,n16,n17,n18,n20,n19]) q3 fn3.res (vOf fn3.code L3)=p3:=by kernel_rfl
abbrev n3:En tE:=⟨3,[],q3,p3⟩
theorem o3:aB F tE 3 q3 2 p3:=by
 rw [← e3]
 exact aw (fn:=fn3) (af (en:=n11) (af (en:=n12) (af (en:=n13) (af (en:=n14) (af (en:=n15) (af (en:=n16) (af (en:=n17) (af (en:=n18) (af (en:=n20) (af (en:=n19) ah o19 rfl) o20 rfl) o18 rfl) o17 rfl) o16 rfl) o15 rfl) o14 rfl) o13 rfl) o12 rfl) o11 rfl) rfl (by kernel_rfl)
def ov:FSp:=⟨[(false,[.c .nilPtr]),(true,[.d true (.int .i64),.d true (.int .i64),.d true (.int .i64),.d true (.int .i64),.d true (.int .i64)])],[],[],[]⟩
def yP:List (Nat×Lb):=[]
def zl:List (Nat×VT):=[]
def lN:Int×Int×Int×Int×Int→Option Unit:=fun (x:Int×Int×Int×Int×Int)=>some ()
theorem A7:vfn (T:=tE) lpK zl (a6 []) ov Bw.res (vOf Bw.code yP)=lN:=by kernel_rfl
abbrev sz:En tE:=⟨22,[(0,1000003)],ov,lN⟩
theorem yY:aB F tE 22 ov 2 lN:=by
 rw [← A7]
 exact aw (fn:=Bw) ah rfl (by kernel_rfl)
def oM:FSp:=⟨[(false,[.c .nilPtr])],[],[],[.ld 0 false,.c (.bool false),.slot 0 false]⟩
def AL:List (Nat×Lb):=[]
def yl:List (Nat×VT):=[]
def eM:Unit→Option Unit:=fun (x:Unit)=>some ()
theorem zx:vfn (T:=tE) lpK yl (a6 []) oM wz.res (vOf wz.code AL)=eM:=by kernel_rfl
abbrev lh:En tE:=⟨16,[(0,1000003)],oM,eM⟩
theorem te:aB F tE 16 oM 1 eM:=by
 rw [← zx]
 exact aw (fn:=wz) ah rfl (by kernel_rfl)
def nG:FSp:=⟨[(false,[.c .nilPtr])],[],[],[.ld 0 false,.c .nilSlice,.slot 0 false,.ld 1 false,.d true (.int .i64),.slot 1 false]⟩
def AQ:List (Nat×Lb):=[]
def Ad:List (Nat×VT):=[]
def iM:Unit→Option Int:=fun (x:Unit)=>(eM ()).bind fun (x1:Unit)=>some 0
theorem xn:vfn (T:=tE) lpK Ad (a6 [lh]) nG wq.res (vOf wq.code AQ)=iM:=by kernel_rfl
abbrev rM:En tE:=⟨17,[(0,1000003)],nG,iM⟩
theorem yD:aB F tE 17 nG 1 iM:=by
 rw [← xn]
 exact aw (fn:=wq) (af (en:=lh) ah te rfl) rfl (by kernel_rfl)
def ng:FSp:=⟨[(false,[.c .nilPtr])],[],[],[.ld 0 false,.d true (.int .i64),.slot 0 false]⟩
def xR:List (Nat×Lb):=[]
def zm:List (Nat×VT):=[]
def gp:Unit→Option Int:=fun (x:Unit)=>some 0
theorem zI:vfn (T:=tE) lpK zm (a6 []) ng xa.res (vOf xa.code xR)=gp:=by kernel_rfl
abbrev rY:En tE:=⟨23,[(0,1000003)],ng,gp⟩
theorem yj:aB F tE 23 ng 1 gp:=by
 rw [← zI]
 exact aw (fn:=xa) ah rfl (by kernel_rfl)
def oG:FSp:=⟨[(false,[.c .nilPtr])],[],[],[.ld 0 false,.c (.bool false),.slot 0 false]⟩
def xz:List (Nat×Lb):=[]
def xU:List (Nat×VT):=[]
def fS:Unit→Option Unit:=fun (x:Unit)=>some ()
theorem zR:vfn (T:=tE) lpK xU (a6 []) oG wm.res (vOf wm.code xz)=fS:=by kernel_rfl
abbrev uB:En tE:=⟨18,[(0,1000003)],oG,fS⟩
theorem yk:aB F tE 18 oG 1 fS:=by
 rw [← zR]
 exact aw (fn:=wm) ah rfl (by kernel_rfl)
def oj:FSp:=⟨[(false,[.c .nilPtr])],[],[],[.ld 0 true,.c .nilSlice,.c .nilSlice,.c .nilSlice,.d true (.int .i64),.slot 0 true]⟩
def xQ:List (Nat×Lb):=[]
def yO:List (Nat×VT):=[]
def gr:Unit→Option Int:=fun (x:Unit)=>some 0
theorem Bd:vfn (T:=tE) lpK yO (a6 []) oj wk.res (vOf wk.code xQ)=gr:=by kernel_rfl
abbrev tD:En tE:=⟨20,[(0,1000003)],oj,gr⟩
theorem xH:aB F tE 20 oj 1 gr:=by
 rw [← Bd]
 exact aw (fn:=wk) ah rfl (by kernel_rfl)
def q5:FSp:=⟨[(true,[.d false (.sl false (.int .u8)),.d false (.sl false (.st 14))]),(false,[.d true (.int .i64)]),(false,[.d true (.int .u8)]),(true,[.d true (.int .i64),.d true (.int .i64),.d true (.int .i64),.d true (.int .i64),.d true (.int .i64)])],[],[],[.ld 0 false,.d true .bool,.slot 0 false]⟩
def L5:List (Nat×Lb):=[(2,.j [.ld 1 false,.d true (.int .i64),.slot 1 false,.ld 2 false,.d true (.int .u8),.slot 2 false,.ld 4 false,.ptr 0 0,.slot 4 false,.ld 7 false,.ptr 1 0,.slot 7 false,.ld 26 false,.d true .bool,.slot 26 false,.ldr,.d false (.sl false (.int .u8)),.d false (.sl false (.st 14)),.row,.pr (.st 13)]),(7,.j [.ld 1 false,.d true (.int .i64),.slot 1 false,.ld 7 false,.ptr 0 0,.slot 7 false,.ld 9 false,.ptr 1 0,.slot 9 false,.ld 10 false,.ptr 2 0,.slot 10 false,.ld 11 false,.r 3,.slot 11 false,.ld 12 false,.d true (.int .i64),.slot 12 false,.ld 13 false,.d true .bool,.slot 13 false,.pr (.st 13),.ldr,.d true (.sl false (.st 2)),.d true (.sl false (.st 1)),.row,.ldr,.d true (.int .i64),.d true (.sl false (.int .i64)),.d true (.sl false (.int .i64)),.row,.po (.st 11)])]
def H5:List (Nat×VT):=[(55,(.int .i64))]
def p5:List Int×List TAct×Int×Int×Int×Int×Int×Int×Int→Option Bool:=fun (x:List Int×List TAct×Int×Int×Int×Int×Int×Int×Int)=>
  ((p11 ()).bind fun (b1:Bool)=>if (!b1)=true then some (Sum.inl (x.snd.snd.fst,x.snd.snd.snd.fst,true,x.fst,x.snd.fst,{ From:=x.snd.snd.snd.snd.fst,To:=x.snd.snd.snd.snd.snd.fst,E:={ Time:=x.snd.snd.snd.snd.snd.snd.fst,Place:=x.snd.snd.snd.snd.snd.snd.snd.fst,N:=x.snd.snd.snd.snd.snd.snd.snd.snd } })) else (p12 (x.fst,x.snd.fst)).bind fun (b2:Bool)=>some (Sum.inl (x.snd.snd.fst,x.snd.snd.snd.fst,!b2,x.fst,x.snd.fst,{ From:=x.snd.snd.snd.snd.fst,To:=x.snd.snd.snd.snd.snd.fst,E:={ Time:=x.snd.snd.snd.snd.snd.snd.fst,Place:=x.snd.snd.snd.snd.snd.snd.snd.fst,N:=x.snd.snd.snd.snd.snd.snd.snd.snd } }))).bind fun (x1:Int×Int×Bool×List Int×List TAct×TMail⊕Bool)=>
    match x1 with
    | Sum.inl x=>
      if x.snd.snd.fst=true then (p11 ()).bind fun (b3:Bool)=>some b3
      else
        (p13 (x.snd.snd.snd.fst,x.snd.snd.snd.snd.fst)).bind fun (x3:List TPlace×List TTrans)=>
          (p21 (x3.fst,x3.snd,x.snd.fst,[])).bind fun (x4:Int×List Int×List Int)=>
            (p14 (x3.fst,x3.snd,x4.fst,x4.snd.fst,x4.snd.snd,x.fst,5)).bind fun (x5:Int×Option TProcess)=>
              (if 0≤x.fst then some (Sum.inl (x.fst,x5.fst,decide (x.fst < x4.fst),x.snd.snd.snd.snd.snd,x3.fst,x3.snd,x4.fst,x4.snd.fst,x4.snd.snd,x5.snd)) else some (Sum.inl (x.fst,x5.fst,false,x.snd.snd.snd.snd.snd,x3.fst,x3.snd,x4.fst,x4.snd.fst,x4.snd.snd,x5.snd))).bind fun (x6:Int×Int×Bool×TMail×List TPlace×List TTrans×Int×List Int×List Int×Option TProcess⊕Bool)=>
                match x6 with
                | Sum.inl x=>(app 8 [] x.snd.snd.snd.snd.snd.snd.snd.snd.fst).bind fun (l8:List Int)=>(app 8 l8 [0]).bind fun (l9:List Int)=>(p14 (x.snd.snd.snd.snd.fst,x.snd.snd.snd.snd.snd.fst,x.snd.snd.snd.snd.snd.snd.fst,x.snd.snd.snd.snd.snd.snd.snd.fst,l9,x.fst,5)).bind fun (x10:Int×Option TProcess)=>(lN (x.snd.snd.snd.fst.From,x.snd.snd.snd.fst.To,x.snd.snd.snd.fst.E.Time,x.snd.snd.snd.fst.E.Place,x.snd.snd.snd.fst.E.N)).bind fun (x11:Unit)=>(iM ()).bind fun (n12:Int)=>if (decide (x.snd.fst=0)==x.snd.snd.fst)=true then if x.snd.snd.fst=true then if x10.fst=1 then if x10.snd.isNone=true then (gp ()).bind fun (n13:Int)=>if n13=0 then (eM ()).bind fun (x14:Unit)=>if n12=0 then (fS ()).bind fun (x15:Unit)=>(gr ()).bind fun (n16:Int)=>some (decide ((↑0:Int)=0)) else some false else some false else some false else some false else if x.snd.fst=1 then if x.snd.snd.snd.snd.snd.snd.snd.snd.snd.isNone=true then if x10.fst=1 then if x10.snd.isNone=true then (gp ()).bind fun (n13:Int)=>if n13=0 then (eM ()).bind fun (x14:Unit)=>if n12=0 then (fS ()).bind fun (x15:Unit)=>(gr ()).bind fun (n16:Int)=>some (decide ((↑0:Int)=0)) else some false else some false else some false else some false else some false else some false else some false
                | Sum.inr r=>some r
    | Sum.inr r=>some r
theorem e5:vfn (T:=tE) lpK H5 (a6 [sz,rM,rY,lh,uB,tD,n11,n12,n13,n21,n14]) q5 fn5.res (vOf fn5.code L5)=p5:=by kernel_rfl
abbrev n5:En tE:=⟨5,[],q5,p5⟩
theorem o5:aB F tE 5 q5 4 p5:=by
 rw [← e5]
 exact aw (fn:=fn5) (af (en:=sz) (af (en:=rM) (af (en:=rY) (af (en:=lh) (af (en:=uB) (af (en:=tD) (af (en:=n11) (af (en:=n12) (af (en:=n13) (af (en:=n21) (af (en:=n14) ah o14 rfl) o21 rfl) o13 rfl) o12 rfl) o11 rfl) xH rfl) yk rfl) te rfl) yj rfl) yD rfl) yY rfl) rfl (by kernel_rfl)
def q8:FSp:=⟨[(true,[.d false (.sl false (.int .u8)),.d false (.sl false (.st 14))]),(false,[.d true (.int .u8)]),(false,[.d false (.sl false (.int .u8))]),(false,[.d true (.int .u8)]),(false,[.d false (.sl false (.int .u8))])],[],[],[.ld 0 false,.d true .bool,.slot 0 false]⟩
def p8:List Int×List TAct×Int×List Int×Int×List Int→Option Bool:=fun (x:List Int×List TAct×Int×List Int×Int×List Int)=>
  ((p11 ()).bind fun (b1:Bool)=>if (!b1)=true then some (Sum.inl (x.snd.snd.fst,x.snd.snd.snd.fst,x.snd.snd.snd.snd.fst,x.snd.snd.snd.snd.snd,true,x.fst,x.snd.fst)) else (p12 (x.fst,x.snd.fst)).bind fun (b2:Bool)=>if (!b2)=true then some (Sum.inl (x.snd.snd.fst,x.snd.snd.snd.fst,x.snd.snd.snd.snd.fst,x.snd.snd.snd.snd.snd,true,x.fst,x.snd.fst)) else if 20 < (↑x.snd.snd.snd.fst.length:Int) then some (Sum.inl (x.snd.snd.fst,x.snd.snd.snd.fst,x.snd.snd.snd.snd.fst,x.snd.snd.snd.snd.snd,true,x.fst,x.snd.fst)) else some (Sum.inl (x.snd.snd.fst,x.snd.snd.snd.fst,x.snd.snd.snd.snd.fst,x.snd.snd.snd.snd.snd,decide (80 < (↑x.snd.snd.snd.snd.snd.length:Int)),x.fst,x.snd.fst))).bind fun (x1:Int×List Int×Int×List Int×Bool×List Int×List TAct⊕Bool)=>
    match x1 with
    | Sum.inl x=>
      if x.snd.snd.snd.snd.fst=true then (p11 ()).bind fun (b3:Bool)=>some b3
      else
        (p13 (x.snd.snd.snd.snd.snd.fst,x.snd.snd.snd.snd.snd.snd)).bind fun (x3:List TPlace×List TTrans)=>
          (p21 (x3.fst,x3.snd,x.fst,x.snd.fst)).bind fun (x4:Int×List Int×List Int)=>
            (remI IntKind.u8 x.snd.snd.fst 15).bind fun (n5:Int)=>
              (aq
                    (fun (x6:Int×List TPlace×List TTrans×Int×List Int×List Int×List (Option TProcess))=>
                      if x6.fst < x6.snd.snd.snd.fst then
                        (p14 (x6.snd.fst,x6.snd.snd.fst,x6.snd.snd.snd.fst,x6.snd.snd.snd.snd.fst,x6.snd.snd.snd.snd.snd.fst,x6.fst,IntKind.i64.wrap n5)).bind fun (x7:Int×Option TProcess)=>
                          (if (!decide (x7.fst=0))=true then some (Sum.inl (x6.fst,true,x6.snd.fst,x6.snd.snd.fst,x6.snd.snd.snd.fst,x6.snd.snd.snd.snd.fst,x6.snd.snd.snd.snd.snd.fst,x6.snd.snd.snd.snd.snd.snd,x7.snd)) else some (Sum.inl (x6.fst,x7.snd.isNone,x6.snd.fst,x6.snd.snd.fst,x6.snd.snd.snd.fst,x6.snd.snd.snd.snd.fst,x6.snd.snd.snd.snd.snd.fst,x6.snd.snd.snd.snd.snd.snd,x7.snd))).bind fun (x8:Int×Bool×List TPlace×List TTrans×Int×List Int×List Int×List (Option TProcess)×Option TProcess⊕Int×List TPlace×List TTrans×Int×List Int×List Int×List (Option TProcess)⊕List TPlace×List TTrans×Int×List Int×List Int×List (Option TProcess)⊕Unit)=>
                            match x8 with
                            | Sum.inl x=>if x.snd.fst=true then some (Sum.inr (Sum.inr ())) else (app 8 x.snd.snd.snd.snd.snd.snd.snd.fst [x.snd.snd.snd.snd.snd.snd.snd.snd]).bind fun (l10:List (Option TProcess))=>some (Sum.inl (IntKind.i64.wrap (x.fst+1),x.snd.snd.fst,x.snd.snd.snd.fst,x.snd.snd.snd.snd.fst,x.snd.snd.snd.snd.snd.fst,x.snd.snd.snd.snd.snd.snd.fst,l10))
                            | Sum.inr r=>some r
                      else some (Sum.inr (Sum.inl (x6.snd.fst,x6.snd.snd.fst,x6.snd.snd.snd.fst,x6.snd.snd.snd.snd.fst,x6.snd.snd.snd.snd.snd.fst,x6.snd.snd.snd.snd.snd.snd))))
                    (0,x3.fst,x3.snd,x4.fst,x4.snd.fst,x4.snd.snd,[])).bind
                fun (x6:List TPlace×List TTrans×Int×List Int×List Int×List (Option TProcess)⊕Unit)=>
                match x6 with
                | Sum.inl x_1=>
                  (p24 (x_1.fst,x_1.snd.fst,x_1.snd.snd.fst,x_1.snd.snd.snd.fst,x_1.snd.snd.snd.snd.fst)).bind fun (l8:List TLane)=>
                    (mkS 8 (↑l8.length:Int) (↑l8.length:Int) 0).bind fun (l9:List Int)=>
                      (aq
                            (fun (x10:Int×Int×List Int×List Int×List (Option TProcess)×List TLane×List Int×List TMail)=>
                              if x10.fst < (↑x.snd.snd.snd.fst.length:Int) then
                                ((idx x.snd.snd.snd.fst x10.fst).bind fun (n11:Int)=>(remI IntKind.u8 n11 2).bind fun (n12:Int)=>if n12=1 then some (Sum.inl (x10.fst,decide (0 < (↑x10.snd.snd.snd.snd.snd.snd.snd.length:Int)),x10.snd.fst,x10.snd.snd.fst,x10.snd.snd.snd.fst,x10.snd.snd.snd.snd.fst,x10.snd.snd.snd.snd.snd.fst,x10.snd.snd.snd.snd.snd.snd.fst,x10.snd.snd.snd.snd.snd.snd.snd)) else some (Sum.inl (x10.fst,false,x10.snd.fst,x10.snd.snd.fst,x10.snd.snd.snd.fst,x10.snd.snd.snd.snd.fst,x10.snd.snd.snd.snd.snd.fst,x10.snd.snd.snd.snd.snd.snd.fst,x10.snd.snd.snd.snd.snd.snd.snd))).bind fun (x11:Int×Bool×Int×List Int×List Int×List (Option TProcess)×List TLane×List Int×List TMail⊕Int×Int×List Int×List Int×List (Option TProcess)×List TLane×List Int×List TMail⊕Unit⊕Bool)=>
                                  match x11 with
                                  | Sum.inl x_2=>
                                    if x_2.snd.fst=true then (idx x_2.snd.snd.snd.snd.snd.snd.snd.snd 0).bind fun (x13:TMail)=>(idx x_2.snd.snd.snd.snd.snd.fst x13.To).bind fun (x14:Option TProcess)=>(idx x_2.snd.snd.snd.snd.snd.snd.snd.snd 0).bind fun (x15:TMail)=>x14.bind fun (x16:TProcess)=>(p22 (x15.From,x15.To,x15.E.Time,x15.E.Place,x15.E.N,x16)).bind fun (x17:TProcess)=>(slc x_2.snd.snd.snd.snd.snd.snd.snd.snd 1 (↑x_2.snd.snd.snd.snd.snd.snd.snd.snd.length:Int)).bind fun (l18:List TMail)=>some (Sum.inl (IntKind.i64.wrap (x_2.fst+1),x_2.snd.snd.fst,x_2.snd.snd.snd.fst,x_2.snd.snd.snd.snd.fst,x_2.snd.snd.snd.snd.snd.fst.set x13.To.toNat (some x17),x_2.snd.snd.snd.snd.snd.snd.fst,x_2.snd.snd.snd.snd.snd.snd.snd.fst,l18))
                                    else
                                      (idx x.snd.snd.snd.fst x_2.fst).bind fun (n13:Int)=>
                                        (quoI IntKind.u8 n13 2).bind fun (n14:Int)=>
                                          (remI IntKind.i64 (IntKind.i64.wrap n14) x_2.snd.snd.fst).bind fun (n15:Int)=>
                                            (idx x_2.snd.snd.snd.snd.snd.fst n15).bind fun (x16:Option TProcess)=>
                                              x16.bind fun (x17:TProcess)=>
                                                (p16 x17).bind fun (b18:Bool)=>
                                                  x16.bind fun (x19:TProcess)=>
                                                    (p17 x19).bind fun (x20:Int×List TMail×TProcess)=>
                                                      if (!decide (x20.fst=0))=true then some (Sum.inr (Sum.inr true))
                                                      else
                                                        (if (!b18)=true then some (Sum.inl (x_2.fst,decide (0 < (↑x20.snd.fst.length:Int)),x_2.snd.snd.fst,x_2.snd.snd.snd.fst,x_2.snd.snd.snd.snd.fst,x_2.snd.snd.snd.snd.snd.fst.set n15.toNat (some x20.snd.snd),x_2.snd.snd.snd.snd.snd.snd.fst,x_2.snd.snd.snd.snd.snd.snd.snd.fst,x_2.snd.snd.snd.snd.snd.snd.snd.snd,x20.snd.fst)) else some (Sum.inl (x_2.fst,false,x_2.snd.snd.fst,x_2.snd.snd.snd.fst,x_2.snd.snd.snd.snd.fst,x_2.snd.snd.snd.snd.snd.fst.set n15.toNat (some x20.snd.snd),x_2.snd.snd.snd.snd.snd.snd.fst,x_2.snd.snd.snd.snd.snd.snd.snd.fst,x_2.snd.snd.snd.snd.snd.snd.snd.snd,x20.snd.fst))).bind fun (x21:Int×Bool×Int×List Int×List Int×List (Option TProcess)×List TLane×List Int×List TMail×List TMail⊕Int×Int×List Int×List Int×List (Option TProcess)×List TLane×List Int×List TMail⊕Unit⊕Bool)=>
                                                          match x21 with
                                                          | Sum.inl x_3=>
                                                            if x_3.snd.fst=true then some (Sum.inr (Sum.inr false))
                                                            else
                                                              (aq
                                                                    (fun (x23:Int×Int×List Int×List Int×List (Option TProcess)×List TLane×List Int×List TMail)=>
                                                                      if x23.fst < (↑x23.snd.snd.snd.snd.snd.snd.snd.length:Int) then
                                                                        (idx x23.snd.snd.snd.snd.snd.snd.snd x23.fst).bind fun (x24:TMail)=>
                                                                          (p25 (x23.snd.snd.snd.snd.snd.fst,x24.From,x24.To)).bind fun (n25:Int)=>
                                                                            (if n25 < 0 then some (Sum.inl (x23.fst,n25,true,x23.snd.fst,x23.snd.snd.fst,x23.snd.snd.snd.fst,x23.snd.snd.snd.snd.fst,x23.snd.snd.snd.snd.snd.fst,x23.snd.snd.snd.snd.snd.snd.fst,x23.snd.snd.snd.snd.snd.snd.snd,x24)) else (idx x.snd.snd.snd.fst x_3.fst).bind fun (n26:Int)=>(quoI IntKind.u8 n26 2).bind fun (n27:Int)=>(remI IntKind.i64 (IntKind.i64.wrap n27) x23.snd.fst).bind fun (n28:Int)=>if (!decide (x24.From=n28))=true then some (Sum.inl (x23.fst,n25,true,x23.snd.fst,x23.snd.snd.fst,x23.snd.snd.snd.fst,x23.snd.snd.snd.snd.fst,x23.snd.snd.snd.snd.snd.fst,x23.snd.snd.snd.snd.snd.snd.fst,x23.snd.snd.snd.snd.snd.snd.snd,x24)) else (idx x23.snd.snd.snd.snd.snd.snd.fst n25).bind fun (n29:Int)=>some (Sum.inl (x23.fst,n25,decide (x24.E.Time < n29),x23.snd.fst,x23.snd.snd.fst,x23.snd.snd.snd.fst,x23.snd.snd.snd.snd.fst,x23.snd.snd.snd.snd.snd.fst,x23.snd.snd.snd.snd.snd.snd.fst,x23.snd.snd.snd.snd.snd.snd.snd,x24))).bind fun (x26:Int×Int×Bool×Int×List Int×List Int×List (Option TProcess)×List TLane×List Int×List TMail×TMail⊕Int×Int×List Int×List Int×List (Option TProcess)×List TLane×List Int×List TMail⊕Int×List Int×List Int×List (Option TProcess)×List TLane×List Int×List TMail⊕Unit)=>
                                                                              match x26 with
                                                                              | Sum.inl x=>
                                                                                if x.snd.snd.fst=true then some (Sum.inr (Sum.inr ()))
                                                                                else
                                                                                  if x.snd.snd.snd.snd.snd.snd.snd.snd.snd.snd.E.N=0 then
                                                                                    ((idx x.snd.snd.snd.snd.snd.snd.snd.snd.fst x.snd.fst).bind fun (n28:Int)=>if x.snd.snd.snd.snd.snd.snd.snd.snd.snd.snd.E.Time=n28 then some (Sum.inl (x.fst,x.snd.fst,true,x.snd.snd.snd.fst,x.snd.snd.snd.snd.fst,x.snd.snd.snd.snd.snd.fst,x.snd.snd.snd.snd.snd.snd.fst,x.snd.snd.snd.snd.snd.snd.snd.fst,x.snd.snd.snd.snd.snd.snd.snd.snd.fst,x.snd.snd.snd.snd.snd.snd.snd.snd.snd.fst,x.snd.snd.snd.snd.snd.snd.snd.snd.snd.snd)) else if IntKind.i64.wrap (IntKind.i64.wrap n5+1) < x.snd.snd.snd.snd.snd.snd.snd.snd.snd.snd.E.Time then some (Sum.inl (x.fst,x.snd.fst,true,x.snd.snd.snd.fst,x.snd.snd.snd.snd.fst,x.snd.snd.snd.snd.snd.fst,x.snd.snd.snd.snd.snd.snd.fst,x.snd.snd.snd.snd.snd.snd.snd.fst,x.snd.snd.snd.snd.snd.snd.snd.snd.fst,x.snd.snd.snd.snd.snd.snd.snd.snd.snd.fst,x.snd.snd.snd.snd.snd.snd.snd.snd.snd.snd)) else some (Sum.inl (x.fst,x.snd.fst,!decide (x.snd.snd.snd.snd.snd.snd.snd.snd.snd.snd.E.Place=0),x.snd.snd.snd.fst,x.snd.snd.snd.snd.fst,x.snd.snd.snd.snd.snd.fst,x.snd.snd.snd.snd.snd.snd.fst,x.snd.snd.snd.snd.snd.snd.snd.fst,x.snd.snd.snd.snd.snd.snd.snd.snd.fst,x.snd.snd.snd.snd.snd.snd.snd.snd.snd.fst,x.snd.snd.snd.snd.snd.snd.snd.snd.snd.snd))).bind fun (x28:Int×Int×Bool×Int×List Int×List Int×List (Option TProcess)×List TLane×List Int×List TMail×TMail⊕Int×Int×List Int×List Int×List (Option TProcess)×List TLane×List Int×List TMail⊕Int×List Int×List Int×List (Option TProcess)×List TLane×List Int×List TMail⊕Unit)=>
                                                                                      match x28 with
                                                                                      | Sum.inl x=>if x.snd.snd.fst=true then some (Sum.inr (Sum.inr ())) else (idx x.snd.snd.snd.snd.snd.snd.snd.snd.fst x.snd.fst).bind fun (n30:Int)=>some (Sum.inl (IntKind.i64.wrap (x.fst+1),x.snd.snd.snd.fst,x.snd.snd.snd.snd.fst,x.snd.snd.snd.snd.snd.fst,x.snd.snd.snd.snd.snd.snd.fst,x.snd.snd.snd.snd.snd.snd.snd.fst,x.snd.snd.snd.snd.snd.snd.snd.snd.fst.set x.snd.fst.toNat x.snd.snd.snd.snd.snd.snd.snd.snd.snd.snd.E.Time,x.snd.snd.snd.snd.snd.snd.snd.snd.snd.fst))
                                                                                      | Sum.inr r=>some r
                                                                                  else some (Sum.inl (IntKind.i64.wrap (x.fst+1),x.snd.snd.snd.fst,x.snd.snd.snd.snd.fst,x.snd.snd.snd.snd.snd.fst,x.snd.snd.snd.snd.snd.snd.fst,x.snd.snd.snd.snd.snd.snd.snd.fst,x.snd.snd.snd.snd.snd.snd.snd.snd.fst,x.snd.snd.snd.snd.snd.snd.snd.snd.snd.fst))
                                                                              | Sum.inr r=>some r
                                                                      else some (Sum.inr (Sum.inl (x23.snd.fst,x23.snd.snd.fst,x23.snd.snd.snd.fst,x23.snd.snd.snd.snd.fst,x23.snd.snd.snd.snd.snd.fst,x23.snd.snd.snd.snd.snd.snd.fst,x23.snd.snd.snd.snd.snd.snd.snd))))
                                                                    (0,x_3.snd.snd.fst,x_3.snd.snd.snd.fst,x_3.snd.snd.snd.snd.fst,x_3.snd.snd.snd.snd.snd.fst,x_3.snd.snd.snd.snd.snd.snd.fst,x_3.snd.snd.snd.snd.snd.snd.snd.fst,x_3.snd.snd.snd.snd.snd.snd.snd.snd.snd)).bind
                                                                fun (x23:Int×List Int×List Int×List (Option TProcess)×List TLane×List Int×List TMail⊕Unit)=>
                                                                match x23 with
                                                                | Sum.inl x=>(app 40 x_3.snd.snd.snd.snd.snd.snd.snd.snd.fst x.snd.snd.snd.snd.snd.snd).bind fun (l25:List TMail)=>some (Sum.inl (IntKind.i64.wrap (x_3.fst+1),x.fst,x.snd.fst,x.snd.snd.fst,x.snd.snd.snd.fst,x.snd.snd.snd.snd.fst,x.snd.snd.snd.snd.snd.fst,l25))
                                                                | Sum.inr y=>some (Sum.inr (Sum.inr false))
                                                          | Sum.inr r=>some r
                                  | Sum.inr r=>some r
                              else some (Sum.inr (Sum.inl ())))
                            (0,x_1.snd.snd.fst,x_1.snd.snd.snd.fst,x_1.snd.snd.snd.snd.fst,x_1.snd.snd.snd.snd.snd,l8,l9,[])).bind
                        fun (x10:Unit⊕Bool)=>
                        match x10 with
                        | Sum.inl x=>some true
                        | Sum.inr y=>some y
                | Sum.inr y=>some false
    | Sum.inr r=>some r
abbrev n8:En tE:=⟨8,[],q8,p8⟩
def q9:FSp:=⟨[(false,[.d false (.sl false (.int .u8))]),(false,[.d true (.int .u8)]),(false,[.d true (.int .u8)])],[],[],[.ld 0 false,.d true .bool,.slot 0 false]⟩
def p9:List Int×Int×Int→Option Bool:=fun (x:List Int×Int×Int)=>
  ((p26 ()).bind fun (b1:Bool)=>if (!b1)=true then some (Sum.inl (x.fst,x.snd.fst,x.snd.snd,true)) else if (↑x.fst.length:Int)=0 then some (Sum.inl (x.fst,x.snd.fst,x.snd.snd,true)) else some (Sum.inl (x.fst,x.snd.fst,x.snd.snd,decide (8 < (↑x.fst.length:Int))))).bind fun (x1:List Int×Int×Int×Bool⊕Bool)=>
    match x1 with
    | Sum.inl x=>
      if x.snd.snd.snd=true then (p26 ()).bind fun (b3:Bool)=>some b3
      else
        (remI IntKind.u8 x.snd.fst 9).bind fun (n3:Int)=>
          (aq (fun (x4:Int×Int×TNet×TPart)=>if x4.snd.fst < (↑x.fst.length:Int) then (catS [112] (u8 (IntKind.u8.wrap (IntKind.i64.wrap (98+x4.snd.fst)))::[])).bind fun (l5:List UInt8)=>(app 24 x4.snd.snd.fst.Places [{ Name:=l5,Tokens:=0 }]).bind fun (l6:List TPlace)=>(catS [116] (u8 (IntKind.u8.wrap (IntKind.i64.wrap (98+x4.snd.fst)))::[])).bind fun (l7:List UInt8)=>(idx x.fst x4.snd.fst).bind fun (n8:Int)=>(remI IntKind.u8 n8 6).bind fun (n9:Int)=>(app 104 x4.snd.snd.fst.Trans [{ Name:=l7,Delay:=IntKind.i64.wrap (1+IntKind.i64.wrap n9),Prio:=0,In:=[{ Place:=x4.snd.fst,N:=1 }],Not:=[],Out:=[{ Place:=IntKind.i64.wrap (x4.snd.fst+1),N:=1 }] }]).bind fun (l10:List TTrans)=>(app 8 x4.snd.snd.snd.Places [IntKind.i64.wrap (x4.snd.fst+1)]).bind fun (l11:List Int)=>(app 8 x4.snd.snd.snd.Trans [x4.snd.fst]).bind fun (l12:List Int)=>(idx x.fst x4.snd.fst).bind fun (n13:Int)=>(remI IntKind.u8 n13 6).bind fun (n14:Int)=>some (Sum.inl (IntKind.i64.wrap (x4.fst+IntKind.i64.wrap (1+IntKind.i64.wrap n14)),IntKind.i64.wrap (x4.snd.fst+1),{ Places:=l6,Trans:=l10 },{ N:=x4.snd.snd.snd.N,Places:=l11,Trans:=l12 })) else some (Sum.inr (x4.fst,x4.snd.snd.fst,x4.snd.snd.snd))) (0,0,{ Places:=[{ Name:=[112,97],Tokens:=IntKind.i64.wrap (1+IntKind.i64.wrap n3) }],Trans:=[] },{ N:=IntKind.i64.wrap ((↑x.fst.length:Int)+1),Places:=[0],Trans:=[] })).bind fun (x4:Int×TNet×TPart)=>
            (remI IntKind.u8 x.snd.snd.fst 60).bind fun (n5:Int)=>
              (p27 (x4.snd.fst.Places,x4.snd.fst.Trans,x4.snd.snd.N,x4.snd.snd.Places,x4.snd.snd.Trans,IntKind.i64.wrap n5)).bind fun (x6:Int×Option TKernel)=>
                (if (!decide (x6.fst=0))=true then some (Sum.inl (x.fst,IntKind.i64.wrap (1+IntKind.i64.wrap n3),x4.fst,IntKind.i64.wrap n5,true,x4.snd.fst.Trans,x4.snd.snd.N,x4.snd.snd.Places,x4.snd.snd.Trans,x6.snd,x4.snd.fst.Places)) else some (Sum.inl (x.fst,IntKind.i64.wrap (1+IntKind.i64.wrap n3),x4.fst,IntKind.i64.wrap n5,x6.snd.isNone,x4.snd.fst.Trans,x4.snd.snd.N,x4.snd.snd.Places,x4.snd.snd.Trans,x6.snd,x4.snd.fst.Places))).bind fun (x7:List Int×Int×Int×Int×Bool×List TTrans×Int×List Int×List Int×Option TKernel×List TPlace⊕Bool)=>
                  match x7 with
                  | Sum.inl x=>
                    if x.snd.snd.snd.snd.fst=true then some false
                    else
                      x.snd.snd.snd.snd.snd.snd.snd.snd.snd.fst.bind fun (x9:TKernel)=>
                        (p28 ([],x9)).bind fun (x10:Int×TKernel)=>
                          (aq
                                (fun (x11:Int×Int×List TTrans×Int×List Int×List Int×TKernel×List TPlace)=>
                                  (if x11.snd.fst < 5000 then some (Sum.inl (x11.fst,x11.snd.fst,decide (x11.fst=8),x11.snd.snd.fst,x11.snd.snd.snd.fst,x11.snd.snd.snd.snd.fst,x11.snd.snd.snd.snd.snd.fst,x11.snd.snd.snd.snd.snd.snd.fst,x11.snd.snd.snd.snd.snd.snd.snd)) else some (Sum.inl (x11.fst,x11.snd.fst,false,x11.snd.snd.fst,x11.snd.snd.snd.fst,x11.snd.snd.snd.snd.fst,x11.snd.snd.snd.snd.snd.fst,x11.snd.snd.snd.snd.snd.snd.fst,x11.snd.snd.snd.snd.snd.snd.snd))).bind fun (x12:Int×Int×Bool×List TTrans×Int×List Int×List Int×TKernel×List TPlace⊕Int×Int×List TTrans×Int×List Int×List Int×TKernel×List TPlace⊕Int×List TTrans×Int×List Int×List Int×TKernel×List TPlace)=>
                                    match x12 with
                                    | Sum.inl x=>if x.snd.snd.fst=true then (p29 x.snd.snd.snd.snd.snd.snd.snd.fst).bind fun (l14:List TPick)=>(p28 (l14,x.snd.snd.snd.snd.snd.snd.snd.fst)).bind fun (x15:Int×TKernel)=>some (Sum.inl (x15.fst,IntKind.i64.wrap (x.snd.fst+1),x.snd.snd.snd.fst,x.snd.snd.snd.snd.fst,x.snd.snd.snd.snd.snd.fst,x.snd.snd.snd.snd.snd.snd.fst,x15.snd,x.snd.snd.snd.snd.snd.snd.snd.snd)) else some (Sum.inr (x.fst,x.snd.snd.snd.fst,x.snd.snd.snd.snd.fst,x.snd.snd.snd.snd.snd.fst,x.snd.snd.snd.snd.snd.snd.fst,x.snd.snd.snd.snd.snd.snd.snd.fst,x.snd.snd.snd.snd.snd.snd.snd.snd))
                                    | Sum.inr r=>some r)
                                (x10.fst,0,x.snd.snd.snd.snd.snd.fst,x.snd.snd.snd.snd.snd.snd.fst,x.snd.snd.snd.snd.snd.snd.snd.fst,x.snd.snd.snd.snd.snd.snd.snd.snd.fst,x10.snd,x.snd.snd.snd.snd.snd.snd.snd.snd.snd.snd)).bind
                            fun (x11:Int×List TTrans×Int×List Int×List Int×TKernel×List TPlace)=>
                            (p30 x11.snd.snd.snd.snd.snd.fst).bind fun (l12:List TResult)=>
                              (if (!decide (x11.fst=0))=true then some (Sum.inl (x.fst,x.snd.fst,x.snd.snd.fst,x.snd.snd.snd.fst,true,x11.snd.fst,x11.snd.snd.fst,x11.snd.snd.snd.fst,x11.snd.snd.snd.snd.fst,x11.snd.snd.snd.snd.snd.fst,l12,x11.snd.snd.snd.snd.snd.snd)) else if (!decide ((↑l12.length:Int)=x11.snd.snd.fst))=true then some (Sum.inl (x.fst,x.snd.fst,x.snd.snd.fst,x.snd.snd.snd.fst,true,x11.snd.fst,x11.snd.snd.fst,x11.snd.snd.snd.fst,x11.snd.snd.snd.snd.fst,x11.snd.snd.snd.snd.snd.fst,l12,x11.snd.snd.snd.snd.snd.snd)) else (p31 (x11.snd.snd.snd.snd.snd.snd,x11.snd.fst,l12)).bind fun (b13:Bool)=>some (Sum.inl (x.fst,x.snd.fst,x.snd.snd.fst,x.snd.snd.snd.fst,!b13,x11.snd.fst,x11.snd.snd.fst,x11.snd.snd.snd.fst,x11.snd.snd.snd.snd.fst,x11.snd.snd.snd.snd.snd.fst,l12,x11.snd.snd.snd.snd.snd.snd))).bind fun (x13:List Int×Int×Int×Int×Bool×List TTrans×Int×List Int×List Int×TKernel×List TResult×List TPlace⊕Bool)=>
                                match x13 with
                                | Sum.inl x=>
                                  if x.snd.snd.snd.snd.fst=true then some false
                                  else
                                    (p32 (x.snd.snd.snd.snd.snd.snd.snd.snd.snd.snd.snd,x.snd.snd.snd.snd.snd.fst,x.snd.snd.snd.snd.snd.snd.snd.fst,x.snd.snd.snd.snd.snd.snd.snd.snd.snd.snd.fst)).bind fun (x15:Int×List TFire×List Int×List Int)=>
                                      (if x.snd.snd.fst≤x.snd.snd.snd.fst then some (Sum.inl (x.fst,x.snd.fst,x.snd.snd.snd.snd.snd.snd.snd.snd.snd.fst,x15.fst,x15.snd.fst,x15.snd.snd.fst,x15.snd.snd.snd)) else some (Sum.inl (x.fst,0,x.snd.snd.snd.snd.snd.snd.snd.snd.snd.fst,x15.fst,x15.snd.fst,x15.snd.snd.fst,x15.snd.snd.snd))).bind fun (x16:List Int×Int×TKernel×Int×List TFire×List Int×List Int⊕Bool)=>
                                        match x16 with
                                        | Sum.inl x=>(idx x.snd.snd.snd.snd.snd.fst (↑x.fst.length:Int)).bind fun (n18:Int)=>if n18=x.snd.fst then (p33 x.snd.snd.fst).bind fun (b19:Bool)=>some b19 else some false
                                        | Sum.inr r=>some r
                                | Sum.inr r=>some r
                  | Sum.inr r=>some r
    | Sum.inr r=>some r
abbrev n9:En tE:=⟨9,[],q9,p9⟩
def q10:FSp:=⟨[(false,[.d true (.int .u8)]),(false,[.d true (.int .u8)])],[],[],[.ld 0 false,.d true .bool,.slot 0 false]⟩
def p10:Int×Int→Option Bool:=fun (x:Int×Int)=>
  (p27 ([{ Name:=[112],Tokens:=1 },{ Name:=[113],Tokens:=0 },{ Name:=[114],Tokens:=0 }],[{ Name:=[116],Delay:=1,Prio:=0,In:=[{ Place:=0,N:=1 }],Not:=[],Out:=[{ Place:=1,N:=1 }] },{ Name:=[117],Delay:=1,Prio:=0,In:=[{ Place:=1,N:=1 }],Not:=[],Out:=[{ Place:=2,N:=1 }] },{ Name:=[118],Delay:=1,Prio:=0,In:=[{ Place:=2,N:=1 }],Not:=[],Out:=[{ Place:=0,N:=1 }] }],3,[0,1,2],[0,1,2],9)).bind fun (x1:Int×Option TKernel)=>
    (if (!decide (x1.fst=0))=true then some (Sum.inl (x.fst,x.snd,true,[{ Name:=[116],Delay:=1,Prio:=0,In:=[{ Place:=0,N:=1 }],Not:=[],Out:=[{ Place:=1,N:=1 }] },{ Name:=[117],Delay:=1,Prio:=0,In:=[{ Place:=1,N:=1 }],Not:=[],Out:=[{ Place:=2,N:=1 }] },{ Name:=[118],Delay:=1,Prio:=0,In:=[{ Place:=2,N:=1 }],Not:=[],Out:=[{ Place:=0,N:=1 }] }],3,[0,1,2],[0,1,2],x1.snd,[{ Name:=[112],Tokens:=1 },{ Name:=[113],Tokens:=0 },{ Name:=[114],Tokens:=0 }])) else some (Sum.inl (x.fst,x.snd,x1.snd.isNone,[{ Name:=[116],Delay:=1,Prio:=0,In:=[{ Place:=0,N:=1 }],Not:=[],Out:=[{ Place:=1,N:=1 }] },{ Name:=[117],Delay:=1,Prio:=0,In:=[{ Place:=1,N:=1 }],Not:=[],Out:=[{ Place:=2,N:=1 }] },{ Name:=[118],Delay:=1,Prio:=0,In:=[{ Place:=2,N:=1 }],Not:=[],Out:=[{ Place:=0,N:=1 }] }],3,[0,1,2],[0,1,2],x1.snd,[{ Name:=[112],Tokens:=1 },{ Name:=[113],Tokens:=0 },{ Name:=[114],Tokens:=0 }]))).bind fun (x2:Int×Int×Bool×List TTrans×Int×List Int×List Int×Option TKernel×List TPlace⊕Bool)=>
      match x2 with
      | Sum.inl x=>
        if x.snd.snd.fst=true then some false
        else
          (remI IntKind.u8 x.snd.fst 3).bind fun (n4:Int)=>
            (aq
                  (fun (x5:Int×List TTrans×Int×List Int×List Int×Option TKernel×List TPlace)=>
                    if x5.fst < IntKind.i64.wrap x.fst then
                      x5.snd.snd.snd.snd.snd.fst.bind fun (x6:TKernel)=>
                        (p29 x6).bind fun (l7:List TPick)=>
                          (aq
                                (fun (x8:Int×List TTrans×Int×List Int×List Int×Option TKernel×List TPick×List TPlace)=>
                                  if x8.fst < (↑x8.snd.snd.snd.snd.snd.snd.fst.length:Int) then
                                    ((idx x8.snd.snd.snd.snd.snd.snd.fst x8.fst).bind fun (x9:TPick)=>if (!x9.Deliver)=true then (idx x8.snd.snd.snd.snd.snd.snd.fst x8.fst).bind fun (x10:TPick)=>some (Sum.inl (x8.fst,decide (x10.A=IntKind.i64.wrap n4),x8.snd.fst,x8.snd.snd.fst,x8.snd.snd.snd.fst,x8.snd.snd.snd.snd.fst,x8.snd.snd.snd.snd.snd.fst,x8.snd.snd.snd.snd.snd.snd.fst,x8.snd.snd.snd.snd.snd.snd.snd)) else some (Sum.inl (x8.fst,false,x8.snd.fst,x8.snd.snd.fst,x8.snd.snd.snd.fst,x8.snd.snd.snd.snd.fst,x8.snd.snd.snd.snd.snd.fst,x8.snd.snd.snd.snd.snd.snd.fst,x8.snd.snd.snd.snd.snd.snd.snd))).bind fun (x9:Int×Bool×List TTrans×Int×List Int×List Int×Option TKernel×List TPick×List TPlace⊕Int×List TTrans×Int×List Int×List Int×Option TKernel×List TPick×List TPlace⊕List TTrans×Int×List Int×List Int×Option TKernel×List TPlace⊕Unit)=>
                                      match x9 with
                                      | Sum.inl x=>if x.snd.fst=true then some (Sum.inl (IntKind.i64.wrap (x.fst+1),x.snd.snd.fst,x.snd.snd.snd.fst,x.snd.snd.snd.snd.fst,x.snd.snd.snd.snd.snd.fst,x.snd.snd.snd.snd.snd.snd.fst,x.snd.snd.snd.snd.snd.snd.snd.fst,x.snd.snd.snd.snd.snd.snd.snd.snd)) else (idx x.snd.snd.snd.snd.snd.snd.snd.fst x.fst).bind fun (x11:TPick)=>x.snd.snd.snd.snd.snd.snd.fst.bind fun (x12:TKernel)=>(p34 (x11.Deliver,x11.A,x11.B,x12)).bind fun (x13:Bool×Int×TKernel)=>if (!decide (x13.snd.fst=0))=true then some (Sum.inr (Sum.inr ())) else some (Sum.inl (IntKind.i64.wrap (x.fst+1),x.snd.snd.fst,x.snd.snd.snd.fst,x.snd.snd.snd.snd.fst,x.snd.snd.snd.snd.snd.fst,some x13.snd.snd,x.snd.snd.snd.snd.snd.snd.snd.fst,x.snd.snd.snd.snd.snd.snd.snd.snd))
                                      | Sum.inr r=>some r
                                  else some (Sum.inr (Sum.inl (x8.snd.fst,x8.snd.snd.fst,x8.snd.snd.snd.fst,x8.snd.snd.snd.snd.fst,x8.snd.snd.snd.snd.snd.fst,x8.snd.snd.snd.snd.snd.snd.snd))))
                                (0,x5.snd.fst,x5.snd.snd.fst,x5.snd.snd.snd.fst,x5.snd.snd.snd.snd.fst,x5.snd.snd.snd.snd.snd.fst,l7,x5.snd.snd.snd.snd.snd.snd)).bind
                            fun (x8:List TTrans×Int×List Int×List Int×Option TKernel×List TPlace⊕Unit)=>
                            match x8 with
                            | Sum.inl x=>
                              (x.snd.snd.snd.snd.fst.bind fun (x10:TKernel)=>(p33 x10).bind fun (b11:Bool)=>if b11=true then some (Sum.inl (x5.fst,true,x.fst,x.snd.fst,x.snd.snd.fst,x.snd.snd.snd.fst,x.snd.snd.snd.snd.fst,x.snd.snd.snd.snd.snd)) else x.snd.snd.snd.snd.fst.bind fun (x12:TKernel)=>(p28 ([],x12)).bind fun (x13:Int×TKernel)=>some (Sum.inl (x5.fst,!decide (x13.fst=8),x.fst,x.snd.fst,x.snd.snd.fst,x.snd.snd.snd.fst,some x13.snd,x.snd.snd.snd.snd.snd))).bind fun (x10:Int×Bool×List TTrans×Int×List Int×List Int×Option TKernel×List TPlace⊕Int×List TTrans×Int×List Int×List Int×Option TKernel×List TPlace⊕List TTrans×Int×List Int×List Int×Option TKernel×List TPlace⊕Unit)=>
                                match x10 with
                                | Sum.inl x=>if x.snd.fst=true then some (Sum.inr (Sum.inr ())) else some (Sum.inl (IntKind.i64.wrap (x.fst+1),x.snd.snd.fst,x.snd.snd.snd.fst,x.snd.snd.snd.snd.fst,x.snd.snd.snd.snd.snd.fst,x.snd.snd.snd.snd.snd.snd.fst,x.snd.snd.snd.snd.snd.snd.snd))
                                | Sum.inr r=>some r
                            | Sum.inr y=>some (Sum.inr (Sum.inr ()))
                    else some (Sum.inr (Sum.inl (x5.snd.fst,x5.snd.snd.fst,x5.snd.snd.snd.fst,x5.snd.snd.snd.snd.fst,x5.snd.snd.snd.snd.snd.fst,x5.snd.snd.snd.snd.snd.snd))))
                  (0,x.snd.snd.snd.fst,x.snd.snd.snd.snd.fst,x.snd.snd.snd.snd.snd.fst,x.snd.snd.snd.snd.snd.snd.fst,x.snd.snd.snd.snd.snd.snd.snd.fst,x.snd.snd.snd.snd.snd.snd.snd.snd)).bind
              fun (x5:List TTrans×Int×List Int×List Int×Option TKernel×List TPlace⊕Unit)=>
              match x5 with
              | Sum.inl x=>
                (aq
                      (fun (x7:Int×Int×List TTrans×Int×List Int×List Int×Option TKernel×List TPlace)=>
                        (if x7.snd.fst < 200 then some (Sum.inl (x7.fst,x7.snd.fst,decide (x7.fst=8),x7.snd.snd.fst,x7.snd.snd.snd.fst,x7.snd.snd.snd.snd.fst,x7.snd.snd.snd.snd.snd.fst,x7.snd.snd.snd.snd.snd.snd.fst,x7.snd.snd.snd.snd.snd.snd.snd)) else some (Sum.inl (x7.fst,x7.snd.fst,false,x7.snd.snd.fst,x7.snd.snd.snd.fst,x7.snd.snd.snd.snd.fst,x7.snd.snd.snd.snd.snd.fst,x7.snd.snd.snd.snd.snd.snd.fst,x7.snd.snd.snd.snd.snd.snd.snd))).bind fun (x8:Int×Int×Bool×List TTrans×Int×List Int×List Int×Option TKernel×List TPlace⊕Int×Int×List TTrans×Int×List Int×List Int×Option TKernel×List TPlace⊕Int×List TTrans×Int×List Int×List Int×Option TKernel×List TPlace)=>
                          match x8 with
                          | Sum.inl x=>if x.snd.snd.fst=true then x.snd.snd.snd.snd.snd.snd.snd.fst.bind fun (x10:TKernel)=>(p29 x10).bind fun (l11:List TPick)=>x.snd.snd.snd.snd.snd.snd.snd.fst.bind fun (x12:TKernel)=>(p28 (l11,x12)).bind fun (x13:Int×TKernel)=>some (Sum.inl (x13.fst,IntKind.i64.wrap (x.snd.fst+1),x.snd.snd.snd.fst,x.snd.snd.snd.snd.fst,x.snd.snd.snd.snd.snd.fst,x.snd.snd.snd.snd.snd.snd.fst,some x13.snd,x.snd.snd.snd.snd.snd.snd.snd.snd)) else some (Sum.inr (x.fst,x.snd.snd.snd.fst,x.snd.snd.snd.snd.fst,x.snd.snd.snd.snd.snd.fst,x.snd.snd.snd.snd.snd.snd.fst,x.snd.snd.snd.snd.snd.snd.snd.fst,x.snd.snd.snd.snd.snd.snd.snd.snd))
                          | Sum.inr r=>some r)
                      (8,0,x.fst,x.snd.fst,x.snd.snd.fst,x.snd.snd.snd.fst,x.snd.snd.snd.snd.fst,x.snd.snd.snd.snd.snd)).bind
                  fun (x7:Int×List TTrans×Int×List Int×List Int×Option TKernel×List TPlace)=>
                  x7.snd.snd.snd.snd.snd.fst.bind fun (x8:TKernel)=>
                    (p30 x8).bind fun (l9:List TResult)=>
                      (if (!decide (x7.fst=0))=true then some (Sum.inl (true,x7.snd.fst,x7.snd.snd.fst,x7.snd.snd.snd.fst,x7.snd.snd.snd.snd.fst,l9,x7.snd.snd.snd.snd.snd.snd)) else if (!decide ((↑l9.length:Int)=x7.snd.snd.fst))=true then some (Sum.inl (true,x7.snd.fst,x7.snd.snd.fst,x7.snd.snd.snd.fst,x7.snd.snd.snd.snd.fst,l9,x7.snd.snd.snd.snd.snd.snd)) else (p31 (x7.snd.snd.snd.snd.snd.snd,x7.snd.fst,l9)).bind fun (b10:Bool)=>some (Sum.inl (!b10,x7.snd.fst,x7.snd.snd.fst,x7.snd.snd.snd.fst,x7.snd.snd.snd.snd.fst,l9,x7.snd.snd.snd.snd.snd.snd))).bind fun (x10:Bool×List TTrans×Int×List Int×List Int×List TResult×List TPlace⊕Bool)=>
                        match x10 with
                        | Sum.inl x=>if x.fst=true then some false else (p32 (x.snd.snd.snd.snd.snd.snd,x.snd.fst,x.snd.snd.snd.fst,x.snd.snd.snd.snd.snd.fst)).bind fun (x12:Int×List TFire×List Int×List Int)=>(p26 ()).bind fun (b13:Bool)=>if b13=true then if (↑x12.snd.fst.length:Int)=10 then (idx x12.snd.fst 9).bind fun (x14:TFire)=>some (decide (x14.Time=9)&&(decide (x14.Trans=0)&&true)) else some false else some false
                        | Sum.inr r=>some r
              | Sum.inr y=>some false
      | Sum.inr r=>some r
abbrev n10:En tE:=⟨10,[],q10,p10⟩
end
end Go.Proofs.Ytmchbhheoieepaa
