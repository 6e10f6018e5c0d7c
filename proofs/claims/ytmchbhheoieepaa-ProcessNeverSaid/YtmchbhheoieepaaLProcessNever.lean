/- The law ProcessNever: its pure function answers true, whatever it is called with; so does the machine's function. No condition. Own work. -/
import Derived.Test.YtmchbhheoieepaaGProcessNever
import Derived.KernelRfl
set_option linter.unusedSimpArgs false
set_option linter.unusedVariables false
namespace Go.Proofs.Ytmchbhheoieepaa
open Go Go.Am
def zA (f:Int→Option Bool):Bool:=(List.range 256).all fun k=>match f (k:Int) with
 | some true=>true
 | _=>false
theorem oS {f:Int→Option Bool} (h:zA f=true) {n:Int} (h0:0≤n) (h1:n < 256):f n=some true:=by
 unfold zA at h
 rw [List.all_eq_true] at h
 have:=h n.toNat (List.mem_range.2 (by omega))
 rw [show ((n.toNat:Nat):Int)=n by omega] at this
 revert this
 cases f n with
 | none=>intro e; cases e
 | some b=>cases b<;>intro e<;>first | rfl | cases e
def mx:Int→Int
 | .ofNat n=>.ofNat n
 | .negSucc _=>-1
theorem z8 (h:Int):mx h=if h < -1 then -1 else h:=by
 cases h with
 | ofNat n=>rw [if_neg (by have:(0:Int)≤Int.ofNat n:=Int.natCast_nonneg n; omega)]; rfl
 | negSucc n=>
  show (-1:Int)=_
  split<;>omega
noncomputable section
def zP:TProcess×Int×Int×Int→Option Int:=fun (x:TProcess×Int×Int×Int)=>(p42 x.fst).bind fun (n1:Int)=>(p23 x.fst).bind fun (n2:Int)=>some (if IntKind.i64.wrap ((mx x.fst.horizon)+1) < IntKind.i64.wrap ((if n2 < n1 then n2 else n1)+x.snd.snd.snd) then IntKind.i64.wrap ((mx x.fst.horizon)+1) else IntKind.i64.wrap ((if n2 < n1 then n2 else n1)+x.snd.snd.snd))
def zp:TProcess→Option Bool:=fun (x:TProcess)=>
 if x.done=true then some false
 else
  ((p39 x).bind fun (b1:Bool)=>if b1=true then some (Sum.inl (x,true)) else (p40 x).bind fun (b2:Bool)=>some (Sum.inl (x,b2))).bind fun (x1:TProcess×Bool⊕Bool)=>
   match x1 with
   | Sum.inl x=>
    if x.snd=true then some true
    else
     (aE (fun (n3:Int)=>if n3 < (↑x.fst.out.length:Int) then (idx x.fst.out n3).bind fun (x4:TLane)=>(zP (x.fst,x4.From,x4.To,x4.Ahead)).bind fun (n5:Int)=>(idx x.fst.sent n3).bind fun (n6:Int)=>if n6 < n5 then some (Sum.inr (Sum.inr ())) else some (Sum.inl (IntKind.i64.wrap (n3+1))) else some (Sum.inr (Sum.inl ()))) 0).bind fun (x3:Unit⊕Unit)=>
      match x3 with
      | Sum.inl x=>some false
      | Sum.inr y=>some true
   | Sum.inr r=>some r
def Ba:TProcess→Option (Int×List TMail×TProcess):=fun (x:TProcess)=>
 (zp x).bind fun (b1:Bool)=>
  if (!b1)=true then some (0,[],x)
  else
   ((p39 x).bind fun (b2:Bool)=>if b2=true then (p42 x).bind fun (n3:Int)=>x.x.bind fun (x4:TEngine)=>(xF (n3,x4)).bind fun (x5:Int×TEngine)=>if (!decide (x5.fst=0))=true then Option.map (fun (x6:Int×List TMail×TProcess)=>Sum.inr x6) (some (x5.fst,[],{ id:=x.id,x:=some x5.snd,p:=x.p,in_:=x.in_,out:=x.out,clocks:=x.clocks,sent:=x.sent,horizon:=x.horizon,began:=true,done:=x.done })) else (zn x5.snd).bind fun (x6:List TEvent×TEngine)=>(aE (fun (x7:Int×TProcess×List TMail×List TEvent)=>if x7.fst < (↑x6.fst.length:Int) then (idx x7.snd.snd.snd x7.fst).bind fun (x8:TEvent)=>(idx x7.snd.fst.p.Places x8.Place).bind fun (n9:Int)=>(app 40 x7.snd.snd.fst [{ From:=x7.snd.fst.id,To:=n9,E:=x8 }]).bind fun (l10:List TMail)=>some (Sum.inl (IntKind.i64.wrap (x7.fst+1),x7.snd.fst,l10,x7.snd.snd.snd)) else some (Sum.inr (x7.snd.fst,x7.snd.snd.fst))) (0,{ id:=x.id,x:=some x6.snd,p:=x.p,in_:=x.in_,out:=x.out,clocks:=x.clocks,sent:=x.sent,horizon:=x.horizon,began:=true,done:=x.done },[],x6.fst)).bind fun (x7:TProcess×List TMail)=>some (Sum.inl (x7.fst,x7.snd)) else some (Sum.inl (x,[]))).bind fun (x2:TProcess×List TMail⊕Int×List TMail×TProcess)=>
    match x2 with
    | Sum.inl x=>(aE (fun (x4:Int×Int×Int×List Int×List Int×Int×Bool×Bool×List TMail×List TLane×Option TEngine×List TLane×List Int×List Int)=>if x4.fst < (↑x.fst.out.length:Int) then (idx x4.snd.snd.snd.snd.snd.snd.snd.snd.snd.fst x4.fst).bind fun (x5:TLane)=>(zP ({ id:=x4.snd.fst,x:=x4.snd.snd.snd.snd.snd.snd.snd.snd.snd.snd.fst,p:={ N:=x4.snd.snd.fst,Places:=x4.snd.snd.snd.fst,Trans:=x4.snd.snd.snd.snd.fst },in_:=x4.snd.snd.snd.snd.snd.snd.snd.snd.snd.snd.snd.fst,out:=x4.snd.snd.snd.snd.snd.snd.snd.snd.snd.fst,clocks:=x4.snd.snd.snd.snd.snd.snd.snd.snd.snd.snd.snd.snd.fst,sent:=x4.snd.snd.snd.snd.snd.snd.snd.snd.snd.snd.snd.snd.snd,horizon:=x4.snd.snd.snd.snd.snd.fst,began:=x4.snd.snd.snd.snd.snd.snd.fst,done:=x4.snd.snd.snd.snd.snd.snd.snd.fst },x5.From,x5.To,x5.Ahead)).bind fun (n6:Int)=>(idx x4.snd.snd.snd.snd.snd.snd.snd.snd.snd.snd.snd.snd.snd x4.fst).bind fun (n7:Int)=>if n7 < n6 then (idx x4.snd.snd.snd.snd.snd.snd.snd.snd.snd.snd.snd.snd.snd x4.fst).bind fun (n8:Int)=>(app 40 x4.snd.snd.snd.snd.snd.snd.snd.snd.fst [{ From:=x5.From,To:=x5.To,E:={ Time:=n6,Place:=0,N:=0 } }]).bind fun (l9:List TMail)=>some (Sum.inl (IntKind.i64.wrap (x4.fst+1),x4.snd.fst,x4.snd.snd.fst,x4.snd.snd.snd.fst,x4.snd.snd.snd.snd.fst,x4.snd.snd.snd.snd.snd.fst,x4.snd.snd.snd.snd.snd.snd.fst,x4.snd.snd.snd.snd.snd.snd.snd.fst,l9,x4.snd.snd.snd.snd.snd.snd.snd.snd.snd.fst,x4.snd.snd.snd.snd.snd.snd.snd.snd.snd.snd.fst,x4.snd.snd.snd.snd.snd.snd.snd.snd.snd.snd.snd.fst,x4.snd.snd.snd.snd.snd.snd.snd.snd.snd.snd.snd.snd.fst,x4.snd.snd.snd.snd.snd.snd.snd.snd.snd.snd.snd.snd.snd.set x4.fst.toNat n6)) else some (Sum.inl (IntKind.i64.wrap (x4.fst+1),x4.snd.fst,x4.snd.snd.fst,x4.snd.snd.snd.fst,x4.snd.snd.snd.snd.fst,x4.snd.snd.snd.snd.snd.fst,x4.snd.snd.snd.snd.snd.snd.fst,x4.snd.snd.snd.snd.snd.snd.snd.fst,x4.snd.snd.snd.snd.snd.snd.snd.snd.fst,x4.snd.snd.snd.snd.snd.snd.snd.snd.snd.fst,x4.snd.snd.snd.snd.snd.snd.snd.snd.snd.snd.fst,x4.snd.snd.snd.snd.snd.snd.snd.snd.snd.snd.snd.fst,x4.snd.snd.snd.snd.snd.snd.snd.snd.snd.snd.snd.snd.fst,x4.snd.snd.snd.snd.snd.snd.snd.snd.snd.snd.snd.snd.snd)) else some (Sum.inr ({ id:=x4.snd.fst,x:=x4.snd.snd.snd.snd.snd.snd.snd.snd.snd.snd.fst,p:={ N:=x4.snd.snd.fst,Places:=x4.snd.snd.snd.fst,Trans:=x4.snd.snd.snd.snd.fst },in_:=x4.snd.snd.snd.snd.snd.snd.snd.snd.snd.snd.snd.fst,out:=x4.snd.snd.snd.snd.snd.snd.snd.snd.snd.fst,clocks:=x4.snd.snd.snd.snd.snd.snd.snd.snd.snd.snd.snd.snd.fst,sent:=x4.snd.snd.snd.snd.snd.snd.snd.snd.snd.snd.snd.snd.snd,horizon:=x4.snd.snd.snd.snd.snd.fst,began:=x4.snd.snd.snd.snd.snd.snd.fst,done:=x4.snd.snd.snd.snd.snd.snd.snd.fst },x4.snd.snd.snd.snd.snd.snd.snd.snd.fst))) (0,x.fst.id,x.fst.p.N,x.fst.p.Places,x.fst.p.Trans,x.fst.horizon,x.fst.began,x.fst.done,x.snd,x.fst.out,x.fst.x,x.fst.in_,x.fst.clocks,x.fst.sent)).bind fun (x4:TProcess×List TMail)=>(p40 x4.fst).bind fun (b5:Bool)=>some (0,x4.snd,{ id:=x4.fst.id,x:=x4.fst.x,p:=x4.fst.p,in_:=x4.fst.in_,out:=x4.fst.out,clocks:=x4.fst.clocks,sent:=x4.fst.sent,horizon:=x4.fst.horizon,began:=x4.fst.began,done:=b5 })
    | Sum.inr r=>some r
def p4x:Int×Int→Option Bool:=fun (x:Int×Int)=>
 (p14 ([{ Name:=[112],Tokens:=IntKind.i64.wrap x.snd },{ Name:=[113],Tokens:=0 }],[{ Name:=[116],Delay:=1,Prio:=0,In:=[{ Place:=0,N:=1 }],Not:=[],Out:=[{ Place:=1,N:=1 }] },{ Name:=[117],Delay:=1,Prio:=0,In:=[{ Place:=1,N:=1 }],Not:=[],Out:=[{ Place:=0,N:=1 }] }],2,[0,1],[0,1],0,if -1 < x.fst then -1 else x.fst)).bind fun (x1:Int×Option TProcess)=>
  (if (!decide (x1.fst=0))=true then some (Sum.inl (x.snd,true,x1.snd)) else if x1.snd.isNone=true then some (Sum.inl (x.snd,true,x1.snd)) else x1.snd.bind fun (x2:TProcess)=>(zp x2).bind fun (b3:Bool)=>some (Sum.inl (x.snd,!b3,x1.snd))).bind fun (x2:Int×Bool×Option TProcess⊕Bool)=>
   match x2 with
   | Sum.inl x=>if x.snd.fst=true then some false else x.snd.snd.bind fun (x4:TProcess)=>(Ba x4).bind fun (x5:Int×List TMail×TProcess)=>(p11 ()).bind fun (b6:Bool)=>if b6=true then if x5.fst=0 then if (↑x5.snd.fst.length:Int)=0 then (p18 x5.snd.snd).bind fun (b7:Bool)=>if b7=true then (zp x5.snd.snd).bind fun (b8:Bool)=>if (!b8)=true then (p20 x5.snd.snd).bind fun (x9:Int×List TFire×List Int×List Int)=>if (↑x9.snd.fst.length:Int)=0 then (p20 x5.snd.snd).bind fun (x10:Int×List TFire×List Int×List Int)=>(idx x10.snd.snd.fst 0).bind fun (n11:Int)=>some (decide (n11=IntKind.i64.wrap x.fst)) else some false else some false else some false else some false else some false else some false
   | Sum.inr r=>some r
end
theorem rj:zP=p41:=by
 funext x
 unfold zP p41
 simp only [z8]
theorem pg:zp=p16:=by
 unfold zp p16
 rw [rj]
 rfl
theorem vM:Ba=p17:=by
 unfold Ba p17
 rw [rj,pg]
 rfl
theorem yq:p4x=p4:=by
 unfold p4x p4
 rw [vM,pg]
 rfl
theorem oQ:zA (fun t=>p4 (-1,t))=true:=by kernel_rfl
theorem nF:(fun m:Nat=>zA fun t=>p4x (Int.negSucc (m+1),t))=fun _=>true:=by kernel_rfl
theorem vh (h:Int) {t:Int} (h0:0≤t) (h1:t < 256):p4 (h,t)=some true:=by
 have one:=oS oQ h0 h1
 by_cases hh : -1 < h
 ·have e:p4 (h,t)=p4 (-1,t):=by
   unfold p4
   dsimp only
   rw [if_pos hh,if_neg (by decide)]
  rw [e]; exact one
 by_cases e:h = -1
 ·subst e; exact one
 have hk:∃ m:Nat,h=Int.negSucc (m+1):=⟨(-h - 2).toNat,by omega⟩
 obtain ⟨m,rfl⟩:=hk
 have:=oS (congrFun nF m) h0 h1
 rw [yq] at this
 exact this
theorem law_processNever:∀ h xs,rx [(.int .i64),(.int .u8)] h xs→cR F 4 xs h fun v _=>v=.bool true:=by
 intro h xs ht
 obtain ⟨a,b,rfl,⟨n1,e1,w1⟩,_,_,rfl,⟨n2,e2,w2⟩,h4⟩:=ht
 simp only [rx] at h4
 subst h4
 cases e1
 cases e2
 have w:0≤n2∧n2≤255:=by
  simp only [Lit.wf,Bool.and_eq_true,decide_eq_true_eq] at w2
  exact w2
 exact law_bool o4 (x:=(n1,n2,())) (vh (t:=n2) n1 w.1 (by have:=w.2; omega)) rfl (Fz.refl h) (am:=fun _=>.nilPtr) ⟨_,rfl,rfl,⟨_,rfl,rfl⟩,_,rfl,rfl,⟨_,rfl,rfl⟩,rfl⟩
end Go.Proofs.Ytmchbhheoieepaa
