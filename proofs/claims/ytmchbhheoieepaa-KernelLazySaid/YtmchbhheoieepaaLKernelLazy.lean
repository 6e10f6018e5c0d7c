/- The law KernelLazy: its pure function answers true, whatever it is called with; so does the machine's function. No condition. Own work. -/
import Derived.Test.YtmchbhheoieepaaGbKernelLazy
import Derived.Test.YtmchbhheoieepaaPm2KernelLazy
import Derived.KernelRfl
set_option linter.unusedSimpArgs false
set_option linter.unusedVariables false
namespace Go.Proofs.Ytmchbhheoieepaa
open Go Go.Am
noncomputable section
def lzP:List TPlace:=[{ Name:=[112],Tokens:=1 },{ Name:=[113],Tokens:=0 },{ Name:=[114],Tokens:=0 }]
def lzT:List TTrans:=[{ Name:=[116],Delay:=1,Prio:=0,In:=[{ Place:=0,N:=1 }],Not:=[],Out:=[{ Place:=1,N:=1 }] },{ Name:=[117],Delay:=1,Prio:=0,In:=[{ Place:=1,N:=1 }],Not:=[],Out:=[{ Place:=2,N:=1 }] },{ Name:=[118],Delay:=1,Prio:=0,In:=[{ Place:=2,N:=1 }],Not:=[],Out:=[{ Place:=0,N:=1 }] }]
def lzB (n4 r:Int):Int×List TTrans×Int×List Int×List Int×Option TKernel×List TPlace→Option ((Int×List TTrans×Int×List Int×List Int×Option TKernel×List TPlace)⊕((List TTrans×Int×List Int×List Int×Option TKernel×List TPlace)⊕Unit)):=
 (fun (x5:Int×List TTrans×Int×List Int×List Int×Option TKernel×List TPlace)=>
  if x5.fst < IntKind.i64.wrap r then
   x5.snd.snd.snd.snd.snd.fst.bind fun (x6:TKernel)=>
    (p29 x6).bind fun (l7:List TPick)=>
     (aw
        (fun (x8:Int×List TTrans×Int×List Int×List Int×Option TKernel×List TPick×List TPlace)=>
         if x8.fst < (↑x8.snd.snd.snd.snd.snd.snd.fst.length:Int) then
          ((idx x8.snd.snd.snd.snd.snd.snd.fst x8.fst).bind fun (x9:TPick)=>if (!x9.Deliver)=true then (idx x8.snd.snd.snd.snd.snd.snd.fst x8.fst).bind fun (x10:TPick)=>some (Sum.inl (x8.fst,decide (x10.A=IntKind.i64.wrap n4),x8.snd.fst,x8.snd.snd.fst,x8.snd.snd.snd.fst,x8.snd.snd.snd.snd.fst,x8.snd.snd.snd.snd.snd.fst,x8.snd.snd.snd.snd.snd.snd.fst,x8.snd.snd.snd.snd.snd.snd.snd)) else some (Sum.inl (x8.fst,false,x8.snd.fst,x8.snd.snd.fst,x8.snd.snd.snd.fst,x8.snd.snd.snd.snd.fst,x8.snd.snd.snd.snd.snd.fst,x8.snd.snd.snd.snd.snd.snd.fst,x8.snd.snd.snd.snd.snd.snd.snd))).bind fun (x9:Int×Bool×List TTrans×Int×List Int×List Int×Option TKernel×List TPick×List TPlace⊕Int×List TTrans×Int×List Int×List Int×Option TKernel×List TPick×List TPlace⊕List TTrans×Int×List Int×List Int×Option TKernel×List TPlace⊕Unit)=>
           match x9 with
           | Sum.inl x=>if x.snd.fst=true then some (Sum.inl (IntKind.i64.wrap (x.fst+1),x.snd.snd.fst,x.snd.snd.snd.fst,x.snd.snd.snd.snd.fst,x.snd.snd.snd.snd.snd.fst,x.snd.snd.snd.snd.snd.snd.fst,x.snd.snd.snd.snd.snd.snd.snd.fst,x.snd.snd.snd.snd.snd.snd.snd.snd)) else (idx x.snd.snd.snd.snd.snd.snd.snd.fst x.fst).bind fun (x11:TPick)=>x.snd.snd.snd.snd.snd.snd.fst.bind fun (x12:TKernel)=>(p34 (x11.Deliver,x11.A,x11.B,x12)).bind fun (x13:Bool×Int×TKernel)=>if (!decide (x13.snd.fst=0))=true then some (Sum.inr (Sum.inr ())) else some (Sum.inl (IntKind.i64.wrap (x.fst+1),x.snd.snd.fst,x.snd.snd.snd.fst,x.snd.snd.snd.snd.fst,x.snd.snd.snd.snd.snd.fst,some x13.snd.snd,x.snd.snd.snd.snd.snd.snd.snd.fst,x.snd.snd.snd.snd.snd.snd.snd.snd))
           | Sum.inr r=>some r
         else some (Sum.inr (Sum.inl (x8.snd.fst,x8.snd.snd.fst,x8.snd.snd.snd.fst,x8.snd.snd.snd.snd.fst,x8.snd.snd.snd.snd.snd.fst,x8.snd.snd.snd.snd.snd.snd.snd))))
        (0,x5.snd.fst,x5.snd.snd.fst,x5.snd.snd.snd.fst,x5.snd.snd.snd.snd.fst,x5.snd.snd.snd.snd.snd.fst,l7,x5.snd.snd.snd.snd.snd.snd)).bind
      fun (x8:List TTrans×Int×List Int×List Int×Option TKernel×List TPlace⊕Unit)=>
      match x8 with
      | Sum.inl x=>
       (x.snd.snd.snd.snd.fst.bind fun (x10:TKernel)=>(p33 x10).bind fun (b11:Bool)=>if b11=true then some (Sum.inl (x5.fst,true,x.fst,x.snd.fst,x.snd.snd.fst,x.snd.snd.snd.fst,x.snd.snd.snd.snd.fst,x.snd.snd.snd.snd.snd)) else x.snd.snd.snd.snd.fst.bind fun (x12:TKernel)=>(p28 ([],x12)).bind fun (x13:Int×TKernel)=>some (Sum.inl (x5.fst,!decide (x13.fst=8),x.fst,x.snd.fst,x.snd.snd.fst,x.snd.snd.snd.fst,some x13.snd,x.snd.snd.snd.snd.snd))).bind fun (x10:Int×Bool×List TTrans×Int×List Int×List Int×Option TKernel×List TPlace⊕Int×List TTrans×Int×List Int×List Int×Option TKernel×List TPlace⊕List TTrans×Int×List Int×List Int×Option TKernel×List TPlace⊕Unit)=>
        match x10 with
        | Sum.inl x=>if x.snd.fst=true then some (Sum.inr (Sum.inr ())) else some (Sum.inl (IntKind.i64.wrap (x.fst+1),x.snd.snd.fst,x.snd.snd.snd.fst,x.snd.snd.snd.snd.fst,x.snd.snd.snd.snd.snd.fst,x.snd.snd.snd.snd.snd.snd.fst,x.snd.snd.snd.snd.snd.snd.snd))
        | Sum.inr r=>some r
      | Sum.inr y=>some (Sum.inr (Sum.inr ()))
  else some (Sum.inr (Sum.inl (x5.snd.fst,x5.snd.snd.fst,x5.snd.snd.snd.fst,x5.snd.snd.snd.snd.fst,x5.snd.snd.snd.snd.snd.fst,x5.snd.snd.snd.snd.snd.snd))))
def lzF:(List TTrans×Int×List Int×List Int×Option TKernel×List TPlace)⊕Unit→Option Bool:=
 fun (x5:List TTrans×Int×List Int×List Int×Option TKernel×List TPlace⊕Unit)=>
 match x5 with
 | Sum.inl x=>
  (aw
     (fun (x7:Int×Int×List TTrans×Int×List Int×List Int×Option TKernel×List TPlace)=>
      (if x7.snd.fst < 200 then some (Sum.inl (x7.fst,x7.snd.fst,decide (x7.fst=8),x7.snd.snd.fst,x7.snd.snd.snd.fst,x7.snd.snd.snd.snd.fst,x7.snd.snd.snd.snd.snd.fst,x7.snd.snd.snd.snd.snd.snd.fst,x7.snd.snd.snd.snd.snd.snd.snd)) else some (Sum.inl (x7.fst,x7.snd.fst,false,x7.snd.snd.fst,x7.snd.snd.snd.fst,x7.snd.snd.snd.snd.fst,x7.snd.snd.snd.snd.snd.fst,x7.snd.snd.snd.snd.snd.snd.fst,x7.snd.snd.snd.snd.snd.snd.snd))).bind fun (x8:Int×Int×Bool×List TTrans×Int×List Int×List Int×Option TKernel×List TPlace⊕Int×Int×List TTrans×Int×List Int×List Int×Option TKernel×List TPlace⊕Int×List TTrans×Int×List Int×List Int×Option TKernel×List TPlace)=>
       match x8 with
       | Sum.inl x=>if x.snd.snd.fst=true then x.snd.snd.snd.snd.snd.snd.snd.fst.bind fun (x10:TKernel)=>(p29 x10).bind fun (l11:List TPick)=>x.snd.snd.snd.snd.snd.snd.snd.fst.bind fun (x12:TKernel)=>(p28 (l11,x12)).bind fun (x13:Int×TKernel)=>some (Sum.inl (x13.fst,IntKind.i64.wrap (x.snd.fst+1),x.snd.snd.snd.fst,x.snd.snd.snd.snd.fst,x.snd.snd.snd.snd.snd.fst,x.snd.snd.snd.snd.snd.snd.fst,some x13.snd,x.snd.snd.snd.snd.snd.snd.snd.snd)) else some (Sum.inr (x.fst,x.snd.snd.snd.fst,x.snd.snd.snd.snd.fst,x.snd.snd.snd.snd.snd.fst,x.snd.snd.snd.snd.snd.snd.fst,x.snd.snd.snd.snd.snd.snd.snd.fst,x.snd.snd.snd.snd.snd.snd.snd.snd))
       | Sum.inr r=>some r)
     (8,0,x.fst,x.snd.fst,x.snd.snd.fst,x.snd.snd.snd.fst,x.snd.snd.snd.snd.fst,x.snd.snd.snd.snd.snd)).bind
   fun (x7:Int×List TTrans×Int×List Int×List Int×Option TKernel×List TPlace)=>
   x7.snd.snd.snd.snd.snd.fst.bind fun (x8:TKernel)=>
    (p30 x8).bind fun (l9:List TResult)=>
     (if (!decide (x7.fst=0))=true then some (Sum.inl (true,x7.snd.fst,x7.snd.snd.fst,x7.snd.snd.snd.fst,x7.snd.snd.snd.snd.fst,l9,x7.snd.snd.snd.snd.snd.snd)) else if (!decide ((↑l9.length:Int)=x7.snd.snd.fst))=true then some (Sum.inl (true,x7.snd.fst,x7.snd.snd.fst,x7.snd.snd.snd.fst,x7.snd.snd.snd.snd.fst,l9,x7.snd.snd.snd.snd.snd.snd)) else (p31 (x7.snd.snd.snd.snd.snd.snd,x7.snd.fst,l9)).bind fun (b10:Bool)=>some (Sum.inl (!b10,x7.snd.fst,x7.snd.snd.fst,x7.snd.snd.snd.fst,x7.snd.snd.snd.snd.fst,l9,x7.snd.snd.snd.snd.snd.snd))).bind fun (x10:Bool×List TTrans×Int×List Int×List Int×List TResult×List TPlace⊕Bool)=>
      match x10 with
      | Sum.inl x=>if x.fst=true then some false else (p32 (x.snd.snd.snd.snd.snd.snd,x.snd.fst,x.snd.snd.snd.fst,x.snd.snd.snd.snd.snd.fst)).bind fun (x12:Int×List TFire×List Int×List Int)=>(p26 ()).bind fun (b13:Bool)=>if b13=true then if (↑x12.snd.fst.length:Int)=10 then (idx x12.snd.fst 9).bind fun (x14:TFire)=>some (decide (x14.Time=9)&&(decide (x14.Trans=0)&&true)) else some false else some false
      | Sum.inr r=>some r
 | Sum.inr y=>some false
end
noncomputable section
def bp:TNet:=⟨lzP,lzT⟩
def aY (k:TKernel) (x:Int):TKernel:={ k with picks:=x }
def dC (i:Int) (k:TKernel) (x:Int):Int×List TTrans×Int×List Int×List Int×Option TKernel×List TPlace:=(i,lzT,3,[0,1,2],[0,1,2],some (aY k x),lzP)
def cn:TKernel:={ n:=bp,l:=[some { id:=0,x:=some { n:=bp,mine:=[true,false,false],near:=[[0],[],[]],ready:=[true,false,false],marks:=[1,0,0],wait:={ l:=[] },in_:=none,log:=[],way:=[0,0,0],time:=0,out:=[],away:=[false,true,true],count:=0 },p:={ N:=3,Places:=[0,1,2],Trans:=[0,1,2] },in_:=[{ From:=2,To:=0,Ahead:=1 }],out:=[{ From:=0,To:=1,Ahead:=1 }],clocks:=[0],sent:=[0],horizon:=9,began:=false,done:=false },some { id:=1,x:=some { n:=bp,mine:=[false,true,false],near:=[[],[1],[]],ready:=[false,false,false],marks:=[1,0,0],wait:={ l:=[] },in_:=none,log:=[],way:=[0,0,0],time:=0,out:=[],away:=[true,false,true],count:=0 },p:={ N:=3,Places:=[0,1,2],Trans:=[0,1,2] },in_:=[{ From:=0,To:=1,Ahead:=1 }],out:=[{ From:=1,To:=2,Ahead:=1 }],clocks:=[0],sent:=[0],horizon:=9,began:=false,done:=false },some { id:=2,x:=some { n:=bp,mine:=[false,false,true],near:=[[],[],[2]],ready:=[false,false,false],marks:=[1,0,0],wait:={ l:=[] },in_:=none,log:=[],way:=[0,0,0],time:=0,out:=[],away:=[true,true,false],count:=0 },p:={ N:=3,Places:=[0,1,2],Trans:=[0,1,2] },in_:=[{ From:=1,To:=2,Ahead:=1 }],out:=[{ From:=2,To:=0,Ahead:=1 }],clocks:=[0],sent:=[0],horizon:=9,began:=false,done:=false }],lanes:=[{ From:=0,To:=1,Ahead:=1 },{ From:=1,To:=2,Ahead:=1 },{ From:=2,To:=0,Ahead:=1 }],box:=some { lanes:=[{ From:=0,To:=1,Ahead:=1 },{ From:=1,To:=2,Ahead:=1 },{ From:=2,To:=0,Ahead:=1 }],l:=[[],[],[]],sent:=0 },e:=0,picks:=0,moves:=0 }
def lx:TKernel:={ n:=bp,l:=[some { id:=0,x:=some { n:=bp,mine:=[true,false,false],near:=[[0],[],[]],ready:=[true,false,false],marks:=[1,0,0],wait:={ l:=[] },in_:=none,log:=[],way:=[0,0,0],time:=0,out:=[],away:=[false,true,true],count:=0 },p:={ N:=3,Places:=[0,1,2],Trans:=[0,1,2] },in_:=[{ From:=2,To:=0,Ahead:=1 }],out:=[{ From:=0,To:=1,Ahead:=1 }],clocks:=[1],sent:=[0],horizon:=9,began:=false,done:=false },some { id:=1,x:=some { n:=bp,mine:=[false,true,false],near:=[[],[1],[]],ready:=[false,false,false],marks:=[1,0,0],wait:={ l:=[] },in_:=none,log:=[],way:=[0,0,0],time:=0,out:=[],away:=[true,false,true],count:=0 },p:={ N:=3,Places:=[0,1,2],Trans:=[0,1,2] },in_:=[{ From:=0,To:=1,Ahead:=1 }],out:=[{ From:=1,To:=2,Ahead:=1 }],clocks:=[0],sent:=[1],horizon:=9,began:=false,done:=false },some { id:=2,x:=some { n:=bp,mine:=[false,false,true],near:=[[],[],[2]],ready:=[false,false,false],marks:=[1,0,0],wait:={ l:=[] },in_:=none,log:=[],way:=[0,0,0],time:=0,out:=[],away:=[true,true,false],count:=0 },p:={ N:=3,Places:=[0,1,2],Trans:=[0,1,2] },in_:=[{ From:=1,To:=2,Ahead:=1 }],out:=[{ From:=2,To:=0,Ahead:=1 }],clocks:=[1],sent:=[1],horizon:=9,began:=false,done:=false }],lanes:=[{ From:=0,To:=1,Ahead:=1 },{ From:=1,To:=2,Ahead:=1 },{ From:=2,To:=0,Ahead:=1 }],box:=some { lanes:=[{ From:=0,To:=1,Ahead:=1 },{ From:=1,To:=2,Ahead:=1 },{ From:=2,To:=0,Ahead:=1 }],l:=[[],[],[]],sent:=2 },e:=0,picks:=0,moves:=4 }
def iX:TKernel:={ n:=bp,l:=[some { id:=0,x:=some { n:=bp,mine:=[true,false,false],near:=[[0],[],[]],ready:=[true,false,false],marks:=[1,0,0],wait:={ l:=[] },in_:=none,log:=[],way:=[0,0,0],time:=0,out:=[],away:=[false,true,true],count:=0 },p:={ N:=3,Places:=[0,1,2],Trans:=[0,1,2] },in_:=[{ From:=2,To:=0,Ahead:=1 }],out:=[{ From:=0,To:=1,Ahead:=1 }],clocks:=[2],sent:=[0],horizon:=9,began:=false,done:=false },some { id:=1,x:=some { n:=bp,mine:=[false,true,false],near:=[[],[1],[]],ready:=[false,false,false],marks:=[1,0,0],wait:={ l:=[] },in_:=none,log:=[],way:=[0,0,0],time:=0,out:=[],away:=[true,false,true],count:=0 },p:={ N:=3,Places:=[0,1,2],Trans:=[0,1,2] },in_:=[{ From:=0,To:=1,Ahead:=1 }],out:=[{ From:=1,To:=2,Ahead:=1 }],clocks:=[0],sent:=[1],horizon:=9,began:=false,done:=false },some { id:=2,x:=some { n:=bp,mine:=[false,false,true],near:=[[],[],[2]],ready:=[false,false,false],marks:=[1,0,0],wait:={ l:=[] },in_:=some [],log:=[],way:=[0,0,0],time:=0,out:=[],away:=[true,true,false],count:=0 },p:={ N:=3,Places:=[0,1,2],Trans:=[0,1,2] },in_:=[{ From:=1,To:=2,Ahead:=1 }],out:=[{ From:=2,To:=0,Ahead:=1 }],clocks:=[1],sent:=[2],horizon:=9,began:=true,done:=false }],lanes:=[{ From:=0,To:=1,Ahead:=1 },{ From:=1,To:=2,Ahead:=1 },{ From:=2,To:=0,Ahead:=1 }],box:=some { lanes:=[{ From:=0,To:=1,Ahead:=1 },{ From:=1,To:=2,Ahead:=1 },{ From:=2,To:=0,Ahead:=1 }],l:=[[],[],[]],sent:=3 },e:=0,picks:=0,moves:=6 }
def kF:TKernel:={ n:=bp,l:=[some { id:=0,x:=some { n:=bp,mine:=[true,false,false],near:=[[0],[],[]],ready:=[true,false,false],marks:=[1,0,0],wait:={ l:=[] },in_:=none,log:=[],way:=[0,0,0],time:=0,out:=[],away:=[false,true,true],count:=0 },p:={ N:=3,Places:=[0,1,2],Trans:=[0,1,2] },in_:=[{ From:=2,To:=0,Ahead:=1 }],out:=[{ From:=0,To:=1,Ahead:=1 }],clocks:=[1],sent:=[1],horizon:=9,began:=false,done:=false },some { id:=1,x:=some { n:=bp,mine:=[false,true,false],near:=[[],[1],[]],ready:=[false,false,false],marks:=[1,0,0],wait:={ l:=[] },in_:=none,log:=[],way:=[0,0,0],time:=0,out:=[],away:=[true,false,true],count:=0 },p:={ N:=3,Places:=[0,1,2],Trans:=[0,1,2] },in_:=[{ From:=0,To:=1,Ahead:=1 }],out:=[{ From:=1,To:=2,Ahead:=1 }],clocks:=[1],sent:=[0],horizon:=9,began:=false,done:=false },some { id:=2,x:=some { n:=bp,mine:=[false,false,true],near:=[[],[],[2]],ready:=[false,false,false],marks:=[1,0,0],wait:={ l:=[] },in_:=none,log:=[],way:=[0,0,0],time:=0,out:=[],away:=[true,true,false],count:=0 },p:={ N:=3,Places:=[0,1,2],Trans:=[0,1,2] },in_:=[{ From:=1,To:=2,Ahead:=1 }],out:=[{ From:=2,To:=0,Ahead:=1 }],clocks:=[0],sent:=[1],horizon:=9,began:=false,done:=false }],lanes:=[{ From:=0,To:=1,Ahead:=1 },{ From:=1,To:=2,Ahead:=1 },{ From:=2,To:=0,Ahead:=1 }],box:=some { lanes:=[{ From:=0,To:=1,Ahead:=1 },{ From:=1,To:=2,Ahead:=1 },{ From:=2,To:=0,Ahead:=1 }],l:=[[],[],[]],sent:=2 },e:=0,picks:=0,moves:=4 }
def lG:TKernel:={ n:=bp,l:=[some { id:=0,x:=some { n:=bp,mine:=[true,false,false],near:=[[0],[],[]],ready:=[false,false,false],marks:=[0,0,0],wait:={ l:=[] },in_:=some [(0,1)],log:=[{ Time:=0,Trans:=0 }],way:=[0,0,0],time:=0,out:=[],away:=[false,true,true],count:=0 },p:={ N:=3,Places:=[0,1,2],Trans:=[0,1,2] },in_:=[{ From:=2,To:=0,Ahead:=1 }],out:=[{ From:=0,To:=1,Ahead:=1 }],clocks:=[1],sent:=[2],horizon:=9,began:=true,done:=false },some { id:=1,x:=some { n:=bp,mine:=[false,true,false],near:=[[],[1],[]],ready:=[false,false,false],marks:=[1,0,0],wait:={ l:=[{ Time:=1,Prio:=1,ID:=1,N:=1 }] },in_:=none,log:=[],way:=[0,1,0],time:=0,out:=[],away:=[true,false,true],count:=1 },p:={ N:=3,Places:=[0,1,2],Trans:=[0,1,2] },in_:=[{ From:=0,To:=1,Ahead:=1 }],out:=[{ From:=1,To:=2,Ahead:=1 }],clocks:=[1],sent:=[0],horizon:=9,began:=false,done:=false },some { id:=2,x:=some { n:=bp,mine:=[false,false,true],near:=[[],[],[2]],ready:=[false,false,false],marks:=[1,0,0],wait:={ l:=[] },in_:=none,log:=[],way:=[0,0,0],time:=0,out:=[],away:=[true,true,false],count:=0 },p:={ N:=3,Places:=[0,1,2],Trans:=[0,1,2] },in_:=[{ From:=1,To:=2,Ahead:=1 }],out:=[{ From:=2,To:=0,Ahead:=1 }],clocks:=[0],sent:=[1],horizon:=9,began:=false,done:=false }],lanes:=[{ From:=0,To:=1,Ahead:=1 },{ From:=1,To:=2,Ahead:=1 },{ From:=2,To:=0,Ahead:=1 }],box:=some { lanes:=[{ From:=0,To:=1,Ahead:=1 },{ From:=1,To:=2,Ahead:=1 },{ From:=2,To:=0,Ahead:=1 }],l:=[[{ Time:=2,Place:=0,N:=0 }],[],[]],sent:=4 },e:=0,picks:=0,moves:=6 }
def iK:TKernel:={ n:=bp,l:=[some { id:=0,x:=some { n:=bp,mine:=[true,false,false],near:=[[0],[],[]],ready:=[false,false,false],marks:=[0,0,0],wait:={ l:=[] },in_:=some [(0,1)],log:=[{ Time:=0,Trans:=0 }],way:=[0,0,0],time:=0,out:=[],away:=[false,true,true],count:=0 },p:={ N:=3,Places:=[0,1,2],Trans:=[0,1,2] },in_:=[{ From:=2,To:=0,Ahead:=1 }],out:=[{ From:=0,To:=1,Ahead:=1 }],clocks:=[1],sent:=[2],horizon:=9,began:=true,done:=false },some { id:=1,x:=some { n:=bp,mine:=[false,true,false],near:=[[],[1],[]],ready:=[false,false,false],marks:=[1,0,0],wait:={ l:=[{ Time:=1,Prio:=1,ID:=1,N:=1 }] },in_:=none,log:=[],way:=[0,1,0],time:=0,out:=[],away:=[true,false,true],count:=1 },p:={ N:=3,Places:=[0,1,2],Trans:=[0,1,2] },in_:=[{ From:=0,To:=1,Ahead:=1 }],out:=[{ From:=1,To:=2,Ahead:=1 }],clocks:=[2],sent:=[0],horizon:=9,began:=false,done:=false },some { id:=2,x:=some { n:=bp,mine:=[false,false,true],near:=[[],[],[2]],ready:=[false,false,false],marks:=[1,0,0],wait:={ l:=[] },in_:=none,log:=[],way:=[0,0,0],time:=0,out:=[],away:=[true,true,false],count:=0 },p:={ N:=3,Places:=[0,1,2],Trans:=[0,1,2] },in_:=[{ From:=1,To:=2,Ahead:=1 }],out:=[{ From:=2,To:=0,Ahead:=1 }],clocks:=[0],sent:=[1],horizon:=9,began:=false,done:=false }],lanes:=[{ From:=0,To:=1,Ahead:=1 },{ From:=1,To:=2,Ahead:=1 },{ From:=2,To:=0,Ahead:=1 }],box:=some { lanes:=[{ From:=0,To:=1,Ahead:=1 },{ From:=1,To:=2,Ahead:=1 },{ From:=2,To:=0,Ahead:=1 }],l:=[[],[],[]],sent:=4 },e:=0,picks:=0,moves:=7 }
def lc:TKernel:={ n:=bp,l:=[some { id:=0,x:=some { n:=bp,mine:=[true,false,false],near:=[[0],[],[]],ready:=[true,false,false],marks:=[1,0,0],wait:={ l:=[] },in_:=none,log:=[],way:=[0,0,0],time:=0,out:=[],away:=[false,true,true],count:=0 },p:={ N:=3,Places:=[0,1,2],Trans:=[0,1,2] },in_:=[{ From:=2,To:=0,Ahead:=1 }],out:=[{ From:=0,To:=1,Ahead:=1 }],clocks:=[0],sent:=[1],horizon:=9,began:=false,done:=false },some { id:=1,x:=some { n:=bp,mine:=[false,true,false],near:=[[],[1],[]],ready:=[false,false,false],marks:=[1,0,0],wait:={ l:=[] },in_:=none,log:=[],way:=[0,0,0],time:=0,out:=[],away:=[true,false,true],count:=0 },p:={ N:=3,Places:=[0,1,2],Trans:=[0,1,2] },in_:=[{ From:=0,To:=1,Ahead:=1 }],out:=[{ From:=1,To:=2,Ahead:=1 }],clocks:=[1],sent:=[1],horizon:=9,began:=false,done:=false },some { id:=2,x:=some { n:=bp,mine:=[false,false,true],near:=[[],[],[2]],ready:=[false,false,false],marks:=[1,0,0],wait:={ l:=[] },in_:=none,log:=[],way:=[0,0,0],time:=0,out:=[],away:=[true,true,false],count:=0 },p:={ N:=3,Places:=[0,1,2],Trans:=[0,1,2] },in_:=[{ From:=1,To:=2,Ahead:=1 }],out:=[{ From:=2,To:=0,Ahead:=1 }],clocks:=[1],sent:=[0],horizon:=9,began:=false,done:=false }],lanes:=[{ From:=0,To:=1,Ahead:=1 },{ From:=1,To:=2,Ahead:=1 },{ From:=2,To:=0,Ahead:=1 }],box:=some { lanes:=[{ From:=0,To:=1,Ahead:=1 },{ From:=1,To:=2,Ahead:=1 },{ From:=2,To:=0,Ahead:=1 }],l:=[[],[],[]],sent:=2 },e:=0,picks:=0,moves:=4 }
def jg:TKernel:={ n:=bp,l:=[some { id:=0,x:=some { n:=bp,mine:=[true,false,false],near:=[[0],[],[]],ready:=[true,false,false],marks:=[1,0,0],wait:={ l:=[] },in_:=none,log:=[],way:=[0,0,0],time:=0,out:=[],away:=[false,true,true],count:=0 },p:={ N:=3,Places:=[0,1,2],Trans:=[0,1,2] },in_:=[{ From:=2,To:=0,Ahead:=1 }],out:=[{ From:=0,To:=1,Ahead:=1 }],clocks:=[0],sent:=[1],horizon:=9,began:=false,done:=false },some { id:=1,x:=some { n:=bp,mine:=[false,true,false],near:=[[],[1],[]],ready:=[false,false,false],marks:=[1,0,0],wait:={ l:=[] },in_:=some [],log:=[],way:=[0,0,0],time:=0,out:=[],away:=[true,false,true],count:=0 },p:={ N:=3,Places:=[0,1,2],Trans:=[0,1,2] },in_:=[{ From:=0,To:=1,Ahead:=1 }],out:=[{ From:=1,To:=2,Ahead:=1 }],clocks:=[1],sent:=[2],horizon:=9,began:=true,done:=false },some { id:=2,x:=some { n:=bp,mine:=[false,false,true],near:=[[],[],[2]],ready:=[false,false,false],marks:=[1,0,0],wait:={ l:=[] },in_:=none,log:=[],way:=[0,0,0],time:=0,out:=[],away:=[true,true,false],count:=0 },p:={ N:=3,Places:=[0,1,2],Trans:=[0,1,2] },in_:=[{ From:=1,To:=2,Ahead:=1 }],out:=[{ From:=2,To:=0,Ahead:=1 }],clocks:=[2],sent:=[0],horizon:=9,began:=false,done:=false }],lanes:=[{ From:=0,To:=1,Ahead:=1 },{ From:=1,To:=2,Ahead:=1 },{ From:=2,To:=0,Ahead:=1 }],box:=some { lanes:=[{ From:=0,To:=1,Ahead:=1 },{ From:=1,To:=2,Ahead:=1 },{ From:=2,To:=0,Ahead:=1 }],l:=[[],[],[]],sent:=3 },e:=0,picks:=0,moves:=6 }
theorem uj:(fun (r w:Int)=>p10 (r,w))=fun r w=>(wX .u8 w 3).bind fun n4=>(aw (lzB n4 r) (dC 0 cn 0)).bind lzF:=by kernel_rfl
def nn (x:Int):Int:=IntKind.i64.wrap (IntKind.i64.wrap (IntKind.i64.wrap (IntKind.i64.wrap (IntKind.i64.wrap (x+1)+1)+1)+1)+1)
theorem pd:(fun (r i x:Int)=>lzB 0 r (dC i cn x))=fun r i x=>if i < IntKind.i64.wrap r then some (.inl (dC (IntKind.i64.wrap (i+1)) lx (nn x))) else some (.inr (.inl (lzT,3,[0,1,2],[0,1,2],some (aY cn x),lzP))):=by kernel_rfl
theorem te:(fun (x:Int)=>lzF (.inl (lzT,3,[0,1,2],[0,1,2],some (aY cn x),lzP)))=fun x=>some true:=by kernel_rfl
theorem oZ:(fun (r i x:Int)=>lzB 0 r (dC i lx x))=fun r i x=>if i < IntKind.i64.wrap r then some (.inl (dC (IntKind.i64.wrap (i+1)) iX (nn x))) else some (.inr (.inl (lzT,3,[0,1,2],[0,1,2],some (aY lx x),lzP))):=by kernel_rfl
theorem pY:(fun (x:Int)=>lzF (.inl (lzT,3,[0,1,2],[0,1,2],some (aY lx x),lzP)))=fun x=>some true:=by kernel_rfl
theorem oY:(fun (r i x:Int)=>lzB 0 r (dC i iX x))=fun r i x=>if i < IntKind.i64.wrap r then some (.inl (dC (IntKind.i64.wrap (i+1)) iX (nn x))) else some (.inr (.inl (lzT,3,[0,1,2],[0,1,2],some (aY iX x),lzP))):=by kernel_rfl
theorem pU:(fun (x:Int)=>lzF (.inl (lzT,3,[0,1,2],[0,1,2],some (aY iX x),lzP)))=fun x=>some true:=by kernel_rfl
def Cx:Nat→TKernel
 | 0=>cn
 | 1=>lx
 | _+2=>iX
theorem rp (r x:Int) (i:Nat) (z:Int):lzB 0 r (dC z (Cx i) x)=if z < IntKind.i64.wrap r then some (.inl (dC (IntKind.i64.wrap (z+1)) (Cx (i+1)) (nn x))) else some (.inr (.inl (lzT,3,[0,1,2],[0,1,2],some (aY (Cx i) x),lzP))):=match i with
 | 0=>congrFun (congrFun (congrFun pd r) z) x
 | 1=>congrFun (congrFun (congrFun oZ r) z) x
 | _+2=>congrFun (congrFun (congrFun oY r) z) x
theorem uD (x:Int) (i:Nat):lzF (.inl (lzT,3,[0,1,2],[0,1,2],some (aY (Cx i) x),lzP))=some true:=match i with
 | 0=>congrFun te x
 | 1=>congrFun pY x
 | _+2=>congrFun pU x
theorem pB:(fun (r i x:Int)=>lzB 1 r (dC i cn x))=fun r i x=>if i < IntKind.i64.wrap r then some (.inl (dC (IntKind.i64.wrap (i+1)) kF (nn x))) else some (.inr (.inl (lzT,3,[0,1,2],[0,1,2],some (aY cn x),lzP))):=by kernel_rfl
theorem rq:(fun (x:Int)=>lzF (.inl (lzT,3,[0,1,2],[0,1,2],some (aY cn x),lzP)))=fun x=>some true:=by kernel_rfl
theorem pn:(fun (r i x:Int)=>lzB 1 r (dC i kF x))=fun r i x=>if i < IntKind.i64.wrap r then some (.inl (dC (IntKind.i64.wrap (i+1)) lG (nn x))) else some (.inr (.inl (lzT,3,[0,1,2],[0,1,2],some (aY kF x),lzP))):=by kernel_rfl
theorem sP:(fun (x:Int)=>lzF (.inl (lzT,3,[0,1,2],[0,1,2],some (aY kF x),lzP)))=fun x=>some true:=by kernel_rfl
theorem oX:(fun (r i x:Int)=>lzB 1 r (dC i lG x))=fun r i x=>if i < IntKind.i64.wrap r then some (.inl (dC (IntKind.i64.wrap (i+1)) iK (nn x))) else some (.inr (.inl (lzT,3,[0,1,2],[0,1,2],some (aY lG x),lzP))):=by kernel_rfl
theorem qE:(fun (x:Int)=>lzF (.inl (lzT,3,[0,1,2],[0,1,2],some (aY lG x),lzP)))=fun x=>some true:=by kernel_rfl
theorem o7:(fun (r i x:Int)=>lzB 1 r (dC i iK x))=fun r i x=>if i < IntKind.i64.wrap r then some (.inl (dC (IntKind.i64.wrap (i+1)) iK (nn x))) else some (.inr (.inl (lzT,3,[0,1,2],[0,1,2],some (aY iK x),lzP))):=by kernel_rfl
theorem qG:(fun (x:Int)=>lzF (.inl (lzT,3,[0,1,2],[0,1,2],some (aY iK x),lzP)))=fun x=>some true:=by kernel_rfl
def AG:Nat→TKernel
 | 0=>cn
 | 1=>kF
 | 2=>lG
 | _+3=>iK
theorem pM (r x:Int) (i:Nat) (z:Int):lzB 1 r (dC z (AG i) x)=if z < IntKind.i64.wrap r then some (.inl (dC (IntKind.i64.wrap (z+1)) (AG (i+1)) (nn x))) else some (.inr (.inl (lzT,3,[0,1,2],[0,1,2],some (aY (AG i) x),lzP))):=match i with
 | 0=>congrFun (congrFun (congrFun pB r) z) x
 | 1=>congrFun (congrFun (congrFun pn r) z) x
 | 2=>congrFun (congrFun (congrFun oX r) z) x
 | _+3=>congrFun (congrFun (congrFun o7 r) z) x
theorem tV (x:Int) (i:Nat):lzF (.inl (lzT,3,[0,1,2],[0,1,2],some (aY (AG i) x),lzP))=some true:=match i with
 | 0=>congrFun rq x
 | 1=>congrFun sP x
 | 2=>congrFun qE x
 | _+3=>congrFun qG x
theorem pc:(fun (r i x:Int)=>lzB 2 r (dC i cn x))=fun r i x=>if i < IntKind.i64.wrap r then some (.inl (dC (IntKind.i64.wrap (i+1)) lc (nn x))) else some (.inr (.inl (lzT,3,[0,1,2],[0,1,2],some (aY cn x),lzP))):=by kernel_rfl
theorem sO:(fun (x:Int)=>lzF (.inl (lzT,3,[0,1,2],[0,1,2],some (aY cn x),lzP)))=fun x=>some true:=by kernel_rfl
theorem pk:(fun (r i x:Int)=>lzB 2 r (dC i lc x))=fun r i x=>if i < IntKind.i64.wrap r then some (.inl (dC (IntKind.i64.wrap (i+1)) jg (nn x))) else some (.inr (.inl (lzT,3,[0,1,2],[0,1,2],some (aY lc x),lzP))):=by kernel_rfl
theorem qu:(fun (x:Int)=>lzF (.inl (lzT,3,[0,1,2],[0,1,2],some (aY lc x),lzP)))=fun x=>some true:=by kernel_rfl
theorem pb:(fun (r i x:Int)=>lzB 2 r (dC i jg x))=fun r i x=>if i < IntKind.i64.wrap r then some (.inl (dC (IntKind.i64.wrap (i+1)) jg (nn x))) else some (.inr (.inl (lzT,3,[0,1,2],[0,1,2],some (aY jg x),lzP))):=by kernel_rfl
theorem tv:(fun (x:Int)=>lzF (.inl (lzT,3,[0,1,2],[0,1,2],some (aY jg x),lzP)))=fun x=>some true:=by kernel_rfl
def BO:Nat→TKernel
 | 0=>cn
 | 1=>lc
 | _+2=>jg
theorem rM (r x:Int) (i:Nat) (z:Int):lzB 2 r (dC z (BO i) x)=if z < IntKind.i64.wrap r then some (.inl (dC (IntKind.i64.wrap (z+1)) (BO (i+1)) (nn x))) else some (.inr (.inl (lzT,3,[0,1,2],[0,1,2],some (aY (BO i) x),lzP))):=match i with
 | 0=>congrFun (congrFun (congrFun pc r) z) x
 | 1=>congrFun (congrFun (congrFun pk r) z) x
 | _+2=>congrFun (congrFun (congrFun pb r) z) x
theorem uM (x:Int) (i:Nat):lzF (.inl (lzT,3,[0,1,2],[0,1,2],some (aY (BO i) x),lzP))=some true:=match i with
 | 0=>congrFun sO x
 | 1=>congrFun qu x
 | _+2=>congrFun tv x
end
theorem uC {σ ρ:Type} {f:σ→Option (σ⊕ρ)} (I:Nat→σ→Prop) (Q:ρ→Prop) (N:Nat) (step:∀ i s,i < N→I i s→∃ s',f s=some (.inl s')∧I (i+1) s') (fin:∀ s,I N s→∃ r,f s=some (.inr r)∧Q r) {s:σ} (h:I 0 s) (hN:N < 1099511627776):∃ r,aw f s=some r∧Q r:=by
 have key:∀ (k i:Nat) (s:σ),i+k=N→I i s→∃ r,iter f (k+1) s=some r∧Q r:=by
  intro k
  induction k with
  | zero=>
   intro i s e hI
   have e:i=N:=by omega
   subst e
   obtain ⟨r,e1,e2⟩:=fin s hI
   refine ⟨r,?_,e2⟩
   show (match f s with
    | none=>none
    | some (.inl s')=>iter f 0 s'
    | some (.inr r)=>some r)=_
   rw [e1]
  | succ k ih=>
   intro i s e hI
   obtain ⟨s',h1,h2⟩:=step i s (by omega) hI
   obtain ⟨r,e1,e2⟩:=ih (i+1) s' (by omega) h2
   refine ⟨r,?_,e2⟩
   show (match f s with
    | none=>none
    | some (.inl s')=>iter f (k+1) s'
    | some (.inr r)=>some r)=_
   rw [h1]
   exact e1
 obtain ⟨r,e1,e2⟩:=key N 0 s (by omega) h
 unfold aw
 exact ⟨r,jl (by omega) e1,e2⟩
theorem pX {r w:Int} (K:Nat→TKernel) (h0:0≤r) (h1:r≤255)
  (hs:∀ (x:Int) (i:Nat) (z:Int),lzB w r (dC z (K i) x)=if z < IntKind.i64.wrap r then some (.inl (dC (IntKind.i64.wrap (z+1)) (K (i+1)) (nn x))) else some (.inr (.inl (lzT,3,[0,1,2],[0,1,2],some (aY (K i) x),lzP))))
  (hf:∀ (x:Int) (i:Nat),lzF (.inl (lzT,3,[0,1,2],[0,1,2],some (aY (K i) x),lzP))=some true):(aw (lzB w r) (dC 0 (K 0) 0)).bind lzF=some true:=by
 have hw:IntKind.i64.wrap r=r:=vh (by omega) (by omega)
 obtain ⟨q,e1,e2⟩:=uC (f:=lzB w r) (fun i s=>∃ x,s=dC (i:Int) (K i) x) (fun q=>lzF q=some true) r.toNat (by
  rintro i s hi ⟨x,rfl⟩
  rw [hs,hw,if_pos (by omega)]
  refine ⟨_,rfl,nn x,?_⟩
  rw [show IntKind.i64.wrap ((i:Int)+1)=((i+1:Nat):Int) by rw [vh (by omega) (by omega)]; omega]) (by
  rintro s ⟨x,rfl⟩
  rw [hs,hw,if_neg (by omega)]
  exact ⟨_,rfl,hf _ _⟩) (s:=dC 0 (K 0) 0) ⟨0,rfl⟩ (by omega)
 rw [e1]
 exact e2
theorem vY {r:Int} (h0:0≤r) (h1:r≤255):(aw (lzB 0 r) (dC 0 cn 0)).bind lzF=some true:=pX (Cx) h0 h1 (fun x i z=>rp r x i z) uD
theorem zC {r:Int} (h0:0≤r) (h1:r≤255):(aw (lzB 1 r) (dC 0 cn 0)).bind lzF=some true:=pX (AG) h0 h1 (fun x i z=>pM r x i z) tV
theorem wv {r:Int} (h0:0≤r) (h1:r≤255):(aw (lzB 2 r) (dC 0 cn 0)).bind lzF=some true:=pX (BO) h0 h1 (fun x i z=>rM r x i z) uM
theorem uQ {r w:Int} (h0:0≤r) (h1:r≤255) (hw:0≤w):p10 (r,w)=some true:=by
 have e:p10 (r,w)=_:=congrFun (congrFun uj r) w
 rw [e]
 have hr:wX .u8 w 3=some (w % 3):=by
  unfold wX
  rw [if_neg (by omega),Int.tmod_eq_emod_of_nonneg hw]
 rw [hr]
 show (aw (lzB (w % 3) r) _).bind lzF=_
 have hc:w % 3=0∨w % 3=1∨w % 3=2:=by omega
 rcases hc with h | h | h
 ·rw [h]; exact vY h0 h1
 ·rw [h]; exact zC h0 h1
 rw [h]; exact wv h0 h1
theorem law_kernelLazy:∀ h xs,tF [(.int .u8),(.int .u8)] h xs→cS F 10 xs h fun v _=>v=.bool true:=by
 intro h xs ht
 obtain ⟨a,b,rfl,⟨n1,e1,w1⟩,_,_,rfl,⟨n2,e2,w2⟩,h4⟩:=ht
 simp only [tF] at h4
 subst h4
 cases e1
 cases e2
 have v1:0≤n1∧n1≤255:=by
  simp only [Lit.wf,Bool.and_eq_true,decide_eq_true_eq] at w1
  exact w1
 have v2:0≤n2∧n2≤255:=by
  simp only [Lit.wf,Bool.and_eq_true,decide_eq_true_eq] at w2
  exact w2
 exact law_bool o10 (x:=(n1,n2,())) (uQ v1.1 v1.2 v2.1) rfl (Fz.refl h) (am:=fun _=>.nilPtr) ⟨_,rfl,rfl,⟨_,rfl,rfl⟩,_,rfl,rfl,⟨_,rfl,rfl⟩,rfl⟩
end Go.Proofs.Ytmchbhheoieepaa
