/- Pure functions of the law's functions, and that these do so. No condition. Own work. -/
import Derived.Test.YtmchbhheoieepaaCKernelLazy
import Derived.Test.YtmchbhheoieepaaEKernelLazy
import Derived.Test.YtmchbhheoieepaaPKernelLazy
import Derived.Test.YtmchbhheoieepaaVm5KernelLazy
import Derived.Test.YtmchbhheoieepaaGaKernelLazy
set_option linter.unusedVariables false
namespace Go.Proofs.Ytmchbhheoieepaa
open Go Go.Am
noncomputable section
def q27:FSp:=⟨[(true,[.d false (.sl false (.st 2)),.d true (.sl false (.st 1))]),(true,[.d true (.int .i64),.d true (.sl false (.int .i64)),.d true (.sl false (.int .i64))]),(false,[.d true (.int .i64)])],[],[],[.ld 0 false,.r 0,.slot 0 false,.ld 1 false,.d true (.int .i64),.slot 1 false,.po (.st 15)]⟩
def L27:List (Nat×Lb):=[(13,.l [.ld 2 false,.d true (.int .i64),.slot 2 false,.ld 41 false,.d true (.int .i64),.slot 41 false] [.ld 4 false,.ptr 0 0,.slot 4 false,.ld 10 false,.ptr 1 0,.slot 10 false,.ld 42 false,.d true (.int .i64),.slot 42 false,.ldr,.d true (.int .i64),.d true (.sl false (.int .i64)),.d true (.sl false (.int .i64)),.row,.ldr,.d true (.sl false (.st 2)),.d true (.sl false (.st 1)),.r 2,.r 3,.ptr 4 0,.d true (.int .i64),.d true (.int .i64),.d true (.int .i64),.row,.sl (.pt (.st 11)),.sl (.st 5),.pr (.st 14)] [(some 0,[.ld 10 false,.ptr 0 0,.slot 10 false,.pr (.st 15)])])]
def H27:List (Nat×VT):=[(62,(.pt (.st 11)))]
def p27:List TPlace×List TTrans×Int×List Int×List Int×Int→Option (Int×Option TKernel):=fun (x:List TPlace×List TTrans×Int×List Int×List Int×Int)=>(p55 (x.fst,x.snd.fst)).bind fun (n1:Int)=>if (!decide (n1=0))=true then some (n1,none) else (p36 (x.fst,x.snd.fst,x.snd.snd.fst,x.snd.snd.snd.fst,x.snd.snd.snd.snd.fst)).bind fun (n2:Int)=>if (!decide (n2=0))=true then some (n2,none) else (p56 (x.fst,x.snd.fst)).bind fun (x3:List TPlace×List TTrans)=>(p24 (x.fst,x.snd.fst,x.snd.snd.fst,x.snd.snd.snd.fst,x.snd.snd.snd.snd.fst)).bind fun (l4:List TLane)=>(p57 l4).bind fun (x5:TBox)=>(aw (fun (x6:Int×Int×List Int×List Int×List TPlace×List TTrans×Int×Int×Int×List (Option TProcess)×List TLane×TBox)=>if x6.fst < x.snd.snd.fst then (p14 (x6.snd.snd.snd.snd.fst,x6.snd.snd.snd.snd.snd.fst,x6.snd.fst,x6.snd.snd.fst,x6.snd.snd.snd.fst,x6.fst,x.snd.snd.snd.snd.snd)).bind fun (x7:Int×Option TProcess)=>(app 8 x6.snd.snd.snd.snd.snd.snd.snd.snd.snd.fst [x7.snd]).bind fun (l8:List (Option TProcess))=>some (Sum.inl (IntKind.i64.wrap (x6.fst+1),x6.snd.fst,x6.snd.snd.fst,x6.snd.snd.snd.fst,x6.snd.snd.snd.snd.fst,x6.snd.snd.snd.snd.snd.fst,x6.snd.snd.snd.snd.snd.snd.fst,x6.snd.snd.snd.snd.snd.snd.snd.fst,x6.snd.snd.snd.snd.snd.snd.snd.snd.fst,l8,x6.snd.snd.snd.snd.snd.snd.snd.snd.snd.snd.fst,x6.snd.snd.snd.snd.snd.snd.snd.snd.snd.snd.snd)) else some (Sum.inr { n:={ Places:=x6.snd.snd.snd.snd.fst,Trans:=x6.snd.snd.snd.snd.snd.fst },l:=x6.snd.snd.snd.snd.snd.snd.snd.snd.snd.fst,lanes:=x6.snd.snd.snd.snd.snd.snd.snd.snd.snd.snd.fst,box:=some x6.snd.snd.snd.snd.snd.snd.snd.snd.snd.snd.snd,e:=x6.snd.snd.snd.snd.snd.snd.fst,picks:=x6.snd.snd.snd.snd.snd.snd.snd.fst,moves:=x6.snd.snd.snd.snd.snd.snd.snd.snd.fst })) (0,x.snd.snd.fst,x.snd.snd.snd.fst,x.snd.snd.snd.snd.fst,x3.fst,x3.snd,0,0,0,[],l4,x5)).bind fun (x6:TKernel)=>some (0,some x6)
theorem e27:vfn (T:=tE) lpK H27 (aP [n55,n36,n56,n24,n57,n14]) q27 B1.res (vOf B1.code L27)=p27:=by kernel_rfl
abbrev n27:En tE:=⟨27,[],q27,p27⟩
theorem o27:aq F tE 27 q27 3 p27:=by
 rw [← e27]
 exact af (fn:=B1) (aa (en:=n55) (aa (en:=n36) (aa (en:=n56) (aa (en:=n24) (aa (en:=n57) (aa (en:=n14) ae o14 rfl) o57 rfl) o24 rfl) o56 rfl) o36 rfl) o55 rfl) rfl (by kernel_rfl)
def q26:FSp:=⟨[],[],[],[.ld 0 false,.d true .bool,.slot 0 false]⟩
def L26:List (Nat×Lb):=[(4,.j [.ld 2 false,.r 0,.slot 2 false,.ld 28 false,.d true .bool,.slot 28 false,.po (.st 15)]),(8,.l [] [.ld 2 false,.r 0,.slot 2 false,.ld 4 false,.d true (.int .i64),.slot 4 false,.po (.st 15)] [(some 0,[.ld 2 false,.r 0,.slot 2 false,.po (.st 15)])]),(10,.j [.ld 2 false,.r 0,.slot 2 false,.ld 4 false,.d true (.int .i64),.slot 4 false,.ld 35 false,.d true .bool,.slot 35 false,.po (.st 15)])]
def H26:List (Nat×VT):=[(7,(.st 2)),(9,(.st 0)),(11,(.st 0)),(13,(.st 1)),(17,(.int .i64)),(18,(.int .i64))]
def p26:Unit→Option Bool:=fun (x:Unit)=>
  (p27 ([{ Name:=[112],Tokens:=1 },{ Name:=[113],Tokens:=0 }],[{ Name:=[116],Delay:=2,Prio:=0,In:=[{ Place:=0,N:=1 }],Not:=[],Out:=[{ Place:=1,N:=1 }] }],2,[0,1],[0],5)).bind fun (x1:Int×Option TKernel)=>
    (if (!decide (x1.fst=0))=true then some (Sum.inl (true,x1.snd)) else some (Sum.inl (x1.snd.isNone,x1.snd))).bind fun (x2:Bool×Option TKernel⊕Bool)=>
      match x2 with
      | Sum.inl x=>
        if x.fst=true then some false
        else
          (aw
                (fun (x4:Int×Option TKernel)=>
                  (if x4.fst < 20 then x4.snd.bind fun (x5:TKernel)=>(p33 x5).bind fun (b6:Bool)=>some (Sum.inl (x4.fst,!b6,x4.snd)) else some (Sum.inl (x4.fst,false,x4.snd))).bind fun (x5:Int×Bool×Option TKernel⊕Int×Option TKernel⊕Option TKernel)=>
                    match x5 with
                    | Sum.inl x=>if x.snd.fst=true then x.snd.snd.bind fun (x7:TKernel)=>(p29 x7).bind fun (l8:List TPick)=>x.snd.snd.bind fun (x9:TKernel)=>(p28 (l8,x9)).bind fun (x10:Int×TKernel)=>some (Sum.inl (IntKind.i64.wrap (x.fst+1),some x10.snd)) else some (Sum.inr x.snd.snd)
                    | Sum.inr r=>some r)
                (0,x.snd)).bind
            fun (x4:Option TKernel)=>x4.bind fun (x5:TKernel)=>(p33 x5).bind fun (b6:Bool)=>if b6=true then x4.bind fun (x7:TKernel)=>(p30 x7).bind fun (l8:List TResult)=>if (↑l8.length:Int)=2 then x4.bind fun (x9:TKernel)=>(p54 x9).bind fun (l10:List TLane)=>some (decide ((↑l10.length:Int)=1)) else some false else some false
      | Sum.inr r=>some r
theorem e26:vfn (T:=tE) lpK H26 (aP [n27,n33,n29,n28,n30,n54]) q26 BS.res (vOf BS.code L26)=p26:=by kernel_rfl
abbrev n26:En tE:=⟨26,[],q26,p26⟩
theorem o26:aq F tE 26 q26 0 p26:=by
 rw [← e26]
 exact af (fn:=BS) (aa (en:=n27) (aa (en:=n33) (aa (en:=n29) (aa (en:=n28) (aa (en:=n30) (aa (en:=n54) ae o54 rfl) o30 rfl) o28 rfl) o29 rfl) o33 rfl) o27 rfl) rfl (by kernel_rfl)
def q31:FSp:=⟨[(true,[.d false (.sl false (.st 2)),.d false (.sl false (.st 1))]),(false,[.d false (.sl false (.st 12))])],[],[],[.ld 0 false,.d true .bool,.slot 0 false]⟩
def L31:List (Nat×Lb):=[(3,.l [.ld 1 false,.d false (.sl false (.st 12)),.slot 1 false] [.ld 2 false,.ptr 0 0,.slot 2 false,.ld 4 false,.c (.bool false),.slot 4 false,.ld 5 false,.d true (.int .i64),.slot 5 false,.ldr,.d false (.sl false (.st 2)),.d false (.sl false (.st 1)),.row] [(some 0,[]),(none,[.ld 4 false,.c (.bool false),.slot 4 false])]),(8,.j [.ld 2 false,.ptr 0 0,.slot 2 false,.ld 4 false,.c (.bool false),.slot 4 false,.ld 5 false,.d true (.int .i64),.slot 5 false,.ld 34 false,.d true .bool,.slot 34 false,.ldr,.d false (.sl false (.st 2)),.d false (.sl false (.st 1)),.row]),(11,.l [.ld 5 false,.d true (.int .i64),.slot 5 false] [.ld 2 false,.ptr 0 0,.slot 2 false,.ld 4 false,.c (.bool false),.slot 4 false,.ld 6 false,.d true (.int .i64),.slot 6 false,.ldr,.d false (.sl false (.st 2)),.d false (.sl false (.st 1)),.row] [(some 2,[.ld 2 false,.ptr 0 0,.slot 2 false,.ld 4 false,.c (.bool false),.slot 4 false,.ldr,.d false (.sl false (.st 2)),.d false (.sl false (.st 1)),.row]),(none,[.ld 4 false,.c (.bool false),.slot 4 false])]),(15,.j [.ld 2 false,.ptr 0 0,.slot 2 false,.ld 4 false,.c (.bool false),.slot 4 false,.ld 6 false,.d true (.int .i64),.slot 6 false,.ld 69 false,.d true .bool,.slot 69 false,.ldr,.d false (.sl false (.st 2)),.d false (.sl false (.st 1)),.row])]
def H31:List (Nat×VT):=[]
def p31:List TPlace×List TTrans×List TResult→Option Bool:=fun (x:List TPlace×List TTrans×List TResult)=>
  (aw
        (fun (x1:Int×List TPlace×List TTrans)=>
          if x1.fst < (↑x.snd.snd.length:Int) then
            ((idx x.snd.snd x1.fst).bind fun (x2:TResult)=>if (!decide ((↑x2.Marks.length:Int)=(↑x1.snd.fst.length:Int)))=true then some (Sum.inl (x1.fst,true,x1.snd.fst,x1.snd.snd)) else (idx x.snd.snd x1.fst).bind fun (x3:TResult)=>some (Sum.inl (x1.fst,!decide ((↑x3.Way.length:Int)=(↑x1.snd.fst.length:Int)),x1.snd.fst,x1.snd.snd))).bind fun (x2:Int×Bool×List TPlace×List TTrans⊕Int×List TPlace×List TTrans⊕Unit⊕Unit)=>
              match x2 with
              | Sum.inl x_1=>
                if x_1.snd.fst=true then some (Sum.inr (Sum.inr ()))
                else
                  (aw
                        (fun (x4:Int×List TPlace×List TTrans)=>
                          (idx x.snd.snd x_1.fst).bind fun (x5:TResult)=>
                            if x4.fst < (↑x5.Log.length:Int) then
                              ((idx x.snd.snd x_1.fst).bind fun (x6:TResult)=>(idx x6.Log x4.fst).bind fun (x7:TFire)=>if x7.Trans < 0 then some (Sum.inl (x4.fst,true,x4.snd.fst,x4.snd.snd)) else (idx x.snd.snd x_1.fst).bind fun (x8:TResult)=>(idx x8.Log x4.fst).bind fun (x9:TFire)=>some (Sum.inl (x4.fst,decide ((↑x4.snd.snd.length:Int)≤x9.Trans),x4.snd.fst,x4.snd.snd))).bind fun (x6:Int×Bool×List TPlace×List TTrans⊕Int×List TPlace×List TTrans⊕List TPlace×List TTrans⊕Unit)=>
                                match x6 with
                                | Sum.inl x=>if x.snd.fst=true then some (Sum.inr (Sum.inr ())) else some (Sum.inl (IntKind.i64.wrap (x.fst+1),x.snd.snd.fst,x.snd.snd.snd))
                                | Sum.inr r=>some r
                            else some (Sum.inr (Sum.inl (x4.snd.fst,x4.snd.snd))))
                        (0,x_1.snd.snd.fst,x_1.snd.snd.snd)).bind
                    fun (x4:List TPlace×List TTrans⊕Unit)=>
                    match x4 with
                    | Sum.inl x=>some (Sum.inl (IntKind.i64.wrap (x_1.fst+1),x.fst,x.snd))
                    | Sum.inr y=>some (Sum.inr (Sum.inr ()))
              | Sum.inr r=>some r
          else some (Sum.inr (Sum.inl ())))
        (0,x.fst,x.snd.fst)).bind
    fun (x1:Unit⊕Unit)=>
    match x1 with
    | Sum.inl x=>some true
    | Sum.inr y=>some false
theorem e31:vfn (T:=tE) lpK H31 (aP []) q31 Cb.res (vOf Cb.code L31)=p31:=by kernel_rfl
abbrev n31:En tE:=⟨31,[],q31,p31⟩
theorem o31:aq F tE 31 q31 2 p31:=by
 rw [← e31]
 exact af (fn:=Cb) ae rfl (by kernel_rfl)
def q32:FSp:=⟨[(true,[.d false (.sl false (.st 2)),.d false (.sl false (.st 1))]),(false,[.d false (.sl false (.int .i64))]),(false,[.d false (.sl false (.st 12))])],[],[],[.ld 0 true,.r 0,.r 1,.r 2,.d true (.int .i64),.slot 0 true,.sl (.st 8),.sl (.int .i64),.sl (.int .i64)]⟩
def L32:List (Nat×Lb):=[(4,.l [.ld 1 false,.d false (.sl false (.int .i64)),.slot 1 false,.ld 2 false,.d false (.sl false (.st 12)),.slot 2 false] [.ld 3 false,.ptr 0 0,.slot 3 false,.ld 6 false,.ptr 1 0,.slot 6 false,.ld 7 false,.ptr 2 0,.slot 7 false,.ld 8 false,.r 3,.slot 8 false,.ldr,.d false (.sl false (.st 2)),.d false (.sl false (.st 1)),.row,.ldr,.c .nilSlice,.c .nilSlice,.c .nilSlice,.d true (.int .i64),.row,.ldr,.r 4,.c .nilSlice,.c .nilSlice,.d true (.int .i64),.row,.sl (.int .i64),.sl (.st 8)] [(some 0,[.ld 6 false,.ptr 0 0,.slot 6 false,.ld 7 false,.ptr 1 0,.slot 7 false,.ldr,.c .nilSlice,.c .nilSlice,.c .nilSlice,.d true (.int .i64),.row,.ldr,.r 2,.c .nilSlice,.c .nilSlice,.d true (.int .i64),.row,.sl (.st 8)])]),(8,.l [] [.ld 3 false,.ptr 0 0,.slot 3 false,.ld 6 false,.ptr 1 0,.slot 6 false,.ld 7 false,.ptr 2 0,.slot 7 false,.ld 8 false,.r 3,.slot 8 false,.ld 9 false,.d true (.int .i64),.slot 9 false,.ld 10 false,.d true (.int .i64),.slot 10 false,.ldr,.d false (.sl false (.st 2)),.d false (.sl false (.st 1)),.row,.ldr,.c .nilSlice,.c .nilSlice,.c .nilSlice,.d true (.int .i64),.row,.ldr,.r 4,.c .nilSlice,.c .nilSlice,.d true (.int .i64),.row,.sl (.int .i64),.sl (.st 8)] [(some 2,[.ld 3 false,.ptr 0 0,.slot 3 false,.ld 6 false,.ptr 1 0,.slot 6 false,.ld 7 false,.ptr 2 0,.slot 7 false,.ld 8 false,.r 3,.slot 8 false,.ld 9 false,.d true (.int .i64),.slot 9 false,.ldr,.d false (.sl false (.st 2)),.d false (.sl false (.st 1)),.row,.ldr,.c .nilSlice,.c .nilSlice,.c .nilSlice,.d true (.int .i64),.row,.ldr,.r 4,.c .nilSlice,.c .nilSlice,.d true (.int .i64),.row,.sl (.int .i64),.sl (.st 8)])]),(20,.j [.ld 3 false,.ptr 0 0,.slot 3 false,.ld 6 false,.ptr 1 0,.slot 6 false,.ld 7 false,.ptr 2 0,.slot 7 false,.ld 8 false,.r 3,.slot 8 false,.ld 9 false,.d true (.int .i64),.slot 9 false,.ld 10 false,.d true (.int .i64),.slot 10 false,.ld 103 false,.d true .bool,.slot 103 false,.ldr,.d false (.sl false (.st 2)),.d false (.sl false (.st 1)),.row,.ldr,.c .nilSlice,.c .nilSlice,.c .nilSlice,.d true (.int .i64),.row,.ldr,.r 4,.c .nilSlice,.c .nilSlice,.d true (.int .i64),.row,.sl (.int .i64),.sl (.st 8)]),(26,.l [.ld 1 false,.d false (.sl false (.int .i64)),.slot 1 false,.ld 2 false,.d false (.sl false (.st 12)),.slot 2 false] [.ld 6 false,.ptr 0 0,.slot 6 false,.ld 7 false,.ptr 1 0,.slot 7 false,.ld 15 false,.d true (.int .i64),.slot 15 false,.ldr,.c .nilSlice,.c .nilSlice,.c .nilSlice,.d true (.int .i64),.row,.ldr,.r 2,.r 3,.r 4,.d true (.int .i64),.row,.sl (.st 8),.sl (.int .i64),.sl (.int .i64)] [(some 4,[.ld 6 false,.ptr 0 0,.slot 6 false,.ld 7 false,.ptr 1 0,.slot 7 false,.ldr,.c .nilSlice,.c .nilSlice,.c .nilSlice,.d true (.int .i64),.row,.ldr,.r 2,.r 3,.r 4,.d true (.int .i64),.row,.sl (.st 8),.sl (.int .i64),.sl (.int .i64)])]),(33,.l [.ld 2 false,.d false (.sl false (.st 12)),.slot 2 false] [.ld 6 false,.ptr 0 0,.slot 6 false,.ld 7 false,.ptr 1 0,.slot 7 false,.ld 16 false,.d true (.int .i64),.slot 16 false,.ldr,.c .nilSlice,.c .nilSlice,.c .nilSlice,.d true (.int .i64),.row,.ldr,.r 2,.r 3,.r 4,.d true (.int .i64),.row,.sl (.st 8),.sl (.int .i64),.sl (.int .i64)] [(some 6,[.ld 6 false,.ptr 0 0,.slot 6 false,.ld 7 false,.ptr 1 0,.slot 7 false,.ldr,.c .nilSlice,.c .nilSlice,.c .nilSlice,.d true (.int .i64),.row,.ldr,.r 2,.r 3,.r 4,.d true (.int .i64),.row,.sl (.st 8),.sl (.int .i64),.sl (.int .i64)])])]
def H32:List (Nat×VT):=[(19,(.int .i64)),(120,(.st 8)),(148,(.int .i64)),(164,(.int .i64))]
def p32:List TPlace×List TTrans×List Int×List TResult→Option (Int×List TFire×List Int×List Int):=fun (x:List TPlace×List TTrans×List Int×List TResult)=>
  (mkS 8 (↑x.snd.snd.snd.length:Int) (↑x.snd.snd.snd.length:Int) 0).bind fun (l1:List Int)=>
    (aw
          (fun (x2:List TPlace×List TTrans×Int×Int×List Int×List TFire)=>
            (aw
                  (fun (x3:Int×Int×List TPlace×List TTrans×Int×Int×List Int×List TFire)=>
                    if x3.snd.fst < (↑x.snd.snd.snd.length:Int) then
                      (idx x3.snd.snd.snd.snd.snd.snd.fst x3.snd.fst).bind fun (n4:Int)=>
                        (idx x.snd.snd.snd x3.snd.fst).bind fun (x5:TResult)=>
                          if n4=(↑x5.Log.length:Int) then some (Sum.inl (x3.fst,IntKind.i64.wrap (x3.snd.fst+1),x3.snd.snd.fst,x3.snd.snd.snd.fst,x3.snd.snd.snd.snd.fst,x3.snd.snd.snd.snd.snd.fst,x3.snd.snd.snd.snd.snd.snd.fst,x3.snd.snd.snd.snd.snd.snd.snd))
                          else
                            (idx x.snd.snd.snd x3.snd.fst).bind fun (x6:TResult)=>
                              (idx x3.snd.snd.snd.snd.snd.snd.fst x3.snd.fst).bind fun (n7:Int)=>
                                (idx x6.Log n7).bind fun (x8:TFire)=>
                                  if 0≤x3.fst then
                                    (idx x.snd.snd.snd x3.fst).bind fun (x9:TResult)=>
                                      (idx x3.snd.snd.snd.snd.snd.snd.fst x3.fst).bind fun (n10:Int)=>
                                        (idx x9.Log n10).bind fun (x11:TFire)=>
                                          (idx x3.snd.snd.snd.fst x8.Trans).bind fun (x12:TTrans)=>
                                            (idx x3.snd.snd.snd.fst x11.Trans).bind fun (x13:TTrans)=>
                                              (if x11.Time < x8.Time then some (Sum.inl (x3.fst,x3.snd.fst,true,x3.snd.snd.fst,x3.snd.snd.snd.fst,x3.snd.snd.snd.snd.fst,x3.snd.snd.snd.snd.snd.fst,x3.snd.snd.snd.snd.snd.snd.fst,x3.snd.snd.snd.snd.snd.snd.snd)) else if x8.Time=x11.Time then if x13.Prio < x12.Prio then some (Sum.inl (x3.fst,x3.snd.fst,true,x3.snd.snd.fst,x3.snd.snd.snd.fst,x3.snd.snd.snd.snd.fst,x3.snd.snd.snd.snd.snd.fst,x3.snd.snd.snd.snd.snd.snd.fst,x3.snd.snd.snd.snd.snd.snd.snd)) else if x12.Prio=x13.Prio then some (Sum.inl (x3.fst,x3.snd.fst,decide (x11.Trans≤x8.Trans),x3.snd.snd.fst,x3.snd.snd.snd.fst,x3.snd.snd.snd.snd.fst,x3.snd.snd.snd.snd.snd.fst,x3.snd.snd.snd.snd.snd.snd.fst,x3.snd.snd.snd.snd.snd.snd.snd)) else some (Sum.inl (x3.fst,x3.snd.fst,false,x3.snd.snd.fst,x3.snd.snd.snd.fst,x3.snd.snd.snd.snd.fst,x3.snd.snd.snd.snd.snd.fst,x3.snd.snd.snd.snd.snd.snd.fst,x3.snd.snd.snd.snd.snd.snd.snd)) else some (Sum.inl (x3.fst,x3.snd.fst,false,x3.snd.snd.fst,x3.snd.snd.snd.fst,x3.snd.snd.snd.snd.fst,x3.snd.snd.snd.snd.snd.fst,x3.snd.snd.snd.snd.snd.snd.fst,x3.snd.snd.snd.snd.snd.snd.snd))).bind fun (x14:Int×Int×Bool×List TPlace×List TTrans×Int×Int×List Int×List TFire⊕Int×Int×List TPlace×List TTrans×Int×Int×List Int×List TFire⊕Int×List TPlace×List TTrans×Int×Int×List Int×List TFire)=>
                                                match x14 with
                                                | Sum.inl x=>if x.snd.snd.fst=true then some (Sum.inl (x.fst,IntKind.i64.wrap (x.snd.fst+1),x.snd.snd.snd.fst,x.snd.snd.snd.snd.fst,x.snd.snd.snd.snd.snd.fst,x.snd.snd.snd.snd.snd.snd.fst,x.snd.snd.snd.snd.snd.snd.snd.fst,x.snd.snd.snd.snd.snd.snd.snd.snd)) else some (Sum.inl (x.snd.fst,IntKind.i64.wrap (x.snd.fst+1),x.snd.snd.snd.fst,x.snd.snd.snd.snd.fst,x.snd.snd.snd.snd.snd.fst,x.snd.snd.snd.snd.snd.snd.fst,x.snd.snd.snd.snd.snd.snd.snd.fst,x.snd.snd.snd.snd.snd.snd.snd.snd))
                                                | Sum.inr r=>some r
                                  else some (Sum.inl (x3.snd.fst,IntKind.i64.wrap (x3.snd.fst+1),x3.snd.snd.fst,x3.snd.snd.snd.fst,x3.snd.snd.snd.snd.fst,x3.snd.snd.snd.snd.snd.fst,x3.snd.snd.snd.snd.snd.snd.fst,x3.snd.snd.snd.snd.snd.snd.snd))
                    else some (Sum.inr (x3.fst,x3.snd.snd.fst,x3.snd.snd.snd.fst,x3.snd.snd.snd.snd.fst,x3.snd.snd.snd.snd.snd.fst,x3.snd.snd.snd.snd.snd.snd.fst,x3.snd.snd.snd.snd.snd.snd.snd)))
                  (-1,0,x2.fst,x2.snd.fst,x2.snd.snd.fst,x2.snd.snd.snd.fst,x2.snd.snd.snd.snd.fst,x2.snd.snd.snd.snd.snd)).bind
              fun (x3:Int×List TPlace×List TTrans×Int×Int×List Int×List TFire)=>if x3.fst < 0 then some (Sum.inr (x3.snd.snd.snd.fst,x3.snd.snd.snd.snd.fst,x3.snd.snd.snd.snd.snd.snd)) else (idx x.snd.snd.snd x3.fst).bind fun (x4:TResult)=>(idx x3.snd.snd.snd.snd.snd.fst x3.fst).bind fun (n5:Int)=>(idx x4.Log n5).bind fun (x6:TFire)=>(app 16 x3.snd.snd.snd.snd.snd.snd [x6]).bind fun (l7:List TFire)=>(idx x3.snd.snd.snd.snd.snd.fst x3.fst).bind fun (n8:Int)=>(idx x3.snd.snd.snd.snd.snd.fst x3.fst).bind fun (n9:Int)=>some (Sum.inl (x3.snd.fst,x3.snd.snd.fst,x3.snd.snd.snd.fst,x3.snd.snd.snd.snd.fst,x3.snd.snd.snd.snd.snd.fst.set x3.fst.toNat (IntKind.i64.wrap (n8+1)),l7)))
          (x.fst,x.snd.fst,0,0,l1,[])).bind
      fun (x2:Int×Int×List TFire)=>(aw (fun (x3:Int×Int×Int×List TFire×List Int×List Int)=>if x3.fst < (↑x.snd.snd.fst.length:Int) then (idx x.snd.snd.fst x3.fst).bind fun (n4:Int)=>(idx x.snd.snd.snd n4).bind fun (x5:TResult)=>(idx x5.Marks x3.fst).bind fun (n6:Int)=>(app 8 x3.snd.snd.snd.snd.fst [n6]).bind fun (l7:List Int)=>(idx x.snd.snd.fst x3.fst).bind fun (n8:Int)=>(idx x.snd.snd.snd n8).bind fun (x9:TResult)=>(idx x9.Way x3.fst).bind fun (n10:Int)=>(app 8 x3.snd.snd.snd.snd.snd [n10]).bind fun (l11:List Int)=>some (Sum.inl (IntKind.i64.wrap (x3.fst+1),x3.snd.fst,x3.snd.snd.fst,x3.snd.snd.snd.fst,l7,l11)) else some (Sum.inr (x3.snd.fst,x3.snd.snd.fst,x3.snd.snd.snd.fst,x3.snd.snd.snd.snd.fst,x3.snd.snd.snd.snd.snd))) (0,x2.fst,x2.snd.fst,x2.snd.snd,[],[])).bind fun (x3:Int×Int×List TFire×List Int×List Int)=>(aw (fun (x4:Int×Int×Int×List TFire×List Int×List Int)=>if x4.fst < (↑x.snd.snd.snd.length:Int) then (idx x.snd.snd.snd x4.fst).bind fun (x5:TResult)=>some (Sum.inl (IntKind.i64.wrap (x4.fst+1),x4.snd.fst,if x4.snd.snd.fst < x5.Time then x5.Time else x4.snd.snd.fst,x4.snd.snd.snd.fst,x4.snd.snd.snd.snd.fst,x4.snd.snd.snd.snd.snd)) else some (Sum.inr (x4.snd.fst,x4.snd.snd.fst,x4.snd.snd.snd.fst,x4.snd.snd.snd.snd.fst,x4.snd.snd.snd.snd.snd))) (0,x3.fst,x3.snd.fst,x3.snd.snd.fst,x3.snd.snd.snd.fst,x3.snd.snd.snd.snd)).bind fun (x4:Int×Int×List TFire×List Int×List Int)=>some (x4.snd.fst,x4.snd.snd.fst,x4.snd.snd.snd.fst,x4.snd.snd.snd.snd)
theorem e32:vfn (T:=tE) lpK H32 (aP []) q32 BN.res (vOf BN.code L32)=p32:=by kernel_rfl
abbrev n32:En tE:=⟨32,[],q32,p32⟩
theorem o32:aq F tE 32 q32 3 p32:=by
 rw [← e32]
 exact af (fn:=BN) ae rfl (by kernel_rfl)
def q10:FSp:=⟨[(false,[.d true (.int .u8)]),(false,[.d true (.int .u8)])],[],[],[.ld 0 false,.d true .bool,.slot 0 false]⟩
def L10:List (Nat×Lb):=[(5,.j [.ld 0 false,.d true (.int .u8),.slot 0 false,.ld 1 false,.d true (.int .u8),.slot 1 false,.ld 4 false,.c (.bool false),.slot 4 false,.ld 5 false,.ptr 0 0,.slot 5 false,.ld 6 false,.ptr 1 0,.slot 6 false,.ld 7 false,.r 2,.slot 7 false,.ld 53 false,.d true .bool,.slot 53 false,.ldr,.r 3,.d true (.sl false (.st 1)),.row,.ldr,.d true (.int .i64),.d true (.sl false (.int .i64)),.d true (.sl false (.int .i64)),.row,.po (.st 15),.sl (.st 2)]),(10,.l [.ld 0 false,.d true (.int .u8),.slot 0 false,.ld 9 false,.d true (.int .i64),.slot 9 false] [.ld 4 false,.c (.bool false),.slot 4 false,.ld 5 false,.ptr 0 0,.slot 5 false,.ld 6 false,.ptr 1 0,.slot 6 false,.ld 7 false,.r 2,.slot 7 false,.ld 10 false,.d true (.int .i64),.slot 10 false,.ldr,.r 3,.d true (.sl false (.st 1)),.row,.ldr,.d true (.int .i64),.d true (.sl false (.int .i64)),.d true (.sl false (.int .i64)),.row,.po (.st 15),.sl (.st 2)] [(some 0,[.ld 5 false,.ptr 0 0,.slot 5 false,.ld 6 false,.ptr 1 0,.slot 6 false,.ld 7 false,.r 2,.slot 7 false,.ldr,.r 3,.d true (.sl false (.st 1)),.row,.ldr,.d true (.int .i64),.d true (.sl false (.int .i64)),.d true (.sl false (.int .i64)),.row,.po (.st 15),.sl (.st 2)]),(none,[.ld 4 false,.c (.bool false),.slot 4 false])]),(17,.l [.ld 10 false,.d true (.int .i64),.slot 10 false] [.ld 4 false,.c (.bool false),.slot 4 false,.ld 5 false,.ptr 0 0,.slot 5 false,.ld 6 false,.ptr 1 0,.slot 6 false,.ld 7 false,.r 2,.slot 7 false,.ld 11 false,.r 3,.slot 11 false,.ld 12 false,.d true (.int .i64),.slot 12 false,.ldr,.r 4,.d true (.sl false (.st 1)),.row,.ldr,.d true (.int .i64),.d true (.sl false (.int .i64)),.d true (.sl false (.int .i64)),.row,.po (.st 15),.sl (.st 16),.sl (.st 2)] [(some 2,[.ld 4 false,.c (.bool false),.slot 4 false,.ld 5 false,.ptr 0 0,.slot 5 false,.ld 6 false,.ptr 1 0,.slot 6 false,.ld 7 false,.r 2,.slot 7 false,.ldr,.r 3,.d true (.sl false (.st 1)),.row,.ldr,.d true (.int .i64),.d true (.sl false (.int .i64)),.d true (.sl false (.int .i64)),.row,.po (.st 15),.sl (.st 2)]),(none,[.ld 4 false,.c (.bool false),.slot 4 false])]),(22,.j [.ld 4 false,.c (.bool false),.slot 4 false,.ld 5 false,.ptr 0 0,.slot 5 false,.ld 6 false,.ptr 1 0,.slot 6 false,.ld 7 false,.r 2,.slot 7 false,.ld 11 false,.r 3,.slot 11 false,.ld 12 false,.d true (.int .i64),.slot 12 false,.ld 85 false,.d true .bool,.slot 85 false,.ldr,.r 4,.d true (.sl false (.st 1)),.row,.ldr,.d true (.int .i64),.d true (.sl false (.int .i64)),.d true (.sl false (.int .i64)),.row,.po (.st 15),.sl (.st 16),.sl (.st 2)]),(26,.j [.ld 4 false,.c (.bool false),.slot 4 false,.ld 5 false,.ptr 0 0,.slot 5 false,.ld 6 false,.ptr 1 0,.slot 6 false,.ld 7 false,.r 2,.slot 7 false,.ld 10 false,.d true (.int .i64),.slot 10 false,.ld 103 false,.d true .bool,.slot 103 false,.ldr,.r 3,.d true (.sl false (.st 1)),.row,.ldr,.d true (.int .i64),.d true (.sl false (.int .i64)),.d true (.sl false (.int .i64)),.row,.po (.st 15),.sl (.st 2)]),(31,.l [] [.ld 5 false,.ptr 0 0,.slot 5 false,.ld 6 false,.ptr 1 0,.slot 6 false,.ld 7 false,.r 2,.slot 7 false,.ld 8 false,.d true (.int .i64),.slot 8 false,.ld 15 false,.d true (.int .i64),.slot 15 false,.ldr,.r 3,.d true (.sl false (.st 1)),.row,.ldr,.d true (.int .i64),.d true (.sl false (.int .i64)),.d true (.sl false (.int .i64)),.row,.po (.st 15),.sl (.st 2)] [(some 4,[.ld 5 false,.ptr 0 0,.slot 5 false,.ld 6 false,.ptr 1 0,.slot 6 false,.ld 7 false,.r 2,.slot 7 false,.ld 8 false,.d true (.int .i64),.slot 8 false,.ldr,.r 3,.d true (.sl false (.st 1)),.row,.ldr,.d true (.int .i64),.d true (.sl false (.int .i64)),.d true (.sl false (.int .i64)),.row,.po (.st 15),.sl (.st 2)])]),(33,.j [.ld 5 false,.ptr 0 0,.slot 5 false,.ld 6 false,.ptr 1 0,.slot 6 false,.ld 7 false,.r 2,.slot 7 false,.ld 8 false,.d true (.int .i64),.slot 8 false,.ld 15 false,.d true (.int .i64),.slot 15 false,.ld 109 false,.d true .bool,.slot 109 false,.ldr,.r 3,.d true (.sl false (.st 1)),.row,.ldr,.d true (.int .i64),.d true (.sl false (.int .i64)),.d true (.sl false (.int .i64)),.row,.po (.st 15),.sl (.st 2)]),(37,.j [.ld 5 false,.ptr 0 0,.slot 5 false,.ld 6 false,.ptr 1 0,.slot 6 false,.ld 16 false,.r 2,.slot 16 false,.ld 132 false,.d true .bool,.slot 132 false,.ldr,.r 3,.d true (.sl false (.st 1)),.row,.ldr,.d true (.int .i64),.d true (.sl false (.int .i64)),.d true (.sl false (.int .i64)),.row,.sl (.st 12),.sl (.st 2)])]
def H10:List (Nat×VT):=[(21,(.st 2)),(23,(.st 0)),(25,(.st 0)),(28,(.st 0)),(30,(.st 0)),(33,(.st 0)),(35,(.st 0)),(37,(.st 1)),(39,(.int .i64)),(40,(.int .i64))]
def p10:Int×Int→Option Bool:=fun (x:Int×Int)=>
  (p27 ([{ Name:=[112],Tokens:=1 },{ Name:=[113],Tokens:=0 },{ Name:=[114],Tokens:=0 }],[{ Name:=[116],Delay:=1,Prio:=0,In:=[{ Place:=0,N:=1 }],Not:=[],Out:=[{ Place:=1,N:=1 }] },{ Name:=[117],Delay:=1,Prio:=0,In:=[{ Place:=1,N:=1 }],Not:=[],Out:=[{ Place:=2,N:=1 }] },{ Name:=[118],Delay:=1,Prio:=0,In:=[{ Place:=2,N:=1 }],Not:=[],Out:=[{ Place:=0,N:=1 }] }],3,[0,1,2],[0,1,2],9)).bind fun (x1:Int×Option TKernel)=>
    (if (!decide (x1.fst=0))=true then some (Sum.inl (x.fst,x.snd,true,[{ Name:=[116],Delay:=1,Prio:=0,In:=[{ Place:=0,N:=1 }],Not:=[],Out:=[{ Place:=1,N:=1 }] },{ Name:=[117],Delay:=1,Prio:=0,In:=[{ Place:=1,N:=1 }],Not:=[],Out:=[{ Place:=2,N:=1 }] },{ Name:=[118],Delay:=1,Prio:=0,In:=[{ Place:=2,N:=1 }],Not:=[],Out:=[{ Place:=0,N:=1 }] }],3,[0,1,2],[0,1,2],x1.snd,[{ Name:=[112],Tokens:=1 },{ Name:=[113],Tokens:=0 },{ Name:=[114],Tokens:=0 }])) else some (Sum.inl (x.fst,x.snd,x1.snd.isNone,[{ Name:=[116],Delay:=1,Prio:=0,In:=[{ Place:=0,N:=1 }],Not:=[],Out:=[{ Place:=1,N:=1 }] },{ Name:=[117],Delay:=1,Prio:=0,In:=[{ Place:=1,N:=1 }],Not:=[],Out:=[{ Place:=2,N:=1 }] },{ Name:=[118],Delay:=1,Prio:=0,In:=[{ Place:=2,N:=1 }],Not:=[],Out:=[{ Place:=0,N:=1 }] }],3,[0,1,2],[0,1,2],x1.snd,[{ Name:=[112],Tokens:=1 },{ Name:=[113],Tokens:=0 },{ Name:=[114],Tokens:=0 }]))).bind fun (x2:Int×Int×Bool×List TTrans×Int×List Int×List Int×Option TKernel×List TPlace⊕Bool)=>
      match x2 with
      | Sum.inl x=>
        if x.snd.snd.fst=true then some false
        else
          (wX IntKind.u8 x.snd.fst 3).bind fun (n4:Int)=>
            (aw
                  (fun (x5:Int×List TTrans×Int×List Int×List Int×Option TKernel×List TPlace)=>
                    if x5.fst < IntKind.i64.wrap x.fst then
                      x5.snd.snd.snd.snd.snd.fst.bind fun (x6:TKernel)=>
                        (p29 x6).bind fun (l7:List TPick)=>
                          (aw
                                (fun (x8:Int×List TTrans×Int×List Int×List Int×Option TKernel×List TPick×List TPlace)=>
                                  if x8.fst < (↑x8.snd.snd.snd.snd.snd.snd.fst.length:Int) then
                                    ((idx x8.snd.snd.snd.snd.snd.snd.fst x8.fst).bind fun (x9:TPick)=>if (!x9.Deliver)=true then (idx x8.snd.snd.snd.snd.snd.snd.fst x8.fst).bind fun (x10:TPick)=>some (Sum.inl (x8.fst,decide (x10.A=IntKind.i64.wrap n4),x8.snd.fst,x8.snd.snd.fst,x8.snd.snd.snd.fst,x8.snd.snd.snd.snd.fst,x8.snd.snd.snd.snd.snd.fst,x8.snd.snd.snd.snd.snd.snd.fst,x8.snd.snd.snd.snd.snd.snd.snd)) else some (Sum.inl (x8.fst,false,x8.snd.fst,x8.snd.snd.fst,x8.snd.snd.snd.fst,x8.snd.snd.snd.snd.fst,x8.snd.snd.snd.snd.snd.fst,x8.snd.snd.snd.snd.snd.snd.fst,x8.snd.snd.snd.snd.snd.snd.snd))).bind fun (x9:Int×Bool×List TTrans×Int×List Int×List Int×Option TKernel×List TPick×List TPlace⊕Int×List TTrans×Int×List Int×List Int×Option TKernel×List TPick×List TPlace⊕List TTrans×Int×List Int×List Int×Option TKernel×List TPlace⊕Unit)=>
                                      match x9 with
                                      | Sum.inl x=>if x.snd.fst=true then some (Sum.inl (IntKind.i64.wrap (x.fst+1),x.snd.snd.fst,x.snd.snd.snd.fst,x.snd.snd.snd.snd.fst,x.snd.snd.snd.snd.snd.fst,x.snd.snd.snd.snd.snd.snd.fst,x.snd.snd.snd.snd.snd.snd.snd.fst,x.snd.snd.snd.snd.snd.snd.snd.snd)) else (idx x.snd.snd.snd.snd.snd.snd.snd.fst x.fst).bind fun (x11:TPick)=>x.snd.snd.snd.snd.snd.snd.fst.bind fun (x12:TKernel)=>(p34 (x11.Deliver,x11.A,x11.B,x12)).bind fun (x13:Bool×Int×TKernel)=>if (!decide (x13.snd.fst=0))=true then some (Sum.inr (Sum.inr ())) else some (Sum.inl (IntKind.i64.wrap (x.fst+1),x.snd.snd.fst,x.snd.snd.snd.fst,x.snd.snd.snd.snd.fst,x.snd.snd.snd.snd.snd.fst,some x13.snd.snd,x.snd.snd.snd.snd.snd.snd.snd.fst,x.snd.snd.snd.snd.snd.snd.snd.snd))
                                      | Sum.inr r=>some r
                                  else some (Sum.inr (Sum.inl (x8.snd.fst,x8.snd.snd.fst,x8.snd.snd.snd.fst,x8.snd.snd.snd.snd.fst,x8.snd.snd.snd.snd.snd.fst,x8.snd.snd.snd.snd.snd.snd.snd))))
                                (0,x5.snd.fst,x5.snd.snd.fst,x5.snd.snd.snd.fst,x5.snd.snd.snd.snd.fst,x5.snd.snd.snd.snd.snd.fst,l7,x5.snd.snd.snd.snd.snd.snd)).bind
                            fun (x8:List TTrans×Int×List Int×List Int×Option TKernel×List TPlace⊕Unit)=>
                            match x8 with
                            | Sum.inl x=>
                              (x.snd.snd.snd.snd.fst.bind fun (x10:TKernel)=>(p33 x10).bind fun (b11:Bool)=>if b11=true then some (Sum.inl (x5.fst,true,x.fst,x.snd.fst,x.snd.snd.fst,x.snd.snd.snd.fst,x.snd.snd.snd.snd.fst,x.snd.snd.snd.snd.snd)) else x.snd.snd.snd.snd.fst.bind fun (x12:TKernel)=>(p28 ([],x12)).bind fun (x13:Int×TKernel)=>some (Sum.inl (x5.fst,!decide (x13.fst=8),x.fst,x.snd.fst,x.snd.snd.fst,x.snd.snd.snd.fst,some x13.snd,x.snd.snd.snd.snd.snd))).bind fun (x10:Int×Bool×List TTrans×Int×List Int×List Int×Option TKernel×List TPlace⊕Int×List TTrans×Int×List Int×List Int×Option TKernel×List TPlace⊕List TTrans×Int×List Int×List Int×Option TKernel×List TPlace⊕Unit)=>
                                match x10 with
                                | Sum.inl x=>if x.snd.fst=true then some (Sum.inr (Sum.inr ())) else some (Sum.inl (IntKind.i64.wrap (x.fst+1),x.snd.snd.fst,x.snd.snd.snd.fst,x.snd.snd.snd.snd.fst,x.snd.snd.snd.snd.snd.fst,x.snd.snd.snd.snd.snd.snd.fst,x.snd.snd.snd.snd.snd.snd.snd))
                                | Sum.inr r=>some r
                            | Sum.inr y=>some (Sum.inr (Sum.inr ()))
                    else some (Sum.inr (Sum.inl (x5.snd.fst,x5.snd.snd.fst,x5.snd.snd.snd.fst,x5.snd.snd.snd.snd.fst,x5.snd.snd.snd.snd.snd.fst,x5.snd.snd.snd.snd.snd.snd))))
                  (0,x.snd.snd.snd.fst,x.snd.snd.snd.snd.fst,x.snd.snd.snd.snd.snd.fst,x.snd.snd.snd.snd.snd.snd.fst,x.snd.snd.snd.snd.snd.snd.snd.fst,x.snd.snd.snd.snd.snd.snd.snd.snd)).bind
              fun (x5:List TTrans×Int×List Int×List Int×Option TKernel×List TPlace⊕Unit)=>
              match x5 with
              | Sum.inl x=>
                (aw
                      (fun (x7:Int×Int×List TTrans×Int×List Int×List Int×Option TKernel×List TPlace)=>
                        (if x7.snd.fst < 200 then some (Sum.inl (x7.fst,x7.snd.fst,decide (x7.fst=8),x7.snd.snd.fst,x7.snd.snd.snd.fst,x7.snd.snd.snd.snd.fst,x7.snd.snd.snd.snd.snd.fst,x7.snd.snd.snd.snd.snd.snd.fst,x7.snd.snd.snd.snd.snd.snd.snd)) else some (Sum.inl (x7.fst,x7.snd.fst,false,x7.snd.snd.fst,x7.snd.snd.snd.fst,x7.snd.snd.snd.snd.fst,x7.snd.snd.snd.snd.snd.fst,x7.snd.snd.snd.snd.snd.snd.fst,x7.snd.snd.snd.snd.snd.snd.snd))).bind fun (x8:Int×Int×Bool×List TTrans×Int×List Int×List Int×Option TKernel×List TPlace⊕Int×Int×List TTrans×Int×List Int×List Int×Option TKernel×List TPlace⊕Int×List TTrans×Int×List Int×List Int×Option TKernel×List TPlace)=>
                          match x8 with
                          | Sum.inl x=>if x.snd.snd.fst=true then x.snd.snd.snd.snd.snd.snd.snd.fst.bind fun (x10:TKernel)=>(p29 x10).bind fun (l11:List TPick)=>x.snd.snd.snd.snd.snd.snd.snd.fst.bind fun (x12:TKernel)=>(p28 (l11,x12)).bind fun (x13:Int×TKernel)=>some (Sum.inl (x13.fst,IntKind.i64.wrap (x.snd.fst+1),x.snd.snd.snd.fst,x.snd.snd.snd.snd.fst,x.snd.snd.snd.snd.snd.fst,x.snd.snd.snd.snd.snd.snd.fst,some x13.snd,x.snd.snd.snd.snd.snd.snd.snd.snd)) else some (Sum.inr (x.fst,x.snd.snd.snd.fst,x.snd.snd.snd.snd.fst,x.snd.snd.snd.snd.snd.fst,x.snd.snd.snd.snd.snd.snd.fst,x.snd.snd.snd.snd.snd.snd.snd.fst,x.snd.snd.snd.snd.snd.snd.snd.snd))
                          | Sum.inr r=>some r)
                      (8,0,x.fst,x.snd.fst,x.snd.snd.fst,x.snd.snd.snd.fst,x.snd.snd.snd.snd.fst,x.snd.snd.snd.snd.snd)).bind
                  fun (x7:Int×List TTrans×Int×List Int×List Int×Option TKernel×List TPlace)=>
                  x7.snd.snd.snd.snd.snd.fst.bind fun (x8:TKernel)=>
                    (p30 x8).bind fun (l9:List TResult)=>
                      (if (!decide (x7.fst=0))=true then some (Sum.inl (true,x7.snd.fst,x7.snd.snd.fst,x7.snd.snd.snd.fst,x7.snd.snd.snd.snd.fst,l9,x7.snd.snd.snd.snd.snd.snd)) else if (!decide ((↑l9.length:Int)=x7.snd.snd.fst))=true then some (Sum.inl (true,x7.snd.fst,x7.snd.snd.fst,x7.snd.snd.snd.fst,x7.snd.snd.snd.snd.fst,l9,x7.snd.snd.snd.snd.snd.snd)) else (p31 (x7.snd.snd.snd.snd.snd.snd,x7.snd.fst,l9)).bind fun (b10:Bool)=>some (Sum.inl (!b10,x7.snd.fst,x7.snd.snd.fst,x7.snd.snd.snd.fst,x7.snd.snd.snd.snd.fst,l9,x7.snd.snd.snd.snd.snd.snd))).bind fun (x10:Bool×List TTrans×Int×List Int×List Int×List TResult×List TPlace⊕Bool)=>
                        match x10 with
                        | Sum.inl x=>if x.fst=true then some false else (p32 (x.snd.snd.snd.snd.snd.snd,x.snd.fst,x.snd.snd.snd.fst,x.snd.snd.snd.snd.snd.fst)).bind fun (x12:Int×List TFire×List Int×List Int)=>(p26 ()).bind fun (b13:Bool)=>if b13=true then if (↑x12.snd.fst.length:Int)=10 then (idx x12.snd.fst 9).bind fun (x14:TFire)=>some (decide (x14.Time=9)&&(decide (x14.Trans=0)&&true)) else some false else some false
                        | Sum.inr r=>some r
              | Sum.inr y=>some false
      | Sum.inr r=>some r
theorem e10:vfn (T:=tE) lpK H10 (aP [n27,n29,n34,n33,n28,n30,n31,n32,n26]) q10 Bi.res (vOf Bi.code L10)=p10:=by kernel_rfl
abbrev n10:En tE:=⟨10,[],q10,p10⟩
theorem o10:aq F tE 10 q10 2 p10:=by
 rw [← e10]
 exact af (fn:=Bi) (aa (en:=n27) (aa (en:=n29) (aa (en:=n34) (aa (en:=n33) (aa (en:=n28) (aa (en:=n30) (aa (en:=n31) (aa (en:=n32) (aa (en:=n26) ae o26 rfl) o32 rfl) o31 rfl) o30 rfl) o28 rfl) o33 rfl) o34 rfl) o29 rfl) o27 rfl) rfl (by kernel_rfl)
end
end Go.Proofs.Ytmchbhheoieepaa
