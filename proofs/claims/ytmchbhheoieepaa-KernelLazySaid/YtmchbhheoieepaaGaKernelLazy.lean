/- Pure functions of the law's functions, and that these do so. No condition. Own work. -/
import Derived.Test.YtmchbhheoieepaaCKernelLazy
import Derived.Test.YtmchbhheoieepaaEKernelLazy
import Derived.Test.YtmchbhheoieepaaPKernelLazy
import Derived.Test.YtmchbhheoieepaaVm5KernelLazy
set_option linter.unusedVariables false
namespace Go.Proofs.Ytmchbhheoieepaa
open Go Go.Am
noncomputable section
def q63:FSp:=⟨[(true,[.d true .str,.d true (.int .i64),.d true (.int .i64),.d false (.sl false (.st 0)),.d false (.sl false (.st 0)),.d false (.sl false (.st 0))])],[],[],[.ld 0 false,.r 0,.slot 0 false,.sl (.int .i64)]⟩
def L63:List (Nat×Lb):=[(4,.l [.ld 12 true,.d false (.sl false (.st 0)),.d false (.sl false (.st 0)),.slot 12 true] [.ld 3 false,.r 0,.slot 3 false,.ld 13 false,.d true (.int .i64),.slot 13 false,.sl (.int .i64)] [(some 0,[.ld 3 false,.r 0,.slot 3 false,.sl (.int .i64)])]),(10,.l [.ld 13 false,.d true (.int .i64),.slot 13 false,.ld 16 false,.d false (.sl false (.st 0)),.slot 16 false,.ld 17 false,.d true (.int .i64),.slot 17 false] [.ld 3 false,.r 0,.slot 3 false,.ld 18 false,.d true (.int .i64),.slot 18 false,.sl (.int .i64)] [(some 2,[.ld 3 false,.r 0,.slot 3 false,.sl (.int .i64)])])]
def H63:List (Nat×VT):=[(25,(.int .i64))]
def p63:List UInt8×Int×Int×List TArc×List TArc×List TArc→Option (List Int):=fun (x:List UInt8×Int×Int×List TArc×List TArc×List TArc)=>(aw (fun (x1:Int×List Int)=>if x1.fst < 2 then (idx [x.snd.snd.snd.fst,x.snd.snd.snd.snd.fst] x1.fst).bind fun (l2:List TArc)=>(aw (fun (x3:Int×List Int)=>if x3.fst < (↑l2.length:Int) then (idx l2 x3.fst).bind fun (x4:TArc)=>(app 8 x3.snd [x4.Place]).bind fun (l5:List Int)=>some (Sum.inl (IntKind.i64.wrap (x3.fst+1),l5)) else some (Sum.inr x3.snd)) (0,x1.snd)).bind fun (l3:List Int)=>some (Sum.inl (IntKind.i64.wrap (x1.fst+1),l3)) else some (Sum.inr x1.snd)) (0,[])).bind fun (l1:List Int)=>some l1
theorem e63:vfn (T:=tE) lpK H63 (aP []) q63 B2.res (vOf B2.code L63)=p63:=by kernel_rfl
abbrev n63:En tE:=⟨63,[],q63,p63⟩
theorem o63:aq F tE 63 q63 1 p63:=by
 rw [← e63]
 exact af (fn:=B2) ae rfl (by kernel_rfl)
def q36:FSp:=⟨[(true,[.d false (.sl false (.st 2)),.d false (.sl false (.st 1))]),(true,[.d true (.int .i64),.d false (.sl false (.int .i64)),.d false (.sl false (.int .i64))])],[],[],[.ld 0 false,.d true (.int .i64),.slot 0 false]⟩
def L36:List (Nat×Lb):=[(2,.j [.ld 2 false,.ptr 0 0,.slot 2 false,.ld 3 false,.ptr 1 0,.slot 3 false,.ld 4 false,.d true (.int .i64),.slot 4 false,.ld 40 false,.d true .bool,.slot 40 false,.ldr,.d false (.sl false (.st 2)),.d false (.sl false (.st 1)),.row,.ldr,.d true (.int .i64),.d false (.sl false (.int .i64)),.d false (.sl false (.int .i64)),.row]),(6,.l [.ld 45 true,.d false (.sl false (.int .i64)),.d false (.sl false (.int .i64)),.slot 45 true] [.ld 2 false,.ptr 0 0,.slot 2 false,.ld 3 false,.ptr 1 0,.slot 3 false,.ld 4 false,.d true (.int .i64),.slot 4 false,.ld 46 false,.d true (.int .i64),.slot 46 false,.ldr,.d false (.sl false (.st 2)),.d false (.sl false (.st 1)),.row,.ldr,.d true (.int .i64),.d false (.sl false (.int .i64)),.d false (.sl false (.int .i64)),.row] [(some 0,[.ld 2 false,.ptr 0 0,.slot 2 false,.ld 3 false,.ptr 1 0,.slot 3 false,.ld 4 false,.d true (.int .i64),.slot 4 false,.ldr,.d false (.sl false (.st 2)),.d false (.sl false (.st 1)),.row,.ldr,.d true (.int .i64),.d false (.sl false (.int .i64)),.d false (.sl false (.int .i64)),.row]),(none,[.ld 4 false,.d true (.int .i64),.slot 4 false])]),(12,.l [.ld 46 false,.d true (.int .i64),.slot 46 false,.ld 49 false,.d false (.sl false (.int .i64)),.slot 49 false,.ld 50 false,.d true (.int .i64),.slot 50 false] [.ld 2 false,.ptr 0 0,.slot 2 false,.ld 3 false,.ptr 1 0,.slot 3 false,.ld 4 false,.d true (.int .i64),.slot 4 false,.ld 51 false,.d true (.int .i64),.slot 51 false,.ldr,.d false (.sl false (.st 2)),.d false (.sl false (.st 1)),.row,.ldr,.d true (.int .i64),.d false (.sl false (.int .i64)),.d false (.sl false (.int .i64)),.row] [(some 2,[.ld 2 false,.ptr 0 0,.slot 2 false,.ld 3 false,.ptr 1 0,.slot 3 false,.ld 4 false,.d true (.int .i64),.slot 4 false,.ldr,.d false (.sl false (.st 2)),.d false (.sl false (.st 1)),.row,.ldr,.d true (.int .i64),.d false (.sl false (.int .i64)),.d false (.sl false (.int .i64)),.row]),(none,[.ld 4 false,.d true (.int .i64),.slot 4 false])]),(17,.j [.ld 2 false,.ptr 0 0,.slot 2 false,.ld 3 false,.ptr 1 0,.slot 3 false,.ld 4 false,.d true (.int .i64),.slot 4 false,.ld 51 false,.d true (.int .i64),.slot 51 false,.ld 62 false,.d true .bool,.slot 62 false,.ldr,.d false (.sl false (.st 2)),.d false (.sl false (.st 1)),.row,.ldr,.d true (.int .i64),.d false (.sl false (.int .i64)),.d false (.sl false (.int .i64)),.row]),(21,.l [.ld 66 false,.d false (.sl false (.st 1)),.slot 66 false,.ld 67 false,.d true (.int .i64),.slot 67 false] [.ld 3 false,.ptr 0 0,.slot 3 false,.ld 4 false,.d true (.int .i64),.slot 4 false,.ld 68 false,.d true (.int .i64),.slot 68 false,.ldr,.d true (.int .i64),.d false (.sl false (.int .i64)),.d false (.sl false (.int .i64)),.row] [(some 4,[]),(none,[.ld 4 false,.d true (.int .i64),.slot 4 false])]),(28,.l [.ld 9 false,.d true (.int .i64),.slot 9 false,.ld 68 false,.d true (.int .i64),.slot 68 false,.ld 75 false,.d true (.int .i64),.slot 75 false] [.ld 3 false,.ptr 0 0,.slot 3 false,.ld 4 false,.d true (.int .i64),.slot 4 false,.ld 10 false,.ptr 1 0,.slot 10 false,.ld 74 false,.r 2,.slot 74 false,.ld 76 false,.d true (.int .i64),.slot 76 false,.ldr,.d true (.int .i64),.d false (.sl false (.int .i64)),.d false (.sl false (.int .i64)),.row,.ldr,.d true .str,.d true (.int .i64),.d true (.int .i64),.d false (.sl false (.st 0)),.d false (.sl false (.st 0)),.d false (.sl false (.st 0)),.row,.sl (.int .i64)] [(some 6,[.ld 3 false,.ptr 0 0,.slot 3 false,.ld 4 false,.d true (.int .i64),.slot 4 false,.ld 10 false,.ptr 1 0,.slot 10 false,.ldr,.d true (.int .i64),.d false (.sl false (.int .i64)),.d false (.sl false (.int .i64)),.row,.ldr,.d true .str,.d true (.int .i64),.d true (.int .i64),.d false (.sl false (.st 0)),.d false (.sl false (.st 0)),.d false (.sl false (.st 0)),.row]),(none,[.ld 4 false,.d true (.int .i64),.slot 4 false])]),(36,.l [.ld 9 false,.d true (.int .i64),.slot 9 false,.ld 68 false,.d true (.int .i64),.slot 68 false,.ld 93 false,.d false (.sl false (.st 0)),.slot 93 false,.ld 94 false,.d true (.int .i64),.slot 94 false] [.ld 3 false,.ptr 0 0,.slot 3 false,.ld 4 false,.d true (.int .i64),.slot 4 false,.ld 10 false,.ptr 1 0,.slot 10 false,.ld 95 false,.d true (.int .i64),.slot 95 false,.ldr,.d true (.int .i64),.d false (.sl false (.int .i64)),.d false (.sl false (.int .i64)),.row,.ldr,.d true .str,.d true (.int .i64),.d true (.int .i64),.d false (.sl false (.st 0)),.d false (.sl false (.st 0)),.d false (.sl false (.st 0)),.row] [(some 8,[.ld 3 false,.ptr 0 0,.slot 3 false,.ld 4 false,.d true (.int .i64),.slot 4 false,.ldr,.d true (.int .i64),.d false (.sl false (.int .i64)),.d false (.sl false (.int .i64)),.row]),(none,[.ld 4 false,.d true (.int .i64),.slot 4 false])]),(41,.j [.ld 3 false,.ptr 0 0,.slot 3 false,.ld 4 false,.d true (.int .i64),.slot 4 false,.ld 10 false,.ptr 1 0,.slot 10 false,.ld 95 false,.d true (.int .i64),.slot 95 false,.ld 115 false,.d true .bool,.slot 115 false,.ldr,.d true (.int .i64),.d false (.sl false (.int .i64)),.d false (.sl false (.int .i64)),.row,.ldr,.d true .str,.d true (.int .i64),.d true (.int .i64),.d false (.sl false (.st 0)),.d false (.sl false (.st 0)),.d false (.sl false (.st 0)),.row])]
def H36:List (Nat×VT):=[]
def p36:List TPlace×List TTrans×Int×List Int×List Int→Option Int:=fun (x:List TPlace×List TTrans×Int×List Int×List Int)=>
  (if (!decide ((↑x.snd.snd.snd.fst.length:Int)=(↑x.fst.length:Int)))=true then some (Sum.inl (0,true,x.fst,x.snd.fst,x.snd.snd.fst,x.snd.snd.snd.fst,x.snd.snd.snd.snd)) else if (!decide ((↑x.snd.snd.snd.snd.length:Int)=(↑x.snd.fst.length:Int)))=true then some (Sum.inl (0,true,x.fst,x.snd.fst,x.snd.snd.fst,x.snd.snd.snd.fst,x.snd.snd.snd.snd)) else if x.snd.snd.fst < 1 then some (Sum.inl (0,true,x.fst,x.snd.fst,x.snd.snd.fst,x.snd.snd.snd.fst,x.snd.snd.snd.snd)) else some (Sum.inl (0,decide (32 < x.snd.snd.fst),x.fst,x.snd.fst,x.snd.snd.fst,x.snd.snd.snd.fst,x.snd.snd.snd.snd))).bind fun (x1:Int×Bool×List TPlace×List TTrans×Int×List Int×List Int⊕Int)=>
    match x1 with
    | Sum.inl x=>
      if x.snd.fst=true then some 1
      else
        (aw
              (fun (x3:Int×Int×List TPlace×List TTrans×Int×List Int×List Int)=>
                if x3.snd.fst < 2 then
                  (idx [x.snd.snd.snd.snd.snd.fst,x.snd.snd.snd.snd.snd.snd] x3.snd.fst).bind fun (l4:List Int)=>
                    (aw
                          (fun (x5:Int×Int×List TPlace×List TTrans×Int×List Int×List Int)=>
                            if x5.snd.fst < (↑l4.length:Int) then
                              (idx l4 x5.snd.fst).bind fun (n6:Int)=>
                                (if n6 < 0 then some (Sum.inl (x5.fst,x5.snd.fst,true,x5.snd.snd.fst,x5.snd.snd.snd.fst,x5.snd.snd.snd.snd.fst,x5.snd.snd.snd.snd.snd.fst,x5.snd.snd.snd.snd.snd.snd)) else some (Sum.inl (x5.fst,x5.snd.fst,decide (x5.snd.snd.snd.snd.fst≤n6),x5.snd.snd.fst,x5.snd.snd.snd.fst,x5.snd.snd.snd.snd.fst,x5.snd.snd.snd.snd.snd.fst,x5.snd.snd.snd.snd.snd.snd))).bind fun (x7:Int×Int×Bool×List TPlace×List TTrans×Int×List Int×List Int⊕Int×Int×List TPlace×List TTrans×Int×List Int×List Int⊕Int×List TPlace×List TTrans×Int×List Int×List Int⊕Int)=>
                                  match x7 with
                                  | Sum.inl x=>if x.snd.snd.fst=true then some (Sum.inr (Sum.inr 1)) else some (Sum.inl (x.fst,IntKind.i64.wrap (x.snd.fst+1),x.snd.snd.snd.fst,x.snd.snd.snd.snd.fst,x.snd.snd.snd.snd.snd.fst,x.snd.snd.snd.snd.snd.snd.fst,x.snd.snd.snd.snd.snd.snd.snd))
                                  | Sum.inr r=>some r
                            else some (Sum.inr (Sum.inl (x5.fst,x5.snd.snd.fst,x5.snd.snd.snd.fst,x5.snd.snd.snd.snd.fst,x5.snd.snd.snd.snd.snd.fst,x5.snd.snd.snd.snd.snd.snd))))
                          (x3.fst,0,x3.snd.snd.fst,x3.snd.snd.snd.fst,x3.snd.snd.snd.snd.fst,x3.snd.snd.snd.snd.snd.fst,x3.snd.snd.snd.snd.snd.snd)).bind
                      fun (x5:Int×List TPlace×List TTrans×Int×List Int×List Int⊕Int)=>
                      match x5 with
                      | Sum.inl x=>some (Sum.inl (x.fst,IntKind.i64.wrap (x3.snd.fst+1),x.snd.fst,x.snd.snd.fst,x.snd.snd.snd.fst,x.snd.snd.snd.snd.fst,x.snd.snd.snd.snd.snd))
                      | Sum.inr y=>some (Sum.inr (Sum.inr y))
                else some (Sum.inr (Sum.inl (x3.fst,x3.snd.snd.fst,x3.snd.snd.snd.fst,x3.snd.snd.snd.snd.fst,x3.snd.snd.snd.snd.snd.fst,x3.snd.snd.snd.snd.snd.snd))))
              (x.fst,0,x.snd.snd.fst,x.snd.snd.snd.fst,x.snd.snd.snd.snd.fst,x.snd.snd.snd.snd.snd.fst,x.snd.snd.snd.snd.snd.snd)).bind
          fun (x3:Int×List TPlace×List TTrans×Int×List Int×List Int⊕Int)=>
          match x3 with
          | Sum.inl x=>
            (aw
                  (fun (x5:Int×Int×Int×List Int×List Int)=>
                    if x5.snd.fst < (↑x.snd.snd.fst.length:Int) then
                      (idx x.snd.snd.fst x5.snd.fst).bind fun (x6:TTrans)=>
                        (p63 (x6.Name,x6.Delay,x6.Prio,x6.In,x6.Not,x6.Out)).bind fun (l7:List Int)=>
                          (aw (fun (x8:Int×Int×Int×List Int×List Int×List UInt8×Int×Int×List TArc×List TArc×List TArc×List Int)=>if x8.snd.fst < (↑l7.length:Int) then (idx x8.snd.snd.snd.snd.snd.snd.snd.snd.snd.snd.snd x8.snd.fst).bind fun (n9:Int)=>(idx x8.snd.snd.snd.fst n9).bind fun (n10:Int)=>(idx x8.snd.snd.snd.snd.fst x5.snd.fst).bind fun (n11:Int)=>if (!decide (n10=n11))=true then some (Sum.inr (Sum.inr 9)) else some (Sum.inl (x8.fst,IntKind.i64.wrap (x8.snd.fst+1),x8.snd.snd.fst,x8.snd.snd.snd.fst,x8.snd.snd.snd.snd.fst,x8.snd.snd.snd.snd.snd.fst,x8.snd.snd.snd.snd.snd.snd.fst,x8.snd.snd.snd.snd.snd.snd.snd.fst,x8.snd.snd.snd.snd.snd.snd.snd.snd.fst,x8.snd.snd.snd.snd.snd.snd.snd.snd.snd.fst,x8.snd.snd.snd.snd.snd.snd.snd.snd.snd.snd.fst,x8.snd.snd.snd.snd.snd.snd.snd.snd.snd.snd.snd)) else some (Sum.inr (Sum.inl (x8.fst,x8.snd.snd.fst,x8.snd.snd.snd.fst,x8.snd.snd.snd.snd.fst,x8.snd.snd.snd.snd.snd.fst,x8.snd.snd.snd.snd.snd.snd.fst,x8.snd.snd.snd.snd.snd.snd.snd.fst,x8.snd.snd.snd.snd.snd.snd.snd.snd.fst,x8.snd.snd.snd.snd.snd.snd.snd.snd.snd.fst,x8.snd.snd.snd.snd.snd.snd.snd.snd.snd.snd.fst)))) (x5.fst,0,x5.snd.snd.fst,x5.snd.snd.snd.fst,x5.snd.snd.snd.snd,x6.Name,x6.Delay,x6.Prio,x6.In,x6.Not,x6.Out,l7)).bind fun (x8:Int×Int×List Int×List Int×List UInt8×Int×Int×List TArc×List TArc×List TArc⊕Int)=>
                            match x8 with
                            | Sum.inl x=>
                              (aw
                                    (fun (x10:Int×Int×Int×List Int×List Int×List UInt8×Int×Int×List TArc×List TArc×List TArc)=>
                                      if x10.snd.fst < (↑x.snd.snd.snd.snd.snd.snd.snd.snd.snd.length:Int) then
                                        (idx x.snd.snd.snd.snd.snd.snd.snd.snd.snd x10.snd.fst).bind fun (x11:TArc)=>
                                          (if x10.snd.snd.snd.snd.snd.snd.fst=0 then (idx x10.snd.snd.snd.fst x11.Place).bind fun (n12:Int)=>(idx x10.snd.snd.snd.snd.fst x5.snd.fst).bind fun (n13:Int)=>some (Sum.inl (x10.fst,x10.snd.fst,!decide (n12=n13),x10.snd.snd.fst,x10.snd.snd.snd.fst,x10.snd.snd.snd.snd.fst,x10.snd.snd.snd.snd.snd.fst,x10.snd.snd.snd.snd.snd.snd.fst,x10.snd.snd.snd.snd.snd.snd.snd.fst,x10.snd.snd.snd.snd.snd.snd.snd.snd.fst,x10.snd.snd.snd.snd.snd.snd.snd.snd.snd.fst,x10.snd.snd.snd.snd.snd.snd.snd.snd.snd.snd)) else some (Sum.inl (x10.fst,x10.snd.fst,false,x10.snd.snd.fst,x10.snd.snd.snd.fst,x10.snd.snd.snd.snd.fst,x10.snd.snd.snd.snd.snd.fst,x10.snd.snd.snd.snd.snd.snd.fst,x10.snd.snd.snd.snd.snd.snd.snd.fst,x10.snd.snd.snd.snd.snd.snd.snd.snd.fst,x10.snd.snd.snd.snd.snd.snd.snd.snd.snd.fst,x10.snd.snd.snd.snd.snd.snd.snd.snd.snd.snd))).bind fun (x12:Int×Int×Bool×Int×List Int×List Int×List UInt8×Int×Int×List TArc×List TArc×List TArc⊕Int×Int×Int×List Int×List Int×List UInt8×Int×Int×List TArc×List TArc×List TArc⊕Int×Int×List Int×List Int⊕Int)=>
                                            match x12 with
                                            | Sum.inl x=>if x.snd.snd.fst=true then some (Sum.inr (Sum.inr 9)) else some (Sum.inl (x.fst,IntKind.i64.wrap (x.snd.fst+1),x.snd.snd.snd.fst,x.snd.snd.snd.snd.fst,x.snd.snd.snd.snd.snd.fst,x.snd.snd.snd.snd.snd.snd.fst,x.snd.snd.snd.snd.snd.snd.snd.fst,x.snd.snd.snd.snd.snd.snd.snd.snd.fst,x.snd.snd.snd.snd.snd.snd.snd.snd.snd.fst,x.snd.snd.snd.snd.snd.snd.snd.snd.snd.snd.fst,x.snd.snd.snd.snd.snd.snd.snd.snd.snd.snd.snd))
                                            | Sum.inr r=>some r
                                      else some (Sum.inr (Sum.inl (x10.fst,x10.snd.snd.fst,x10.snd.snd.snd.fst,x10.snd.snd.snd.snd.fst))))
                                    (x.fst,0,x.snd.fst,x.snd.snd.fst,x.snd.snd.snd.fst,x.snd.snd.snd.snd.fst,x.snd.snd.snd.snd.snd.fst,x.snd.snd.snd.snd.snd.snd.fst,x.snd.snd.snd.snd.snd.snd.snd.fst,x.snd.snd.snd.snd.snd.snd.snd.snd.fst,x.snd.snd.snd.snd.snd.snd.snd.snd.snd)).bind
                                fun (x10:Int×Int×List Int×List Int⊕Int)=>
                                match x10 with
                                | Sum.inl x=>some (Sum.inl (x.fst,IntKind.i64.wrap (x5.snd.fst+1),x.snd.fst,x.snd.snd.fst,x.snd.snd.snd))
                                | Sum.inr y=>some (Sum.inr (Sum.inr y))
                            | Sum.inr y=>some (Sum.inr (Sum.inr y))
                    else some (Sum.inr (Sum.inl ())))
                  (x.fst,0,x.snd.snd.snd.fst,x.snd.snd.snd.snd.fst,x.snd.snd.snd.snd.snd)).bind
              fun (x5:Unit⊕Int)=>
              match x5 with
              | Sum.inl x=>some 0
              | Sum.inr y=>some y
          | Sum.inr y=>some y
    | Sum.inr r=>some r
theorem e36:vfn (T:=tE) lpK H36 (aP [n63]) q36 BJ.res (vOf BJ.code L36)=p36:=by kernel_rfl
abbrev n36:En tE:=⟨36,[],q36,p36⟩
theorem o36:aq F tE 36 q36 2 p36:=by
 rw [← e36]
 exact af (fn:=BJ) (aa (en:=n63) ae o63 rfl) rfl (by kernel_rfl)
def q91:FSp:=⟨[(false,[.d true (.int .u32)])],[],[],[.ld 0 false,.d true (.int .i64),.slot 0 false]⟩
def L91:List (Nat×Lb):=[(1,.j [.ld 0 false,.d true (.int .u32),.slot 0 false,.ld 2 false,.d true (.int .i64),.slot 2 false]),(4,.j [.ld 0 false,.d true (.int .u32),.slot 0 false,.ld 2 false,.d true (.int .i64),.slot 2 false])]
def H91:List (Nat×VT):=[]
def p91:Int→Option Int:=fun (x:Int)=>
  (if 65536≤x then (uS IntKind.u32 x 16).bind fun (n1:Int)=>some (Sum.inl (n1,16)) else some (Sum.inl (x,0))).bind fun (x1:Int×Int⊕Int)=>
    match x1 with
    | Sum.inl x=>
      (if 256≤x.fst then (uS IntKind.u32 x.fst 8).bind fun (n3:Int)=>some (Sum.inl (n3,IntKind.i64.wrap (x.snd+8))) else some (Sum.inl (x.fst,x.snd))).bind fun (x3:Int×Int⊕Int)=>
        match x3 with
        | Sum.inl x=>(Bn [0,1,2,2,3,3,3,3,4,4,4,4,4,4,4,4,5,5,5,5,5,5,5,5,5,5,5,5,5,5,5,5,6,6,6,6,6,6,6,6,6,6,6,6,6,6,6,6,6,6,6,6,6,6,6,6,6,6,6,6,6,6,6,6,7,7,7,7,7,7,7,7,7,7,7,7,7,7,7,7,7,7,7,7,7,7,7,7,7,7,7,7,7,7,7,7,7,7,7,7,7,7,7,7,7,7,7,7,7,7,7,7,7,7,7,7,7,7,7,7,7,7,7,7,7,7,7,7,8,8,8,8,8,8,8,8,8,8,8,8,8,8,8,8,8,8,8,8,8,8,8,8,8,8,8,8,8,8,8,8,8,8,8,8,8,8,8,8,8,8,8,8,8,8,8,8,8,8,8,8,8,8,8,8,8,8,8,8,8,8,8,8,8,8,8,8,8,8,8,8,8,8,8,8,8,8,8,8,8,8,8,8,8,8,8,8,8,8,8,8,8,8,8,8,8,8,8,8,8,8,8,8,8,8,8,8,8,8,8,8,8,8,8,8,8,8,8,8,8,8,8,8,8,8,8,8] (IntKind.u8.wrap x.fst)).bind fun (n5:Int)=>some (IntKind.i64.wrap (x.snd+IntKind.i64.wrap n5))
        | Sum.inr r=>some r
    | Sum.inr r=>some r
abbrev n91:En tE:=⟨91,[],q91,p91⟩
def q92:FSp:=⟨[(false,[.d true (.int .u64)])],[],[],[.ld 0 false,.d true (.int .i64),.slot 0 false]⟩
def L92:List (Nat×Lb):=[(1,.j [.ld 0 false,.d true (.int .u64),.slot 0 false,.ld 2 false,.d true (.int .i64),.slot 2 false]),(4,.j [.ld 0 false,.d true (.int .u64),.slot 0 false,.ld 2 false,.d true (.int .i64),.slot 2 false]),(7,.j [.ld 0 false,.d true (.int .u64),.slot 0 false,.ld 2 false,.d true (.int .i64),.slot 2 false])]
def H92:List (Nat×VT):=[]
def p92:Int→Option Int:=fun (x:Int)=>
  (if 4294967296≤x then (uS IntKind.u64 x 32).bind fun (n1:Int)=>some (Sum.inl (n1,32)) else some (Sum.inl (x,0))).bind fun (x1:Int×Int⊕Int)=>
    match x1 with
    | Sum.inl x=>
      (if 65536≤x.fst then (uS IntKind.u64 x.fst 16).bind fun (n3:Int)=>some (Sum.inl (n3,IntKind.i64.wrap (x.snd+16))) else some (Sum.inl (x.fst,x.snd))).bind fun (x3:Int×Int⊕Int)=>
        match x3 with
        | Sum.inl x=>
          (if 256≤x.fst then (uS IntKind.u64 x.fst 8).bind fun (n5:Int)=>some (Sum.inl (n5,IntKind.i64.wrap (x.snd+8))) else some (Sum.inl (x.fst,x.snd))).bind fun (x5:Int×Int⊕Int)=>
            match x5 with
            | Sum.inl x=>(Bn [0,1,2,2,3,3,3,3,4,4,4,4,4,4,4,4,5,5,5,5,5,5,5,5,5,5,5,5,5,5,5,5,6,6,6,6,6,6,6,6,6,6,6,6,6,6,6,6,6,6,6,6,6,6,6,6,6,6,6,6,6,6,6,6,7,7,7,7,7,7,7,7,7,7,7,7,7,7,7,7,7,7,7,7,7,7,7,7,7,7,7,7,7,7,7,7,7,7,7,7,7,7,7,7,7,7,7,7,7,7,7,7,7,7,7,7,7,7,7,7,7,7,7,7,7,7,7,7,8,8,8,8,8,8,8,8,8,8,8,8,8,8,8,8,8,8,8,8,8,8,8,8,8,8,8,8,8,8,8,8,8,8,8,8,8,8,8,8,8,8,8,8,8,8,8,8,8,8,8,8,8,8,8,8,8,8,8,8,8,8,8,8,8,8,8,8,8,8,8,8,8,8,8,8,8,8,8,8,8,8,8,8,8,8,8,8,8,8,8,8,8,8,8,8,8,8,8,8,8,8,8,8,8,8,8,8,8,8,8,8,8,8,8,8,8,8,8,8,8,8,8,8,8,8,8,8] (IntKind.u8.wrap x.fst)).bind fun (n7:Int)=>some (IntKind.i64.wrap (x.snd+IntKind.i64.wrap n7))
            | Sum.inr r=>some r
        | Sum.inr r=>some r
    | Sum.inr r=>some r
theorem e92:vfn (T:=tE) lpK H92 (aP []) q92 BB.res (vOf BB.code L92)=p92:=by kernel_rfl
abbrev n92:En tE:=⟨92,[],q92,p92⟩
theorem o92:aq F tE 92 q92 1 p92:=by
 rw [← e92]
 exact af (fn:=BB) ae rfl (by kernel_rfl)
def q70:FSp:=⟨[(false,[.d true (.int .u64)])],[],[],[.ld 0 false,.d true (.int .i64),.slot 0 false]⟩
def L70:List (Nat×Lb):=[]
def H70:List (Nat×VT):=[]
def p70:Int→Option Int:=fun (x:Int)=>(p92 x).bind fun (n1:Int)=>some n1
theorem e70:vfn (T:=tE) lpK H70 (aP [n92]) q70 Ci.res (vOf Ci.code L70)=p70:=by kernel_rfl
abbrev n70:En tE:=⟨70,[],q70,p70⟩
theorem o70:aq F tE 70 q70 1 p70:=by
 rw [← e70]
 exact af (fn:=Ci) (aa (en:=n92) ae o92 rfl) rfl (by kernel_rfl)
def DT:FSp:=⟨[(false,[.d true (.int .i64)])],[],[],[.ld 0 false,.d true (.int .u64),.slot 0 false]⟩
def GI:List (Nat×Lb):=[]
def Fi:List (Nat×VT):=[]
def C0:Int→Option Int:=fun (x:Int)=>(p70 (IntKind.u64.wrap x)).bind fun (n1:Int)=>(zS IntKind.u64 1 n1).bind fun (n2:Int)=>some n2
theorem Gr:vfn (T:=tE) lpK Fi (aP [n70]) DT ta.res (vOf ta.code GI)=C0:=by kernel_rfl
abbrev EB:En tE:=⟨100,[],DT,C0⟩
theorem FQ:aq F tE 100 DT 1 C0:=by
 rw [← Gr]
 exact af (fn:=ta) (aa (en:=n70) ae o70 rfl) rfl (by kernel_rfl)
def D1:FSp:=⟨[(false,[.ptr 0 0])],[.pr (.int .u64)],[0],[.ld 0 false,.d true (.int .u64),.slot 0 false,.ld 1 false,.ptr 0 0,.slot 1 false,.pr (.int .u64)]⟩
def F2:List (Nat×Lb):=[]
def Gp:List (Nat×VT):=[]
def CM:Int→Option (Int×Int):=fun (x:Int)=>(zS IntKind.u64 x 13).bind fun (n1:Int)=>(uS IntKind.u64 (IntKind.u64.wrap (↑(BitVec.ofInt IntKind.u64.bits x ^^^ BitVec.ofInt IntKind.u64.bits n1).toNat:Int)) 7).bind fun (n2:Int)=>(zS IntKind.u64 (IntKind.u64.wrap (↑(BitVec.ofInt IntKind.u64.bits (IntKind.u64.wrap (↑(BitVec.ofInt IntKind.u64.bits x ^^^ BitVec.ofInt IntKind.u64.bits n1).toNat:Int)) ^^^ BitVec.ofInt IntKind.u64.bits n2).toNat:Int)) 17).bind fun (n3:Int)=>some (IntKind.u64.wrap (↑(BitVec.ofInt IntKind.u64.bits (IntKind.u64.wrap (↑(BitVec.ofInt IntKind.u64.bits (IntKind.u64.wrap (↑(BitVec.ofInt IntKind.u64.bits x ^^^ BitVec.ofInt IntKind.u64.bits n1).toNat:Int)) ^^^ BitVec.ofInt IntKind.u64.bits n2).toNat:Int)) ^^^ BitVec.ofInt IntKind.u64.bits n3).toNat:Int),IntKind.u64.wrap (↑(BitVec.ofInt IntKind.u64.bits (IntKind.u64.wrap (↑(BitVec.ofInt IntKind.u64.bits (IntKind.u64.wrap (↑(BitVec.ofInt IntKind.u64.bits x ^^^ BitVec.ofInt IntKind.u64.bits n1).toNat:Int)) ^^^ BitVec.ofInt IntKind.u64.bits n2).toNat:Int)) ^^^ BitVec.ofInt IntKind.u64.bits n3).toNat:Int))
theorem Hi:vfn (T:=tE) lpK Gp (aP []) D1 sC.res (vOf sC.code F2)=CM:=by kernel_rfl
abbrev EK:En tE:=⟨101,[],D1,CM⟩
theorem Hj:aq F tE 101 D1 1 CM:=by
 rw [← Hi]
 exact af (fn:=sC) ae rfl (by kernel_rfl)
def q48:FSp:=⟨[(false,[.d false (.sl false (.int .i64))])],[],[],[.ld 0 false,.d true (.int .i64),.slot 0 false]⟩
def L48:List (Nat×Lb):=[(4,.l [.ld 3 false,.d true (.int .i64),.slot 3 false,.ld 6 false,.d false (.sl false (.int .i64)),.slot 6 false,.ld 7 false,.d true (.int .i64),.slot 7 false] [.ld 2 false,.d true (.int .i64),.slot 2 false,.ld 8 false,.d true (.int .i64),.slot 8 false] [(some 0,[]),(none,[.ld 2 false,.d true (.int .i64),.slot 2 false])])]
def H48:List (Nat×VT):=[]
def p48:List Int→Option Int:=fun (x:List Int)=>
  (aw (fun (x1:Int×Int)=>if x1.snd < (↑x.length:Int) then (idx x x1.snd).bind fun (n2:Int)=>if (!decide (n2=0))=true then some (Sum.inr (Sum.inr n2)) else some (Sum.inl (x1.fst,IntKind.i64.wrap (x1.snd+1))) else some (Sum.inr (Sum.inl ()))) (0,0)).bind fun (x1:Unit⊕Int)=>
    match x1 with
    | Sum.inl x=>some 0
    | Sum.inr y=>some y
theorem e48:vfn (T:=tE) lpK H48 (aP []) q48 Cl.res (vOf Cl.code L48)=p48:=by kernel_rfl
abbrev n48:En tE:=⟨48,[],q48,p48⟩
theorem o48:aq F tE 48 q48 1 p48:=by
 rw [← e48]
 exact af (fn:=Cl) ae rfl (by kernel_rfl)
def q71:FSp:=⟨[(false,[.d true (.int .i64)])],[],[],[.ld 0 false,.d true .bool,.slot 0 false]⟩
def L71:List (Nat×Lb):=[]
def H71:List (Nat×VT):=[]
def p71:Int→Option Bool:=fun (x:Int)=>some !decide (x=x)
theorem e71:vfn (T:=tE) lpK H71 (aP []) q71 Ad.res (vOf Ad.code L71)=p71:=by kernel_rfl
abbrev n71:En tE:=⟨71,[],q71,p71⟩
theorem o71:aq F tE 71 q71 1 p71:=by
 rw [← e71]
 exact af (fn:=Ad) ae rfl (by kernel_rfl)
def q49:FSp:=⟨[(false,[.d true (.int .i64)]),(false,[.d true (.int .i64)])],[],[],[.ld 0 false,.d true (.int .i64),.slot 0 false]⟩
def L49:List (Nat×Lb):=[]
def H49:List (Nat×VT):=[]
def p49:Int×Int→Option Int:=fun (x:Int×Int)=>(p71 x.fst).bind fun (b1:Bool)=>(p71 x.snd).bind fun (b2:Bool)=>if b1=true then if b2=true then some 0 else some (-1) else if b2=true then some 1 else if x.fst < x.snd then some (-1) else if x.snd < x.fst then some 1 else some 0
theorem e49:vfn (T:=tE) lpK H49 (aP [n71]) q49 As.res (vOf As.code L49)=p49:=by kernel_rfl
abbrev n49:En tE:=⟨49,[],q49,p49⟩
theorem o49:aq F tE 49 q49 2 p49:=by
 rw [← e49]
 exact af (fn:=As) (aa (en:=n71) ae o71 rfl) rfl (by kernel_rfl)
def q47:FSp:=⟨[(true,[.d true (.int .i64),.d true (.int .i64),.d true (.int .i64)]),(true,[.d true (.int .i64),.d true (.int .i64),.d true (.int .i64)])],[],[],[.ld 0 false,.d true (.int .i64),.slot 0 false]⟩
def L47:List (Nat×Lb):=[]
def H47:List (Nat×VT):=[(20,(.int .i64))]
def p47:Int×Int×Int×Int×Int×Int→Option Int:=fun (x:Int×Int×Int×Int×Int×Int)=>(p49 (x.fst,x.snd.snd.snd.fst)).bind fun (n1:Int)=>(p49 (x.snd.fst,x.snd.snd.snd.snd.fst)).bind fun (n2:Int)=>(p49 (x.snd.snd.fst,x.snd.snd.snd.snd.snd)).bind fun (n3:Int)=>(p48 [n1,n2,n3]).bind fun (n4:Int)=>some n4
theorem e47:vfn (T:=tE) lpK H47 (aP [n49,n48]) q47 Bk.res (vOf Bk.code L47)=p47:=by kernel_rfl
abbrev n47:En tE:=⟨47,[],q47,p47⟩
theorem o47:aq F tE 47 q47 2 p47:=by
 rw [← e47]
 exact af (fn:=Bk) (aa (en:=n49) (aa (en:=n48) ae o48 rfl) o49 rfl) rfl (by kernel_rfl)
def q51:FSp:=⟨[(true,[.d true (.int .i64),.d true (.int .i64),.d true (.int .i64)]),(true,[.d true (.int .i64),.d true (.int .i64),.d true (.int .i64)])],[],[],[.ld 0 false,.d true .bool,.slot 0 false]⟩
def L51:List (Nat×Lb):=[]
def H51:List (Nat×VT):=[]
def p51:Int×Int×Int×Int×Int×Int→Option Bool:=fun (x:Int×Int×Int×Int×Int×Int)=>if x.fst=x.snd.snd.snd.fst then some (decide (x.snd.fst=x.snd.snd.snd.snd.fst)) else some false
theorem e51:vfn (T:=tE) lpK H51 (aP []) q51 AW.res (vOf AW.code L51)=p51:=by kernel_rfl
abbrev n51:En tE:=⟨51,[],q51,p51⟩
theorem o51:aq F tE 51 q51 2 p51:=by
 rw [← e51]
 exact af (fn:=AW) ae rfl (by kernel_rfl)
def nk:FSp:=⟨[(false,[.r 0]),(false,[.d true (.int .i64)]),(false,[.d true (.int .i64)]),(false,[.c (.func 47 [])])],[.sl (.st 5)],[0],[.ld 0 false,.r 0,.slot 0 false,.sl (.st 5)]⟩
def xB:List (Nat×Lb):=[(1,.l [.ld 1 false,.d true (.int .i64),.slot 1 false,.ld 2 false,.d true (.int .i64),.slot 2 false,.ld 3 false,.c (.func 47 []),.slot 3 false] [.ld 0 false,.r 0,.slot 0 false,.ld 8 false,.d true (.int .i64),.slot 8 false,.sl (.st 5)] [(some 0,[.ld 0 false,.r 0,.slot 0 false,.sl (.st 5)])]),(6,.l [.ld 8 false,.d true (.int .i64),.slot 8 false] [.ld 0 false,.r 0,.slot 0 false,.ld 9 false,.d true (.int .i64),.slot 9 false,.sl (.st 5)] [(some 2,[.ld 0 false,.r 0,.slot 0 false,.sl (.st 5)])]),(8,.j [.ld 0 false,.r 0,.slot 0 false,.ld 9 false,.d true (.int .i64),.slot 9 false,.ld 34 false,.d true .bool,.slot 34 false,.sl (.st 5)])]
def zu:List (Nat×VT):=[]
def ki:Int×Int×List TLane→Option (List TLane):=fun (x:Int×Int×List TLane)=>
  (aw
        (fun (x1:Int×List TLane)=>
          if x1.fst < x.snd.fst then
            (aw
                  (fun (x2:Int×List TLane)=>
                    (if x.fst < x2.fst then (idx x2.snd x2.fst).bind fun (x3:TLane)=>(idx x2.snd (IntKind.i64.wrap (x2.fst - 1))).bind fun (x4:TLane)=>(p47 (x3.From,x3.To,x3.Ahead,x4.From,x4.To,x4.Ahead)).bind fun (n5:Int)=>some (Sum.inl (x2.fst,decide (n5 < 0),x2.snd)) else some (Sum.inl (x2.fst,false,x2.snd))).bind fun (x3:Int×Bool×List TLane⊕Int×List TLane⊕List TLane)=>
                      match x3 with
                      | Sum.inl x=>if x.snd.fst=true then (idx x.snd.snd (IntKind.i64.wrap (x.fst - 1))).bind fun (x5:TLane)=>(idx x.snd.snd x.fst).bind fun (x6:TLane)=>(idx x.snd.snd x.fst).bind fun (x7:TLane)=>(idx (x.snd.snd.set x.fst.toNat x5) (IntKind.i64.wrap (x.fst - 1))).bind fun (x8:TLane)=>some (Sum.inl (IntKind.i64.wrap (x.fst - 1),(x.snd.snd.set x.fst.toNat x5).set (IntKind.i64.wrap (x.fst - 1)).toNat x6)) else some (Sum.inr x.snd.snd)
                      | Sum.inr r=>some r)
                  (x1.fst,x1.snd)).bind
              fun (l2:List TLane)=>some (Sum.inl (IntKind.i64.wrap (x1.fst+1),l2))
          else some (Sum.inr x1.snd))
        (IntKind.i64.wrap (x.fst+1),x.snd.snd)).bind
    fun (l1:List TLane)=>some l1
theorem zK:vfn (T:=tE) lpK zu (aP [n47]) nk Cu.res (vOf Cu.code xB)=ki:=by kernel_rfl
abbrev qm:En tE:=⟨83,[(3,47)],nk,ki⟩
theorem zx:aq F tE 83 nk 4 ki:=by
 rw [← zK]
 exact af (fn:=Cu) (aa (en:=n47) ae o47 rfl) rfl (by kernel_rfl)
def mn:FSp:=⟨[(false,[.r 0]),(false,[.d true (.int .i64)]),(false,[.d true (.int .i64)]),(false,[.d true (.int .i64)]),(false,[.c (.func 47 [])])],[.sl (.st 5)],[0],[.ld 0 false,.r 0,.slot 0 false,.sl (.st 5)]⟩
def wA:List (Nat×Lb):=[(1,.l [.ld 2 false,.d true (.int .i64),.slot 2 false,.ld 3 false,.d true (.int .i64),.slot 3 false,.ld 4 false,.c (.func 47 []),.slot 4 false] [.ld 0 false,.r 0,.slot 0 false,.ld 10 false,.d true (.int .i64),.slot 10 false,.sl (.st 5)] [(some 0,[.ld 0 false,.r 0,.slot 0 false,.sl (.st 5)]),(none,[.ld 0 false,.r 0,.slot 0 false,.sl (.st 5)])]),(5,.j [.ld 0 false,.r 0,.slot 0 false,.ld 10 false,.d true (.int .i64),.slot 10 false,.ld 11 false,.d true (.int .i64),.slot 11 false,.sl (.st 5)]),(6,.j [.ld 0 false,.r 0,.slot 0 false,.ld 10 false,.d true (.int .i64),.slot 10 false,.ld 11 false,.d true (.int .i64),.slot 11 false,.ld 40 false,.d true .bool,.slot 40 false,.sl (.st 5)])]
def xH:List (Nat×VT):=[]
def gH:Int×Int×Int×List TLane→Option (List TLane):=fun (x:Int×Int×Int×List TLane)=>
  (aw
        (fun (x1:Int×List TLane)=>
          if x.snd.fst≤IntKind.i64.wrap (IntKind.i64.wrap (2 * x1.fst)+1) then some (Sum.inr (Sum.inl x1.snd))
          else
            ((if IntKind.i64.wrap (IntKind.i64.wrap (IntKind.i64.wrap (2 * x1.fst)+1)+1) < x.snd.fst then (idx x1.snd (IntKind.i64.wrap (x.snd.snd.fst+IntKind.i64.wrap (IntKind.i64.wrap (2 * x1.fst)+1)))).bind fun (x2:TLane)=>(idx x1.snd (IntKind.i64.wrap (IntKind.i64.wrap (x.snd.snd.fst+IntKind.i64.wrap (IntKind.i64.wrap (2 * x1.fst)+1))+1))).bind fun (x3:TLane)=>(p47 (x2.From,x2.To,x2.Ahead,x3.From,x3.To,x3.Ahead)).bind fun (n4:Int)=>some (Sum.inl (x1.fst,IntKind.i64.wrap (IntKind.i64.wrap (2 * x1.fst)+1),decide (n4 < 0),x1.snd)) else some (Sum.inl (x1.fst,IntKind.i64.wrap (IntKind.i64.wrap (2 * x1.fst)+1),false,x1.snd))).bind fun (x2:Int×Int×Bool×List TLane⊕Int×Int×List TLane⊕Int×List TLane⊕List TLane⊕List TLane)=>
                  match x2 with
                  | Sum.inl x=>if x.snd.snd.fst=true then some (Sum.inl (x.fst,IntKind.i64.wrap (x.snd.fst+1),x.snd.snd.snd)) else some (Sum.inl (x.fst,x.snd.fst,x.snd.snd.snd))
                  | Sum.inr r=>some r).bind
              fun (x2:Int×Int×List TLane⊕Int×List TLane⊕List TLane⊕List TLane)=>
              match x2 with
              | Sum.inl x_1=>(idx x_1.snd.snd (IntKind.i64.wrap (x.snd.snd.fst+x_1.fst))).bind fun (x4:TLane)=>(idx x_1.snd.snd (IntKind.i64.wrap (x.snd.snd.fst+x_1.snd.fst))).bind fun (x5:TLane)=>(p47 (x4.From,x4.To,x4.Ahead,x5.From,x5.To,x5.Ahead)).bind fun (n6:Int)=>if (!decide (n6 < 0))=true then some (Sum.inr (Sum.inr x_1.snd.snd)) else (idx x_1.snd.snd (IntKind.i64.wrap (x.snd.snd.fst+x_1.snd.fst))).bind fun (x7:TLane)=>(idx x_1.snd.snd (IntKind.i64.wrap (x.snd.snd.fst+x_1.fst))).bind fun (x8:TLane)=>(idx x_1.snd.snd (IntKind.i64.wrap (x.snd.snd.fst+x_1.fst))).bind fun (x9:TLane)=>(idx (x_1.snd.snd.set (IntKind.i64.wrap (x.snd.snd.fst+x_1.fst)).toNat x7) (IntKind.i64.wrap (x.snd.snd.fst+x_1.snd.fst))).bind fun (x10:TLane)=>some (Sum.inl (x_1.snd.fst,(x_1.snd.snd.set (IntKind.i64.wrap (x.snd.snd.fst+x_1.fst)).toNat x7).set (IntKind.i64.wrap (x.snd.snd.fst+x_1.snd.fst)).toNat x8))
              | Sum.inr r=>some r)
        (x.fst,x.snd.snd.snd)).bind
    fun (x1:List TLane⊕List TLane)=>
    match x1 with
    | Sum.inl x=>some x
    | Sum.inr y=>some y
theorem wS:vfn (T:=tE) lpK xH (aP [n47]) mn Ar.res (vOf Ar.code wA)=gH:=by kernel_rfl
abbrev tf:En tE:=⟨99,[(4,47)],mn,gH⟩
theorem xw:aq F tE 99 mn 5 gH:=by
 rw [← wS]
 exact af (fn:=Ar) (aa (en:=n47) ae o47 rfl) rfl (by kernel_rfl)
def mW:FSp:=⟨[(false,[.r 0]),(false,[.d true (.int .i64)]),(false,[.d true (.int .i64)]),(false,[.c (.func 47 [])])],[.sl (.st 5)],[0],[.ld 0 false,.r 0,.slot 0 false,.sl (.st 5)]⟩
def wI:List (Nat×Lb):=[(5,.l [.ld 3 false,.c (.func 47 []),.slot 3 false,.ld 8 false,.d true (.int .i64),.slot 8 false,.ld 9 false,.d true (.int .i64),.slot 9 false,.ld 10 false,.d true (.int .i64),.slot 10 false] [.ld 0 false,.r 0,.slot 0 false,.ld 11 false,.d true (.int .i64),.slot 11 false,.sl (.st 5)] [(some 0,[.ld 0 false,.r 0,.slot 0 false,.sl (.st 5)])]),(10,.l [.ld 3 false,.c (.func 47 []),.slot 3 false,.ld 8 false,.d true (.int .i64),.slot 8 false,.ld 9 false,.d true (.int .i64),.slot 9 false] [.ld 0 false,.r 0,.slot 0 false,.ld 12 false,.d true (.int .i64),.slot 12 false,.sl (.st 5)] [(some 2,[.ld 0 false,.r 0,.slot 0 false,.sl (.st 5)])])]
def yH:List (Nat×VT):=[]
def jA:Int×Int×List TLane→Option (List TLane):=fun (x:Int×Int×List TLane)=>(pK IntKind.i64 (IntKind.i64.wrap (IntKind.i64.wrap (x.snd.fst - x.fst) - 1)) 2).bind fun (n1:Int)=>(aw (fun (x2:Int×List TLane)=>if 0≤x2.fst then (gH (x2.fst,IntKind.i64.wrap (x.snd.fst - x.fst),x.fst,x2.snd)).bind fun (l3:List TLane)=>some (Sum.inl (IntKind.i64.wrap (x2.fst - 1),l3)) else some (Sum.inr x2.snd)) (n1,x.snd.snd)).bind fun (l2:List TLane)=>(aw (fun (x3:Int×List TLane)=>if 0≤x3.fst then (idx x3.snd (IntKind.i64.wrap (x.fst+x3.fst))).bind fun (x4:TLane)=>(idx x3.snd x.fst).bind fun (x5:TLane)=>(idx x3.snd x.fst).bind fun (x6:TLane)=>(idx (x3.snd.set x.fst.toNat x4) (IntKind.i64.wrap (x.fst+x3.fst))).bind fun (x7:TLane)=>(gH (0,x3.fst,x.fst,(x3.snd.set x.fst.toNat x4).set (IntKind.i64.wrap (x.fst+x3.fst)).toNat x5)).bind fun (l8:List TLane)=>some (Sum.inl (IntKind.i64.wrap (x3.fst - 1),l8)) else some (Sum.inr x3.snd)) (IntKind.i64.wrap (IntKind.i64.wrap (x.snd.fst - x.fst) - 1),l2)).bind fun (l3:List TLane)=>some l3
theorem wE:vfn (T:=tE) lpK yH (aP [tf]) mW Bv.res (vOf Bv.code wI)=jA:=by kernel_rfl
abbrev pT:En tE:=⟨84,[(3,47)],mW,jA⟩
theorem zl:aq F tE 84 mW 4 jA:=by
 rw [← wE]
 exact af (fn:=Bv) (aa (en:=tf) ae xw rfl) rfl (by kernel_rfl)
def mU:FSp:=⟨[(false,[.d false (.sl false (.st 5))]),(false,[.d true (.int .i64)]),(false,[.d true (.int .i64)]),(false,[.ptr 0 0]),(false,[.c (.func 47 [])])],[.pr (.int .i64)],[3],[.ld 0 false,.d true (.int .i64),.slot 0 false,.ld 1 false,.d true (.int .i64),.slot 1 false,.ld 2 false,.ptr 0 0,.slot 2 false,.pr (.int .i64)]⟩
def we:List (Nat×Lb):=[]
def xD:List (Nat×VT):=[]
def fj:List TLane×Int×Int×Int→Option (Int×Int×Int):=fun (x:List TLane×Int×Int×Int)=>(idx x.fst x.snd.snd.fst).bind fun (x1:TLane)=>(idx x.fst x.snd.fst).bind fun (x2:TLane)=>(p47 (x1.From,x1.To,x1.Ahead,x2.From,x2.To,x2.Ahead)).bind fun (n3:Int)=>if n3 < 0 then some (x.snd.snd.fst,x.snd.fst,IntKind.i64.wrap (x.snd.snd.snd+1)) else some (x.snd.fst,x.snd.snd.fst,x.snd.snd.snd)
theorem wT:vfn (T:=tE) lpK xD (aP [n47]) mU tq.res (vOf tq.code we)=fj:=by kernel_rfl
abbrev ti:En tE:=⟨109,[(4,47)],mU,fj⟩
theorem xC:aq F tE 109 mU 5 fj:=by
 rw [← wT]
 exact af (fn:=tq) (aa (en:=n47) ae o47 rfl) rfl (by kernel_rfl)
def mb:FSp:=⟨[(false,[.d false (.sl false (.st 5))]),(false,[.d true (.int .i64)]),(false,[.d true (.int .i64)]),(false,[.d true (.int .i64)]),(false,[.ptr 0 0]),(false,[.c (.func 47 [])])],[.pr (.int .i64)],[4],[.ld 0 false,.d true (.int .i64),.slot 0 false,.ld 1 false,.ptr 0 0,.slot 1 false,.pr (.int .i64)]⟩
def xb:List (Nat×Lb):=[]
def yY:List (Nat×VT):=[]
def iy:List TLane×Int×Int×Int×Int→Option (Int×Int):=fun (x:List TLane×Int×Int×Int×Int)=>(fj (x.fst,x.snd.fst,x.snd.snd.fst,x.snd.snd.snd.snd)).bind fun (x1:Int×Int×Int)=>(fj (x.fst,x1.snd.fst,x.snd.snd.snd.fst,x1.snd.snd)).bind fun (x2:Int×Int×Int)=>(fj (x.fst,x1.fst,x2.fst,x2.snd.snd)).bind fun (x3:Int×Int×Int)=>some (x3.snd.fst,x3.snd.snd)
theorem yr:vfn (T:=tE) lpK yY (aP [ti]) mb rf.res (vOf rf.code xb)=iy:=by kernel_rfl
abbrev jO:En tE:=⟨103,[(5,47)],mb,iy⟩
theorem rh:aq F tE 103 mb 6 iy:=by
 rw [← yr]
 exact af (fn:=rf) (aa (en:=ti) ae xC rfl) rfl (by kernel_rfl)
def ng:FSp:=⟨[(false,[.d false (.sl false (.st 5))]),(false,[.d true (.int .i64)]),(false,[.ptr 0 0]),(false,[.c (.func 47 [])])],[.pr (.int .i64)],[2],[.ld 0 false,.d true (.int .i64),.slot 0 false,.ld 1 false,.ptr 0 0,.slot 1 false,.pr (.int .i64)]⟩
def xj:List (Nat×Lb):=[]
def xa:List (Nat×VT):=[]
def fi:List TLane×Int×Int→Option (Int×Int):=fun (x:List TLane×Int×Int)=>(iy (x.fst,IntKind.i64.wrap (x.snd.fst - 1),x.snd.fst,IntKind.i64.wrap (x.snd.fst+1),x.snd.snd)).bind fun (x1:Int×Int)=>some (x1.fst,x1.snd)
theorem xE:vfn (T:=tE) lpK xa (aP [jO]) ng sF.res (vOf sF.code xj)=fi:=by kernel_rfl
abbrev tg:En tE:=⟨102,[(3,47)],ng,fi⟩
theorem xY:aq F tE 102 ng 4 fi:=by
 rw [← xE]
 exact af (fn:=sF) (aa (en:=jO) ae rh rfl) rfl (by kernel_rfl)
def mB:FSp:=⟨[(false,[.d false (.sl false (.st 5))]),(false,[.d true (.int .i64)]),(false,[.d true (.int .i64)]),(false,[.c (.func 47 [])])],[],[],[.ld 0 false,.d true (.int .i64),.slot 0 false,.ld 1 false,.d true (.int .i64),.slot 1 false]⟩
def xO:List (Nat×Lb):=[(6,.j [.ld 11 false,.ptr 0 0,.slot 11 false,.ld 13 false,.d true (.int .i64),.slot 13 false,.pr (.int .i64)]),(8,.j [.ld 0 false,.d false (.sl false (.st 5)),.slot 0 false,.ld 3 false,.c (.func 47 []),.slot 3 false,.ld 11 false,.ptr 0 0,.slot 11 false,.ld 12 false,.d true (.int .i64),.slot 12 false,.ld 13 false,.d true (.int .i64),.slot 13 false,.ld 14 false,.d true (.int .i64),.slot 14 false,.pr (.int .i64)])]
def yn:List (Nat×VT):=[]
def jS:List TLane×Int×Int→Option (Int×Int):=fun (x:List TLane×Int×Int)=>
  (pK IntKind.i64 (IntKind.i64.wrap (x.snd.snd - x.snd.fst)) 4).bind fun (n1:Int)=>
    (pK IntKind.i64 (IntKind.i64.wrap (x.snd.snd - x.snd.fst)) 4).bind fun (n2:Int)=>
      (pK IntKind.i64 (IntKind.i64.wrap (x.snd.snd - x.snd.fst)) 4).bind fun (n3:Int)=>
        (if 8≤IntKind.i64.wrap (x.snd.snd - x.snd.fst) then
              (if 50≤IntKind.i64.wrap (x.snd.snd - x.snd.fst) then (fi (x.fst,IntKind.i64.wrap (x.snd.fst+IntKind.i64.wrap (n1 * 1)),0)).bind fun (x4:Int×Int)=>(fi (x.fst,IntKind.i64.wrap (x.snd.fst+IntKind.i64.wrap (n2 * 2)),x4.snd)).bind fun (x5:Int×Int)=>(fi (x.fst,IntKind.i64.wrap (x.snd.fst+IntKind.i64.wrap (n3 * 3)),x5.snd)).bind fun (x6:Int×Int)=>some (Sum.inl (x.fst,x4.fst,x5.fst,x6.fst,x6.snd)) else some (Sum.inl (x.fst,IntKind.i64.wrap (x.snd.fst+IntKind.i64.wrap (n1 * 1)),IntKind.i64.wrap (x.snd.fst+IntKind.i64.wrap (n2 * 2)),IntKind.i64.wrap (x.snd.fst+IntKind.i64.wrap (n3 * 3)),0))).bind fun (x4:List TLane×Int×Int×Int×Int⊕Int×Int⊕Int×Int)=>
                match x4 with
                | Sum.inl x=>(iy (x.fst,x.snd.fst,x.snd.snd.fst,x.snd.snd.snd.fst,x.snd.snd.snd.snd)).bind fun (x6:Int×Int)=>some (Sum.inl (x6.fst,x6.snd))
                | Sum.inr r=>some r
            else some (Sum.inl (IntKind.i64.wrap (x.snd.fst+IntKind.i64.wrap (n2 * 2)),0))).bind
          fun (x4:Int×Int⊕Int×Int)=>
          match x4 with
          | Sum.inl x=>if x.snd=0 then some (x.fst,1) else if x.snd=12 then some (x.fst,2) else some (x.fst,0)
          | Sum.inr r=>some r
theorem yG:vfn (T:=tE) lpK yn (aP [tg,jO]) mB BA.res (vOf BA.code xO)=jS:=by kernel_rfl
abbrev td:En tE:=⟨86,[(3,47)],mB,jS⟩
theorem yZ:aq F tE 86 mB 4 jS:=by
 rw [← yG]
 exact af (fn:=BA) (aa (en:=tg) (aa (en:=jO) ae rh rfl) xY rfl) rfl (by kernel_rfl)
def nj:FSp:=⟨[(false,[.r 0]),(false,[.d true (.int .i64)]),(false,[.d true (.int .i64)]),(false,[.c (.func 47 [])])],[.sl (.st 5)],[0],[.ld 0 false,.r 0,.slot 0 false,.sl (.st 5)]⟩
def zM:List (Nat×Lb):=[(2,.l [] [.ld 0 false,.r 0,.slot 0 false,.ld 8 false,.d true (.int .i64),.slot 8 false,.ld 9 false,.d true (.int .i64),.slot 9 false,.sl (.st 5)] [(some 0,[.ld 0 false,.r 0,.slot 0 false,.sl (.st 5)])])]
def xy:List (Nat×VT):=[]
def jy:Int×Int×List TLane→Option (List TLane):=fun (x:Int×Int×List TLane)=>(aw (fun (x1:Int×Int×List TLane)=>if x1.fst < x1.snd.fst then (idx x1.snd.snd x1.snd.fst).bind fun (x2:TLane)=>(idx x1.snd.snd x1.fst).bind fun (x3:TLane)=>(idx x1.snd.snd x1.fst).bind fun (x4:TLane)=>(idx (x1.snd.snd.set x1.fst.toNat x2) x1.snd.fst).bind fun (x5:TLane)=>some (Sum.inl (IntKind.i64.wrap (x1.fst+1),IntKind.i64.wrap (x1.snd.fst - 1),(x1.snd.snd.set x1.fst.toNat x2).set x1.snd.fst.toNat x3)) else some (Sum.inr x1.snd.snd)) (x.fst,IntKind.i64.wrap (x.snd.fst - 1),x.snd.snd)).bind fun (l1:List TLane)=>some l1
theorem wb:vfn (T:=tE) lpK xy (aP []) nj A8.res (vOf A8.code zM)=jy:=by kernel_rfl
abbrev r9:En tE:=⟨87,[(3,47)],nj,jy⟩
theorem yg:aq F tE 87 nj 4 jy:=by
 rw [← wb]
 exact af (fn:=A8) ae rfl (by kernel_rfl)
def m8:FSp:=⟨[(false,[.r 0]),(false,[.d true (.int .i64)]),(false,[.d true (.int .i64)]),(false,[.c (.func 47 [])])],[.sl (.st 5)],[0],[.ld 0 false,.d true .bool,.slot 0 false,.ld 1 false,.r 0,.slot 1 false,.sl (.st 5)]⟩
def zr:List (Nat×Lb):=[(4,.l [.ld 1 false,.d true (.int .i64),.slot 1 false,.ld 2 false,.d true (.int .i64),.slot 2 false,.ld 3 false,.c (.func 47 []),.slot 3 false] [.ld 0 false,.r 0,.slot 0 false,.ld 8 false,.c (.bool false),.slot 8 false,.ld 9 false,.d true (.int .i64),.slot 9 false,.ld 10 false,.d true (.int .i64),.slot 10 false,.sl (.st 5)] [(some 0,[.ld 0 false,.r 0,.slot 0 false,.sl (.st 5)]),(none,[.ld 0 false,.r 0,.slot 0 false,.ld 8 false,.d true .bool,.slot 8 false,.sl (.st 5)])]),(9,.l [.ld 8 false,.c (.bool false),.slot 8 false,.ld 10 false,.d true (.int .i64),.slot 10 false] [.ld 0 false,.r 0,.slot 0 false,.ld 9 false,.d true (.int .i64),.slot 9 false,.sl (.st 5)] [(some 2,[.ld 0 false,.r 0,.slot 0 false,.ld 9 false,.d true (.int .i64),.slot 9 false,.sl (.st 5)])]),(11,.j [.ld 0 false,.r 0,.slot 0 false,.ld 9 false,.d true (.int .i64),.slot 9 false,.ld 36 false,.d true .bool,.slot 36 false,.sl (.st 5)]),(19,.j [.ld 0 false,.r 0,.slot 0 false,.ld 8 false,.c (.bool false),.slot 8 false,.ld 9 false,.d true (.int .i64),.slot 9 false,.ld 10 false,.d true (.int .i64),.slot 10 false,.sl (.st 5)]),(22,.l [.ld 8 false,.c (.bool false),.slot 8 false,.ld 9 false,.d true (.int .i64),.slot 9 false,.ld 10 false,.d true (.int .i64),.slot 10 false] [.ld 0 false,.r 0,.slot 0 false,.ld 11 false,.d true (.int .i64),.slot 11 false,.sl (.st 5)] [(some 4,[.ld 0 false,.r 0,.slot 0 false,.sl (.st 5)])]),(30,.l [.ld 8 false,.c (.bool false),.slot 8 false,.ld 9 false,.d true (.int .i64),.slot 9 false,.ld 10 false,.d true (.int .i64),.slot 10 false] [.ld 0 false,.r 0,.slot 0 false,.ld 12 false,.d true (.int .i64),.slot 12 false,.sl (.st 5)] [(some 6,[.ld 0 false,.r 0,.slot 0 false,.sl (.st 5)])])]
def wZ:List (Nat×VT):=[]
def jr:Int×Int×List TLane→Option (Bool×List TLane):=fun (x:Int×Int×List TLane)=>
  (aw
        (fun (x1:Int×Int×List TLane)=>
          if x1.snd.fst < 5 then
            (aw
                  (fun (x2:Int×List TLane)=>
                    (if x2.fst < x.snd.fst then (idx x2.snd x2.fst).bind fun (x3:TLane)=>(idx x2.snd (IntKind.i64.wrap (x2.fst - 1))).bind fun (x4:TLane)=>(p47 (x3.From,x3.To,x3.Ahead,x4.From,x4.To,x4.Ahead)).bind fun (n5:Int)=>some (Sum.inl (x2.fst,!decide (n5 < 0),x2.snd)) else some (Sum.inl (x2.fst,false,x2.snd))).bind fun (x3:Int×Bool×List TLane⊕Int×List TLane⊕Int×List TLane)=>
                      match x3 with
                      | Sum.inl x=>if x.snd.fst=true then some (Sum.inl (IntKind.i64.wrap (x.fst+1),x.snd.snd)) else some (Sum.inr (x.fst,x.snd.snd))
                      | Sum.inr r=>some r)
                  (x1.fst,x1.snd.snd)).bind
              fun (x2:Int×List TLane)=>
              if x2.fst=x.snd.fst then some (Sum.inr (Sum.inr (true,x2.snd)))
              else
                if IntKind.i64.wrap (x.snd.fst - x.fst) < 50 then some (Sum.inr (Sum.inr (false,x2.snd)))
                else
                  (idx x2.snd (IntKind.i64.wrap (x2.fst - 1))).bind fun (x3:TLane)=>
                    (idx x2.snd x2.fst).bind fun (x4:TLane)=>
                      (idx x2.snd x2.fst).bind fun (x5:TLane)=>
                        (idx (x2.snd.set x2.fst.toNat x3) (IntKind.i64.wrap (x2.fst - 1))).bind fun (x6:TLane)=>
                          (if 2≤IntKind.i64.wrap (x2.fst - x.fst) then (aw (fun (x7:Int×List TLane)=>if 1≤x7.fst then (idx x7.snd x7.fst).bind fun (x8:TLane)=>(idx x7.snd (IntKind.i64.wrap (x7.fst - 1))).bind fun (x9:TLane)=>(p47 (x8.From,x8.To,x8.Ahead,x9.From,x9.To,x9.Ahead)).bind fun (n10:Int)=>if (!decide (n10 < 0))=true then some (Sum.inr x7.snd) else (idx x7.snd (IntKind.i64.wrap (x7.fst - 1))).bind fun (x11:TLane)=>(idx x7.snd x7.fst).bind fun (x12:TLane)=>(idx x7.snd x7.fst).bind fun (x13:TLane)=>(idx (x7.snd.set x7.fst.toNat x11) (IntKind.i64.wrap (x7.fst - 1))).bind fun (x14:TLane)=>some (Sum.inl (IntKind.i64.wrap (x7.fst - 1),(x7.snd.set x7.fst.toNat x11).set (IntKind.i64.wrap (x7.fst - 1)).toNat x12)) else some (Sum.inr x7.snd)) (IntKind.i64.wrap (x2.fst - 1),(x2.snd.set x2.fst.toNat x3).set (IntKind.i64.wrap (x2.fst - 1)).toNat x4)).bind fun (l7:List TLane)=>some (Sum.inl (x2.fst,x1.snd.fst,l7)) else some (Sum.inl (x2.fst,x1.snd.fst,(x2.snd.set x2.fst.toNat x3).set (IntKind.i64.wrap (x2.fst - 1)).toNat x4))).bind fun (x7:Int×Int×List TLane⊕Int×Int×List TLane⊕List TLane⊕Bool×List TLane)=>
                            match x7 with
                            | Sum.inl x_1=>if 2≤IntKind.i64.wrap (x.snd.fst - x_1.fst) then (aw (fun (x9:Int×List TLane)=>if x9.fst < x.snd.fst then (idx x9.snd x9.fst).bind fun (x10:TLane)=>(idx x9.snd (IntKind.i64.wrap (x9.fst - 1))).bind fun (x11:TLane)=>(p47 (x10.From,x10.To,x10.Ahead,x11.From,x11.To,x11.Ahead)).bind fun (n12:Int)=>if (!decide (n12 < 0))=true then some (Sum.inr x9.snd) else (idx x9.snd (IntKind.i64.wrap (x9.fst - 1))).bind fun (x13:TLane)=>(idx x9.snd x9.fst).bind fun (x14:TLane)=>(idx x9.snd x9.fst).bind fun (x15:TLane)=>(idx (x9.snd.set x9.fst.toNat x13) (IntKind.i64.wrap (x9.fst - 1))).bind fun (x16:TLane)=>some (Sum.inl (IntKind.i64.wrap (x9.fst+1),(x9.snd.set x9.fst.toNat x13).set (IntKind.i64.wrap (x9.fst - 1)).toNat x14)) else some (Sum.inr x9.snd)) (IntKind.i64.wrap (x_1.fst+1),x_1.snd.snd)).bind fun (l9:List TLane)=>some (Sum.inl (x_1.fst,IntKind.i64.wrap (x_1.snd.fst+1),l9)) else some (Sum.inl (x_1.fst,IntKind.i64.wrap (x_1.snd.fst+1),x_1.snd.snd))
                            | Sum.inr r=>some r
          else some (Sum.inr (Sum.inl x1.snd.snd)))
        (IntKind.i64.wrap (x.fst+1),0,x.snd.snd)).bind
    fun (x1:List TLane⊕Bool×List TLane)=>
    match x1 with
    | Sum.inl x=>some (false,x)
    | Sum.inr y=>some (y.fst,y.snd)
theorem xX:vfn (T:=tE) lpK wZ (aP [n47]) m8 B7.res (vOf B7.code zr)=jr:=by kernel_rfl
abbrev pL:En tE:=⟨88,[(3,47)],m8,jr⟩
theorem zN:aq F tE 88 m8 4 jr:=by
 rw [← xX]
 exact af (fn:=B7) (aa (en:=n47) ae o47 rfl) rfl (by kernel_rfl)
def mH:FSp:=⟨[(false,[.r 0]),(false,[.d true (.int .i64)]),(false,[.d true (.int .i64)]),(false,[.d true (.int .i64)]),(false,[.c (.func 47 [])])],[.sl (.st 5)],[0],[.ld 0 false,.d true (.int .i64),.slot 0 false,.ld 1 false,.r 0,.slot 1 false,.sl (.st 5)]⟩
def zD:List (Nat×Lb):=[(4,.l [.ld 1 false,.d true (.int .i64),.slot 1 false,.ld 4 false,.c (.func 47 []),.slot 4 false] [.ld 0 false,.r 0,.slot 0 false,.ld 11 false,.d true (.int .i64),.slot 11 false,.ld 12 false,.d true (.int .i64),.slot 12 false,.sl (.st 5)] [(some 0,[.ld 0 false,.r 0,.slot 0 false,.ld 11 false,.d true (.int .i64),.slot 11 false,.sl (.st 5)])]),(6,.l [.ld 12 false,.d true (.int .i64),.slot 12 false] [.ld 0 false,.r 0,.slot 0 false,.ld 11 false,.d true (.int .i64),.slot 11 false,.sl (.st 5)] [(some 2,[.ld 0 false,.r 0,.slot 0 false,.ld 11 false,.d true (.int .i64),.slot 11 false,.sl (.st 5)])]),(8,.j [.ld 0 false,.r 0,.slot 0 false,.ld 11 false,.d true (.int .i64),.slot 11 false,.ld 47 false,.d true .bool,.slot 47 false,.sl (.st 5)]),(10,.l [.ld 11 false,.d true (.int .i64),.slot 11 false] [.ld 0 false,.r 0,.slot 0 false,.ld 12 false,.d true (.int .i64),.slot 12 false,.sl (.st 5)] [(some 4,[.ld 0 false,.r 0,.slot 0 false,.ld 12 false,.d true (.int .i64),.slot 12 false,.sl (.st 5)])]),(12,.j [.ld 0 false,.r 0,.slot 0 false,.ld 12 false,.d true (.int .i64),.slot 12 false,.ld 65 false,.d true .bool,.slot 65 false,.sl (.st 5)])]
def wx:List (Nat×VT):=[]
def ke:Int×Int×Int×List TLane→Option (Int×List TLane):=fun (x:Int×Int×Int×List TLane)=>
  (idx x.snd.snd.snd x.snd.snd.fst).bind fun (x1:TLane)=>
    (idx x.snd.snd.snd x.fst).bind fun (x2:TLane)=>
      (idx x.snd.snd.snd x.fst).bind fun (x3:TLane)=>
        (idx (x.snd.snd.snd.set x.fst.toNat x1) x.snd.snd.fst).bind fun (x4:TLane)=>
          (aw
                (fun (x5:Int×Int×List TLane)=>
                  (aw
                        (fun (x6:Int×List TLane)=>
                          (if x6.fst≤x5.snd.fst then (idx x6.snd x.fst).bind fun (x7:TLane)=>(idx x6.snd x6.fst).bind fun (x8:TLane)=>(p47 (x7.From,x7.To,x7.Ahead,x8.From,x8.To,x8.Ahead)).bind fun (n9:Int)=>some (Sum.inl (x6.fst,!decide (n9 < 0),x6.snd)) else some (Sum.inl (x6.fst,false,x6.snd))).bind fun (x7:Int×Bool×List TLane⊕Int×List TLane⊕Int×List TLane)=>
                            match x7 with
                            | Sum.inl x=>if x.snd.fst=true then some (Sum.inl (IntKind.i64.wrap (x.fst+1),x.snd.snd)) else some (Sum.inr (x.fst,x.snd.snd))
                            | Sum.inr r=>some r)
                        (x5.fst,x5.snd.snd)).bind
                    fun (x6:Int×List TLane)=>
                    (aw
                          (fun (x7:Int×List TLane)=>
                            (if x6.fst≤x7.fst then (idx x7.snd x.fst).bind fun (x8:TLane)=>(idx x7.snd x7.fst).bind fun (x9:TLane)=>(p47 (x8.From,x8.To,x8.Ahead,x9.From,x9.To,x9.Ahead)).bind fun (n10:Int)=>some (Sum.inl (x7.fst,decide (n10 < 0),x7.snd)) else some (Sum.inl (x7.fst,false,x7.snd))).bind fun (x8:Int×Bool×List TLane⊕Int×List TLane⊕Int×List TLane)=>
                              match x8 with
                              | Sum.inl x=>if x.snd.fst=true then some (Sum.inl (IntKind.i64.wrap (x.fst - 1),x.snd.snd)) else some (Sum.inr (x.fst,x.snd.snd))
                              | Sum.inr r=>some r)
                          (x5.snd.fst,x6.snd)).bind
                      fun (x7:Int×List TLane)=>if x7.fst < x6.fst then some (Sum.inr (x6.fst,x7.snd)) else (idx x7.snd x7.fst).bind fun (x8:TLane)=>(idx x7.snd x6.fst).bind fun (x9:TLane)=>(idx x7.snd x6.fst).bind fun (x10:TLane)=>(idx (x7.snd.set x6.fst.toNat x8) x7.fst).bind fun (x11:TLane)=>some (Sum.inl (IntKind.i64.wrap (x6.fst+1),IntKind.i64.wrap (x7.fst - 1),(x7.snd.set x6.fst.toNat x8).set x7.fst.toNat x9)))
                (IntKind.i64.wrap (x.fst+1),IntKind.i64.wrap (x.snd.fst - 1),(x.snd.snd.snd.set x.fst.toNat x1).set x.snd.snd.fst.toNat x2)).bind
            fun (x5:Int×List TLane)=>some (x5.fst,x5.snd)
theorem wk:vfn (T:=tE) lpK wx (aP [n47]) mH Cq.res (vOf Cq.code zD)=ke:=by kernel_rfl
abbrev qO:En tE:=⟨89,[(4,47)],mH,ke⟩
theorem zt:aq F tE 89 mH 5 ke:=by
 rw [← wk]
 exact af (fn:=Cq) (aa (en:=n47) ae o47 rfl) rfl (by kernel_rfl)
def mD:FSp:=⟨[(false,[.r 0]),(false,[.d true (.int .i64)]),(false,[.d true (.int .i64)]),(false,[.d true (.int .i64)]),(false,[.c (.func 47 [])])],[.sl (.st 5)],[0],[.ld 0 false,.d true (.int .i64),.slot 0 false,.ld 1 false,.d true .bool,.slot 1 false,.ld 2 false,.r 0,.slot 2 false,.sl (.st 5)]⟩
def zA:List (Nat×Lb):=[(4,.l [.ld 1 false,.d true (.int .i64),.slot 1 false,.ld 4 false,.c (.func 47 []),.slot 4 false,.ld 13 false,.d true (.int .i64),.slot 13 false] [.ld 0 false,.r 0,.slot 0 false,.ld 12 false,.d true (.int .i64),.slot 12 false,.sl (.st 5)] [(some 0,[.ld 0 false,.r 0,.slot 0 false,.ld 12 false,.d true (.int .i64),.slot 12 false,.sl (.st 5)])]),(6,.j [.ld 0 false,.r 0,.slot 0 false,.ld 12 false,.d true (.int .i64),.slot 12 false,.ld 47 false,.d true .bool,.slot 47 false,.sl (.st 5)]),(8,.l [.ld 1 false,.d true (.int .i64),.slot 1 false,.ld 4 false,.c (.func 47 []),.slot 4 false,.ld 12 false,.d true (.int .i64),.slot 12 false] [.ld 0 false,.r 0,.slot 0 false,.ld 13 false,.d true (.int .i64),.slot 13 false,.sl (.st 5)] [(some 2,[.ld 0 false,.r 0,.slot 0 false,.ld 13 false,.d true (.int .i64),.slot 13 false,.sl (.st 5)])]),(10,.j [.ld 0 false,.r 0,.slot 0 false,.ld 13 false,.d true (.int .i64),.slot 13 false,.ld 66 false,.d true .bool,.slot 66 false,.sl (.st 5)]),(19,.l [.ld 1 false,.d true (.int .i64),.slot 1 false,.ld 4 false,.c (.func 47 []),.slot 4 false] [.ld 0 false,.r 0,.slot 0 false,.ld 12 false,.d true (.int .i64),.slot 12 false,.ld 13 false,.d true (.int .i64),.slot 13 false,.sl (.st 5)] [(some 4,[.ld 0 false,.r 0,.slot 0 false,.ld 13 false,.d true (.int .i64),.slot 13 false,.sl (.st 5)])]),(21,.l [.ld 13 false,.d true (.int .i64),.slot 13 false] [.ld 0 false,.r 0,.slot 0 false,.ld 12 false,.d true (.int .i64),.slot 12 false,.sl (.st 5)] [(some 6,[.ld 0 false,.r 0,.slot 0 false,.ld 12 false,.d true (.int .i64),.slot 12 false,.sl (.st 5)])]),(23,.j [.ld 0 false,.r 0,.slot 0 false,.ld 12 false,.d true (.int .i64),.slot 12 false,.ld 120 false,.d true .bool,.slot 120 false,.sl (.st 5)]),(25,.l [.ld 12 false,.d true (.int .i64),.slot 12 false] [.ld 0 false,.r 0,.slot 0 false,.ld 13 false,.d true (.int .i64),.slot 13 false,.sl (.st 5)] [(some 8,[.ld 0 false,.r 0,.slot 0 false,.ld 13 false,.d true (.int .i64),.slot 13 false,.sl (.st 5)])]),(27,.j [.ld 0 false,.r 0,.slot 0 false,.ld 13 false,.d true (.int .i64),.slot 13 false,.ld 139 false,.d true .bool,.slot 139 false,.sl (.st 5)])]
def yB:List (Nat×VT):=[]
def j5:Int×Int×Int×List TLane→Option (Int×Bool×List TLane):=fun (x:Int×Int×Int×List TLane)=>
  (idx x.snd.snd.snd x.snd.snd.fst).bind fun (x1:TLane)=>
    (idx x.snd.snd.snd x.fst).bind fun (x2:TLane)=>
      (idx x.snd.snd.snd x.fst).bind fun (x3:TLane)=>
        (idx (x.snd.snd.snd.set x.fst.toNat x1) x.snd.snd.fst).bind fun (x4:TLane)=>
          (aw
                (fun (x5:Int×List TLane)=>
                  (if x5.fst≤IntKind.i64.wrap (x.snd.fst - 1) then (idx x5.snd x5.fst).bind fun (x6:TLane)=>(idx x5.snd x.fst).bind fun (x7:TLane)=>(p47 (x6.From,x6.To,x6.Ahead,x7.From,x7.To,x7.Ahead)).bind fun (n8:Int)=>some (Sum.inl (x5.fst,decide (n8 < 0),x5.snd)) else some (Sum.inl (x5.fst,false,x5.snd))).bind fun (x6:Int×Bool×List TLane⊕Int×List TLane⊕Int×List TLane)=>
                    match x6 with
                    | Sum.inl x=>if x.snd.fst=true then some (Sum.inl (IntKind.i64.wrap (x.fst+1),x.snd.snd)) else some (Sum.inr (x.fst,x.snd.snd))
                    | Sum.inr r=>some r)
                (IntKind.i64.wrap (x.fst+1),(x.snd.snd.snd.set x.fst.toNat x1).set x.snd.snd.fst.toNat x2)).bind
            fun (x5:Int×List TLane)=>
            (aw
                  (fun (x6:Int×List TLane)=>
                    (if x5.fst≤x6.fst then (idx x6.snd x6.fst).bind fun (x7:TLane)=>(idx x6.snd x.fst).bind fun (x8:TLane)=>(p47 (x7.From,x7.To,x7.Ahead,x8.From,x8.To,x8.Ahead)).bind fun (n9:Int)=>some (Sum.inl (x6.fst,!decide (n9 < 0),x6.snd)) else some (Sum.inl (x6.fst,false,x6.snd))).bind fun (x7:Int×Bool×List TLane⊕Int×List TLane⊕Int×List TLane)=>
                      match x7 with
                      | Sum.inl x=>if x.snd.fst=true then some (Sum.inl (IntKind.i64.wrap (x.fst - 1),x.snd.snd)) else some (Sum.inr (x.fst,x.snd.snd))
                      | Sum.inr r=>some r)
                  (IntKind.i64.wrap (x.snd.fst - 1),x5.snd)).bind
              fun (x6:Int×List TLane)=>
              if x6.fst < x5.fst then (idx x6.snd x.fst).bind fun (x7:TLane)=>(idx x6.snd x6.fst).bind fun (x8:TLane)=>(idx x6.snd x6.fst).bind fun (x9:TLane)=>(idx (x6.snd.set x6.fst.toNat x7) x.fst).bind fun (x10:TLane)=>some (x6.fst,true,(x6.snd.set x6.fst.toNat x7).set x.fst.toNat x8)
              else
                (idx x6.snd x6.fst).bind fun (x7:TLane)=>
                  (idx x6.snd x5.fst).bind fun (x8:TLane)=>
                    (idx x6.snd x5.fst).bind fun (x9:TLane)=>
                      (idx (x6.snd.set x5.fst.toNat x7) x6.fst).bind fun (x10:TLane)=>
                        (aw
                              (fun (x11:Int×Int×List TLane)=>
                                (aw
                                      (fun (x12:Int×List TLane)=>
                                        (if x12.fst≤x11.snd.fst then (idx x12.snd x12.fst).bind fun (x13:TLane)=>(idx x12.snd x.fst).bind fun (x14:TLane)=>(p47 (x13.From,x13.To,x13.Ahead,x14.From,x14.To,x14.Ahead)).bind fun (n15:Int)=>some (Sum.inl (x12.fst,decide (n15 < 0),x12.snd)) else some (Sum.inl (x12.fst,false,x12.snd))).bind fun (x13:Int×Bool×List TLane⊕Int×List TLane⊕Int×List TLane)=>
                                          match x13 with
                                          | Sum.inl x=>if x.snd.fst=true then some (Sum.inl (IntKind.i64.wrap (x.fst+1),x.snd.snd)) else some (Sum.inr (x.fst,x.snd.snd))
                                          | Sum.inr r=>some r)
                                      (x11.fst,x11.snd.snd)).bind
                                  fun (x12:Int×List TLane)=>
                                  (aw
                                        (fun (x13:Int×List TLane)=>
                                          (if x12.fst≤x13.fst then (idx x13.snd x13.fst).bind fun (x14:TLane)=>(idx x13.snd x.fst).bind fun (x15:TLane)=>(p47 (x14.From,x14.To,x14.Ahead,x15.From,x15.To,x15.Ahead)).bind fun (n16:Int)=>some (Sum.inl (x13.fst,!decide (n16 < 0),x13.snd)) else some (Sum.inl (x13.fst,false,x13.snd))).bind fun (x14:Int×Bool×List TLane⊕Int×List TLane⊕Int×List TLane)=>
                                            match x14 with
                                            | Sum.inl x=>if x.snd.fst=true then some (Sum.inl (IntKind.i64.wrap (x.fst - 1),x.snd.snd)) else some (Sum.inr (x.fst,x.snd.snd))
                                            | Sum.inr r=>some r)
                                        (x11.snd.fst,x12.snd)).bind
                                    fun (x13:Int×List TLane)=>if x13.fst < x12.fst then some (Sum.inr (x13.fst,x13.snd)) else (idx x13.snd x13.fst).bind fun (x14:TLane)=>(idx x13.snd x12.fst).bind fun (x15:TLane)=>(idx x13.snd x12.fst).bind fun (x16:TLane)=>(idx (x13.snd.set x12.fst.toNat x14) x13.fst).bind fun (x17:TLane)=>some (Sum.inl (IntKind.i64.wrap (x12.fst+1),IntKind.i64.wrap (x13.fst - 1),(x13.snd.set x12.fst.toNat x14).set x13.fst.toNat x15)))
                              (IntKind.i64.wrap (x5.fst+1),IntKind.i64.wrap (x6.fst - 1),(x6.snd.set x5.fst.toNat x7).set x6.fst.toNat x8)).bind
                          fun (x11:Int×List TLane)=>(idx x11.snd x.fst).bind fun (x12:TLane)=>(idx x11.snd x11.fst).bind fun (x13:TLane)=>(idx x11.snd x11.fst).bind fun (x14:TLane)=>(idx (x11.snd.set x11.fst.toNat x12) x.fst).bind fun (x15:TLane)=>some (x11.fst,false,(x11.snd.set x11.fst.toNat x12).set x.fst.toNat x13)
theorem yD:vfn (T:=tE) lpK yB (aP [n47]) mD Be.res (vOf Be.code zA)=j5:=by kernel_rfl
abbrev p8:En tE:=⟨90,[(4,47)],mD,j5⟩
theorem wQ:aq F tE 90 mD 5 j5:=by
 rw [← yD]
 exact af (fn:=Be) (aa (en:=n47) ae o47 rfl) rfl (by kernel_rfl)
def mY:FSp:=⟨[(false,[.r 0]),(false,[.d true (.int .i64)]),(false,[.d true (.int .i64)]),(false,[.c (.func 47 [])])],[.sl (.st 5)],[0],[.ld 0 false,.r 0,.slot 0 false,.sl (.st 5)]⟩
def xW:List (Nat×Lb):=[(5,.l [.ld 1 false,.d true (.int .i64),.slot 1 false,.ld 8 false,.d true (.int .i64),.slot 8 false,.ld 10 false,.d true (.int .u64),.slot 10 false] [.ld 0 false,.r 0,.slot 0 false,.ld 9 false,.ptr 1 0,.slot 9 false,.ld 11 false,.d true (.int .i64),.slot 11 false,.sl (.st 5),.pr (.int .u64)] [(some 0,[.ld 0 false,.r 0,.slot 0 false,.sl (.st 5)])]),(10,.j [.ld 0 false,.r 0,.slot 0 false,.ld 9 false,.ptr 1 0,.slot 9 false,.ld 11 false,.d true (.int .i64),.slot 11 false,.ld 12 false,.d true (.int .i64),.slot 12 false,.sl (.st 5),.pr (.int .u64)])]
def vO:List (Nat×VT):=[]
def kC:Int×Int×List TLane→Option (List TLane):=fun (x:Int×Int×List TLane)=>
  if 8≤IntKind.i64.wrap (x.snd.fst - x.fst) then
    (C0 (IntKind.i64.wrap (x.snd.fst - x.fst))).bind fun (n1:Int)=>
      (pK IntKind.i64 (IntKind.i64.wrap (x.snd.fst - x.fst)) 4).bind fun (n2:Int)=>
        (aw
              (fun (x3:Int×List TLane×Int)=>
                (pK IntKind.i64 (IntKind.i64.wrap (x.snd.fst - x.fst)) 4).bind fun (n4:Int)=>
                  if x3.fst≤IntKind.i64.wrap (IntKind.i64.wrap (x.fst+IntKind.i64.wrap (n4 * 2))+1) then
                    (CM x3.snd.snd).bind fun (x5:Int×Int)=>
                      (if IntKind.i64.wrap (x.snd.fst - x.fst)≤IntKind.i64.wrap (IntKind.u64.wrap (↑(BitVec.ofInt IntKind.u64.bits x5.fst &&& BitVec.ofInt IntKind.u64.bits (IntKind.u64.wrap (n1 - 1))).toNat:Int)) then some (Sum.inl (x3.fst,IntKind.i64.wrap (IntKind.i64.wrap (IntKind.u64.wrap (↑(BitVec.ofInt IntKind.u64.bits x5.fst &&& BitVec.ofInt IntKind.u64.bits (IntKind.u64.wrap (n1 - 1))).toNat:Int)) - IntKind.i64.wrap (x.snd.fst - x.fst)),x3.snd.fst,x5.snd)) else some (Sum.inl (x3.fst,IntKind.i64.wrap (IntKind.u64.wrap (↑(BitVec.ofInt IntKind.u64.bits x5.fst &&& BitVec.ofInt IntKind.u64.bits (IntKind.u64.wrap (n1 - 1))).toNat:Int)),x3.snd.fst,x5.snd))).bind fun (x6:Int×Int×List TLane×Int⊕Int×List TLane×Int⊕List TLane)=>
                        match x6 with
                        | Sum.inl x_1=>(idx x_1.snd.snd.fst (IntKind.i64.wrap (x.fst+x_1.snd.fst))).bind fun (x8:TLane)=>(idx x_1.snd.snd.fst x_1.fst).bind fun (x9:TLane)=>(idx x_1.snd.snd.fst x_1.fst).bind fun (x10:TLane)=>(idx (x_1.snd.snd.fst.set x_1.fst.toNat x8) (IntKind.i64.wrap (x.fst+x_1.snd.fst))).bind fun (x11:TLane)=>some (Sum.inl (IntKind.i64.wrap (x_1.fst+1),(x_1.snd.snd.fst.set x_1.fst.toNat x8).set (IntKind.i64.wrap (x.fst+x_1.snd.fst)).toNat x9,x_1.snd.snd.snd))
                        | Sum.inr r=>some r
                  else some (Sum.inr x3.snd.fst))
              (IntKind.i64.wrap (IntKind.i64.wrap (x.fst+IntKind.i64.wrap (n2 * 2)) - 1),x.snd.snd,IntKind.u64.wrap (IntKind.i64.wrap (x.snd.fst - x.fst)))).bind
          fun (l3:List TLane)=>some l3
  else some x.snd.snd
theorem yj:vfn (T:=tE) lpK vO (aP [EB,EK]) mY Co.res (vOf Co.code xW)=kC:=by kernel_rfl
abbrev sT:En tE:=⟨85,[(3,47)],mY,kC⟩
theorem yi:aq F tE 85 mY 4 kC:=by
 rw [← yj]
 exact af (fn:=Co) (aa (en:=EB) (aa (en:=EK) ae Hj rfl) FQ rfl) rfl (by kernel_rfl)
def jo:FSp:=⟨[(false,[.r 0]),(false,[.d true (.int .i64)]),(false,[.d true (.int .i64)]),(false,[.d true (.int .i64)]),(false,[.c (.func 47 [])])],[.sl (.st 5)],[0],[.ld 0 false,.r 0,.slot 0 false,.sl (.st 5)]⟩
def zg:List (Nat×Lb):=[(2,.l [.ld 4 false,.c (.func 47 []),.slot 4 false] [.ld 0 false,.r 0,.slot 0 false,.ld 1 false,.d true (.int .i64),.slot 1 false,.ld 2 false,.d true (.int .i64),.slot 2 false,.ld 3 false,.d true (.int .i64),.slot 3 false,.ld 10 false,.d true .bool,.slot 10 false,.ld 11 false,.d true .bool,.slot 11 false,.sl (.st 5)] [(none,[.ld 0 false,.r 0,.slot 0 false,.sl (.st 5)])]),(10,.j [.ld 0 false,.r 0,.slot 0 false,.ld 1 false,.d true (.int .i64),.slot 1 false,.ld 2 false,.d true (.int .i64),.slot 2 false,.ld 3 false,.d true (.int .i64),.slot 3 false,.ld 10 false,.d true .bool,.slot 10 false,.ld 11 false,.d true .bool,.slot 11 false,.ld 12 false,.d true (.int .i64),.slot 12 false,.sl (.st 5)]),(14,.j [.ld 0 false,.r 0,.slot 0 false,.ld 1 false,.d true (.int .i64),.slot 1 false,.ld 2 false,.d true (.int .i64),.slot 2 false,.ld 3 false,.d true (.int .i64),.slot 3 false,.ld 10 false,.d true .bool,.slot 10 false,.ld 11 false,.d true .bool,.slot 11 false,.ld 12 false,.d true (.int .i64),.slot 12 false,.ld 13 false,.d true (.int .i64),.slot 13 false,.ld 14 false,.d true (.int .i64),.slot 14 false,.sl (.st 5)]),(18,.j [.ld 0 false,.r 0,.slot 0 false,.ld 1 false,.d true (.int .i64),.slot 1 false,.ld 2 false,.d true (.int .i64),.slot 2 false,.ld 3 false,.d true (.int .i64),.slot 3 false,.ld 10 false,.d true .bool,.slot 10 false,.ld 11 false,.d true .bool,.slot 11 false,.ld 12 false,.d true (.int .i64),.slot 12 false,.ld 13 false,.d true (.int .i64),.slot 13 false,.sl (.st 5)]),(19,.j [.ld 0 false,.r 0,.slot 0 false,.ld 1 false,.d true (.int .i64),.slot 1 false,.ld 2 false,.d true (.int .i64),.slot 2 false,.ld 3 false,.d true (.int .i64),.slot 3 false,.ld 10 false,.d true .bool,.slot 10 false,.ld 11 false,.d true .bool,.slot 11 false,.ld 12 false,.d true (.int .i64),.slot 12 false,.ld 13 false,.d true (.int .i64),.slot 13 false,.ld 75 false,.d true .bool,.slot 75 false,.sl (.st 5)]),(22,.j [.ld 0 false,.r 0,.slot 0 false,.ld 1 false,.d true (.int .i64),.slot 1 false,.ld 2 false,.d true (.int .i64),.slot 2 false,.ld 3 false,.d true (.int .i64),.slot 3 false,.ld 10 false,.d true .bool,.slot 10 false,.ld 11 false,.d true .bool,.slot 11 false,.ld 12 false,.d true (.int .i64),.slot 12 false,.ld 13 false,.d true (.int .i64),.slot 13 false,.ld 97 false,.d true .bool,.slot 97 false,.sl (.st 5)])]
def zq:List (Nat×VT):=[]
def rN:(Int×Int×Int×List TLane→Option (List TLane))→Int×Int×Int×List TLane→Option (List TLane):=fun (g:Int×Int×Int×List TLane→Option (List TLane)) (x:Int×Int×Int×List TLane)=>
  (aw
        (fun (x2:Int×Int×Int×Bool×Bool×List TLane)=>
          if IntKind.i64.wrap (x2.snd.fst - x2.fst)≤12 then (ki (x2.fst,x2.snd.fst,x2.snd.snd.snd.snd.snd)).bind fun (l3:List TLane)=>some (Sum.inr l3)
          else
            if x2.snd.snd.fst=0 then (jA (x2.fst,x2.snd.fst,x2.snd.snd.snd.snd.snd)).bind fun (l3:List TLane)=>some (Sum.inr l3)
            else
              (if (!x2.snd.snd.snd.fst)=true then (kC (x2.fst,x2.snd.fst,x2.snd.snd.snd.snd.snd)).bind fun (l3:List TLane)=>some (Sum.inl (x2.fst,x2.snd.fst,IntKind.i64.wrap (x2.snd.snd.fst - 1),x2.snd.snd.snd.fst,x2.snd.snd.snd.snd.fst,IntKind.i64.wrap (x2.snd.fst - x2.fst),l3)) else some (Sum.inl (x2.fst,x2.snd.fst,x2.snd.snd.fst,x2.snd.snd.snd.fst,x2.snd.snd.snd.snd.fst,IntKind.i64.wrap (x2.snd.fst - x2.fst),x2.snd.snd.snd.snd.snd))).bind fun (x3:Int×Int×Int×Bool×Bool×Int×List TLane⊕Int×Int×Int×Bool×Bool×List TLane⊕List TLane)=>
                match x3 with
                | Sum.inl x=>
                  (jS (x.snd.snd.snd.snd.snd.snd,x.fst,x.snd.fst)).bind fun (x5:Int×Int)=>
                    (if x5.snd=2 then (jy (x.fst,x.snd.fst,x.snd.snd.snd.snd.snd.snd)).bind fun (l6:List TLane)=>some (Sum.inl (x.fst,x.snd.fst,x.snd.snd.fst,x.snd.snd.snd.fst,x.snd.snd.snd.snd.fst,x.snd.snd.snd.snd.snd.fst,IntKind.i64.wrap (IntKind.i64.wrap (x.snd.fst - 1) - IntKind.i64.wrap (x5.fst - x.fst)),1,l6)) else some (Sum.inl (x.fst,x.snd.fst,x.snd.snd.fst,x.snd.snd.snd.fst,x.snd.snd.snd.snd.fst,x.snd.snd.snd.snd.snd.fst,x5.fst,x5.snd,x.snd.snd.snd.snd.snd.snd))).bind fun (x6:Int×Int×Int×Bool×Bool×Int×Int×Int×List TLane⊕Int×Int×Int×Bool×Bool×List TLane⊕List TLane)=>
                      match x6 with
                      | Sum.inl x=>
                        ((if x.snd.snd.snd.fst=true then if x.snd.snd.snd.snd.fst=true then some (Sum.inl (x.fst,x.snd.fst,x.snd.snd.fst,x.snd.snd.snd.fst,x.snd.snd.snd.snd.fst,x.snd.snd.snd.snd.snd.fst,x.snd.snd.snd.snd.snd.snd.fst,decide (x.snd.snd.snd.snd.snd.snd.snd.fst=1),x.snd.snd.snd.snd.snd.snd.snd.snd)) else some (Sum.inl (x.fst,x.snd.fst,x.snd.snd.fst,x.snd.snd.snd.fst,x.snd.snd.snd.snd.fst,x.snd.snd.snd.snd.snd.fst,x.snd.snd.snd.snd.snd.snd.fst,false,x.snd.snd.snd.snd.snd.snd.snd.snd)) else some (Sum.inl (x.fst,x.snd.fst,x.snd.snd.fst,x.snd.snd.snd.fst,x.snd.snd.snd.snd.fst,x.snd.snd.snd.snd.snd.fst,x.snd.snd.snd.snd.snd.snd.fst,false,x.snd.snd.snd.snd.snd.snd.snd.snd))).bind fun (x8:Int×Int×Int×Bool×Bool×Int×Int×Bool×List TLane⊕Int×Int×Int×Bool×Bool×Int×Int×List TLane⊕Int×Int×Int×Bool×Bool×List TLane⊕List TLane)=>
                              match x8 with
                              | Sum.inl x=>if x.snd.snd.snd.snd.snd.snd.snd.fst=true then (jr (x.fst,x.snd.fst,x.snd.snd.snd.snd.snd.snd.snd.snd)).bind fun (x10:Bool×List TLane)=>if x10.fst=true then some (Sum.inr (Sum.inr x10.snd)) else some (Sum.inl (x.fst,x.snd.fst,x.snd.snd.fst,x.snd.snd.snd.fst,x.snd.snd.snd.snd.fst,x.snd.snd.snd.snd.snd.fst,x.snd.snd.snd.snd.snd.snd.fst,x10.snd)) else some (Sum.inl (x.fst,x.snd.fst,x.snd.snd.fst,x.snd.snd.snd.fst,x.snd.snd.snd.snd.fst,x.snd.snd.snd.snd.snd.fst,x.snd.snd.snd.snd.snd.snd.fst,x.snd.snd.snd.snd.snd.snd.snd.snd))
                              | Sum.inr r=>some r).bind
                          fun (x8:Int×Int×Int×Bool×Bool×Int×Int×List TLane⊕Int×Int×Int×Bool×Bool×List TLane⊕List TLane)=>
                          match x8 with
                          | Sum.inl x=>
                            (if 0 < x.fst then (idx x.snd.snd.snd.snd.snd.snd.snd (IntKind.i64.wrap (x.fst - 1))).bind fun (x10:TLane)=>(idx x.snd.snd.snd.snd.snd.snd.snd x.snd.snd.snd.snd.snd.snd.fst).bind fun (x11:TLane)=>(p47 (x10.From,x10.To,x10.Ahead,x11.From,x11.To,x11.Ahead)).bind fun (n12:Int)=>some (Sum.inl (x.fst,x.snd.fst,x.snd.snd.fst,x.snd.snd.snd.fst,x.snd.snd.snd.snd.fst,x.snd.snd.snd.snd.snd.fst,x.snd.snd.snd.snd.snd.snd.fst,!decide (n12 < 0),x.snd.snd.snd.snd.snd.snd.snd)) else some (Sum.inl (x.fst,x.snd.fst,x.snd.snd.fst,x.snd.snd.snd.fst,x.snd.snd.snd.snd.fst,x.snd.snd.snd.snd.snd.fst,x.snd.snd.snd.snd.snd.snd.fst,false,x.snd.snd.snd.snd.snd.snd.snd))).bind fun (x10:Int×Int×Int×Bool×Bool×Int×Int×Bool×List TLane⊕Int×Int×Int×Bool×Bool×List TLane⊕List TLane)=>
                              match x10 with
                              | Sum.inl x=>if x.snd.snd.snd.snd.snd.snd.snd.fst=true then (ke (x.fst,x.snd.fst,x.snd.snd.snd.snd.snd.snd.fst,x.snd.snd.snd.snd.snd.snd.snd.snd)).bind fun (x12:Int×List TLane)=>some (Sum.inl (x12.fst,x.snd.fst,x.snd.snd.fst,x.snd.snd.snd.fst,x.snd.snd.snd.snd.fst,x12.snd)) else (j5 (x.fst,x.snd.fst,x.snd.snd.snd.snd.snd.snd.fst,x.snd.snd.snd.snd.snd.snd.snd.snd)).bind fun (x12:Int×Bool×List TLane)=>(pK IntKind.i64 x.snd.snd.snd.snd.snd.fst 8).bind fun (n13:Int)=>if IntKind.i64.wrap (x12.fst - x.fst) < IntKind.i64.wrap (x.snd.fst - x12.fst) then (g (x.fst,x12.fst,x.snd.snd.fst,x12.snd.snd)).bind fun (l14:List TLane)=>some (Sum.inl (IntKind.i64.wrap (x12.fst+1),x.snd.fst,x.snd.snd.fst,decide (n13≤IntKind.i64.wrap (x12.fst - x.fst)),x12.snd.fst,l14)) else (g (IntKind.i64.wrap (x12.fst+1),x.snd.fst,x.snd.snd.fst,x12.snd.snd)).bind fun (l14:List TLane)=>some (Sum.inl (x.fst,x12.fst,x.snd.snd.fst,decide (n13≤IntKind.i64.wrap (x.snd.fst - x12.fst)),x12.snd.fst,l14))
                              | Sum.inr r=>some r
                          | Sum.inr r=>some r
                      | Sum.inr r=>some r
                | Sum.inr r=>some r)
        (x.fst,x.snd.fst,x.snd.snd.fst,true,true,x.snd.snd.snd)).bind
    fun (l2:List TLane)=>some l2
def m4:=CJ rN 1099511627776
theorem wd:(fun g=>vfn (T:=tE) lpK zq (aP (⟨69,[(4,47)],jo,g⟩::[qm,pT,td,r9,pL,qO,p8,sT,n47])) jo Cw.res (vOf Cw.code zg))=rN:=by kernel_rfl
abbrev sX:En tE:=⟨69,[(4,47)],jo,m4⟩
theorem yy:aq F tE 69 jo 5 m4:=xI (fn:=Cw) (aa (en:=qm) (aa (en:=pT) (aa (en:=td) (aa (en:=r9) (aa (en:=pL) (aa (en:=qO) (aa (en:=p8) (aa (en:=sT) (aa (en:=n47) ae o47 rfl) yi rfl) wQ rfl) zt rfl) zN rfl) yg rfl) yZ rfl) zl rfl) zx rfl) rfl (by kernel_rfl) rfl wd _
def mP:FSp:=⟨[(false,[.r 0]),(false,[.c (.func 47 [])])],[.sl (.st 5)],[0],[.ld 0 false,.r 0,.slot 0 false,.sl (.st 5)]⟩
def w8:List (Nat×Lb):=[]
def yc:List (Nat×VT):=[]
def ji:List TLane→Option (List TLane):=fun (x:List TLane)=>(p70 (IntKind.u64.wrap (↑x.length:Int))).bind fun (n1:Int)=>(m4 (0,(↑x.length:Int),n1,x)).bind fun (l2:List TLane)=>some l2
theorem yR:vfn (T:=tE) lpK yc (aP [sX,n70]) mP B5.res (vOf B5.code w8)=ji:=by kernel_rfl
abbrev r6:En tE:=⟨46,[(1,47)],mP,ji⟩
theorem zh:aq F tE 46 mP 2 ji:=by
 rw [← yR]
 exact af (fn:=B5) (aa (en:=sX) (aa (en:=n70) ae o70 rfl) yy rfl) rfl (by kernel_rfl)
def qf:FSp:=⟨[(false,[.r 0]),(false,[.c (.func 51 [])])],[.sl (.st 5)],[],[.ld 0 false,.r 0,.slot 0 false,.sl (.st 5)]⟩
def qN (y10:Int) (y11:Int) (y12:List TLane):Option ((Int×Int×(List TLane))⊕(Int×(List TLane))):=some (.inl (y11,(IntKind.wrap .i64 (y10+(1:Int))),y12))
def wC (x0:List TLane) (x1:TLane→TLane→Option Bool) (y13:Int) (st:Int×Int×(List TLane)):Option ((Int×Int×(List TLane))⊕(Int×(List TLane))):=match st with | (y14,y10,y15)=>(slc y15 y13 (x0.length:Int)).bind fun w16=>if y10 < (w16.length:Int) then ((idx w16 y10).bind fun e17=>(idx w16 (IntKind.wrap .i64 (y10 - (1:Int)))).bind fun e18=>(x1 e17 e18).bind fun r19=>if (!r19)=true then ((idx w16 y10).bind fun e20=>(idx y15 y14).bind fun e21=>(some (y15.set (y14:Int).toNat e20)).bind fun y22=>qN y10 (IntKind.wrap .i64 (y14+(1:Int))) y22) else (qN y10 y14 y15)) else (some (.inr (y14,y15)))
def zb (x0:List TLane) (x1:TLane→TLane→Option Bool) (y13:Int):Option (Int⊕((List TLane)⊕Unit)):=if y13 < (x0.length:Int) then ((idx x0 y13).bind fun e23=>(idx x0 (IntKind.wrap .i64 (y13 - (1:Int)))).bind fun e24=>(x1 e23 e24).bind fun r25=>if r25=true then ((slc x0 y13 (x0.length:Int)).bind fun y26=>(aw (wC x0 x1 y13) (y13,(1:Int),x0)).bind fun res27=>(match res27 with | (y28,y29)=>(slc y29 y28 (y29.length:Int)).bind fun y30=>(neL y30).bind fun u31=>(slc (wr y29 (y28:Int).toNat (((y29.length:Int):Int).toNat - (y28:Int).toNat) (TLane.mk (0:Int) (0:Int) (0:Int))) (0:Int) y28).bind fun y32=>some (.inr (.inl y32)))) else (some (.inl (IntKind.wrap .i64 (y13+(1:Int)))))) else (some (.inr (.inr ())))
def EL (x0:List TLane) (x1:TLane→TLane→Option Bool):Option (List TLane):=if (x0.length:Int) < (2:Int) then (some x0) else ((aw (zb x0 x1) (1:Int)).bind fun res33=>(match res33 with | .inl y34=>some y34 | .inr _=>some x0))
theorem yM (l:List TLane) (q:TLane→TLane→Option Bool):Ole (EL l q) (p50 l q):=by
 refine Ole.ite (Ole.refl _) (Ole.bind (Ole.loop (fun s=>?_) _) fun x=>Ole.refl _)
 refine Ole.ite (Ole.bind (Ole.refl _) fun x=>Ole.bind (Ole.refl _) fun y=>Ole.bind (Ole.refl _) fun z=>Ole.ite ?_ (Ole.refl _)) (Ole.refl _)
 refine Ole.bind (Ole.refl _) fun u=>Ole.bind (Ole.loop (fun s=>?_) _) fun x=>Ole.refl _
 exact Ole.refl _
def mV:List TLane→Option (List TLane):=fun l=>EL l fun a b=>p51 (a.From,a.To,a.Ahead,b.From,b.To,b.Ahead)
theorem uA (G:Hp) (cs:List AV) (x:TLane):a6.R G cs x↔(tE.r (.st 5)).R G cs x:=by
 constructor
 · intro h
   obtain rfl:=bS h
   exact reR (T:=tE) (t:=.st 5) (⟨[_],_,rfl,rfl,⟨[_],_,rfl,rfl,⟨[_],_,rfl,rfl,rfl⟩⟩⟩)
 intro h
 obtain ⟨_,_,rfl,rfl,⟨_,_,rfl,rfl,⟨_,_,rfl,rfl,rfl⟩⟩⟩:=unR (T:=tE) (t:=.st 5) h
 exact jt
theorem wy:aq F tE 50 qf 2 mV:=um (T:=tE) (t:=.st 5) rfl uA rfl fun S hf=>r50 (a1_0:=.func 51 []) S (fun h a b r hr=>show ZC F 51 ([.agg [.int .i64 a.From,.int .i64 a.To,.int .i64 a.Ahead],.agg [.int .i64 b.From,.int .i64 b.To,.int .i64 b.Ahead]]++[]) h _ from jC (xs:=[.agg [.int .i64 a.From,.int .i64 a.To,.int .i64 a.Ahead],.agg [.int .i64 b.From,.int .i64 b.To,.int .i64 b.Ahead]]) o51 (x:=(a.From,a.To,a.Ahead,b.From,b.To,b.Ahead,())) hr rfl (am:=fun _=>.nilPtr) ⟨_,rfl,rfl,_,rfl,rfl,_,rfl,rfl,rfl,_,rfl,rfl,_,rfl,rfl,_,rfl,rfl,rfl,rfl⟩) (yM _ _ _ hf)
abbrev sM:En tE:=⟨50,[(1,51)],qf,mV⟩
def q24:FSp:=⟨[(true,[.d false (.sl false (.st 2)),.d false (.sl false (.st 1))]),(true,[.d true (.int .i64),.d false (.sl false (.int .i64)),.d false (.sl false (.int .i64))])],[],[],[.ld 0 false,.r 0,.slot 0 false,.sl (.st 5)]⟩
def L24:List (Nat×Lb):=[(7,.l [.ld 16 false,.d false (.sl false (.st 1)),.slot 16 false,.ld 17 false,.d true (.int .i64),.slot 17 false] [.ld 3 false,.ptr 0 0,.slot 3 false,.ld 5 false,.r 1,.slot 5 false,.ld 18 false,.d true (.int .i64),.slot 18 false,.ldr,.d true (.int .i64),.d false (.sl false (.int .i64)),.d false (.sl false (.int .i64)),.row,.sl (.st 5)] [(some 0,[.ld 5 false,.r 0,.slot 5 false,.sl (.st 5)])]),(13,.l [.ld 6 false,.d true (.int .i64),.slot 6 false,.ld 18 false,.d true (.int .i64),.slot 18 false,.ld 24 false,.d false (.sl false (.st 0)),.slot 24 false,.ld 25 false,.d true (.int .i64),.slot 25 false] [.ld 3 false,.ptr 0 0,.slot 3 false,.ld 5 false,.r 1,.slot 5 false,.ld 7 false,.ptr 2 0,.slot 7 false,.ld 26 false,.d true (.int .i64),.slot 26 false,.ldr,.d true (.int .i64),.d false (.sl false (.int .i64)),.d false (.sl false (.int .i64)),.row,.sl (.st 5),.ldr,.d true .str,.d true (.int .i64),.d true (.int .i64),.d false (.sl false (.st 0)),.d false (.sl false (.st 0)),.d false (.sl false (.st 0)),.row] [(some 2,[.ld 3 false,.ptr 0 0,.slot 3 false,.ld 5 false,.r 1,.slot 5 false,.ldr,.d true (.int .i64),.d false (.sl false (.int .i64)),.d false (.sl false (.int .i64)),.row,.sl (.st 5)])])]
def H24:List (Nat×VT):=[(51,(.st 5))]
def p24:List TPlace×List TTrans×Int×List Int×List Int→Option (List TLane):=fun (x:List TPlace×List TTrans×Int×List Int×List Int)=>(p36 (x.fst,x.snd.fst,x.snd.snd.fst,x.snd.snd.snd.fst,x.snd.snd.snd.snd)).bind fun (n1:Int)=>if (!decide (n1=0))=true then some [] else (aw (fun (x2:Int×Int×List Int×List Int×List TLane)=>if x2.fst < (↑x.snd.fst.length:Int) then (idx x.snd.fst x2.fst).bind fun (x3:TTrans)=>(aw (fun (x4:Int×Int×List Int×List Int×List TLane×List UInt8×Int×Int×List TArc×List TArc×List TArc)=>if x4.fst < (↑x3.Out.length:Int) then (idx x3.Out x4.fst).bind fun (x5:TArc)=>(idx x4.snd.snd.snd.fst x2.fst).bind fun (n6:Int)=>(idx x4.snd.snd.fst x5.Place).bind fun (n7:Int)=>if (!decide (n6=n7))=true then (app 24 x4.snd.snd.snd.snd.fst [{ From:=n6,To:=n7,Ahead:=x4.snd.snd.snd.snd.snd.snd.fst }]).bind fun (l8:List TLane)=>some (Sum.inl (IntKind.i64.wrap (x4.fst+1),x4.snd.fst,x4.snd.snd.fst,x4.snd.snd.snd.fst,l8,x4.snd.snd.snd.snd.snd.fst,x4.snd.snd.snd.snd.snd.snd.fst,x4.snd.snd.snd.snd.snd.snd.snd.fst,x4.snd.snd.snd.snd.snd.snd.snd.snd.fst,x4.snd.snd.snd.snd.snd.snd.snd.snd.snd.fst,x4.snd.snd.snd.snd.snd.snd.snd.snd.snd.snd)) else some (Sum.inl (IntKind.i64.wrap (x4.fst+1),x4.snd.fst,x4.snd.snd.fst,x4.snd.snd.snd.fst,x4.snd.snd.snd.snd.fst,x4.snd.snd.snd.snd.snd.fst,x4.snd.snd.snd.snd.snd.snd.fst,x4.snd.snd.snd.snd.snd.snd.snd.fst,x4.snd.snd.snd.snd.snd.snd.snd.snd.fst,x4.snd.snd.snd.snd.snd.snd.snd.snd.snd.fst,x4.snd.snd.snd.snd.snd.snd.snd.snd.snd.snd)) else some (Sum.inr (x4.snd.fst,x4.snd.snd.fst,x4.snd.snd.snd.fst,x4.snd.snd.snd.snd.fst))) (0,x2.snd.fst,x2.snd.snd.fst,x2.snd.snd.snd.fst,x2.snd.snd.snd.snd,x3.Name,x3.Delay,x3.Prio,x3.In,x3.Not,x3.Out)).bind fun (x4:Int×List Int×List Int×List TLane)=>some (Sum.inl (IntKind.i64.wrap (x2.fst+1),x4.fst,x4.snd.fst,x4.snd.snd.fst,x4.snd.snd.snd)) else some (Sum.inr x2.snd.snd.snd.snd)) (0,x.snd.snd.fst,x.snd.snd.snd.fst,x.snd.snd.snd.snd,[])).bind fun (l2:List TLane)=>(ji l2).bind fun (l3:List TLane)=>(mV l3).bind fun (l4:List TLane)=>some l4
theorem e24:vfn (T:=tE) lpK H24 (aP [r6,sM,n36]) q24 BE.res (vOf BE.code L24)=p24:=by kernel_rfl
abbrev n24:En tE:=⟨24,[],q24,p24⟩
theorem o24:aq F tE 24 q24 2 p24:=by
 rw [← e24]
 exact af (fn:=BE) (aa (en:=r6) (aa (en:=sM) (aa (en:=n36) ae o36 rfl) wy rfl) zh rfl) rfl (by kernel_rfl)
def q64:FSp:=⟨[(true,[.d false (.sl false (.st 2)),.d false (.sl false (.st 1))])],[],[],[.ld 0 false,.r 0,.slot 0 false,.sl (.int .i64)]⟩
def L64:List (Nat×Lb):=[(4,.l [.ld 11 false,.d false (.sl false (.st 2)),.slot 11 false,.ld 12 false,.d true (.int .i64),.slot 12 false] [.ld 3 false,.r 0,.slot 3 false,.ld 13 false,.d true (.int .i64),.slot 13 false,.sl (.int .i64)] [(some 0,[.ld 3 false,.r 0,.slot 3 false,.sl (.int .i64)])])]
def H64:List (Nat×VT):=[(9,(.int .i64))]
def p64:List TPlace×List TTrans→Option (List Int):=fun (x:List TPlace×List TTrans)=>(mkS 8 (↑x.fst.length:Int) (↑x.fst.length:Int) 0).bind fun (l1:List Int)=>(aw (fun (x2:Int×List Int)=>if x2.fst < (↑x.fst.length:Int) then (idx x.fst x2.fst).bind fun (x3:TPlace)=>(idx x2.snd x2.fst).bind fun (n4:Int)=>some (Sum.inl (IntKind.i64.wrap (x2.fst+1),x2.snd.set x2.fst.toNat x3.Tokens)) else some (Sum.inr x2.snd)) (0,l1)).bind fun (l2:List Int)=>some l2
theorem e64:vfn (T:=tE) lpK H64 (aP []) q64 A2.res (vOf A2.code L64)=p64:=by kernel_rfl
abbrev n64:En tE:=⟨64,[],q64,p64⟩
theorem o64:aq F tE 64 q64 1 p64:=by
 rw [← e64]
 exact af (fn:=A2) ae rfl (by kernel_rfl)
def q65:FSp:=⟨[(false,[.d false (.sl false .bool)]),(false,[.d true (.int .i64)])],[],[],[.ld 0 false,.d true .bool,.slot 0 false]⟩
def L65:List (Nat×Lb):=[]
def H65:List (Nat×VT):=[]
def p65:List Bool×Int→Option Bool:=fun (x:List Bool×Int)=>if x.snd < (↑x.fst.length:Int) then (idx x.fst x.snd).bind fun (b1:Bool)=>some b1 else some false
theorem e65:vfn (T:=tE) lpK H65 (aP []) q65 AR.res (vOf AR.code L65)=p65:=by kernel_rfl
abbrev n65:En tE:=⟨65,[],q65,p65⟩
theorem o65:aq F tE 65 q65 2 p65:=by
 rw [← e65]
 exact af (fn:=AR) ae rfl (by kernel_rfl)
def q66:FSp:=⟨[(true,[.d true .str,.d true (.int .i64),.d true (.int .i64),.d false (.sl false (.st 0)),.d false (.sl false (.st 0)),.d false (.sl false (.st 0))]),(false,[.d false (.sl false (.int .i64))])],[],[],[.ld 0 false,.d true .bool,.slot 0 false]⟩
def L66:List (Nat×Lb):=[(3,.l [.ld 1 false,.d false (.sl false (.int .i64)),.slot 1 false,.ld 10 false,.d false (.sl false (.st 0)),.slot 10 false,.ld 11 false,.d true (.int .i64),.slot 11 false] [.ld 2 false,.ptr 0 0,.slot 2 false,.ld 4 false,.c (.bool false),.slot 4 false,.ld 12 false,.d true (.int .i64),.slot 12 false,.ldr,.d true .str,.d true (.int .i64),.d true (.int .i64),.d false (.sl false (.st 0)),.d false (.sl false (.st 0)),.d false (.sl false (.st 0)),.row] [(some 0,[.ld 2 false,.ptr 0 0,.slot 2 false,.ld 4 false,.c (.bool false),.slot 4 false,.ldr,.d true .str,.d true (.int .i64),.d true (.int .i64),.d false (.sl false (.st 0)),.d false (.sl false (.st 0)),.d false (.sl false (.st 0)),.row]),(none,[.ld 4 false,.c (.bool false),.slot 4 false])]),(12,.l [.ld 1 false,.d false (.sl false (.int .i64)),.slot 1 false,.ld 26 false,.d false (.sl false (.st 0)),.slot 26 false,.ld 27 false,.d true (.int .i64),.slot 27 false] [.ld 4 false,.c (.bool false),.slot 4 false,.ld 28 false,.d true (.int .i64),.slot 28 false] [(some 2,[]),(none,[.ld 4 false,.c (.bool false),.slot 4 false])])]
def H66:List (Nat×VT):=[]
def p66:List UInt8×Int×Int×List TArc×List TArc×List TArc×List Int→Option Bool:=fun (x:List UInt8×Int×Int×List TArc×List TArc×List TArc×List Int)=>
  (aw (fun (x1:Int×List UInt8×Int×Int×List TArc×List TArc×List TArc)=>if x1.fst < (↑x.snd.snd.snd.fst.length:Int) then (idx x.snd.snd.snd.fst x1.fst).bind fun (x2:TArc)=>(idx x.snd.snd.snd.snd.snd.snd x2.Place).bind fun (n3:Int)=>if n3 < x2.N then some (Sum.inr (Sum.inr ())) else some (Sum.inl (IntKind.i64.wrap (x1.fst+1),x1.snd.fst,x1.snd.snd.fst,x1.snd.snd.snd.fst,x1.snd.snd.snd.snd.fst,x1.snd.snd.snd.snd.snd.fst,x1.snd.snd.snd.snd.snd.snd)) else some (Sum.inr (Sum.inl (x1.snd.fst,x1.snd.snd.fst,x1.snd.snd.snd.fst,x1.snd.snd.snd.snd.fst,x1.snd.snd.snd.snd.snd.fst,x1.snd.snd.snd.snd.snd.snd)))) (0,x.fst,x.snd.fst,x.snd.snd.fst,x.snd.snd.snd.fst,x.snd.snd.snd.snd.fst,x.snd.snd.snd.snd.snd.fst)).bind fun (x1:List UInt8×Int×Int×List TArc×List TArc×List TArc⊕Unit)=>
    match x1 with
    | Sum.inl x_1=>
      (aw (fun (n3:Int)=>if n3 < (↑x_1.snd.snd.snd.snd.fst.length:Int) then (idx x_1.snd.snd.snd.snd.fst n3).bind fun (x4:TArc)=>(idx x.snd.snd.snd.snd.snd.snd x4.Place).bind fun (n5:Int)=>if x4.N≤n5 then some (Sum.inr (Sum.inr ())) else some (Sum.inl (IntKind.i64.wrap (n3+1))) else some (Sum.inr (Sum.inl ()))) 0).bind fun (x3:Unit⊕Unit)=>
        match x3 with
        | Sum.inl x=>some true
        | Sum.inr y=>some false
    | Sum.inr y=>some false
theorem e66:vfn (T:=tE) lpK H66 (aP []) q66 Ck.res (vOf Ck.code L66)=p66:=by kernel_rfl
abbrev n66:En tE:=⟨66,[],q66,p66⟩
theorem o66:aq F tE 66 q66 2 p66:=by
 rw [← e66]
 exact af (fn:=Ck) ae rfl (by kernel_rfl)
def q37:FSp:=⟨[(true,[.d true (.sl false (.st 2)),.d true (.sl false (.st 1))]),(false,[.d true (.sl false .bool)]),(false,[.d true (.sl false .bool)])],[],[],[.ld 0 false,.ptr 0 0,.slot 0 false,.pr (.st 10)]⟩
def L37:List (Nat×Lb):=[(4,.l [.ld 1 false,.d true (.sl false .bool),.slot 1 false,.ld 34 false,.d true (.sl false (.st 1)),.slot 34 false,.ld 35 false,.d true (.int .i64),.slot 35 false] [.ld 7 false,.ptr 0 0,.slot 7 false,.ld 36 false,.d true (.int .i64),.slot 36 false,.ldr,.d true (.sl false (.st 2)),.d true (.sl false (.st 1)),.d true (.sl false .bool),.r 1,.r 2,.r 3,.c .nilSlice,.c .nilMap,.c .nilSlice,.r 4,.d true (.int .i64),.c .nilSlice,.d true (.sl false .bool),.d true (.int .i64),.row,.sl (.sl true (.int .i64)),.sl .bool,.sl (.int .i64),.sl (.int .i64)] [(some 0,[.ld 7 false,.ptr 0 0,.slot 7 false,.ldr,.d true (.sl false (.st 2)),.d true (.sl false (.st 1)),.d true (.sl false .bool),.r 1,.r 2,.r 3,.c .nilSlice,.c .nilMap,.c .nilSlice,.r 4,.d true (.int .i64),.c .nilSlice,.d true (.sl false .bool),.d true (.int .i64),.row,.sl (.sl true (.int .i64)),.sl .bool,.sl (.int .i64),.sl (.int .i64)])]),(13,.l [.ld 8 false,.d true (.int .i64),.slot 8 false,.ld 36 false,.d true (.int .i64),.slot 36 false,.ld 50 false,.d true (.int .i64),.slot 50 false] [.ld 7 false,.ptr 0 0,.slot 7 false,.ld 9 false,.ptr 1 0,.slot 9 false,.ld 49 false,.r 2,.slot 49 false,.ld 51 false,.d true (.int .i64),.slot 51 false,.ldr,.d true (.sl false (.st 2)),.d true (.sl false (.st 1)),.d true (.sl false .bool),.r 3,.r 4,.r 5,.c .nilSlice,.c .nilMap,.c .nilSlice,.r 6,.d true (.int .i64),.c .nilSlice,.d true (.sl false .bool),.d true (.int .i64),.row,.pr (.st 1),.sl (.sl false (.st 0)),.sl (.sl true (.int .i64)),.sl .bool,.sl (.int .i64),.sl (.int .i64)] [(some 2,[.ld 7 false,.ptr 0 0,.slot 7 false,.ld 9 false,.ptr 1 0,.slot 9 false,.ldr,.d true (.sl false (.st 2)),.d true (.sl false (.st 1)),.d true (.sl false .bool),.r 2,.r 3,.r 4,.c .nilSlice,.c .nilMap,.c .nilSlice,.r 5,.d true (.int .i64),.c .nilSlice,.d true (.sl false .bool),.d true (.int .i64),.row,.pr (.st 1),.sl (.sl true (.int .i64)),.sl .bool,.sl (.int .i64),.sl (.int .i64)])]),(19,.l [.ld 51 false,.d true (.int .i64),.slot 51 false,.ld 55 false,.d true (.sl false (.st 0)),.slot 55 false,.ld 56 false,.d true (.int .i64),.slot 56 false] [.ld 7 false,.ptr 0 0,.slot 7 false,.ld 9 false,.ptr 1 0,.slot 9 false,.ld 49 false,.r 2,.slot 49 false,.ld 57 false,.d true (.int .i64),.slot 57 false,.ldr,.d true (.sl false (.st 2)),.d true (.sl false (.st 1)),.d true (.sl false .bool),.r 3,.r 4,.r 5,.c .nilSlice,.c .nilMap,.c .nilSlice,.r 6,.d true (.int .i64),.c .nilSlice,.d true (.sl false .bool),.d true (.int .i64),.row,.pr (.st 1),.sl (.sl false (.st 0)),.sl (.sl true (.int .i64)),.sl .bool,.sl (.int .i64),.sl (.int .i64)] [(some 4,[.ld 7 false,.ptr 0 0,.slot 7 false,.ld 9 false,.ptr 1 0,.slot 9 false,.ld 49 false,.r 2,.slot 49 false,.ldr,.d true (.sl false (.st 2)),.d true (.sl false (.st 1)),.d true (.sl false .bool),.r 3,.r 4,.r 5,.c .nilSlice,.c .nilMap,.c .nilSlice,.r 6,.d true (.int .i64),.c .nilSlice,.d true (.sl false .bool),.d true (.int .i64),.row,.pr (.st 1),.sl (.sl false (.st 0)),.sl (.sl true (.int .i64)),.sl .bool,.sl (.int .i64),.sl (.int .i64)])])]
def H37:List (Nat×VT):=[(20,(.sl true (.int .i64))),(24,.bool),(30,(.int .i64)),(49,(.sl false (.st 0))),(76,(.int .i64))]
def p37:List TPlace×List TTrans×List Bool×List Bool→Option TEngine:=fun (x:List TPlace×List TTrans×List Bool×List Bool)=>(mkS 24 (↑x.fst.length:Int) (↑x.fst.length:Int) []).bind fun (l1:List (List Int))=>(mkS 1 (↑x.snd.fst.length:Int) (↑x.snd.fst.length:Int) false).bind fun (l2:List Bool)=>(mkS 8 (↑x.fst.length:Int) (↑x.fst.length:Int) 0).bind fun (l3:List Int)=>(p64 (x.fst,x.snd.fst)).bind fun (l4:List Int)=>(aw (fun (x5:Int×List TPlace×List TTrans×List Bool×Int×List Bool×Int×List (List Int)×List Bool×List Int×List Int)=>if x5.fst < (↑x.snd.fst.length:Int) then (idx x.snd.fst x5.fst).bind fun (x6:TTrans)=>(p65 (x.snd.snd.fst,x5.fst)).bind fun (b7:Bool)=>if (!b7)=true then some (Sum.inl (IntKind.i64.wrap (x5.fst+1),x5.snd.fst,x5.snd.snd.fst,x5.snd.snd.snd.fst,x5.snd.snd.snd.snd.fst,x5.snd.snd.snd.snd.snd.fst,x5.snd.snd.snd.snd.snd.snd.fst,x5.snd.snd.snd.snd.snd.snd.snd.fst,x5.snd.snd.snd.snd.snd.snd.snd.snd.fst,x5.snd.snd.snd.snd.snd.snd.snd.snd.snd.fst,x5.snd.snd.snd.snd.snd.snd.snd.snd.snd.snd)) else (aw (fun (x8:Int×List TPlace×List TTrans×List Bool×Int×List Bool×Int×TTrans×List (List TArc)×List (List Int)×List Bool×List Int×List Int)=>if x8.fst < (↑[x6.In,x6.Not].length:Int) then (idx x8.snd.snd.snd.snd.snd.snd.snd.snd.fst x8.fst).bind fun (l9:List TArc)=>(aw (fun (x10:Int×List TPlace×List TTrans×List Bool×Int×List Bool×Int×TTrans×List (List TArc)×List (List Int)×List Bool×List Int×List Int)=>if x10.fst < (↑l9.length:Int) then (idx l9 x10.fst).bind fun (x11:TArc)=>(idx x10.snd.snd.snd.snd.snd.snd.snd.snd.snd.fst x11.Place).bind fun (l12:List Int)=>(app 8 l12 [x5.fst]).bind fun (l13:List Int)=>(idx x10.snd.snd.snd.snd.snd.snd.snd.snd.snd.fst x11.Place).bind fun (l14:List Int)=>if x11.Place.toNat=x11.Place.toNat then some (Sum.inl (IntKind.i64.wrap (x10.fst+1),x10.snd.fst,x10.snd.snd.fst,x10.snd.snd.snd.fst,x10.snd.snd.snd.snd.fst,x10.snd.snd.snd.snd.snd.fst,x10.snd.snd.snd.snd.snd.snd.fst,x10.snd.snd.snd.snd.snd.snd.snd.fst,x10.snd.snd.snd.snd.snd.snd.snd.snd.fst,x10.snd.snd.snd.snd.snd.snd.snd.snd.snd.fst.set x11.Place.toNat l13,x10.snd.snd.snd.snd.snd.snd.snd.snd.snd.snd.fst,x10.snd.snd.snd.snd.snd.snd.snd.snd.snd.snd.snd.fst,x10.snd.snd.snd.snd.snd.snd.snd.snd.snd.snd.snd.snd)) else none else some (Sum.inr (x10.snd.fst,x10.snd.snd.fst,x10.snd.snd.snd.fst,x10.snd.snd.snd.snd.fst,x10.snd.snd.snd.snd.snd.fst,x10.snd.snd.snd.snd.snd.snd.fst,x10.snd.snd.snd.snd.snd.snd.snd.fst,x10.snd.snd.snd.snd.snd.snd.snd.snd.fst,x10.snd.snd.snd.snd.snd.snd.snd.snd.snd.fst,x10.snd.snd.snd.snd.snd.snd.snd.snd.snd.snd.fst,x10.snd.snd.snd.snd.snd.snd.snd.snd.snd.snd.snd.fst,x10.snd.snd.snd.snd.snd.snd.snd.snd.snd.snd.snd.snd))) (0,x8.snd.fst,x8.snd.snd.fst,x8.snd.snd.snd.fst,x8.snd.snd.snd.snd.fst,x8.snd.snd.snd.snd.snd.fst,x8.snd.snd.snd.snd.snd.snd.fst,x8.snd.snd.snd.snd.snd.snd.snd.fst,x8.snd.snd.snd.snd.snd.snd.snd.snd.fst,x8.snd.snd.snd.snd.snd.snd.snd.snd.snd.fst,x8.snd.snd.snd.snd.snd.snd.snd.snd.snd.snd.fst,x8.snd.snd.snd.snd.snd.snd.snd.snd.snd.snd.snd.fst,x8.snd.snd.snd.snd.snd.snd.snd.snd.snd.snd.snd.snd)).bind fun (x10:List TPlace×List TTrans×List Bool×Int×List Bool×Int×TTrans×List (List TArc)×List (List Int)×List Bool×List Int×List Int)=>some (Sum.inl (IntKind.i64.wrap (x8.fst+1),x10.fst,x10.snd.fst,x10.snd.snd.fst,x10.snd.snd.snd.fst,x10.snd.snd.snd.snd.fst,x10.snd.snd.snd.snd.snd.fst,x10.snd.snd.snd.snd.snd.snd.fst,x10.snd.snd.snd.snd.snd.snd.snd.fst,x10.snd.snd.snd.snd.snd.snd.snd.snd.fst,x10.snd.snd.snd.snd.snd.snd.snd.snd.snd.fst,x10.snd.snd.snd.snd.snd.snd.snd.snd.snd.snd.fst,x10.snd.snd.snd.snd.snd.snd.snd.snd.snd.snd.snd)) else some (Sum.inr (x8.snd.fst,x8.snd.snd.fst,x8.snd.snd.snd.fst,x8.snd.snd.snd.snd.fst,x8.snd.snd.snd.snd.snd.fst,x8.snd.snd.snd.snd.snd.snd.fst,x8.snd.snd.snd.snd.snd.snd.snd.fst,x8.snd.snd.snd.snd.snd.snd.snd.snd.snd.fst,x8.snd.snd.snd.snd.snd.snd.snd.snd.snd.snd.fst,x8.snd.snd.snd.snd.snd.snd.snd.snd.snd.snd.snd.fst,x8.snd.snd.snd.snd.snd.snd.snd.snd.snd.snd.snd.snd))) (0,x5.snd.fst,x5.snd.snd.fst,x5.snd.snd.snd.fst,x5.snd.snd.snd.snd.fst,x5.snd.snd.snd.snd.snd.fst,x5.snd.snd.snd.snd.snd.snd.fst,x6,[x6.In,x6.Not],x5.snd.snd.snd.snd.snd.snd.snd.fst,x5.snd.snd.snd.snd.snd.snd.snd.snd.fst,x5.snd.snd.snd.snd.snd.snd.snd.snd.snd.fst,x5.snd.snd.snd.snd.snd.snd.snd.snd.snd.snd)).bind fun (x8:List TPlace×List TTrans×List Bool×Int×List Bool×Int×TTrans×List (List Int)×List Bool×List Int×List Int)=>(p66 (x8.snd.snd.snd.snd.snd.snd.fst.Name,x8.snd.snd.snd.snd.snd.snd.fst.Delay,x8.snd.snd.snd.snd.snd.snd.fst.Prio,x8.snd.snd.snd.snd.snd.snd.fst.In,x8.snd.snd.snd.snd.snd.snd.fst.Not,x8.snd.snd.snd.snd.snd.snd.fst.Out,x8.snd.snd.snd.snd.snd.snd.snd.snd.snd.fst)).bind fun (b9:Bool)=>(idx x8.snd.snd.snd.snd.snd.snd.snd.snd.fst x5.fst).bind fun (b10:Bool)=>some (Sum.inl (IntKind.i64.wrap (x5.fst+1),x8.fst,x8.snd.fst,x8.snd.snd.fst,x8.snd.snd.snd.fst,x8.snd.snd.snd.snd.fst,x8.snd.snd.snd.snd.snd.fst,x8.snd.snd.snd.snd.snd.snd.snd.fst,x8.snd.snd.snd.snd.snd.snd.snd.snd.fst.set x5.fst.toNat b9,x8.snd.snd.snd.snd.snd.snd.snd.snd.snd.fst,x8.snd.snd.snd.snd.snd.snd.snd.snd.snd.snd)) else some (Sum.inr (x5.snd.fst,x5.snd.snd.fst,x5.snd.snd.snd.fst,x5.snd.snd.snd.snd.fst,x5.snd.snd.snd.snd.snd.fst,x5.snd.snd.snd.snd.snd.snd.fst,x5.snd.snd.snd.snd.snd.snd.snd.fst,x5.snd.snd.snd.snd.snd.snd.snd.snd.fst,x5.snd.snd.snd.snd.snd.snd.snd.snd.snd.fst,x5.snd.snd.snd.snd.snd.snd.snd.snd.snd.snd))) (0,x.fst,x.snd.fst,x.snd.snd.fst,0,x.snd.snd.snd,0,l1,l2,l4,l3)).bind fun (x5:List TPlace×List TTrans×List Bool×Int×List Bool×Int×List (List Int)×List Bool×List Int×List Int)=>some { n:={ Places:=x5.fst,Trans:=x5.snd.fst },mine:=x5.snd.snd.fst,near:=x5.snd.snd.snd.snd.snd.snd.fst,ready:=x5.snd.snd.snd.snd.snd.snd.snd.fst,marks:=x5.snd.snd.snd.snd.snd.snd.snd.snd.fst,wait:={ l:=[] },in_:=none,log:=[],way:=x5.snd.snd.snd.snd.snd.snd.snd.snd.snd,time:=x5.snd.snd.snd.fst,out:=[],away:=x5.snd.snd.snd.snd.fst,count:=x5.snd.snd.snd.snd.snd.fst }
theorem e37:vfn (T:=tE) lpK H37 (aP [n64,n65,n66]) q37 AP.res (vOf AP.code L37)=p37:=by kernel_rfl
abbrev n37:En tE:=⟨37,[],q37,p37⟩
theorem o37:aq F tE 37 q37 3 p37:=by
 rw [← e37]
 exact af (fn:=AP) (aa (en:=n64) (aa (en:=n65) (aa (en:=n66) ae o66 rfl) o65 rfl) o64 rfl) rfl (by kernel_rfl)
def q14:FSp:=⟨[(true,[.d true (.sl false (.st 2)),.d true (.sl false (.st 1))]),(true,[.d true (.int .i64),.d true (.sl false (.int .i64)),.d true (.sl false (.int .i64))]),(false,[.d true (.int .i64)]),(false,[.d true (.int .i64)])],[],[],[.ld 0 false,.r 0,.slot 0 false,.ld 1 false,.d true (.int .i64),.slot 1 false,.po (.st 11)]⟩
def L14:List (Nat×Lb):=[(6,.j [.ld 2 false,.d true (.int .i64),.slot 2 false,.ld 3 false,.d true (.int .i64),.slot 3 false,.ld 4 false,.ptr 0 0,.slot 4 false,.ld 5 false,.ptr 1 0,.slot 5 false,.ld 33 false,.d true .bool,.slot 33 false,.ldr,.d true (.sl false (.st 2)),.d true (.sl false (.st 1)),.row,.ldr,.d true (.int .i64),.d true (.sl false (.int .i64)),.d true (.sl false (.int .i64)),.row]),(12,.l [.ld 2 false,.d true (.int .i64),.slot 2 false,.ld 49 false,.d true (.sl false (.int .i64)),.slot 49 false,.ld 50 false,.d true (.int .i64),.slot 50 false] [.ld 4 false,.ptr 0 0,.slot 4 false,.ld 5 false,.ptr 1 0,.slot 5 false,.ld 11 false,.ptr 2 0,.slot 11 false,.ld 12 false,.r 3,.slot 12 false,.ld 13 false,.r 4,.slot 13 false,.ld 51 false,.d true (.int .i64),.slot 51 false,.ldr,.d true (.sl false (.st 2)),.d true (.sl false (.st 1)),.row,.ldr,.d true (.int .i64),.d true (.sl false (.int .i64)),.d true (.sl false (.int .i64)),.row,.pr (.st 11),.sl .bool,.sl .bool] [(some 0,[.ld 4 false,.ptr 0 0,.slot 4 false,.ld 5 false,.ptr 1 0,.slot 5 false,.ld 11 false,.ptr 2 0,.slot 11 false,.ld 12 false,.r 3,.slot 12 false,.ld 13 false,.r 4,.slot 13 false,.ldr,.d true (.sl false (.st 2)),.d true (.sl false (.st 1)),.row,.ldr,.d true (.int .i64),.d true (.sl false (.int .i64)),.d true (.sl false (.int .i64)),.row,.pr (.st 11),.sl .bool,.sl .bool])]),(19,.l [.ld 2 false,.d true (.int .i64),.slot 2 false,.ld 64 false,.d true (.sl false (.int .i64)),.slot 64 false,.ld 65 false,.d true (.int .i64),.slot 65 false] [.ld 4 false,.ptr 0 0,.slot 4 false,.ld 5 false,.ptr 1 0,.slot 5 false,.ld 11 false,.ptr 2 0,.slot 11 false,.ld 12 false,.r 3,.slot 12 false,.ld 13 false,.r 4,.slot 13 false,.ld 66 false,.d true (.int .i64),.slot 66 false,.ldr,.d true (.sl false (.st 2)),.d true (.sl false (.st 1)),.row,.ldr,.d true (.int .i64),.d true (.sl false (.int .i64)),.d true (.sl false (.int .i64)),.row,.pr (.st 11),.sl .bool,.sl .bool] [(some 2,[.ld 4 false,.ptr 0 0,.slot 4 false,.ld 5 false,.ptr 1 0,.slot 5 false,.ld 11 false,.ptr 2 0,.slot 11 false,.ld 12 false,.r 3,.slot 12 false,.ld 13 false,.r 4,.slot 13 false,.ldr,.d true (.sl false (.st 2)),.d true (.sl false (.st 1)),.row,.ldr,.d true (.int .i64),.d true (.sl false (.int .i64)),.d true (.sl false (.int .i64)),.row,.pr (.st 11),.sl .bool,.sl .bool])]),(27,.l [.ld 2 false,.d true (.int .i64),.slot 2 false,.ld 89 false,.d true (.int .i64),.slot 89 false] [.ld 11 false,.ptr 0 0,.slot 11 false,.ld 88 false,.r 1,.slot 88 false,.ld 90 false,.d true (.int .i64),.slot 90 false,.pr (.st 11),.sl (.st 5)] [(some 4,[.ld 11 false,.ptr 0 0,.slot 11 false,.pr (.st 11)])]),(32,.j [.ld 11 false,.ptr 0 0,.slot 11 false,.ld 19 false,.ptr 1 0,.slot 19 false,.ld 88 false,.r 2,.slot 88 false,.ld 90 false,.d true (.int .i64),.slot 90 false,.pr (.st 11),.pr (.st 5),.sl (.st 5)])]
def H14:List (Nat×VT):=[(43,.bool),(47,.bool),(105,(.st 5)),(111,(.int .i64)),(128,(.st 5)),(134,(.int .i64))]
def p14:List TPlace×List TTrans×Int×List Int×List Int×Int×Int→Option (Int×Option TProcess):=fun (x:List TPlace×List TTrans×Int×List Int×List Int×Int×Int)=>
  (p36 (x.fst,x.snd.fst,x.snd.snd.fst,x.snd.snd.snd.fst,x.snd.snd.snd.snd.fst)).bind fun (n1:Int)=>
    if (!decide (n1=0))=true then some (n1,none)
    else
      (if x.snd.snd.snd.snd.snd.fst < 0 then some (Sum.inl (x.snd.snd.snd.snd.snd.fst,x.snd.snd.snd.snd.snd.snd,true,x.fst,x.snd.fst,x.snd.snd.fst,x.snd.snd.snd.fst,x.snd.snd.snd.snd.fst)) else some (Sum.inl (x.snd.snd.snd.snd.snd.fst,x.snd.snd.snd.snd.snd.snd,decide (x.snd.snd.fst≤x.snd.snd.snd.snd.snd.fst),x.fst,x.snd.fst,x.snd.snd.fst,x.snd.snd.snd.fst,x.snd.snd.snd.snd.fst))).bind fun (x2:Int×Int×Bool×List TPlace×List TTrans×Int×List Int×List Int⊕Int×Option TProcess)=>
        match x2 with
        | Sum.inl x=>
          if x.snd.snd.fst=true then some (1,none)
          else
            (mkS 1 (↑x.snd.snd.snd.snd.fst.length:Int) (↑x.snd.snd.snd.snd.fst.length:Int) false).bind fun (l4:List Bool)=>
              (mkS 1 (↑x.snd.snd.snd.fst.length:Int) (↑x.snd.snd.snd.fst.length:Int) false).bind fun (l5:List Bool)=>
                (aw (fun (x6:Int×List TPlace×List TTrans×Int×List Int×List Int×TProcess×List Bool×List Bool)=>if x6.fst < (↑x.snd.snd.snd.snd.snd.snd.snd.length:Int) then (idx x.snd.snd.snd.snd.snd.snd.snd x6.fst).bind fun (n7:Int)=>(idx x6.snd.snd.snd.snd.snd.snd.snd.fst x6.fst).bind fun (b8:Bool)=>some (Sum.inl (IntKind.i64.wrap (x6.fst+1),x6.snd.fst,x6.snd.snd.fst,x6.snd.snd.snd.fst,x6.snd.snd.snd.snd.fst,x6.snd.snd.snd.snd.snd.fst,x6.snd.snd.snd.snd.snd.snd.fst,x6.snd.snd.snd.snd.snd.snd.snd.fst.set x6.fst.toNat (decide (n7=x.fst)),x6.snd.snd.snd.snd.snd.snd.snd.snd)) else some (Sum.inr (x6.snd.fst,x6.snd.snd.fst,x6.snd.snd.snd.fst,x6.snd.snd.snd.snd.fst,x6.snd.snd.snd.snd.snd.fst,x6.snd.snd.snd.snd.snd.snd.fst,x6.snd.snd.snd.snd.snd.snd.snd.fst,x6.snd.snd.snd.snd.snd.snd.snd.snd))) (0,x.snd.snd.snd.fst,x.snd.snd.snd.snd.fst,x.snd.snd.snd.snd.snd.fst,x.snd.snd.snd.snd.snd.snd.fst,x.snd.snd.snd.snd.snd.snd.snd,{ id:=x.fst,x:=none,p:={ N:=x.snd.snd.snd.snd.snd.fst,Places:=x.snd.snd.snd.snd.snd.snd.fst,Trans:=x.snd.snd.snd.snd.snd.snd.snd },in_:=[],out:=[],clocks:=[],sent:=[],horizon:=if 1099511627777 < x.snd.fst then 1099511627777 else x.snd.fst,began:=false,done:=false },l4,l5)).bind fun (x6:List TPlace×List TTrans×Int×List Int×List Int×TProcess×List Bool×List Bool)=>
                  (aw (fun (x7:Int×List TPlace×List TTrans×Int×List Int×List Int×TProcess×List Bool×List Bool)=>if x7.fst < (↑x6.snd.snd.snd.fst.length:Int) then (idx x6.snd.snd.snd.fst x7.fst).bind fun (n8:Int)=>(idx x7.snd.snd.snd.snd.snd.snd.snd.snd x7.fst).bind fun (b9:Bool)=>some (Sum.inl (IntKind.i64.wrap (x7.fst+1),x7.snd.fst,x7.snd.snd.fst,x7.snd.snd.snd.fst,x7.snd.snd.snd.snd.fst,x7.snd.snd.snd.snd.snd.fst,x7.snd.snd.snd.snd.snd.snd.fst,x7.snd.snd.snd.snd.snd.snd.snd.fst,x7.snd.snd.snd.snd.snd.snd.snd.snd.set x7.fst.toNat !decide (n8=x.fst))) else some (Sum.inr (x7.snd.fst,x7.snd.snd.fst,x7.snd.snd.snd.fst,x7.snd.snd.snd.snd.fst,x7.snd.snd.snd.snd.snd.fst,x7.snd.snd.snd.snd.snd.snd.fst,x7.snd.snd.snd.snd.snd.snd.snd.fst,x7.snd.snd.snd.snd.snd.snd.snd.snd))) (0,x6.fst,x6.snd.fst,x6.snd.snd.fst,x6.snd.snd.snd.fst,x6.snd.snd.snd.snd.fst,x6.snd.snd.snd.snd.snd.fst,x6.snd.snd.snd.snd.snd.snd.fst,x6.snd.snd.snd.snd.snd.snd.snd)).bind fun (x7:List TPlace×List TTrans×Int×List Int×List Int×TProcess×List Bool×List Bool)=>
                    (p37 (x7.fst,x7.snd.fst,x7.snd.snd.snd.snd.snd.snd.fst,x7.snd.snd.snd.snd.snd.snd.snd)).bind fun (x8:TEngine)=>
                      (p24 (x7.fst,x7.snd.fst,x7.snd.snd.fst,x7.snd.snd.snd.fst,x7.snd.snd.snd.snd.fst)).bind fun (l9:List TLane)=>
                        (aw
                              (fun (x10:Int×TProcess×List TLane)=>
                                if x10.fst < (↑l9.length:Int) then
                                  (idx x10.snd.snd x10.fst).bind fun (x11:TLane)=>
                                    (if x11.To=x.fst then (app 24 x10.snd.fst.in_ [x11]).bind fun (l12:List TLane)=>(app 8 x10.snd.fst.clocks [0]).bind fun (l13:List Int)=>some (Sum.inl (x10.fst,{ id:=x10.snd.fst.id,x:=x10.snd.fst.x,p:=x10.snd.fst.p,in_:=l12,out:=x10.snd.fst.out,clocks:=l13,sent:=x10.snd.fst.sent,horizon:=x10.snd.fst.horizon,began:=x10.snd.fst.began,done:=x10.snd.fst.done },x11,x10.snd.snd)) else some (Sum.inl (x10.fst,x10.snd.fst,x11,x10.snd.snd))).bind fun (x12:Int×TProcess×TLane×List TLane⊕Int×TProcess×List TLane⊕TProcess)=>
                                      match x12 with
                                      | Sum.inl x_1=>if x_1.snd.snd.fst.From=x.fst then (app 24 x_1.snd.fst.out [x_1.snd.snd.fst]).bind fun (l14:List TLane)=>(app 8 x_1.snd.fst.sent [0]).bind fun (l15:List Int)=>some (Sum.inl (IntKind.i64.wrap (x_1.fst+1),{ id:=x_1.snd.fst.id,x:=x_1.snd.fst.x,p:=x_1.snd.fst.p,in_:=x_1.snd.fst.in_,out:=l14,clocks:=x_1.snd.fst.clocks,sent:=l15,horizon:=x_1.snd.fst.horizon,began:=x_1.snd.fst.began,done:=x_1.snd.fst.done },x_1.snd.snd.snd)) else some (Sum.inl (IntKind.i64.wrap (x_1.fst+1),x_1.snd.fst,x_1.snd.snd.snd))
                                      | Sum.inr r=>some r
                                else some (Sum.inr x10.snd.fst))
                              (0,{ id:=x7.snd.snd.snd.snd.snd.fst.id,x:=some x8,p:=x7.snd.snd.snd.snd.snd.fst.p,in_:=x7.snd.snd.snd.snd.snd.fst.in_,out:=x7.snd.snd.snd.snd.snd.fst.out,clocks:=x7.snd.snd.snd.snd.snd.fst.clocks,sent:=x7.snd.snd.snd.snd.snd.fst.sent,horizon:=x7.snd.snd.snd.snd.snd.fst.horizon,began:=x7.snd.snd.snd.snd.snd.fst.began,done:=x7.snd.snd.snd.snd.snd.fst.done },l9)).bind
                          fun (x10:TProcess)=>some (0,some x10)
        | Sum.inr r=>some r
theorem e14:vfn (T:=tE) lpK H14 (aP [n36,n37,n24]) q14 AS.res (vOf AS.code L14)=p14:=by kernel_rfl
abbrev n14:En tE:=⟨14,[],q14,p14⟩
theorem o14:aq F tE 14 q14 4 p14:=by
 rw [← e14]
 exact af (fn:=AS) (aa (en:=n36) (aa (en:=n37) (aa (en:=n24) ae o24 rfl) o37 rfl) o36 rfl) rfl (by kernel_rfl)
def mq:FSp:=⟨[(false,[.e false (.st 10) 6])],[],[],[.ld 0 true,.d true (.int .i64),.d true (.int .i64),.d true (.int .i64),.d true (.int .i64),.slot 0 true,.ld 1 false,.d true .bool,.slot 1 false]⟩
def yT:List (Nat×Lb):=[]
def wG:List (Nat×VT):=[]
def jW:TEngine→Option (Int×Int×Int×Int×Bool):=fun (x:TEngine)=>if (↑x.wait.l.length:Int)=0 then some (0,0,0,0,false) else (idx x.wait.l 0).bind fun (x1:TKey)=>some (x1.Time,x1.Prio,x1.ID,x1.N,true)
theorem xo:vfn (T:=tE) lpK wG (aP []) mq li.res (vOf li.code yT)=jW:=by kernel_rfl
abbrev th:En tE:=⟨132,[(0,6)],mq,jW⟩
theorem xQ:aq F tE 132 mq 1 jW:=by
 rw [← xo]
 exact af (fn:=li) ae rfl (by kernel_rfl)
def Dp:FSp:=⟨[(false,[.e false (.st 10) 0])],[],[],[.ld 0 false,.d true (.int .i64),.slot 0 false]⟩
def FN:List (Nat×Lb):=[]
def Ft:List (Nat×VT):=[]
def C4:TEngine→Option Int:=fun (x:TEngine)=>(jW x).bind fun (x1:Int×Int×Int×Int×Bool)=>if (!x1.snd.snd.snd.snd)=true then some (-1) else some x1.fst
theorem FE:vfn (T:=tE) lpK Ft (aP [th]) Dp pR.res (vOf pR.code FN)=C4:=by kernel_rfl
abbrev EE:En tE:=⟨128,[],Dp,C4⟩
theorem FK:aq F tE 128 Dp 1 C4:=by
 rw [← FE]
 exact af (fn:=pR) (aa (en:=th) ae xQ rfl) rfl (by kernel_rfl)
def q23:FSp:=⟨[(false,[.e false (.st 11) 0])],[],[],[.ld 0 false,.d true (.int .i64),.slot 0 false]⟩
def L23:List (Nat×Lb):=[(7,.l [.ld 11 false,.d false (.sl true (.int .i64)),.slot 11 false,.ld 12 false,.d true (.int .i64),.slot 12 false] [.ld 3 false,.d true (.int .i64),.slot 3 false,.ld 13 false,.d true (.int .i64),.slot 13 false] [(some 0,[.ld 3 false,.d true (.int .i64),.slot 3 false])])]
def H23:List (Nat×VT):=[]
def p23:TProcess→Option Int:=fun (x:TProcess)=>(aw (fun (x1:Int×Int)=>if x1.snd < (↑x.clocks.length:Int) then (idx x.clocks x1.snd).bind fun (n2:Int)=>some (Sum.inl (if n2 < x1.fst then n2 else x1.fst,IntKind.i64.wrap (x1.snd+1))) else some (Sum.inr x1.fst)) (2305843009213693952,0)).bind fun (n1:Int)=>some n1
theorem e23:vfn (T:=tE) lpK H23 (aP []) q23 BV.res (vOf BV.code L23)=p23:=by kernel_rfl
abbrev n23:En tE:=⟨23,[],q23,p23⟩
theorem o23:aq F tE 23 q23 1 p23:=by
 rw [← e23]
 exact af (fn:=BV) ae rfl (by kernel_rfl)
def q42:FSp:=⟨[(false,[.e false (.st 11) 0])],[],[],[.ld 0 false,.d true (.int .i64),.slot 0 false]⟩
def L42:List (Nat×Lb):=[]
def H42:List (Nat×VT):=[]
def p42:TProcess→Option Int:=fun (x:TProcess)=>x.x.bind fun (x1:TEngine)=>(C4 x1).bind fun (n2:Int)=>if (!x.began)=true then some 0 else if 0≤n2 then some n2 else some 2305843009213693952
theorem e42:vfn (T:=tE) lpK H42 (aP [EE]) q42 Ce.res (vOf Ce.code L42)=p42:=by kernel_rfl
abbrev n42:En tE:=⟨42,[],q42,p42⟩
theorem o42:aq F tE 42 q42 1 p42:=by
 rw [← e42]
 exact af (fn:=Ce) (aa (en:=EE) ae FK rfl) rfl (by kernel_rfl)
def q39:FSp:=⟨[(false,[.e false (.st 11) 0])],[],[],[.ld 0 false,.d true .bool,.slot 0 false]⟩
def L39:List (Nat×Lb):=[]
def H39:List (Nat×VT):=[]
def p39:TProcess→Option Bool:=fun (x:TProcess)=>(p42 x).bind fun (n1:Int)=>if n1≤x.horizon then (p42 x).bind fun (n2:Int)=>(p23 x).bind fun (n3:Int)=>some (decide (n2 < n3)) else some false
theorem e39:vfn (T:=tE) lpK H39 (aP [n42,n23]) q39 AN.res (vOf AN.code L39)=p39:=by kernel_rfl
abbrev n39:En tE:=⟨39,[],q39,p39⟩
theorem o39:aq F tE 39 q39 1 p39:=by
 rw [← e39]
 exact af (fn:=AN) (aa (en:=n42) (aa (en:=n23) ae o23 rfl) o42 rfl) rfl (by kernel_rfl)
def q40:FSp:=⟨[(false,[.e false (.st 11) 0])],[],[],[.ld 0 false,.d true .bool,.slot 0 false]⟩
def L40:List (Nat×Lb):=[]
def H40:List (Nat×VT):=[]
def p40:TProcess→Option Bool:=fun (x:TProcess)=>(p42 x).bind fun (n1:Int)=>if x.horizon < n1 then (p23 x).bind fun (n2:Int)=>some (decide (x.horizon < n2)) else some false
theorem e40:vfn (T:=tE) lpK H40 (aP [n42,n23]) q40 Ap.res (vOf Ap.code L40)=p40:=by kernel_rfl
abbrev n40:En tE:=⟨40,[],q40,p40⟩
theorem o40:aq F tE 40 q40 1 p40:=by
 rw [← e40]
 exact af (fn:=Ap) (aa (en:=n42) (aa (en:=n23) ae o23 rfl) o42 rfl) rfl (by kernel_rfl)
def q41:FSp:=⟨[(false,[.e false (.st 11) 0]),(true,[.d true (.int .i64),.d true (.int .i64),.d true (.int .i64)])],[],[],[.ld 0 false,.d true (.int .i64),.slot 0 false]⟩
def L41:List (Nat×Lb):=[]
def H41:List (Nat×VT):=[]
def p41:TProcess×Int×Int×Int→Option Int:=fun (x:TProcess×Int×Int×Int)=>(p42 x.fst).bind fun (n1:Int)=>(p23 x.fst).bind fun (n2:Int)=>some (if IntKind.i64.wrap ((if x.fst.horizon < -1 then -1 else x.fst.horizon)+1) < IntKind.i64.wrap ((if n2 < n1 then n2 else n1)+x.snd.snd.snd) then IntKind.i64.wrap ((if x.fst.horizon < -1 then -1 else x.fst.horizon)+1) else IntKind.i64.wrap ((if n2 < n1 then n2 else n1)+x.snd.snd.snd))
theorem e41:vfn (T:=tE) lpK H41 (aP [n42,n23]) q41 Ah.res (vOf Ah.code L41)=p41:=by kernel_rfl
abbrev n41:En tE:=⟨41,[],q41,p41⟩
theorem o41:aq F tE 41 q41 2 p41:=by
 rw [← e41]
 exact af (fn:=Ah) (aa (en:=n42) (aa (en:=n23) ae o23 rfl) o42 rfl) rfl (by kernel_rfl)
def q16:FSp:=⟨[(false,[.e false (.st 11) 0])],[],[],[.ld 0 false,.d true .bool,.slot 0 false]⟩
def L16:List (Nat×Lb):=[(5,.j [.ld 0 false,.e false (.st 11) 0,.slot 0 false,.ld 2 false,.c (.bool false),.slot 2 false,.ld 18 false,.d true .bool,.slot 18 false]),(9,.l [.ld 0 false,.e false (.st 11) 0,.slot 0 false,.ld 22 false,.d false (.sl true (.st 5)),.slot 22 false,.ld 23 false,.d true (.int .i64),.slot 23 false] [.ld 2 false,.c (.bool false),.slot 2 false,.ld 24 false,.d true (.int .i64),.slot 24 false] [(some 0,[]),(none,[.ld 2 false,.c (.bool true),.slot 2 false])])]
def H16:List (Nat×VT):=[]
def p16:TProcess→Option Bool:=fun (x:TProcess)=>
  if x.done=true then some false
  else
    ((p39 x).bind fun (b1:Bool)=>if b1=true then some (Sum.inl (x,true)) else (p40 x).bind fun (b2:Bool)=>some (Sum.inl (x,b2))).bind fun (x1:TProcess×Bool⊕Bool)=>
      match x1 with
      | Sum.inl x=>
        if x.snd=true then some true
        else
          (aw (fun (n3:Int)=>if n3 < (↑x.fst.out.length:Int) then (idx x.fst.out n3).bind fun (x4:TLane)=>(p41 (x.fst,x4.From,x4.To,x4.Ahead)).bind fun (n5:Int)=>(idx x.fst.sent n3).bind fun (n6:Int)=>if n6 < n5 then some (Sum.inr (Sum.inr ())) else some (Sum.inl (IntKind.i64.wrap (n3+1))) else some (Sum.inr (Sum.inl ()))) 0).bind fun (x3:Unit⊕Unit)=>
            match x3 with
            | Sum.inl x=>some false
            | Sum.inr y=>some true
      | Sum.inr r=>some r
theorem e16:vfn (T:=tE) lpK H16 (aP [n39,n40,n41]) q16 B4.res (vOf B4.code L16)=p16:=by kernel_rfl
abbrev n16:En tE:=⟨16,[],q16,p16⟩
theorem o16:aq F tE 16 q16 1 p16:=by
 rw [← e16]
 exact af (fn:=B4) (aa (en:=n39) (aa (en:=n40) (aa (en:=n41) ae o41 rfl) o40 rfl) o39 rfl) rfl (by kernel_rfl)
def Ga:FSp:=⟨[(false,[.e false (.st 7) 0])],[],[],[.ld 0 true,.d true (.int .i64),.d true (.int .i64),.d true (.int .i64),.d true (.int .i64),.slot 0 true,.ld 1 false,.d true .bool,.slot 1 false]⟩
def H8:List (Nat×Lb):=[]
def H0:List (Nat×VT):=[]
def EX:THeap→Option (Int×Int×Int×Int×Bool):=fun (x:THeap)=>if (↑x.l.length:Int)=0 then some (0,0,0,0,false) else (idx x.l 0).bind fun (x1:TKey)=>some (x1.Time,x1.Prio,x1.ID,x1.N,true)
abbrev HH:En tE:=⟨132,[],Ga,EX⟩
def Ef:FSp:=⟨[(true,[.d true (.int .i64),.d true (.int .i64),.d true (.int .i64),.d true (.int .i64)]),(true,[.d true (.int .i64),.d true (.int .i64),.d true (.int .i64),.d true (.int .i64)])],[],[],[.ld 0 false,.d true .bool,.slot 0 false]⟩
def Hl:List (Nat×Lb):=[]
def Hh:List (Nat×VT):=[(25,(.int .i64))]
def zP:Int×Int×Int×Int×Int×Int×Int×Int→Option Bool:=fun (x:Int×Int×Int×Int×Int×Int×Int×Int)=>(p49 (x.fst,x.snd.snd.snd.snd.fst)).bind fun (n1:Int)=>(p49 (x.snd.fst,x.snd.snd.snd.snd.snd.fst)).bind fun (n2:Int)=>(p49 (x.snd.snd.fst,x.snd.snd.snd.snd.snd.snd.fst)).bind fun (n3:Int)=>(p49 (x.snd.snd.snd.fst,x.snd.snd.snd.snd.snd.snd.snd)).bind fun (n4:Int)=>(p48 [n1,n2,n3,n4]).bind fun (n5:Int)=>some (decide (n5 < 0))
theorem Ha:vfn (T:=tE) lpK Hh (aP [n49,n48]) Ef qI.res (vOf qI.code Hl)=zP:=by kernel_rfl
abbrev CW:En tE:=⟨138,[],Ef,zP⟩
theorem E4:aq F tE 138 Ef 2 zP:=by
 rw [← Ha]
 exact af (fn:=qI) (aa (en:=n49) (aa (en:=n48) ae o48 rfl) o49 rfl) rfl (by kernel_rfl)
def Fn:FSp:=⟨[(false,[.ptr 0 0])],[.pr (.st 7)],[0],[.ld 0 false,.ptr 0 0,.slot 0 false,.pr (.st 7)]⟩
def HS:List (Nat×Lb):=[(1,.l [] [.ld 0 false,.ptr 0 0,.slot 0 false,.ld 2 false,.d true (.int .i64),.slot 2 false,.pr (.st 7)] [(none,[.ld 0 false,.ptr 0 0,.slot 0 false,.pr (.st 7)])]),(5,.l [.ld 2 false,.d true (.int .i64),.slot 2 false,.ld 13 true,.d true (.int .i64),.d true (.int .i64),.slot 13 true] [.ld 0 false,.ptr 0 0,.slot 0 false,.ld 3 false,.d true (.int .i64),.slot 3 false,.ld 14 false,.d true (.int .i64),.slot 14 false,.pr (.st 7)] [(some 2,[.ld 0 false,.ptr 0 0,.slot 0 false,.ld 3 false,.d true (.int .i64),.slot 3 false,.pr (.st 7)])]),(10,.j [.ld 0 false,.ptr 0 0,.slot 0 false,.ld 3 false,.d true (.int .i64),.slot 3 false,.ld 5 false,.d true (.int .i64),.slot 5 false,.ld 14 false,.d true (.int .i64),.slot 14 false,.ld 40 false,.d true .bool,.slot 40 false,.pr (.st 7)])]
def HI:List (Nat×VT):=[]
def EP:THeap→Option THeap:=fun (x:THeap)=>
  (aw
        (fun (x1:Int×THeap)=>
          (aw
                (fun (x2:Int×Int×THeap)=>
                  if x2.snd.fst < 2 then
                    (idx [IntKind.i64.wrap (IntKind.i64.wrap (2 * x1.fst)+1),IntKind.i64.wrap (IntKind.i64.wrap (2 * x1.fst)+2)] x2.snd.fst).bind fun (n3:Int)=>
                      (if n3 < (↑x2.snd.snd.l.length:Int) then (idx x2.snd.snd.l n3).bind fun (x4:TKey)=>(idx x2.snd.snd.l x2.fst).bind fun (x5:TKey)=>(zP (x4.Time,x4.Prio,x4.ID,x4.N,x5.Time,x5.Prio,x5.ID,x5.N)).bind fun (b6:Bool)=>some (Sum.inl (x2.fst,n3,x2.snd.fst,b6,x2.snd.snd)) else some (Sum.inl (x2.fst,n3,x2.snd.fst,false,x2.snd.snd))).bind fun (x4:Int×Int×Int×Bool×THeap⊕Int×Int×THeap⊕Int×THeap)=>
                        match x4 with
                        | Sum.inl x=>if x.snd.snd.snd.fst=true then some (Sum.inl (x.snd.fst,IntKind.i64.wrap (x.snd.snd.fst+1),x.snd.snd.snd.snd)) else some (Sum.inl (x.fst,IntKind.i64.wrap (x.snd.snd.fst+1),x.snd.snd.snd.snd))
                        | Sum.inr r=>some r
                  else some (Sum.inr (x2.fst,x2.snd.snd)))
                (x1.fst,0,x1.snd)).bind
            fun (x2:Int×THeap)=>if x2.fst=x1.fst then some (Sum.inr x2.snd) else (idx x2.snd.l x2.fst).bind fun (x3:TKey)=>(idx x2.snd.l x1.fst).bind fun (x4:TKey)=>(idx x2.snd.l x1.fst).bind fun (x5:TKey)=>(idx (x2.snd.l.set x1.fst.toNat x3) x2.fst).bind fun (x6:TKey)=>some (Sum.inl (x2.fst,{ l:=(x2.snd.l.set x1.fst.toNat x3).set x2.fst.toNat x4 })))
        (0,x)).bind
    fun (x1:THeap)=>some x1
abbrev HP:En tE:=⟨139,[],Fn,EP⟩
def HB:FSp:=⟨[(false,[.ptr 0 0])],[.pr (.st 7)],[0],[.ld 0 true,.d true (.int .i64),.d true (.int .i64),.d true (.int .i64),.d true (.int .i64),.slot 0 true,.ld 1 false,.d true .bool,.slot 1 false,.ld 2 false,.ptr 0 0,.slot 2 false,.pr (.st 7)]⟩
def HK:List (Nat×Lb):=[]
def HW:List (Nat×VT):=[]
def HC:THeap→Option (Int×Int×Int×Int×Bool×THeap):=fun (x:THeap)=>(EX x).bind fun (x1:Int×Int×Int×Int×Bool)=>if (!x1.snd.snd.snd.snd)=true then some (x1.fst,x1.snd.fst,x1.snd.snd.fst,x1.snd.snd.snd.fst,false,x) else (idx x.l (IntKind.i64.wrap ((↑x.l.length:Int) - 1))).bind fun (x2:TKey)=>(idx x.l 0).bind fun (x3:TKey)=>(slc (x.l.set (Int.toNat 0) x2) 0 (IntKind.i64.wrap ((↑x.l.length:Int) - 1))).bind fun (l4:List TKey)=>(EP { l:=l4 }).bind fun (x5:THeap)=>some (x1.fst,x1.snd.fst,x1.snd.snd.fst,x1.snd.snd.snd.fst,true,x5)
abbrev HG:En tE:=⟨133,[],HB,HC⟩
def DJ:FSp:=⟨[(false,[.r 0]),(false,[.d true (.int .i64)]),(false,[.d true (.int .i64)])],[.sl (.int .i64)],[0],[.ld 0 false,.d true .bool,.slot 0 false,.ld 1 false,.r 0,.slot 1 false,.sl (.int .i64)]⟩
def GZ:List (Nat×Lb):=[]
def G8:List (Nat×VT):=[]
def BL:Int×Int×List Int→Option (Bool×List Int):=fun (x:Int×Int×List Int)=>(idx x.snd.snd x.fst).bind fun (n1:Int)=>(idx x.snd.snd x.fst).bind fun (n2:Int)=>(idx (x.snd.snd.set x.fst.toNat (IntKind.i64.wrap (n1+x.snd.fst))) x.fst).bind fun (n3:Int)=>some (decide (n3≤1099511627776),x.snd.snd.set x.fst.toNat (IntKind.i64.wrap (n1+x.snd.fst)))
theorem Hy:vfn (T:=tE) lpK G8 (aP []) DJ rz.res (vOf rz.code GZ)=BL:=by kernel_rfl
abbrev CU:En tE:=⟨134,[],DJ,BL⟩
theorem EF:aq F tE 134 DJ 3 BL:=by
 rw [← Hy]
 exact af (fn:=rz) ae rfl (by kernel_rfl)
def DE:FSp:=⟨[(false,[.ptr 0 0]),(false,[.d true (.int .i64)])],[.pr (.st 10)],[0],[.ld 0 false,.ptr 0 0,.slot 0 false,.pr (.st 10)]⟩
def Fr:List (Nat×Lb):=[(1,.l [.ld 12 false,.d true (.sl false (.int .i64)),.slot 12 false,.ld 13 false,.d true (.int .i64),.slot 13 false] [.ld 0 false,.ptr 0 0,.slot 0 false,.ld 14 false,.d true (.int .i64),.slot 14 false,.pr (.st 10)] [(some 0,[.ld 0 false,.ptr 0 0,.slot 0 false,.pr (.st 10)])])]
def FT:List (Nat×VT):=[]
def vu:Int×TEngine→Option TEngine:=fun (x:Int×TEngine)=>(idx x.snd.near x.fst).bind fun (l1:List Int)=>(aw (fun (x2:Int×TEngine)=>if x2.fst < (↑l1.length:Int) then (idx l1 x2.fst).bind fun (n3:Int)=>(idx x2.snd.n.Trans n3).bind fun (x4:TTrans)=>(p66 (x4.Name,x4.Delay,x4.Prio,x4.In,x4.Not,x4.Out,x2.snd.marks)).bind fun (b5:Bool)=>(idx x2.snd.ready n3).bind fun (b6:Bool)=>some (Sum.inl (IntKind.i64.wrap (x2.fst+1),{ n:=x2.snd.n,mine:=x2.snd.mine,near:=x2.snd.near,ready:=x2.snd.ready.set n3.toNat b5,marks:=x2.snd.marks,wait:=x2.snd.wait,in_:=x2.snd.in_,log:=x2.snd.log,way:=x2.snd.way,time:=x2.snd.time,out:=x2.snd.out,away:=x2.snd.away,count:=x2.snd.count })) else some (Sum.inr x2.snd)) (0,x.snd)).bind fun (x2:TEngine)=>some x2
theorem FX:vfn (T:=tE) lpK FT (aP [n66]) DE rP.res (vOf rP.code Fr)=vu:=by kernel_rfl
abbrev C2:En tE:=⟨135,[],DE,vu⟩
theorem Ey:aq F tE 135 DE 2 vu:=by
 rw [← FX]
 exact af (fn:=rP) (aa (en:=n66) ae o66 rfl) rfl (by kernel_rfl)
def Eh:FSp:=⟨[(true,[.d false (.sl false (.st 2)),.d false (.sl false (.st 1))]),(false,[.d true (.int .i64)]),(false,[.d true (.int .i64)])],[],[],[.ld 0 false,.d true .bool,.slot 0 false]⟩
def G7:List (Nat×Lb):=[]
def Gq:List (Nat×VT):=[]
def CX:List TPlace×List TTrans×Int×Int→Option Bool:=fun (x:List TPlace×List TTrans×Int×Int)=>(idx x.snd.fst x.snd.snd.fst).bind fun (x1:TTrans)=>(idx x.snd.fst x.snd.snd.snd).bind fun (x2:TTrans)=>if (!decide (x1.Prio=x2.Prio))=true then (idx x.snd.fst x.snd.snd.fst).bind fun (x3:TTrans)=>(idx x.snd.fst x.snd.snd.snd).bind fun (x4:TTrans)=>some (decide (x3.Prio < x4.Prio)) else some (decide (x.snd.snd.fst < x.snd.snd.snd))
theorem Fh:vfn (T:=tE) lpK Gq (aP []) Eh rc.res (vOf rc.code G7)=CX:=by kernel_rfl
abbrev EO:En tE:=⟨136,[],Eh,CX⟩
theorem G0:aq F tE 136 Eh 3 CX:=by
 rw [← Fh]
 exact af (fn:=rc) ae rfl (by kernel_rfl)
def FB:FSp:=⟨[(false,[.ptr 0 0]),(true,[.d true (.int .i64),.d true (.int .i64),.d true (.int .i64),.d true (.int .i64)])],[.pr (.st 7)],[0],[.ld 0 false,.ptr 0 0,.slot 0 false,.pr (.st 7)]⟩
def HJ:List (Nat×Lb):=[(5,.l [] [.ld 0 false,.ptr 0 0,.slot 0 false,.ld 4 false,.d true (.int .i64),.slot 4 false,.pr (.st 7)] [(some 0,[.ld 0 false,.ptr 0 0,.slot 0 false,.pr (.st 7)])])]
def HF:List (Nat×VT):=[(14,(.st 6))]
def Gi:Int×Int×Int×Int×THeap→Option THeap:=fun (x:Int×Int×Int×Int×THeap)=>(app 32 x.snd.snd.snd.snd.l [{ Time:=x.fst,Prio:=x.snd.fst,ID:=x.snd.snd.fst,N:=x.snd.snd.snd.fst }]).bind fun (l1:List TKey)=>(aw (fun (x2:Int×THeap)=>if 0 < x2.fst then (pK IntKind.i64 (IntKind.i64.wrap (x2.fst - 1)) 2).bind fun (n3:Int)=>(idx x2.snd.l x2.fst).bind fun (x4:TKey)=>(idx x2.snd.l n3).bind fun (x5:TKey)=>(zP (x4.Time,x4.Prio,x4.ID,x4.N,x5.Time,x5.Prio,x5.ID,x5.N)).bind fun (b6:Bool)=>if (!b6)=true then some (Sum.inr x2.snd) else (idx x2.snd.l n3).bind fun (x7:TKey)=>(idx x2.snd.l x2.fst).bind fun (x8:TKey)=>(idx x2.snd.l x2.fst).bind fun (x9:TKey)=>(idx (x2.snd.l.set x2.fst.toNat x7) n3).bind fun (x10:TKey)=>some (Sum.inl (n3,{ l:=(x2.snd.l.set x2.fst.toNat x7).set n3.toNat x8 })) else some (Sum.inr x2.snd)) (IntKind.i64.wrap ((↑l1.length:Int) - 1),{ l:=l1 })).bind fun (x2:THeap)=>some x2
abbrev HV:En tE:=⟨131,[],FB,Gi⟩
def na:FSp:=⟨[(false,[.ptr 0 6]),(true,[.d true (.int .i64),.d true (.int .i64),.d true (.int .i64),.d true (.int .i64)])],[.pr (.st 10)],[0],[.ld 0 false,.ptr 0 6,.slot 0 false,.pr (.st 10)]⟩
def wg:List (Nat×Lb):=[(5,.l [] [.ld 0 false,.ptr 0 6,.slot 0 false,.ld 4 false,.d true (.int .i64),.slot 4 false,.pr (.st 10)] [(some 0,[.ld 0 false,.ptr 0 6,.slot 0 false,.pr (.st 10)])])]
def xl:List (Nat×VT):=[(14,(.st 6))]
def kg:Int×Int×Int×Int×TEngine→Option TEngine:=fun (x:Int×Int×Int×Int×TEngine)=>(app 32 x.snd.snd.snd.snd.wait.l [{ Time:=x.fst,Prio:=x.snd.fst,ID:=x.snd.snd.fst,N:=x.snd.snd.snd.fst }]).bind fun (l1:List TKey)=>(aw (fun (x2:Int×TEngine)=>if 0 < x2.fst then (pK IntKind.i64 (IntKind.i64.wrap (x2.fst - 1)) 2).bind fun (n3:Int)=>(idx x2.snd.wait.l x2.fst).bind fun (x4:TKey)=>(idx x2.snd.wait.l n3).bind fun (x5:TKey)=>(zP (x4.Time,x4.Prio,x4.ID,x4.N,x5.Time,x5.Prio,x5.ID,x5.N)).bind fun (b6:Bool)=>if (!b6)=true then some (Sum.inr x2.snd) else (idx x2.snd.wait.l n3).bind fun (x7:TKey)=>(idx x2.snd.wait.l x2.fst).bind fun (x8:TKey)=>(idx x2.snd.wait.l x2.fst).bind fun (x9:TKey)=>(idx (x2.snd.wait.l.set x2.fst.toNat x7) n3).bind fun (x10:TKey)=>some (Sum.inl (n3,{ n:=x2.snd.n,mine:=x2.snd.mine,near:=x2.snd.near,ready:=x2.snd.ready,marks:=x2.snd.marks,wait:={ l:=(x2.snd.wait.l.set x2.fst.toNat x7).set n3.toNat x8 },in_:=x2.snd.in_,log:=x2.snd.log,way:=x2.snd.way,time:=x2.snd.time,out:=x2.snd.out,away:=x2.snd.away,count:=x2.snd.count })) else some (Sum.inr x2.snd)) (IntKind.i64.wrap ((↑l1.length:Int) - 1),{ n:=x.snd.snd.snd.snd.n,mine:=x.snd.snd.snd.snd.mine,near:=x.snd.snd.snd.snd.near,ready:=x.snd.snd.snd.snd.ready,marks:=x.snd.snd.snd.snd.marks,wait:={ l:=l1 },in_:=x.snd.snd.snd.snd.in_,log:=x.snd.snd.snd.snd.log,way:=x.snd.snd.snd.snd.way,time:=x.snd.snd.snd.snd.time,out:=x.snd.snd.snd.snd.out,away:=x.snd.snd.snd.snd.away,count:=x.snd.snd.snd.snd.count })).bind fun (x2:TEngine)=>some x2
theorem v9:vfn (T:=tE) lpK xl (aP [CW]) na sd.res (vOf sd.code wg)=kg:=by kernel_rfl
abbrev rL:En tE:=⟨131,[(0,6)],na,kg⟩
theorem wM:aq F tE 131 na 2 kg:=by
 rw [← v9]
 exact af (fn:=sd) (aa (en:=CW) ae E4 rfl) rfl (by kernel_rfl)
def D9:FSp:=⟨[(false,[.ptr 0 0]),(true,[.d true (.int .i64),.d true (.int .i64),.d true (.int .i64)])],[.pr (.st 10)],[0],[.ld 0 false,.ptr 0 0,.slot 0 false,.pr (.st 10)]⟩
def GM:List (Nat×Lb):=[(2,.j [.ld 0 false,.ptr 0 0,.slot 0 false,.ld 3 false,.ptr 1 0,.slot 3 false,.ld 20 false,.d true .bool,.slot 20 false,.pr (.st 10),.pr (.st 9)])]
def Hw:List (Nat×VT):=[]
def BC:Int×Int×Int×TEngine→Option TEngine:=fun (x:Int×Int×Int×TEngine)=>
  (if x.snd.fst < 0 then some (Sum.inl (true,x.snd.snd.snd,{ Time:=x.fst,Place:=x.snd.fst,N:=x.snd.snd.fst })) else some (Sum.inl (decide ((↑x.snd.snd.snd.marks.length:Int)≤x.snd.fst),x.snd.snd.snd,{ Time:=x.fst,Place:=x.snd.fst,N:=x.snd.snd.fst }))).bind fun (x1:Bool×TEngine×TEvent⊕TEngine)=>
    match x1 with
    | Sum.inl x=>if x.fst=true then some x.snd.fst else (kg (x.snd.snd.Time,x.snd.snd.N,x.snd.snd.Place,IntKind.i64.wrap (x.snd.fst.count+1),{ n:=x.snd.fst.n,mine:=x.snd.fst.mine,near:=x.snd.fst.near,ready:=x.snd.fst.ready,marks:=x.snd.fst.marks,wait:=x.snd.fst.wait,in_:=x.snd.fst.in_,log:=x.snd.fst.log,way:=x.snd.fst.way,time:=x.snd.fst.time,out:=x.snd.fst.out,away:=x.snd.fst.away,count:=IntKind.i64.wrap (x.snd.fst.count+1) })).bind fun (x3:TEngine)=>(idx x3.way x.snd.snd.Place).bind fun (n4:Int)=>(idx x3.way x.snd.snd.Place).bind fun (n5:Int)=>some { n:=x3.n,mine:=x3.mine,near:=x3.near,ready:=x3.ready,marks:=x3.marks,wait:=x3.wait,in_:=x3.in_,log:=x3.log,way:=x3.way.set x.snd.snd.Place.toNat (IntKind.i64.wrap (n4+x.snd.snd.N)),time:=x3.time,out:=x3.out,away:=x3.away,count:=x3.count }
    | Sum.inr r=>some r
theorem GJ:vfn (T:=tE) lpK Hw (aP [rL]) D9 qC.res (vOf qC.code GM)=BC:=by kernel_rfl
abbrev C3:En tE:=⟨126,[],D9,BC⟩
theorem EY:aq F tE 126 D9 2 BC:=by
 rw [← GJ]
 exact af (fn:=qC) (aa (en:=rL) ae wM rfl) rfl (by kernel_rfl)
def Df:FSp:=⟨[(true,[.d true .str,.d true (.int .i64),.d true (.int .i64),.d false (.sl false (.st 0)),.d false (.sl false (.st 0)),.d false (.sl false (.st 0))]),(false,[.r 0])],[.sl (.int .i64)],[1],[.ld 0 false,.r 0,.slot 0 false,.sl (.int .i64)]⟩
def Ht:List (Nat×Lb):=[(2,.l [.ld 7 false,.d false (.sl false (.st 0)),.slot 7 false,.ld 8 false,.d true (.int .i64),.slot 8 false] [.ld 1 false,.r 0,.slot 1 false,.ld 9 false,.d true (.int .i64),.slot 9 false,.sl (.int .i64)] [(some 0,[.ld 1 false,.r 0,.slot 1 false,.sl (.int .i64)])])]
def Gy:List (Nat×VT):=[]
def CQ:List UInt8×Int×Int×List TArc×List TArc×List TArc×List Int→Option (List Int):=fun (x:List UInt8×Int×Int×List TArc×List TArc×List TArc×List Int)=>(aw (fun (x1:Int×List Int)=>if x1.fst < (↑x.snd.snd.snd.fst.length:Int) then (idx x.snd.snd.snd.fst x1.fst).bind fun (x2:TArc)=>(idx x1.snd x2.Place).bind fun (n3:Int)=>(idx x1.snd x2.Place).bind fun (n4:Int)=>some (Sum.inl (IntKind.i64.wrap (x1.fst+1),x1.snd.set x2.Place.toNat (IntKind.i64.wrap (n3 - x2.N)))) else some (Sum.inr x1.snd)) (0,x.snd.snd.snd.snd.snd.snd)).bind fun (l1:List Int)=>some l1
theorem F1:vfn (T:=tE) lpK Gy (aP []) Df rZ.res (vOf rZ.code Ht)=CQ:=by kernel_rfl
abbrev EG:En tE:=⟨140,[],Df,CQ⟩
theorem F3:aq F tE 140 Df 2 CQ:=by
 rw [← F1]
 exact af (fn:=rZ) ae rfl (by kernel_rfl)
def DG:FSp:=⟨[(false,[.ptr 0 0]),(false,[.d true (.int .i64)])],[.pr (.st 10)],[0],[.ld 0 false,.d true (.int .i64),.slot 0 false,.ld 1 false,.ptr 0 0,.slot 1 false,.pr (.st 10)]⟩
def Hz:List (Nat×Lb):=[(7,.j [.ld 0 false,.ptr 0 0,.slot 0 false,.ld 1 false,.d true (.int .i64),.slot 1 false,.ld 5 false,.ptr 1 0,.slot 5 false,.ld 35 false,.d true .bool,.slot 35 false,.pr (.st 10),.pr (.st 1)]),(14,.l [.ld 79 false,.d true (.sl false (.st 0)),.slot 79 false,.ld 80 false,.d true (.int .i64),.slot 80 false] [.ld 0 false,.ptr 0 0,.slot 0 false,.ld 5 false,.ptr 1 0,.slot 5 false,.ld 81 false,.d true (.int .i64),.slot 81 false,.pr (.st 10),.pr (.st 1)] [(some 1,[.ld 0 false,.ptr 0 0,.slot 0 false,.ld 5 false,.ptr 1 0,.slot 5 false,.pr (.st 10),.pr (.st 1)])]),(22,.l [.ld 91 false,.d true (.sl false (.st 0)),.slot 91 false,.ld 92 false,.d true (.int .i64),.slot 92 false] [.ld 0 false,.ptr 0 0,.slot 0 false,.ld 5 false,.ptr 1 0,.slot 5 false,.ld 8 false,.d true .bool,.slot 8 false,.ld 93 false,.d true (.int .i64),.slot 93 false,.pr (.st 10),.pr (.st 1)] [(some 3,[.ld 0 false,.ptr 0 0,.slot 0 false,.ld 8 false,.d true .bool,.slot 8 false,.pr (.st 10)])])]
def Gx:List (Nat×VT):=[(68,(.st 8)),(140,(.st 9))]
def CO:Int×TEngine→Option (Int×TEngine):=fun (x:Int×TEngine)=>
  (idx x.snd.n.Trans x.fst).bind fun (x1:TTrans)=>
    if (x.snd.in_.bind fun (l2:List (Int×Int))=>pu (keI IntKind.i64) l2 x.fst).getD 0=20 then some (4,x.snd)
    else
      if (↑x.snd.log.length:Int)=2000 then some (5,x.snd)
      else
        (if 0 < (↑x1.Out.length:Int) then some (Sum.inl (x.fst,decide (1099511627776 < IntKind.i64.wrap (x.snd.time+x1.Delay)),x.snd,x1)) else some (Sum.inl (x.fst,false,x.snd,x1))).bind fun (x2:Int×Bool×TEngine×TTrans⊕Int×TEngine)=>
          match x2 with
          | Sum.inl x=>if x.snd.fst=true then some (3,x.snd.snd.fst) else x.snd.snd.fst.in_.bind fun (l4:List (Int×Int))=>(app 16 x.snd.snd.fst.log [{ Time:=x.snd.snd.fst.time,Trans:=x.fst }]).bind fun (l5:List TFire)=>(CQ (x.snd.snd.snd.Name,x.snd.snd.snd.Delay,x.snd.snd.snd.Prio,x.snd.snd.snd.In,x.snd.snd.snd.Not,x.snd.snd.snd.Out,x.snd.snd.fst.marks)).bind fun (l6:List Int)=>(aw (fun (x7:Int×TEngine×TTrans)=>if x7.fst < (↑x.snd.snd.snd.In.length:Int) then (idx x.snd.snd.snd.In x7.fst).bind fun (x8:TArc)=>(vu (x8.Place,x7.snd.fst)).bind fun (x9:TEngine)=>some (Sum.inl (IntKind.i64.wrap (x7.fst+1),x9,x7.snd.snd)) else some (Sum.inr (x7.snd.fst,x7.snd.snd))) (0,{ n:=x.snd.snd.fst.n,mine:=x.snd.snd.fst.mine,near:=x.snd.snd.fst.near,ready:=x.snd.snd.fst.ready,marks:=l6,wait:=x.snd.snd.fst.wait,in_:=some (kE (keI IntKind.i64) l4 x.fst (IntKind.i64.wrap ((x.snd.snd.fst.in_.bind fun (l7:List (Int×Int))=>pu (keI IntKind.i64) l7 x.fst).getD 0+1))),log:=l5,way:=x.snd.snd.fst.way,time:=x.snd.snd.fst.time,out:=x.snd.snd.fst.out,away:=x.snd.snd.fst.away,count:=x.snd.snd.fst.count },x.snd.snd.snd)).bind fun (x7:TEngine×TTrans)=>(aw (fun (x8:Bool×Int×TEngine×TTrans)=>if x8.snd.fst < (↑x7.snd.Out.length:Int) then (idx x7.snd.Out x8.snd.fst).bind fun (x9:TArc)=>(p65 (x8.snd.snd.fst.away,x9.Place)).bind fun (b10:Bool)=>if b10=true then (app 24 x8.snd.snd.fst.out [{ Time:=IntKind.i64.wrap (x8.snd.snd.fst.time+x8.snd.snd.snd.Delay),Place:=x9.Place,N:=x9.N }]).bind fun (l11:List TEvent)=>some (Sum.inl (x8.fst,IntKind.i64.wrap (x8.snd.fst+1),{ n:=x8.snd.snd.fst.n,mine:=x8.snd.snd.fst.mine,near:=x8.snd.snd.fst.near,ready:=x8.snd.snd.fst.ready,marks:=x8.snd.snd.fst.marks,wait:=x8.snd.snd.fst.wait,in_:=x8.snd.snd.fst.in_,log:=x8.snd.snd.fst.log,way:=x8.snd.snd.fst.way,time:=x8.snd.snd.fst.time,out:=l11,away:=x8.snd.snd.fst.away,count:=x8.snd.snd.fst.count },x8.snd.snd.snd)) else if 0 < x8.snd.snd.snd.Delay then (BC (IntKind.i64.wrap (x8.snd.snd.fst.time+x8.snd.snd.snd.Delay),x9.Place,x9.N,x8.snd.snd.fst)).bind fun (x11:TEngine)=>some (Sum.inl (x8.fst,IntKind.i64.wrap (x8.snd.fst+1),x11,x8.snd.snd.snd)) else (BL (x9.Place,x9.N,x8.snd.snd.fst.marks)).bind fun (x11:Bool×List Int)=>if (!x11.fst)=true then (vu (x9.Place,{ n:=x8.snd.snd.fst.n,mine:=x8.snd.snd.fst.mine,near:=x8.snd.snd.fst.near,ready:=x8.snd.snd.fst.ready,marks:=x11.snd,wait:=x8.snd.snd.fst.wait,in_:=x8.snd.snd.fst.in_,log:=x8.snd.snd.fst.log,way:=x8.snd.snd.fst.way,time:=x8.snd.snd.fst.time,out:=x8.snd.snd.fst.out,away:=x8.snd.snd.fst.away,count:=x8.snd.snd.fst.count })).bind fun (x12:TEngine)=>some (Sum.inl (true,IntKind.i64.wrap (x8.snd.fst+1),x12,x8.snd.snd.snd)) else (vu (x9.Place,{ n:=x8.snd.snd.fst.n,mine:=x8.snd.snd.fst.mine,near:=x8.snd.snd.fst.near,ready:=x8.snd.snd.fst.ready,marks:=x11.snd,wait:=x8.snd.snd.fst.wait,in_:=x8.snd.snd.fst.in_,log:=x8.snd.snd.fst.log,way:=x8.snd.snd.fst.way,time:=x8.snd.snd.fst.time,out:=x8.snd.snd.fst.out,away:=x8.snd.snd.fst.away,count:=x8.snd.snd.fst.count })).bind fun (x12:TEngine)=>some (Sum.inl (x8.fst,IntKind.i64.wrap (x8.snd.fst+1),x12,x8.snd.snd.snd)) else some (Sum.inr (x8.fst,x8.snd.snd.fst))) (false,0,x7.fst,x7.snd)).bind fun (x8:Bool×TEngine)=>if x8.fst=true then some (3,x8.snd) else some (0,x8.snd)
          | Sum.inr r=>some r
theorem F8:vfn (T:=tE) lpK Gx (aP [EG,C2,n65,C3,CU]) DG sV.res (vOf sV.code Hz)=CO:=by kernel_rfl
abbrev ES:En tE:=⟨137,[],DG,CO⟩
theorem FA:aq F tE 137 DG 2 CO:=by
 rw [← F8]
 exact af (fn:=sV) (aa (en:=EG) (aa (en:=C2) (aa (en:=n65) (aa (en:=C3) (aa (en:=CU) ae EF rfl) EY rfl) o65 rfl) Ey rfl) F3 rfl) rfl (by kernel_rfl)
def mi:FSp:=⟨[(false,[.ptr 0 6])],[.pr (.st 10)],[0],[.ld 0 true,.d true (.int .i64),.d true (.int .i64),.d true (.int .i64),.d true (.int .i64),.slot 0 true,.ld 1 false,.d true .bool,.slot 1 false,.ld 2 false,.ptr 0 6,.slot 2 false,.pr (.st 10)]⟩
def xG:List (Nat×Lb):=[]
def xg:List (Nat×VT):=[]
def fq:TEngine→Option (Int×Int×Int×Int×Bool×TEngine):=fun (x:TEngine)=>if (↑x.wait.l.length:Int)=0 then some (0,0,0,0,false,x) else (idx x.wait.l 0).bind fun (x1:TKey)=>some (x1.Time,x1.Prio,x1.ID,x1.N,true,x)
theorem v6:vfn (T:=tE) lpK xg (aP []) mi li.res (vOf li.code xG)=fq:=by kernel_rfl
abbrev kv:En tE:=⟨132,[(0,6)],mi,fq⟩
theorem qn:aq F tE 132 mi 1 fq:=by
 rw [← v6]
 exact af (fn:=li) ae rfl (by kernel_rfl)
def mF:FSp:=⟨[(false,[.ptr 0 6])],[.pr (.st 10)],[0],[.ld 0 false,.ptr 0 6,.slot 0 false,.pr (.st 10)]⟩
def zH:List (Nat×Lb):=[(1,.l [] [.ld 0 false,.ptr 0 6,.slot 0 false,.ld 2 false,.d true (.int .i64),.slot 2 false,.pr (.st 10)] [(none,[.ld 0 false,.ptr 0 6,.slot 0 false,.pr (.st 10)])]),(5,.l [.ld 2 false,.d true (.int .i64),.slot 2 false,.ld 13 true,.d true (.int .i64),.d true (.int .i64),.slot 13 true] [.ld 0 false,.ptr 0 6,.slot 0 false,.ld 3 false,.d true (.int .i64),.slot 3 false,.ld 14 false,.d true (.int .i64),.slot 14 false,.pr (.st 10)] [(some 2,[.ld 0 false,.ptr 0 6,.slot 0 false,.ld 3 false,.d true (.int .i64),.slot 3 false,.pr (.st 10)])]),(10,.j [.ld 0 false,.ptr 0 6,.slot 0 false,.ld 3 false,.d true (.int .i64),.slot 3 false,.ld 5 false,.d true (.int .i64),.slot 5 false,.ld 14 false,.d true (.int .i64),.slot 14 false,.ld 40 false,.d true .bool,.slot 40 false,.pr (.st 10)])]
def yF:List (Nat×VT):=[]
def j8:TEngine→Option TEngine:=fun (x:TEngine)=>
  (aw
        (fun (x1:Int×TEngine)=>
          (aw
                (fun (x2:Int×Int×TEngine)=>
                  if x2.snd.fst < 2 then
                    (idx [IntKind.i64.wrap (IntKind.i64.wrap (2 * x1.fst)+1),IntKind.i64.wrap (IntKind.i64.wrap (2 * x1.fst)+2)] x2.snd.fst).bind fun (n3:Int)=>
                      (if n3 < (↑x2.snd.snd.wait.l.length:Int) then (idx x2.snd.snd.wait.l n3).bind fun (x4:TKey)=>(idx x2.snd.snd.wait.l x2.fst).bind fun (x5:TKey)=>(zP (x4.Time,x4.Prio,x4.ID,x4.N,x5.Time,x5.Prio,x5.ID,x5.N)).bind fun (b6:Bool)=>some (Sum.inl (x2.fst,n3,x2.snd.fst,b6,x2.snd.snd)) else some (Sum.inl (x2.fst,n3,x2.snd.fst,false,x2.snd.snd))).bind fun (x4:Int×Int×Int×Bool×TEngine⊕Int×Int×TEngine⊕Int×TEngine)=>
                        match x4 with
                        | Sum.inl x=>if x.snd.snd.snd.fst=true then some (Sum.inl (x.snd.fst,IntKind.i64.wrap (x.snd.snd.fst+1),x.snd.snd.snd.snd)) else some (Sum.inl (x.fst,IntKind.i64.wrap (x.snd.snd.fst+1),x.snd.snd.snd.snd))
                        | Sum.inr r=>some r
                  else some (Sum.inr (x2.fst,x2.snd.snd)))
                (x1.fst,0,x1.snd)).bind
            fun (x2:Int×TEngine)=>if x2.fst=x1.fst then some (Sum.inr x2.snd) else (idx x2.snd.wait.l x2.fst).bind fun (x3:TKey)=>(idx x2.snd.wait.l x1.fst).bind fun (x4:TKey)=>(idx x2.snd.wait.l x1.fst).bind fun (x5:TKey)=>(idx (x2.snd.wait.l.set x1.fst.toNat x3) x2.fst).bind fun (x6:TKey)=>some (Sum.inl (x2.fst,{ n:=x2.snd.n,mine:=x2.snd.mine,near:=x2.snd.near,ready:=x2.snd.ready,marks:=x2.snd.marks,wait:={ l:=(x2.snd.wait.l.set x1.fst.toNat x3).set x2.fst.toNat x4 },in_:=x2.snd.in_,log:=x2.snd.log,way:=x2.snd.way,time:=x2.snd.time,out:=x2.snd.out,away:=x2.snd.away,count:=x2.snd.count })))
        (0,x)).bind
    fun (x1:TEngine)=>some x1
theorem yf:vfn (T:=tE) lpK yF (aP [CW]) mF qJ.res (vOf qJ.code zH)=j8:=by kernel_rfl
abbrev pP:En tE:=⟨139,[(0,6)],mF,j8⟩
theorem wR:aq F tE 139 mF 1 j8:=by
 rw [← yf]
 exact af (fn:=qJ) (aa (en:=CW) ae E4 rfl) rfl (by kernel_rfl)
def nu:FSp:=⟨[(false,[.ptr 0 6])],[.pr (.st 10)],[0],[.ld 0 true,.d true (.int .i64),.d true (.int .i64),.d true (.int .i64),.d true (.int .i64),.slot 0 true,.ld 1 false,.d true .bool,.slot 1 false,.ld 2 false,.ptr 0 6,.slot 2 false,.pr (.st 10)]⟩
def xA:List (Nat×Lb):=[]
def zO:List (Nat×VT):=[]
def jB:TEngine→Option (Int×Int×Int×Int×Bool×TEngine):=fun (x:TEngine)=>(fq x).bind fun (x1:Int×Int×Int×Int×Bool×TEngine)=>if (!x1.snd.snd.snd.snd.fst)=true then some (x1.fst,x1.snd.fst,x1.snd.snd.fst,x1.snd.snd.snd.fst,false,x1.snd.snd.snd.snd.snd) else (idx x1.snd.snd.snd.snd.snd.wait.l (IntKind.i64.wrap ((↑x1.snd.snd.snd.snd.snd.wait.l.length:Int) - 1))).bind fun (x2:TKey)=>(idx x1.snd.snd.snd.snd.snd.wait.l 0).bind fun (x3:TKey)=>(slc (x1.snd.snd.snd.snd.snd.wait.l.set (Int.toNat 0) x2) 0 (IntKind.i64.wrap ((↑x1.snd.snd.snd.snd.snd.wait.l.length:Int) - 1))).bind fun (l4:List TKey)=>(j8 { n:=x1.snd.snd.snd.snd.snd.n,mine:=x1.snd.snd.snd.snd.snd.mine,near:=x1.snd.snd.snd.snd.snd.near,ready:=x1.snd.snd.snd.snd.snd.ready,marks:=x1.snd.snd.snd.snd.snd.marks,wait:={ l:=l4 },in_:=x1.snd.snd.snd.snd.snd.in_,log:=x1.snd.snd.snd.snd.snd.log,way:=x1.snd.snd.snd.snd.snd.way,time:=x1.snd.snd.snd.snd.snd.time,out:=x1.snd.snd.snd.snd.snd.out,away:=x1.snd.snd.snd.snd.snd.away,count:=x1.snd.snd.snd.snd.snd.count }).bind fun (x5:TEngine)=>some (x1.fst,x1.snd.fst,x1.snd.snd.fst,x1.snd.snd.snd.fst,true,x5)
theorem yd:vfn (T:=tE) lpK zO (aP [kv,pP]) nu sW.res (vOf sW.code xA)=jB:=by kernel_rfl
abbrev sS:En tE:=⟨133,[(0,6)],nu,jB⟩
theorem zF:aq F tE 133 nu 1 jB:=by
 rw [← yd]
 exact af (fn:=sW) (aa (en:=kv) (aa (en:=pP) ae wR rfl) qn rfl) rfl (by kernel_rfl)
def DW:FSp:=⟨[(false,[.ptr 0 0]),(false,[.d true (.int .i64)])],[.pr (.st 10)],[0],[.ld 0 false,.d true (.int .i64),.slot 0 false,.ld 1 false,.ptr 0 0,.slot 1 false,.pr (.st 10)]⟩
def Hf:List (Nat×Lb):=[(8,.l [.ld 1 false,.d true (.int .i64),.slot 1 false,.ld 4 false,.d true (.int .i64),.slot 4 false] [.ld 0 false,.ptr 0 0,.slot 0 false,.ld 5 false,.d true .bool,.slot 5 false,.ld 6 false,.ptr 1 0,.slot 6 false,.ld 7 false,.d true .bool,.slot 7 false,.pr (.st 10),.pr (.st 6)] [(some 0,[.ld 0 false,.ptr 0 0,.slot 0 false,.ld 5 false,.d true .bool,.slot 5 false,.pr (.st 10)])]),(10,.j [.ld 0 false,.ptr 0 0,.slot 0 false,.ld 5 false,.d true .bool,.slot 5 false,.ld 6 false,.ptr 1 0,.slot 6 false,.ld 35 false,.d true .bool,.slot 35 false,.pr (.st 10),.pr (.st 6)]),(11,.j [.ld 0 false,.ptr 0 0,.slot 0 false,.ld 5 false,.d true .bool,.slot 5 false,.ld 6 false,.ptr 1 0,.slot 6 false,.pr (.st 10),.pr (.st 6)]),(20,.l [] [.ld 0 false,.ptr 0 0,.slot 0 false,.ld 4 false,.d true (.int .i64),.slot 4 false,.pr (.st 10)] [(none,[.ld 0 false,.ptr 0 0,.slot 0 false,.ld 4 false,.d true (.int .i64),.slot 4 false,.pr (.st 10)])]),(24,.l [.ld 4 false,.d true (.int .i64),.slot 4 false,.ld 82 false,.d true (.int .i64),.slot 82 false] [.ld 0 false,.ptr 0 0,.slot 0 false,.ld 8 false,.d true (.int .i64),.slot 8 false,.ld 81 false,.r 1,.slot 81 false,.ld 83 false,.d true (.int .i64),.slot 83 false,.ldr,.d true (.sl false (.st 2)),.d true (.sl false (.st 1)),.d true (.sl false .bool),.r 2,.r 1,.r 3,.r 4,.r 5,.r 6,.r 7,.d true (.int .i64),.r 8,.d true (.sl false .bool),.d true (.int .i64),.row,.sl .bool,.sl (.sl false (.int .i64)),.sl (.int .i64),.sl (.st 6),.mp (.int .i64) (.int .i64),.sl (.st 8),.sl (.int .i64),.sl (.st 9)] [(some 4,[.ld 0 false,.ptr 0 0,.slot 0 false,.ld 8 false,.d true (.int .i64),.slot 8 false,.pr (.st 10)])]),(29,.j [.ld 0 false,.ptr 0 0,.slot 0 false,.ld 8 false,.d true (.int .i64),.slot 8 false,.ld 9 false,.d true (.int .i64),.slot 9 false,.ld 81 false,.r 1,.slot 81 false,.ld 83 false,.d true (.int .i64),.slot 83 false,.ld 101 false,.d true .bool,.slot 101 false,.ldr,.d true (.sl false (.st 2)),.d true (.sl false (.st 1)),.d true (.sl false .bool),.r 2,.r 1,.r 3,.r 4,.r 5,.r 6,.r 7,.d true (.int .i64),.r 8,.d true (.sl false .bool),.d true (.int .i64),.row,.sl .bool,.sl (.sl false (.int .i64)),.sl (.int .i64),.sl (.st 6),.mp (.int .i64) (.int .i64),.sl (.st 8),.sl (.int .i64),.sl (.st 9)])]
def Hn:List (Nat×VT):=[(17,(.mp (.int .i64) (.int .i64)))]
def CZ:Int×TEngine→Option (Int×TEngine):=fun (x:Int×TEngine)=>
  (fq { n:=x.snd.n,mine:=x.snd.mine,near:=x.snd.near,ready:=x.snd.ready,marks:=x.snd.marks,wait:=x.snd.wait,in_:=some [],log:=x.snd.log,way:=x.snd.way,time:=x.fst,out:=x.snd.out,away:=x.snd.away,count:=x.snd.count }).bind fun (x1:Int×Int×Int×Int×Bool×TEngine)=>
    (aw
          (fun (x2:Bool×Bool×TEngine×TKey)=>
            (if x2.snd.fst=true then some (Sum.inl (x2.fst,decide (x2.snd.snd.snd.Time≤x.fst),x2.snd.snd.fst,x2.snd.snd.snd)) else some (Sum.inl (x2.fst,false,x2.snd.snd.fst,x2.snd.snd.snd))).bind fun (x3:Bool×Bool×TEngine×TKey⊕Bool×Bool×TEngine×TKey⊕Bool×TEngine)=>
              match x3 with
              | Sum.inl x=>
                if x.snd.fst=true then
                  ((jB x.snd.snd.fst).bind fun (x5:Int×Int×Int×Int×Bool×TEngine)=>(idx x5.snd.snd.snd.snd.snd.way x.snd.snd.snd.ID).bind fun (n6:Int)=>(idx x5.snd.snd.snd.snd.snd.way x.snd.snd.snd.ID).bind fun (n7:Int)=>(BL (x.snd.snd.snd.ID,x.snd.snd.snd.Prio,x5.snd.snd.snd.snd.snd.marks)).bind fun (x8:Bool×List Int)=>if (!x8.fst)=true then (vu (x.snd.snd.snd.ID,{ n:=x5.snd.snd.snd.snd.snd.n,mine:=x5.snd.snd.snd.snd.snd.mine,near:=x5.snd.snd.snd.snd.snd.near,ready:=x5.snd.snd.snd.snd.snd.ready,marks:=x8.snd,wait:=x5.snd.snd.snd.snd.snd.wait,in_:=x5.snd.snd.snd.snd.snd.in_,log:=x5.snd.snd.snd.snd.snd.log,way:=x5.snd.snd.snd.snd.snd.way.set x.snd.snd.snd.ID.toNat (IntKind.i64.wrap (n6 - x.snd.snd.snd.Prio)),time:=x5.snd.snd.snd.snd.snd.time,out:=x5.snd.snd.snd.snd.snd.out,away:=x5.snd.snd.snd.snd.snd.away,count:=x5.snd.snd.snd.snd.snd.count })).bind fun (x9:TEngine)=>some (Sum.inl (true,x9,x.snd.snd.snd)) else (vu (x.snd.snd.snd.ID,{ n:=x5.snd.snd.snd.snd.snd.n,mine:=x5.snd.snd.snd.snd.snd.mine,near:=x5.snd.snd.snd.snd.snd.near,ready:=x5.snd.snd.snd.snd.snd.ready,marks:=x8.snd,wait:=x5.snd.snd.snd.snd.snd.wait,in_:=x5.snd.snd.snd.snd.snd.in_,log:=x5.snd.snd.snd.snd.snd.log,way:=x5.snd.snd.snd.snd.snd.way.set x.snd.snd.snd.ID.toNat (IntKind.i64.wrap (n6 - x.snd.snd.snd.Prio)),time:=x5.snd.snd.snd.snd.snd.time,out:=x5.snd.snd.snd.snd.snd.out,away:=x5.snd.snd.snd.snd.snd.away,count:=x5.snd.snd.snd.snd.snd.count })).bind fun (x9:TEngine)=>some (Sum.inl (x.fst,x9,x.snd.snd.snd))).bind fun (x5:Bool×TEngine×TKey⊕Bool×Bool×TEngine×TKey⊕Bool×TEngine)=>
                    match x5 with
                    | Sum.inl x=>(fq x.snd.fst).bind fun (x7:Int×Int×Int×Int×Bool×TEngine)=>some (Sum.inl (x.fst,x7.snd.snd.snd.snd.fst,x7.snd.snd.snd.snd.snd,{ Time:=x7.fst,Prio:=x7.snd.fst,ID:=x7.snd.snd.fst,N:=x7.snd.snd.snd.fst }))
                    | Sum.inr r=>some r
                else some (Sum.inr (x.fst,x.snd.snd.fst))
              | Sum.inr r=>some r)
          (false,x1.snd.snd.snd.snd.fst,x1.snd.snd.snd.snd.snd,{ Time:=x1.fst,Prio:=x1.snd.fst,ID:=x1.snd.snd.fst,N:=x1.snd.snd.snd.fst })).bind
      fun (x2:Bool×TEngine)=>
      if x2.fst=true then some (3,x2.snd)
      else
        (aw
              (fun (x3:Int×TEngine)=>
                (aw
                      (fun (x4:Int×Int×List TPlace×List TTrans×List Bool×Int×List Bool×Int×List Bool×List (List Int)×List Int×List TKey×Option (List (Int×Int))×List TFire×List Int×List TEvent)=>
                        if x4.snd.fst < (↑x3.snd.ready.length:Int) then
                          (idx x4.snd.snd.snd.snd.snd.snd.snd.snd.fst x4.snd.fst).bind fun (b5:Bool)=>
                            (if b5=true then if x4.fst < 0 then some (Sum.inl (x4.fst,x4.snd.fst,x4.snd.fst,true,x4.snd.snd.fst,x4.snd.snd.snd.fst,x4.snd.snd.snd.snd.fst,x4.snd.snd.snd.snd.snd.fst,x4.snd.snd.snd.snd.snd.snd.fst,x4.snd.snd.snd.snd.snd.snd.snd.fst,x4.snd.snd.snd.snd.snd.snd.snd.snd.fst,x4.snd.snd.snd.snd.snd.snd.snd.snd.snd.fst,x4.snd.snd.snd.snd.snd.snd.snd.snd.snd.snd.fst,x4.snd.snd.snd.snd.snd.snd.snd.snd.snd.snd.snd.fst,x4.snd.snd.snd.snd.snd.snd.snd.snd.snd.snd.snd.snd.fst,x4.snd.snd.snd.snd.snd.snd.snd.snd.snd.snd.snd.snd.snd.fst,x4.snd.snd.snd.snd.snd.snd.snd.snd.snd.snd.snd.snd.snd.snd.fst,x4.snd.snd.snd.snd.snd.snd.snd.snd.snd.snd.snd.snd.snd.snd.snd)) else (CX (x4.snd.snd.fst,x4.snd.snd.snd.fst,x4.snd.fst,x4.fst)).bind fun (b6:Bool)=>some (Sum.inl (x4.fst,x4.snd.fst,x4.snd.fst,b6,x4.snd.snd.fst,x4.snd.snd.snd.fst,x4.snd.snd.snd.snd.fst,x4.snd.snd.snd.snd.snd.fst,x4.snd.snd.snd.snd.snd.snd.fst,x4.snd.snd.snd.snd.snd.snd.snd.fst,x4.snd.snd.snd.snd.snd.snd.snd.snd.fst,x4.snd.snd.snd.snd.snd.snd.snd.snd.snd.fst,x4.snd.snd.snd.snd.snd.snd.snd.snd.snd.snd.fst,x4.snd.snd.snd.snd.snd.snd.snd.snd.snd.snd.snd.fst,x4.snd.snd.snd.snd.snd.snd.snd.snd.snd.snd.snd.snd.fst,x4.snd.snd.snd.snd.snd.snd.snd.snd.snd.snd.snd.snd.snd.fst,x4.snd.snd.snd.snd.snd.snd.snd.snd.snd.snd.snd.snd.snd.snd.fst,x4.snd.snd.snd.snd.snd.snd.snd.snd.snd.snd.snd.snd.snd.snd.snd)) else some (Sum.inl (x4.fst,x4.snd.fst,x4.snd.fst,false,x4.snd.snd.fst,x4.snd.snd.snd.fst,x4.snd.snd.snd.snd.fst,x4.snd.snd.snd.snd.snd.fst,x4.snd.snd.snd.snd.snd.snd.fst,x4.snd.snd.snd.snd.snd.snd.snd.fst,x4.snd.snd.snd.snd.snd.snd.snd.snd.fst,x4.snd.snd.snd.snd.snd.snd.snd.snd.snd.fst,x4.snd.snd.snd.snd.snd.snd.snd.snd.snd.snd.fst,x4.snd.snd.snd.snd.snd.snd.snd.snd.snd.snd.snd.fst,x4.snd.snd.snd.snd.snd.snd.snd.snd.snd.snd.snd.snd.fst,x4.snd.snd.snd.snd.snd.snd.snd.snd.snd.snd.snd.snd.snd.fst,x4.snd.snd.snd.snd.snd.snd.snd.snd.snd.snd.snd.snd.snd.snd.fst,x4.snd.snd.snd.snd.snd.snd.snd.snd.snd.snd.snd.snd.snd.snd.snd))).bind fun (x6:Int×Int×Int×Bool×List TPlace×List TTrans×List Bool×Int×List Bool×Int×List Bool×List (List Int)×List Int×List TKey×Option (List (Int×Int))×List TFire×List Int×List TEvent⊕Int×Int×List TPlace×List TTrans×List Bool×Int×List Bool×Int×List Bool×List (List Int)×List Int×List TKey×Option (List (Int×Int))×List TFire×List Int×List TEvent⊕Int×TEngine)=>
                              match x6 with
                              | Sum.inl x=>if x.snd.snd.snd.fst=true then some (Sum.inl (x.snd.fst,IntKind.i64.wrap (x.snd.snd.fst+1),x.snd.snd.snd.snd.fst,x.snd.snd.snd.snd.snd.fst,x.snd.snd.snd.snd.snd.snd.fst,x.snd.snd.snd.snd.snd.snd.snd.fst,x.snd.snd.snd.snd.snd.snd.snd.snd.fst,x.snd.snd.snd.snd.snd.snd.snd.snd.snd.fst,x.snd.snd.snd.snd.snd.snd.snd.snd.snd.snd.fst,x.snd.snd.snd.snd.snd.snd.snd.snd.snd.snd.snd.fst,x.snd.snd.snd.snd.snd.snd.snd.snd.snd.snd.snd.snd.fst,x.snd.snd.snd.snd.snd.snd.snd.snd.snd.snd.snd.snd.snd.fst,x.snd.snd.snd.snd.snd.snd.snd.snd.snd.snd.snd.snd.snd.snd.fst,x.snd.snd.snd.snd.snd.snd.snd.snd.snd.snd.snd.snd.snd.snd.snd.fst,x.snd.snd.snd.snd.snd.snd.snd.snd.snd.snd.snd.snd.snd.snd.snd.snd.fst,x.snd.snd.snd.snd.snd.snd.snd.snd.snd.snd.snd.snd.snd.snd.snd.snd.snd)) else some (Sum.inl (x.fst,IntKind.i64.wrap (x.snd.snd.fst+1),x.snd.snd.snd.snd.fst,x.snd.snd.snd.snd.snd.fst,x.snd.snd.snd.snd.snd.snd.fst,x.snd.snd.snd.snd.snd.snd.snd.fst,x.snd.snd.snd.snd.snd.snd.snd.snd.fst,x.snd.snd.snd.snd.snd.snd.snd.snd.snd.fst,x.snd.snd.snd.snd.snd.snd.snd.snd.snd.snd.fst,x.snd.snd.snd.snd.snd.snd.snd.snd.snd.snd.snd.fst,x.snd.snd.snd.snd.snd.snd.snd.snd.snd.snd.snd.snd.fst,x.snd.snd.snd.snd.snd.snd.snd.snd.snd.snd.snd.snd.snd.fst,x.snd.snd.snd.snd.snd.snd.snd.snd.snd.snd.snd.snd.snd.snd.fst,x.snd.snd.snd.snd.snd.snd.snd.snd.snd.snd.snd.snd.snd.snd.snd.fst,x.snd.snd.snd.snd.snd.snd.snd.snd.snd.snd.snd.snd.snd.snd.snd.snd.fst,x.snd.snd.snd.snd.snd.snd.snd.snd.snd.snd.snd.snd.snd.snd.snd.snd.snd))
                              | Sum.inr r=>some r
                        else some (Sum.inr (x4.fst,{ n:={ Places:=x4.snd.snd.fst,Trans:=x4.snd.snd.snd.fst },mine:=x4.snd.snd.snd.snd.fst,near:=x4.snd.snd.snd.snd.snd.snd.snd.snd.snd.fst,ready:=x4.snd.snd.snd.snd.snd.snd.snd.snd.fst,marks:=x4.snd.snd.snd.snd.snd.snd.snd.snd.snd.snd.fst,wait:={ l:=x4.snd.snd.snd.snd.snd.snd.snd.snd.snd.snd.snd.fst },in_:=x4.snd.snd.snd.snd.snd.snd.snd.snd.snd.snd.snd.snd.fst,log:=x4.snd.snd.snd.snd.snd.snd.snd.snd.snd.snd.snd.snd.snd.fst,way:=x4.snd.snd.snd.snd.snd.snd.snd.snd.snd.snd.snd.snd.snd.snd.fst,time:=x4.snd.snd.snd.snd.snd.fst,out:=x4.snd.snd.snd.snd.snd.snd.snd.snd.snd.snd.snd.snd.snd.snd.snd,away:=x4.snd.snd.snd.snd.snd.snd.fst,count:=x4.snd.snd.snd.snd.snd.snd.snd.fst })))
                      (-1,0,x3.snd.n.Places,x3.snd.n.Trans,x3.snd.mine,x3.snd.time,x3.snd.away,x3.snd.count,x3.snd.ready,x3.snd.near,x3.snd.marks,x3.snd.wait.l,x3.snd.in_,x3.snd.log,x3.snd.way,x3.snd.out)).bind
                  fun (x4:Int×TEngine)=>if x4.fst < 0 then some (Sum.inr (0,x4.snd)) else (CO (x4.fst,x4.snd)).bind fun (x5:Int×TEngine)=>if (!decide (x5.fst=0))=true then some (Sum.inr (x5.fst,x5.snd)) else some (Sum.inl (x3.fst,x5.snd)))
              (0,x2.snd)).bind
          fun (x3:Int×TEngine)=>some (x3.fst,x3.snd)
theorem G5:vfn (T:=tE) lpK Hn (aP [kv,sS,CU,C2,EO,ES]) DW tl.res (vOf tl.code Hf)=CZ:=by kernel_rfl
abbrev EZ:En tE:=⟨127,[],DW,CZ⟩
theorem G3:aq F tE 127 DW 2 CZ:=by
 rw [← G5]
 exact af (fn:=tl) (aa (en:=kv) (aa (en:=sS) (aa (en:=CU) (aa (en:=C2) (aa (en:=EO) (aa (en:=ES) ae FA rfl) G0 rfl) Ey rfl) EF rfl) zF rfl) qn rfl) rfl (by kernel_rfl)
def DF:FSp:=⟨[(false,[.ptr 0 0])],[.pr (.st 10)],[0],[.ld 0 false,.r 0,.slot 0 false,.ld 1 false,.ptr 1 0,.slot 1 false,.sl (.st 9),.pr (.st 10)]⟩
def Hr:List (Nat×Lb):=[]
def FO:List (Nat×VT):=[]
def C5:TEngine→Option (List TEvent×TEngine):=fun (x:TEngine)=>some (x.out,{ n:=x.n,mine:=x.mine,near:=x.near,ready:=x.ready,marks:=x.marks,wait:=x.wait,in_:=x.in_,log:=x.log,way:=x.way,time:=x.time,out:=[],away:=x.away,count:=x.count })
theorem Fy:vfn (T:=tE) lpK FO (aP []) DF rA.res (vOf rA.code Hr)=C5:=by kernel_rfl
abbrev ET:En tE:=⟨130,[],DF,C5⟩
theorem Gh:aq F tE 130 DF 1 C5:=by
 rw [← Fy]
 exact af (fn:=rA) ae rfl (by kernel_rfl)
def DI:FSp:=⟨[(false,[.e false (.st 10) 0])],[],[],[.ld 0 true,.r 0,.r 1,.r 2,.d true (.int .i64),.slot 0 true,.sl (.st 8),.sl (.int .i64),.sl (.int .i64)]⟩
def GK:List (Nat×Lb):=[]
def G1:List (Nat×VT):=[]
def CS:TEngine→Option (Int×List TFire×List Int×List Int):=fun (x:TEngine)=>(app 16 [] x.log).bind fun (l1:List TFire)=>(app 8 [] x.marks).bind fun (l2:List Int)=>(app 8 [] x.way).bind fun (l3:List Int)=>some (x.time,l1,l2,l3)
theorem GW:vfn (T:=tE) lpK G1 (aP []) DI rH.res (vOf rH.code GK)=CS:=by kernel_rfl
abbrev EA:En tE:=⟨129,[],DI,CS⟩
theorem E8:aq F tE 129 DI 1 CS:=by
 rw [← GW]
 exact af (fn:=rH) ae rfl (by kernel_rfl)
def q17:FSp:=⟨[(false,[.ptr 0 0])],[.pr (.st 11)],[0],[.ld 0 false,.r 0,.slot 0 false,.ld 1 false,.d true (.int .i64),.slot 1 false,.ld 2 false,.ptr 1 0,.slot 2 false,.sl (.st 13),.pr (.st 11)]⟩
def L17:List (Nat×Lb):=[(5,.j [.ld 0 false,.ptr 0 0,.slot 0 false,.ld 4 false,.r 1,.slot 4 false,.pr (.st 11),.sl (.st 13)]),(14,.l [.ld 36 false,.d true (.int .i64),.slot 36 false] [.ld 0 false,.ptr 0 0,.slot 0 false,.ld 4 false,.r 1,.slot 4 false,.ld 35 false,.r 2,.slot 35 false,.ld 37 false,.d true (.int .i64),.slot 37 false,.pr (.st 11),.sl (.st 13),.sl (.st 9)] [(some 0,[.ld 0 false,.ptr 0 0,.slot 0 false,.ld 4 false,.r 1,.slot 4 false,.pr (.st 11),.sl (.st 13)])]),(21,.l [.ld 64 false,.d true (.int .i64),.slot 64 false] [.ld 0 false,.ptr 0 0,.slot 0 false,.ld 4 false,.r 1,.slot 4 false,.ld 63 false,.r 2,.slot 63 false,.ld 65 false,.d true (.int .i64),.slot 65 false,.ldr,.d true (.int .i64),.r 3,.d true (.int .i64),.d true (.sl false (.int .i64)),.d true (.sl false (.int .i64)),.r 4,.r 2,.r 5,.r 6,.d true (.int .i64),.d true .bool,.d true .bool,.row,.sl (.st 13),.sl (.st 5),.io 101 (.st 10),.sl (.st 5),.sl (.int .i64),.sl (.int .i64)] [(some 2,[.ld 0 false,.ptr 0 0,.slot 0 false,.ld 4 false,.r 1,.slot 4 false,.pr (.st 11),.sl (.st 13)])])]
def H17:List (Nat×VT):=[(57,(.st 13)),(97,(.st 13))]
def p17:TProcess→Option (Int×List TMail×TProcess):=fun (x:TProcess)=>
  (p16 x).bind fun (b1:Bool)=>
    if (!b1)=true then some (0,[],x)
    else
      ((p39 x).bind fun (b2:Bool)=>if b2=true then (p42 x).bind fun (n3:Int)=>x.x.bind fun (x4:TEngine)=>(CZ (n3,x4)).bind fun (x5:Int×TEngine)=>if (!decide (x5.fst=0))=true then Option.map (fun (x6:Int×List TMail×TProcess)=>Sum.inr x6) (some (x5.fst,[],{ id:=x.id,x:=some x5.snd,p:=x.p,in_:=x.in_,out:=x.out,clocks:=x.clocks,sent:=x.sent,horizon:=x.horizon,began:=true,done:=x.done })) else (C5 x5.snd).bind fun (x6:List TEvent×TEngine)=>(aw (fun (x7:Int×TProcess×List TMail×List TEvent)=>if x7.fst < (↑x6.fst.length:Int) then (idx x7.snd.snd.snd x7.fst).bind fun (x8:TEvent)=>(idx x7.snd.fst.p.Places x8.Place).bind fun (n9:Int)=>(app 40 x7.snd.snd.fst [{ From:=x7.snd.fst.id,To:=n9,E:=x8 }]).bind fun (l10:List TMail)=>some (Sum.inl (IntKind.i64.wrap (x7.fst+1),x7.snd.fst,l10,x7.snd.snd.snd)) else some (Sum.inr (x7.snd.fst,x7.snd.snd.fst))) (0,{ id:=x.id,x:=some x6.snd,p:=x.p,in_:=x.in_,out:=x.out,clocks:=x.clocks,sent:=x.sent,horizon:=x.horizon,began:=true,done:=x.done },[],x6.fst)).bind fun (x7:TProcess×List TMail)=>some (Sum.inl (x7.fst,x7.snd)) else some (Sum.inl (x,[]))).bind fun (x2:TProcess×List TMail⊕Int×List TMail×TProcess)=>
        match x2 with
        | Sum.inl x=>(aw (fun (x4:Int×Int×Int×List Int×List Int×Int×Bool×Bool×List TMail×List TLane×Option TEngine×List TLane×List Int×List Int)=>if x4.fst < (↑x.fst.out.length:Int) then (idx x4.snd.snd.snd.snd.snd.snd.snd.snd.snd.fst x4.fst).bind fun (x5:TLane)=>(p41 ({ id:=x4.snd.fst,x:=x4.snd.snd.snd.snd.snd.snd.snd.snd.snd.snd.fst,p:={ N:=x4.snd.snd.fst,Places:=x4.snd.snd.snd.fst,Trans:=x4.snd.snd.snd.snd.fst },in_:=x4.snd.snd.snd.snd.snd.snd.snd.snd.snd.snd.snd.fst,out:=x4.snd.snd.snd.snd.snd.snd.snd.snd.snd.fst,clocks:=x4.snd.snd.snd.snd.snd.snd.snd.snd.snd.snd.snd.snd.fst,sent:=x4.snd.snd.snd.snd.snd.snd.snd.snd.snd.snd.snd.snd.snd,horizon:=x4.snd.snd.snd.snd.snd.fst,began:=x4.snd.snd.snd.snd.snd.snd.fst,done:=x4.snd.snd.snd.snd.snd.snd.snd.fst },x5.From,x5.To,x5.Ahead)).bind fun (n6:Int)=>(idx x4.snd.snd.snd.snd.snd.snd.snd.snd.snd.snd.snd.snd.snd x4.fst).bind fun (n7:Int)=>if n7 < n6 then (idx x4.snd.snd.snd.snd.snd.snd.snd.snd.snd.snd.snd.snd.snd x4.fst).bind fun (n8:Int)=>(app 40 x4.snd.snd.snd.snd.snd.snd.snd.snd.fst [{ From:=x5.From,To:=x5.To,E:={ Time:=n6,Place:=0,N:=0 } }]).bind fun (l9:List TMail)=>some (Sum.inl (IntKind.i64.wrap (x4.fst+1),x4.snd.fst,x4.snd.snd.fst,x4.snd.snd.snd.fst,x4.snd.snd.snd.snd.fst,x4.snd.snd.snd.snd.snd.fst,x4.snd.snd.snd.snd.snd.snd.fst,x4.snd.snd.snd.snd.snd.snd.snd.fst,l9,x4.snd.snd.snd.snd.snd.snd.snd.snd.snd.fst,x4.snd.snd.snd.snd.snd.snd.snd.snd.snd.snd.fst,x4.snd.snd.snd.snd.snd.snd.snd.snd.snd.snd.snd.fst,x4.snd.snd.snd.snd.snd.snd.snd.snd.snd.snd.snd.snd.fst,x4.snd.snd.snd.snd.snd.snd.snd.snd.snd.snd.snd.snd.snd.set x4.fst.toNat n6)) else some (Sum.inl (IntKind.i64.wrap (x4.fst+1),x4.snd.fst,x4.snd.snd.fst,x4.snd.snd.snd.fst,x4.snd.snd.snd.snd.fst,x4.snd.snd.snd.snd.snd.fst,x4.snd.snd.snd.snd.snd.snd.fst,x4.snd.snd.snd.snd.snd.snd.snd.fst,x4.snd.snd.snd.snd.snd.snd.snd.snd.fst,x4.snd.snd.snd.snd.snd.snd.snd.snd.snd.fst,x4.snd.snd.snd.snd.snd.snd.snd.snd.snd.snd.fst,x4.snd.snd.snd.snd.snd.snd.snd.snd.snd.snd.snd.fst,x4.snd.snd.snd.snd.snd.snd.snd.snd.snd.snd.snd.snd.fst,x4.snd.snd.snd.snd.snd.snd.snd.snd.snd.snd.snd.snd.snd)) else some (Sum.inr ({ id:=x4.snd.fst,x:=x4.snd.snd.snd.snd.snd.snd.snd.snd.snd.snd.fst,p:={ N:=x4.snd.snd.fst,Places:=x4.snd.snd.snd.fst,Trans:=x4.snd.snd.snd.snd.fst },in_:=x4.snd.snd.snd.snd.snd.snd.snd.snd.snd.snd.snd.fst,out:=x4.snd.snd.snd.snd.snd.snd.snd.snd.snd.fst,clocks:=x4.snd.snd.snd.snd.snd.snd.snd.snd.snd.snd.snd.snd.fst,sent:=x4.snd.snd.snd.snd.snd.snd.snd.snd.snd.snd.snd.snd.snd,horizon:=x4.snd.snd.snd.snd.snd.fst,began:=x4.snd.snd.snd.snd.snd.snd.fst,done:=x4.snd.snd.snd.snd.snd.snd.snd.fst },x4.snd.snd.snd.snd.snd.snd.snd.snd.fst))) (0,x.fst.id,x.fst.p.N,x.fst.p.Places,x.fst.p.Trans,x.fst.horizon,x.fst.began,x.fst.done,x.snd,x.fst.out,x.fst.x,x.fst.in_,x.fst.clocks,x.fst.sent)).bind fun (x4:TProcess×List TMail)=>(p40 x4.fst).bind fun (b5:Bool)=>some (0,x4.snd,{ id:=x4.fst.id,x:=x4.fst.x,p:=x4.fst.p,in_:=x4.fst.in_,out:=x4.fst.out,clocks:=x4.fst.clocks,sent:=x4.fst.sent,horizon:=x4.fst.horizon,began:=x4.fst.began,done:=b5 })
        | Sum.inr r=>some r
theorem e17:vfn (T:=tE) lpK H17 (aP [n16,n39,n42,EZ,ET,n41,n40]) q17 CG.res (vOf CG.code L17)=p17:=by kernel_rfl
abbrev n17:En tE:=⟨17,[],q17,p17⟩
theorem o17:aq F tE 17 q17 1 p17:=by
 rw [← e17]
 exact af (fn:=CG) (aa (en:=n16) (aa (en:=n39) (aa (en:=n42) (aa (en:=EZ) (aa (en:=ET) (aa (en:=n41) (aa (en:=n40) ae o40 rfl) o41 rfl) Gh rfl) G3 rfl) o42 rfl) o39 rfl) o16 rfl) rfl (by kernel_rfl)
def q22:FSp:=⟨[(false,[.ptr 0 0]),(true,[.d true (.int .i64),.d true (.int .i64),.d true (.int .i64),.d true (.int .i64),.d true (.int .i64)])],[.pr (.st 11)],[0],[.ld 0 false,.ptr 0 0,.slot 0 false,.pr (.st 11)]⟩
def L22:List (Nat×Lb):=[(7,.l [.ld 23 false,.d true (.int .i64),.slot 23 false] [.ld 0 false,.ptr 0 0,.slot 0 false,.ld 3 false,.ptr 1 0,.slot 3 false,.ld 22 false,.r 2,.slot 22 false,.ld 24 false,.d true (.int .i64),.slot 24 false,.ldr,.d true (.int .i64),.r 3,.d true (.int .i64),.d true (.sl false (.int .i64)),.d true (.sl false (.int .i64)),.r 2,.r 4,.r 5,.r 6,.d true (.int .i64),.d true .bool,.d true .bool,.row,.pr (.st 13),.sl (.st 5),.io 101 (.st 10),.sl (.st 5),.sl (.int .i64),.sl (.int .i64)] [(some 0,[.ld 0 false,.ptr 0 0,.slot 0 false,.pr (.st 11)])]),(12,.j [.ld 0 false,.ptr 0 0,.slot 0 false,.ld 3 false,.ptr 1 0,.slot 3 false,.ld 4 false,.d true (.int .i64),.slot 4 false,.ld 22 false,.r 2,.slot 22 false,.ld 24 false,.d true (.int .i64),.slot 24 false,.ld 40 false,.d true .bool,.slot 40 false,.ldr,.d true (.int .i64),.r 3,.d true (.int .i64),.d true (.sl false (.int .i64)),.d true (.sl false (.int .i64)),.r 2,.r 4,.r 5,.r 6,.d true (.int .i64),.d true .bool,.d true .bool,.row,.pr (.st 13),.sl (.st 5),.io 101 (.st 10),.sl (.st 5),.sl (.int .i64),.sl (.int .i64)])]
def H22:List (Nat×VT):=[]
def p22:Int×Int×Int×Int×Int×TProcess→Option TProcess:=fun (x:Int×Int×Int×Int×Int×TProcess)=>
  if 0 < x.snd.snd.snd.snd.fst then x.snd.snd.snd.snd.snd.x.bind fun (x1:TEngine)=>(BC (x.snd.snd.fst,x.snd.snd.snd.fst,x.snd.snd.snd.snd.fst,x1)).bind fun (x2:TEngine)=>some { id:=x.snd.snd.snd.snd.snd.id,x:=some x2,p:=x.snd.snd.snd.snd.snd.p,in_:=x.snd.snd.snd.snd.snd.in_,out:=x.snd.snd.snd.snd.snd.out,clocks:=x.snd.snd.snd.snd.snd.clocks,sent:=x.snd.snd.snd.snd.snd.sent,horizon:=x.snd.snd.snd.snd.snd.horizon,began:=x.snd.snd.snd.snd.snd.began,done:=x.snd.snd.snd.snd.snd.done }
  else
    (aw
          (fun (x1:Int×Int×Int×List Int×List Int×Int×Bool×Bool×TMail×List TLane×Option TEngine×List TLane×List Int×List Int)=>
            if x1.fst < (↑x.snd.snd.snd.snd.snd.in_.length:Int) then
              (idx x1.snd.snd.snd.snd.snd.snd.snd.snd.snd.fst x1.fst).bind fun (x2:TLane)=>
                (if x2.From=x1.snd.snd.snd.snd.snd.snd.snd.snd.fst.From then some (Sum.inl (x1.fst,x1.fst,decide (x2.To=x1.snd.snd.snd.snd.snd.snd.snd.snd.fst.To),x1.snd.fst,x1.snd.snd.fst,x1.snd.snd.snd.fst,x1.snd.snd.snd.snd.fst,x1.snd.snd.snd.snd.snd.fst,x1.snd.snd.snd.snd.snd.snd.fst,x1.snd.snd.snd.snd.snd.snd.snd.fst,x1.snd.snd.snd.snd.snd.snd.snd.snd.fst,x1.snd.snd.snd.snd.snd.snd.snd.snd.snd.fst,x1.snd.snd.snd.snd.snd.snd.snd.snd.snd.snd.fst,x1.snd.snd.snd.snd.snd.snd.snd.snd.snd.snd.snd.fst,x1.snd.snd.snd.snd.snd.snd.snd.snd.snd.snd.snd.snd.fst,x1.snd.snd.snd.snd.snd.snd.snd.snd.snd.snd.snd.snd.snd)) else some (Sum.inl (x1.fst,x1.fst,false,x1.snd.fst,x1.snd.snd.fst,x1.snd.snd.snd.fst,x1.snd.snd.snd.snd.fst,x1.snd.snd.snd.snd.snd.fst,x1.snd.snd.snd.snd.snd.snd.fst,x1.snd.snd.snd.snd.snd.snd.snd.fst,x1.snd.snd.snd.snd.snd.snd.snd.snd.fst,x1.snd.snd.snd.snd.snd.snd.snd.snd.snd.fst,x1.snd.snd.snd.snd.snd.snd.snd.snd.snd.snd.fst,x1.snd.snd.snd.snd.snd.snd.snd.snd.snd.snd.snd.fst,x1.snd.snd.snd.snd.snd.snd.snd.snd.snd.snd.snd.snd.fst,x1.snd.snd.snd.snd.snd.snd.snd.snd.snd.snd.snd.snd.snd))).bind fun (x3:Int×Int×Bool×Int×Int×List Int×List Int×Int×Bool×Bool×TMail×List TLane×Option TEngine×List TLane×List Int×List Int⊕Int×Int×Int×List Int×List Int×Int×Bool×Bool×TMail×List TLane×Option TEngine×List TLane×List Int×List Int⊕TProcess)=>
                  match x3 with
                  | Sum.inl x=>if x.snd.snd.fst=true then (idx x.snd.snd.snd.snd.snd.snd.snd.snd.snd.snd.snd.snd.snd.snd.fst x.fst).bind fun (n5:Int)=>(idx x.snd.snd.snd.snd.snd.snd.snd.snd.snd.snd.snd.snd.snd.snd.fst x.fst).bind fun (n6:Int)=>some (Sum.inl (IntKind.i64.wrap (x.snd.fst+1),x.snd.snd.snd.fst,x.snd.snd.snd.snd.fst,x.snd.snd.snd.snd.snd.fst,x.snd.snd.snd.snd.snd.snd.fst,x.snd.snd.snd.snd.snd.snd.snd.fst,x.snd.snd.snd.snd.snd.snd.snd.snd.fst,x.snd.snd.snd.snd.snd.snd.snd.snd.snd.fst,x.snd.snd.snd.snd.snd.snd.snd.snd.snd.snd.fst,x.snd.snd.snd.snd.snd.snd.snd.snd.snd.snd.snd.fst,x.snd.snd.snd.snd.snd.snd.snd.snd.snd.snd.snd.snd.fst,x.snd.snd.snd.snd.snd.snd.snd.snd.snd.snd.snd.snd.snd.fst,x.snd.snd.snd.snd.snd.snd.snd.snd.snd.snd.snd.snd.snd.snd.fst.set x.fst.toNat (if n5 < x.snd.snd.snd.snd.snd.snd.snd.snd.snd.snd.fst.E.Time then x.snd.snd.snd.snd.snd.snd.snd.snd.snd.snd.fst.E.Time else n5),x.snd.snd.snd.snd.snd.snd.snd.snd.snd.snd.snd.snd.snd.snd.snd)) else some (Sum.inl (IntKind.i64.wrap (x.snd.fst+1),x.snd.snd.snd.fst,x.snd.snd.snd.snd.fst,x.snd.snd.snd.snd.snd.fst,x.snd.snd.snd.snd.snd.snd.fst,x.snd.snd.snd.snd.snd.snd.snd.fst,x.snd.snd.snd.snd.snd.snd.snd.snd.fst,x.snd.snd.snd.snd.snd.snd.snd.snd.snd.fst,x.snd.snd.snd.snd.snd.snd.snd.snd.snd.snd.fst,x.snd.snd.snd.snd.snd.snd.snd.snd.snd.snd.snd.fst,x.snd.snd.snd.snd.snd.snd.snd.snd.snd.snd.snd.snd.fst,x.snd.snd.snd.snd.snd.snd.snd.snd.snd.snd.snd.snd.snd.fst,x.snd.snd.snd.snd.snd.snd.snd.snd.snd.snd.snd.snd.snd.snd.fst,x.snd.snd.snd.snd.snd.snd.snd.snd.snd.snd.snd.snd.snd.snd.snd))
                  | Sum.inr r=>some r
            else some (Sum.inr { id:=x1.snd.fst,x:=x1.snd.snd.snd.snd.snd.snd.snd.snd.snd.snd.fst,p:={ N:=x1.snd.snd.fst,Places:=x1.snd.snd.snd.fst,Trans:=x1.snd.snd.snd.snd.fst },in_:=x1.snd.snd.snd.snd.snd.snd.snd.snd.snd.fst,out:=x1.snd.snd.snd.snd.snd.snd.snd.snd.snd.snd.snd.fst,clocks:=x1.snd.snd.snd.snd.snd.snd.snd.snd.snd.snd.snd.snd.fst,sent:=x1.snd.snd.snd.snd.snd.snd.snd.snd.snd.snd.snd.snd.snd,horizon:=x1.snd.snd.snd.snd.snd.fst,began:=x1.snd.snd.snd.snd.snd.snd.fst,done:=x1.snd.snd.snd.snd.snd.snd.snd.fst }))
          (0,x.snd.snd.snd.snd.snd.id,x.snd.snd.snd.snd.snd.p.N,x.snd.snd.snd.snd.snd.p.Places,x.snd.snd.snd.snd.snd.p.Trans,x.snd.snd.snd.snd.snd.horizon,x.snd.snd.snd.snd.snd.began,x.snd.snd.snd.snd.snd.done,{ From:=x.fst,To:=x.snd.fst,E:={ Time:=x.snd.snd.fst,Place:=x.snd.snd.snd.fst,N:=x.snd.snd.snd.snd.fst } },x.snd.snd.snd.snd.snd.in_,x.snd.snd.snd.snd.snd.x,x.snd.snd.snd.snd.snd.out,x.snd.snd.snd.snd.snd.clocks,x.snd.snd.snd.snd.snd.sent)).bind
      fun (x1:TProcess)=>some x1
theorem e22:vfn (T:=tE) lpK H22 (aP [C3]) q22 Bs.res (vOf Bs.code L22)=p22:=by kernel_rfl
abbrev n22:En tE:=⟨22,[],q22,p22⟩
theorem o22:aq F tE 22 q22 2 p22:=by
 rw [← e22]
 exact af (fn:=Bs) (aa (en:=C3) ae EY rfl) rfl (by kernel_rfl)
def q18:FSp:=⟨[(false,[.e false (.st 11) 0])],[],[],[.ld 0 false,.d true .bool,.slot 0 false]⟩
def L18:List (Nat×Lb):=[]
def H18:List (Nat×VT):=[]
def p18:TProcess→Option Bool:=fun (x:TProcess)=>some x.done
theorem e18:vfn (T:=tE) lpK H18 (aP []) q18 Cr.res (vOf Cr.code L18)=p18:=by kernel_rfl
abbrev n18:En tE:=⟨18,[],q18,p18⟩
theorem o18:aq F tE 18 q18 1 p18:=by
 rw [← e18]
 exact af (fn:=Cr) ae rfl (by kernel_rfl)
def q20:FSp:=⟨[(false,[.e false (.st 11) 0])],[],[],[.ld 0 true,.r 0,.r 1,.r 2,.d true (.int .i64),.slot 0 true,.sl (.st 8),.sl (.int .i64),.sl (.int .i64)]⟩
def L20:List (Nat×Lb):=[]
def H20:List (Nat×VT):=[]
def p20:TProcess→Option (Int×List TFire×List Int×List Int):=fun (x:TProcess)=>x.x.bind fun (x1:TEngine)=>(CS x1).bind fun (x2:Int×List TFire×List Int×List Int)=>some (x2.fst,x2.snd.fst,x2.snd.snd.fst,x2.snd.snd.snd)
theorem e20:vfn (T:=tE) lpK H20 (aP [EA]) q20 CF.res (vOf CF.code L20)=p20:=by kernel_rfl
abbrev n20:En tE:=⟨20,[],q20,p20⟩
theorem o20:aq F tE 20 q20 1 p20:=by
 rw [← e20]
 exact af (fn:=CF) (aa (en:=EA) ae E8 rfl) rfl (by kernel_rfl)
def mI:FSp:=⟨[(true,[.d true (.int .i64),.d true (.int .i64),.d true (.int .i64)]),(false,[.ptr 0 0]),(false,[.ptr 1 0])],[.pr (.int .i64),.pr (.int .i64)],[1,2],[.ld 0 false,.d true .bool,.slot 0 false,.ld 1 false,.ptr 0 0,.slot 1 false,.ld 2 false,.ptr 1 0,.slot 2 false,.pr (.int .i64),.pr (.int .i64)]⟩
def xr:List (Nat×Lb):=[]
def xZ:List (Nat×VT):=[]
def jj:Int×Int×Int×Int×Int→Option (Bool×Int×Int):=fun (x:Int×Int×Int×Int×Int)=>if x.fst=x.snd.snd.snd.fst then some (decide (x.snd.fst=x.snd.snd.snd.snd),x.snd.snd.snd.fst,x.snd.snd.snd.snd) else some (false,x.snd.snd.snd.fst,x.snd.snd.snd.snd)
theorem vR:vfn (T:=tE) lpK xZ (aP []) mI BZ.res (vOf BZ.code xr)=jj:=by kernel_rfl
abbrev sD:En tE:=⟨53,[(1,0),(2,0)],mI,jj⟩
theorem zw:aq F tE 53 mI 3 jj:=by
 rw [← vR]
 exact af (fn:=BZ) ae rfl (by kernel_rfl)
def mJ:FSp:=⟨[(false,[.d false (.sl false (.st 5))]),(false,[.fn 53 [0,1]])],[.pr (.int .i64),.pr (.int .i64)],[],[.ld 0 false,.d true (.int .i64),.slot 0 false]⟩
def yv:List (Nat×Lb):=[(3,.l [.ld 0 false,.d false (.sl false (.st 5)),.slot 0 false,.ld 7 false,.d true (.int .i64),.slot 7 false] [.ld 1 false,.fn 53 [0,1],.slot 1 false,.ld 4 false,.d true (.int .i64),.slot 4 false,.ld 8 false,.d true (.int .i64),.slot 8 false,.pr (.int .i64),.pr (.int .i64)] [(some 0,[]),(none,[.ld 4 false,.d true (.int .i64),.slot 4 false])])]
def xJ:List (Nat×VT):=[]
def j7:List TLane×Int×Int→Option Int:=fun (x:List TLane×Int×Int)=>
  (aw (fun (x1:Int×Int×Int×Int)=>if x1.snd.fst < (↑x.fst.length:Int) then (idx x.fst x1.snd.fst).bind fun (x2:TLane)=>(jj (x2.From,x2.To,x2.Ahead,x1.snd.snd.fst,x1.snd.snd.snd)).bind fun (x3:Bool×Int×Int)=>if x3.fst=true then some (Sum.inr (Sum.inr x1.snd.fst)) else some (Sum.inl (x1.fst,IntKind.i64.wrap (x1.snd.fst+1),x3.snd.fst,x3.snd.snd)) else some (Sum.inr (Sum.inl ()))) (0,0,x.snd.fst,x.snd.snd)).bind fun (x1:Unit⊕Int)=>
    match x1 with
    | Sum.inl x=>some (-1)
    | Sum.inr y=>some y
theorem wu:vfn (T:=tE) lpK xJ (aP [sD]) mJ AI.res (vOf AI.code yv)=j7:=by kernel_rfl
abbrev qL:En tE:=⟨52,[(1,53)],mJ,j7⟩
theorem ym:aq F tE 52 mJ 2 j7:=by
 rw [← wu]
 exact af (fn:=AI) (aa (en:=sD) ae zw rfl) rfl (by kernel_rfl)
def q25:FSp:=⟨[(false,[.d false (.sl false (.st 5))]),(false,[.d true (.int .i64)]),(false,[.d true (.int .i64)])],[],[],[.ld 0 false,.d true (.int .i64),.slot 0 false]⟩
def L25:List (Nat×Lb):=[]
def H25:List (Nat×VT):=[]
def p25:List TLane×Int×Int→Option Int:=fun (x:List TLane×Int×Int)=>(j7 (x.fst,x.snd.fst,x.snd.snd)).bind fun (n1:Int)=>some n1
theorem e25:vfn (T:=tE) lpK H25 (aP [qL]) q25 Af.res (vOf Af.code L25)=p25:=by kernel_rfl
abbrev n25:En tE:=⟨25,[],q25,p25⟩
theorem o25:aq F tE 25 q25 3 p25:=by
 rw [← e25]
 exact af (fn:=Af) (aa (en:=qL) ae ym rfl) rfl (by kernel_rfl)
def DV:FSp:=⟨[(false,[.d true (.int .u8)])],[],[],[.ld 0 false,.d true .bool,.slot 0 false]⟩
def Gv:List (Nat×Lb):=[]
def Ho:List (Nat×VT):=[]
def Bz:Int→Option Bool:=fun (x:Int)=>if 97≤x then some (decide (x≤122)) else some false
theorem FV:vfn (T:=tE) lpK Ho (aP []) DV sJ.res (vOf sJ.code Gv)=Bz:=by kernel_rfl
abbrev HX:En tE:=⟨105,[],DV,Bz⟩
theorem F6:aq F tE 105 DV 1 Bz:=by
 rw [← FV]
 exact af (fn:=sJ) ae rfl (by kernel_rfl)
def Dz:FSp:=⟨[(false,[.d true (.int .u8)])],[],[],[.ld 0 false,.d true .bool,.slot 0 false]⟩
def Hk:List (Nat×Lb):=[]
def Fd:List (Nat×VT):=[]
def Bl:Int→Option Bool:=fun (x:Int)=>if 48≤x then some (decide (x≤57)) else some false
theorem Fk:vfn (T:=tE) lpK Fd (aP []) Dz tx.res (vOf tx.code Hk)=Bl:=by kernel_rfl
abbrev HM:En tE:=⟨106,[],Dz,Bl⟩
theorem Fw:aq F tE 106 Dz 1 Bl:=by
 rw [← Fk]
 exact af (fn:=tx) ae rfl (by kernel_rfl)
def q97:FSp:=⟨[(false,[.d true (.int .i64)]),(false,[.d true (.int .i64)])],[],[],[.ld 0 false,.d true .bool,.slot 0 false]⟩
def L97:List (Nat×Lb):=[]
def H97:List (Nat×VT):=[]
def p97:Int×Int→Option Bool:=fun (x:Int×Int)=>if x.fst < x.snd then some true else some (decide (1000000 < x.fst))
theorem e97:vfn (T:=tE) lpK H97 (aP []) q97 CH.res (vOf CH.code L97)=p97:=by kernel_rfl
abbrev n97:En tE:=⟨97,[],q97,p97⟩
theorem o97:aq F tE 97 q97 2 p97:=by
 rw [← e97]
 exact af (fn:=CH) ae rfl (by kernel_rfl)
def q94:FSp:=⟨[(false,[.d false (.sl false (.st 0))])],[],[],[.ld 0 false,.d true .bool,.slot 0 false]⟩
def L94:List (Nat×Lb):=[]
def H94:List (Nat×VT):=[]
def p94:List TArc→Option Bool:=fun (x:List TArc)=>some (decide (8 < (↑x.length:Int)))
theorem e94:vfn (T:=tE) lpK H94 (aP []) q94 Bx.res (vOf Bx.code L94)=p94:=by kernel_rfl
abbrev n94:En tE:=⟨94,[],q94,p94⟩
theorem o94:aq F tE 94 q94 1 p94:=by
 rw [← e94]
 exact af (fn:=Bx) ae rfl (by kernel_rfl)
def ni:FSp:=⟨[(false,[.d false (.sl false (.sl false (.st 0)))]),(false,[.c (.func 94 [])])],[],[],[.ld 0 false,.d true (.int .i64),.slot 0 false]⟩
def ya:List (Nat×Lb):=[(3,.l [.ld 0 false,.d false (.sl false (.sl false (.st 0))),.slot 0 false,.ld 1 false,.c (.func 94 []),.slot 1 false,.ld 7 false,.d true (.int .i64),.slot 7 false] [.ld 4 false,.d true (.int .i64),.slot 4 false,.ld 8 false,.d true (.int .i64),.slot 8 false] [(some 0,[]),(none,[.ld 4 false,.d true (.int .i64),.slot 4 false])])]
def yz:List (Nat×VT):=[]
def jK:List (List TArc)→Option Int:=fun (x:List (List TArc))=>
  (aw (fun (x1:Int×Int)=>if x1.snd < (↑x.length:Int) then (idx x x1.snd).bind fun (l2:List TArc)=>(p94 l2).bind fun (b3:Bool)=>if b3=true then some (Sum.inr (Sum.inr x1.snd)) else some (Sum.inl (x1.fst,IntKind.i64.wrap (x1.snd+1))) else some (Sum.inr (Sum.inl ()))) (0,0)).bind fun (x1:Unit⊕Int)=>
    match x1 with
    | Sum.inl x=>some (-1)
    | Sum.inr y=>some y
theorem wz:vfn (T:=tE) lpK yz (aP [n94]) ni pO.res (vOf pO.code ya)=jK:=by kernel_rfl
abbrev qa:En tE:=⟨104,[(1,94)],ni,jK⟩
theorem wY:aq F tE 104 ni 2 jK:=by
 rw [← wz]
 exact af (fn:=pO) (aa (en:=n94) ae o94 rfl) rfl (by kernel_rfl)
def nv:FSp:=⟨[(false,[.d false (.sl false (.sl false (.st 0)))]),(false,[.c (.func 94 [])])],[],[],[.ld 0 false,.d true .bool,.slot 0 false]⟩
def yK:List (Nat×Lb):=[]
def zi:List (Nat×VT):=[]
def jY:List (List TArc)→Option Bool:=fun (x:List (List TArc))=>(jK x).bind fun (n1:Int)=>some (decide (0≤n1))
theorem yV:vfn (T:=tE) lpK zi (aP [qa]) nv Bg.res (vOf Bg.code yK)=jY:=by kernel_rfl
abbrev rY:En tE:=⟨93,[(1,94)],nv,jY⟩
theorem wm:aq F tE 93 nv 2 jY:=by
 rw [← yV]
 exact af (fn:=Bg) (aa (en:=qa) ae wY rfl) rfl (by kernel_rfl)
def q72:FSp:=⟨[(false,[.d false (.sl false (.sl false (.st 0)))])],[],[],[.ld 0 false,.d true .bool,.slot 0 false]⟩
def L72:List (Nat×Lb):=[]
def H72:List (Nat×VT):=[]
def p72:List (List TArc)→Option Bool:=fun (x:List (List TArc))=>(jY x).bind fun (b1:Bool)=>some b1
theorem e72:vfn (T:=tE) lpK H72 (aP [rY]) q72 Bt.res (vOf Bt.code L72)=p72:=by kernel_rfl
abbrev n72:En tE:=⟨72,[],q72,p72⟩
theorem o72:aq F tE 72 q72 1 p72:=by
 rw [← e72]
 exact af (fn:=Bt) (aa (en:=rY) ae wm rfl) rfl (by kernel_rfl)
def q95:FSp:=⟨[(true,[.d false (.sl false (.st 2)),.d false (.sl false (.st 1))])],[],[],[.ld 0 false,.r 0,.slot 0 false,.sl .str]⟩
def L95:List (Nat×Lb):=[(4,.l [.ld 9 false,.d false (.sl false (.st 2)),.slot 9 false,.ld 10 false,.d true (.int .i64),.slot 10 false] [.ld 1 false,.ptr 0 0,.slot 1 false,.ld 3 false,.r 1,.slot 3 false,.ld 11 false,.d true (.int .i64),.slot 11 false,.ldr,.d false (.sl false (.st 2)),.d false (.sl false (.st 1)),.row,.sl .str] [(some 0,[.ld 1 false,.ptr 0 0,.slot 1 false,.ld 3 false,.r 1,.slot 3 false,.ldr,.d false (.sl false (.st 2)),.d false (.sl false (.st 1)),.row,.sl .str])]),(11,.l [.ld 22 false,.d false (.sl false (.st 1)),.slot 22 false,.ld 23 false,.d true (.int .i64),.slot 23 false] [.ld 3 false,.r 0,.slot 3 false,.ld 24 false,.d true (.int .i64),.slot 24 false,.sl .str] [(some 2,[.ld 3 false,.r 0,.slot 3 false,.sl .str])])]
def H95:List (Nat×VT):=[(18,.str),(31,.str)]
def p95:List TPlace×List TTrans→Option (List (List UInt8)):=fun (x:List TPlace×List TTrans)=>(aw (fun (x1:Int×List TPlace×List TTrans×List (List UInt8))=>if x1.fst < (↑x.fst.length:Int) then (idx x.fst x1.fst).bind fun (x2:TPlace)=>(app 16 x1.snd.snd.snd [x2.Name]).bind fun (l3:List (List UInt8))=>some (Sum.inl (IntKind.i64.wrap (x1.fst+1),x1.snd.fst,x1.snd.snd.fst,l3)) else some (Sum.inr (x1.snd.fst,x1.snd.snd.fst,x1.snd.snd.snd))) (0,x.fst,x.snd,[])).bind fun (x1:List TPlace×List TTrans×List (List UInt8))=>(aw (fun (x2:Int×List (List UInt8))=>if x2.fst < (↑x1.snd.fst.length:Int) then (idx x1.snd.fst x2.fst).bind fun (x3:TTrans)=>(app 16 x2.snd [x3.Name]).bind fun (l4:List (List UInt8))=>some (Sum.inl (IntKind.i64.wrap (x2.fst+1),l4)) else some (Sum.inr x2.snd)) (0,x1.snd.snd)).bind fun (l2:List (List UInt8))=>some l2
theorem e95:vfn (T:=tE) lpK H95 (aP []) q95 AZ.res (vOf AZ.code L95)=p95:=by kernel_rfl
abbrev n95:En tE:=⟨95,[],q95,p95⟩
theorem o95:aq F tE 95 q95 1 p95:=by
 rw [← e95]
 exact af (fn:=AZ) ae rfl (by kernel_rfl)
def q96:FSp:=⟨[(false,[.d true .str])],[],[],[.ld 0 false,.d true .bool,.slot 0 false]⟩
theorem E9 {h:Heap} {x0:Int} {r:Bool} (hf:Bz x0=some r):ZC F 105 [(.int .u8 x0)] h fun v h'=>v=.bool r∧St h ck [] h':=jC F6 (x:=(x0,())) hf rfl (am:=fun _=>.nilPtr) ⟨_,rfl,rfl,⟨_,rfl,rfl⟩,rfl⟩
theorem GO {h:Heap} {x0:Int} {r:Bool} (hf:Bl x0=some r):ZC F 106 [(.int .u8 x0)] h fun v h'=>v=.bool r∧St h ck [] h':=jC Fw (x:=(x0,())) hf rfl (am:=fun _=>.nilPtr) ⟨_,rfl,rfl,⟨_,rfl,rfl⟩,rfl⟩
def nM (x0:List UInt8) (y10:Nat) (b11:Bool):Option (Nat⊕(Unit⊕Unit)):=if b11=true then (some (.inr (.inl ()))) else (some (.inl (fS x0 y10)))
def nA (x0:List UInt8) (y10:Nat) (b12:Bool):Option (Nat⊕(Unit⊕Unit)):=nM x0 y10 b12
def nz (x0:List UInt8) (y10:Nat) (b13:Bool):Option (Nat⊕(Unit⊕Unit)):=nA x0 y10 b13
def oQ (x0:List UInt8) (y10:Nat) (b14:Bool):Option (Nat⊕(Unit⊕Unit)):=nz x0 y10 b14
def nZ (x0:List UInt8) (y10:Nat):Option (Nat⊕(Unit⊕Unit)):=if y10 < x0.length then (if (122:Int) < (eS x0 y10) then (nM x0 y10 true) else ((Bz (IntKind.wrap .u8 (eS x0 y10))).bind fun y15=>if (!y15)=true then (if (y10:Int)=(0:Int) then (nz x0 y10 true) else ((Bl (IntKind.wrap .u8 (eS x0 y10))).bind fun y16=>if (!y16)=true then (oQ x0 y10 (!decide ((eS x0 y10)=(46:Int)))) else (oQ x0 y10 false))) else (nA x0 y10 false))) else (some (.inr (.inr ())))
def iV (b17:Bool):Option Bool:=some b17
def Ep (x0:List UInt8):Option Bool:=(md (nZ x0) 0).bind fun res18=>(match res18 with | .inl _=>some false | .inr _=>if (!(x0==([]:List UInt8)))=true then (iV (decide ((x0.length:Int)≤(12:Int)))) else (iV false))
theorem r96 {h:Heap}  {x0:List UInt8} {r:Bool} (hf:Ep x0=some r):ZC F 96 [(.str x0)] h fun v h'=>v=.bool r∧St h ck [] h':=by
 refine w96 ?_
 unfold W96
 unfold Ep at hf
 have S:St h ck [] h:=St.refl _ _
 refine oI _ rfl ?_
 intro h19
 have S:St _ _ [itC h.n x0 0] _:=S.pushIt x0
 obtain ⟨res18,hL,hf⟩:=oB hf
 obtain ⟨n20,hL⟩:=dy.1 hL
 refine zZ (R:=fun s21 y22 y23 h24=>false=y22∧St h ck [] h24∧(.inl ())=res18) (X0:=fun s25 y26 y27 h28=>x0=s25∧St h ck [] h28∧(.inr ())=res18) ?_ ?_ (I:=fun m29 s30 y31 y32 h33=>∃ (y10:Nat),x0=s30∧AV.iter h.n=y32∧St h ck [itC h.n x0 y10] h33∧iter (nZ x0) m29 y10=some res18) ?_ (m:=n20) ?_
 ·rintro s21 y22 y23 h24 ⟨rfl,S,rfl⟩
  try dsimp only at hf
  obtain rfl:=oi hf
  exact ⟨rfl,S.sel [] rfl⟩
 ·rintro s25 y26 y27 h28 ⟨rfl,S,rfl⟩
  try dsimp only at hf
  intro jjj4
  have hjj4:∀ (b17:Bool) (h34:Heap),iV b17=some r→h28=h34→St h ck [] h28→jjj4 b17 h34:=by
   rintro b17 h34 hf rfl S
   unfold iV at hf
   unfold jjj4
   obtain rfl:=oi hf
   exact ⟨rfl,S.sel [] rfl⟩
  refine bI (fun hc=>?_) (fun hc=>?_)
  ·rw [ifT hc] at hf
   exact hjj4 _ _  hf rfl S
  rw [ifF hc] at hf
  exact hjj4 _ _  hf rfl S
 ·rintro m35 s30 y31 y32 h33 ⟨y10,rfl,rfl,S,hit⟩
  obtain ⟨m29,q36,rfl,hf,hk⟩:=e7 hit
  clear hit
  unfold xL
  unfold nZ at hf
  try dsimp only at hf
  by_cases hc:y10 < x0.length
  ·rw [if_pos hc] at hf
   obtain ⟨h37,e38,S⟩:=St.next S hc
   refine ⟨_,h37,e38,?_⟩
   refine oI (.bool true) rfl ⟨true,rfl,?_⟩
   refine bI (fun _=>?_) (fun hc=>absurd hc (by decide))
   refine oI (.int .i64 (y10:Int)) rfl ⟨(y10:Int),rfl,?_⟩
   refine oI (.int .i32 (eS x0 y10)) rfl ⟨(eS x0 y10),rfl,?_⟩
   intro jjj0
   have hjj0:∀ (b11:Bool) (h39:Heap),nM x0 y10 b11=some q36→St h ck [itC h.n x0 (fS x0 y10)] h39→jjj0 b11 h39:=by
    rintro b11 h39 hf S
    unfold nM at hf
    unfold jjj0
    refine bI (fun hc=>?_) (fun hc=>?_)
    ·rw [ifT hc] at hf
     have S:=S.sel [] rfl
     obtain rfl:=oi hf
     obtain rfl:=hk
     exact ⟨rfl,S,rfl⟩
    rw [ifF hc] at hf
    obtain rfl:=oi hf
    exact ⟨m29,Nat.lt_succ_self _,(fS x0 y10),rfl,rfl,S,hk⟩
   refine bI (fun hc=>?_) (fun hc=>?_)
   ·rw [ifD hc] at hf
    exact hjj0 _ _  hf  S
   rw [ifE hc] at hf
   obtain ⟨y15,hy15,hf⟩:=oB hf
   refine ⟨_,Fz.refl _,?_⟩
   refine (E9 (x0:=(IntKind.wrap .u8 (eS x0 y10))) hy15).mono fun v40 h41 T=>?_
   obtain ⟨rfl,T⟩:=T
   have S:St _ _ [itC h.n x0 (fS x0 y10)] _:=S.comp T
   refine ⟨y15,rfl,?_⟩
   intro jjj1
   have hjj1:∀ (b12:Bool) (h42:Heap),nA x0 y10 b12=some q36→St h ck [itC h.n x0 (fS x0 y10)] h42→jjj1 b12 h42:=by
    rintro b12 h42 hf S
    unfold nA at hf
    unfold jjj1
    exact hjj0 _ _  hf  S
   refine bI (fun hc=>?_) (fun hc=>?_)
   ·rw [ifT hc] at hf
    intro jjj2
    have hjj2:∀ (b13:Bool) (h43:Heap),nz x0 y10 b13=some q36→St h ck [itC h.n x0 (fS x0 y10)] h43→jjj2 b13 h43:=by
     rintro b13 h43 hf S
     unfold nz at hf
     unfold jjj2
     exact hjj1 _ _  hf  S
    refine bI (fun hc=>?_) (fun hc=>?_)
    ·rw [ifD hc] at hf
     exact hjj2 _ _  hf  S
    rw [ifE hc] at hf
    obtain ⟨y16,hy16,hf⟩:=oB hf
    refine ⟨_,Fz.refl _,?_⟩
    refine (GO (x0:=(IntKind.wrap .u8 (eS x0 y10))) hy16).mono fun v44 h45 T=>?_
    obtain ⟨rfl,T⟩:=T
    have S:St _ _ [_] _:=S.comp T
    refine ⟨y16,rfl,?_⟩
    intro jjj3
    have hjj3:∀ (b14:Bool) (h46:Heap),oQ x0 y10 b14=some q36→h45=h46→St h ck [itC h.n x0 (fS x0 y10)] h45→jjj3 b14 h46:=by
     rintro b14 h46 hf rfl S
     unfold oQ at hf
     unfold jjj3
     exact hjj2 _ _  hf  S
    refine bI (fun hc=>?_) (fun hc=>?_)
    ·rw [ifT hc] at hf
     exact hjj3 _ _  hf rfl S
    rw [ifF hc] at hf
    exact hjj3 _ _  hf rfl S
   rw [ifF hc] at hf
   exact hjj1 _ _  hf  S
  rw [if_neg hc] at hf
  refine ⟨_,_,St.nextEnd S hc,?_⟩
  refine oI (.bool false) rfl ⟨false,rfl,?_⟩
  refine bI (fun hc=>absurd hc (by decide)) (fun _=>?_)
  have S:=S.sel [] rfl
  obtain rfl:=oi hf
  obtain rfl:=hk
  exact ⟨rfl,S,rfl⟩
 exact ⟨0,rfl,rfl,S,hL⟩
def p96 (x0:List UInt8):Option Bool:=(aw (nZ x0) 0).bind fun res18=>(match res18 with | .inl _=>some false | .inr _=>if (!(x0==([]:List UInt8)))=true then (iV (decide ((x0.length:Int)≤(12:Int)))) else (iV false))
theorem Bd (x:List UInt8):Ole (p96 x) (Ep x):=Ole.bind (Ole.loop (fun s=>Ole.refl _) _) fun x=>Ole.refl _
theorem o96:aq F tE 96 q96 1 p96:=ui fun hf=>r96 (Bd _ _ hf)
abbrev n96:En tE:=⟨96,[],q96,p96⟩
def q73:FSp:=⟨[(true,[.d false (.sl false (.st 2)),.d false (.sl false (.st 1))])],[],[],[.ld 0 false,.d true .bool,.slot 0 false]⟩
def L73:List (Nat×Lb):=[(4,.l [.ld 9 false,.d true (.int .i64),.slot 9 false] [.ld 2 false,.c (.bool false),.slot 2 false,.ld 3 false,.r 0,.slot 3 false,.ld 8 false,.r 1,.slot 8 false,.ld 10 false,.d true (.int .i64),.slot 10 false,.mp .str .bool,.sl .str] [(some 0,[]),(none,[.ld 2 false,.c (.bool false),.slot 2 false])]),(10,.j [.ld 2 false,.c (.bool false),.slot 2 false,.ld 3 false,.r 0,.slot 3 false,.ld 5 false,.d true .str,.slot 5 false,.ld 8 false,.r 1,.slot 8 false,.ld 10 false,.d true (.int .i64),.slot 10 false,.ld 21 false,.d true .bool,.slot 21 false,.mp .str .bool,.sl .str])]
def H73:List (Nat×VT):=[(6,(.mp .str .bool))]
def p73:List TPlace×List TTrans→Option Bool:=fun (x:List TPlace×List TTrans)=>
  (p95 (x.fst,x.snd)).bind fun (l1:List (List UInt8))=>
    (aw
          (fun (x2:Int×Option (List (List UInt8×Bool))×List (List UInt8))=>
            if x2.fst < (↑l1.length:Int) then
              (idx x2.snd.snd x2.fst).bind fun (l3:List UInt8)=>
                ((p96 l3).bind fun (b4:Bool)=>if (!b4)=true then some (Sum.inl (l3,x2.fst,true,x2.snd.fst,x2.snd.snd)) else some (Sum.inl (l3,x2.fst,(x2.snd.fst.bind fun (l5:List (List UInt8×Bool))=>pu keS l5 l3).getD false,x2.snd.fst,x2.snd.snd))).bind fun (x4:List UInt8×Int×Bool×Option (List (List UInt8×Bool))×List (List UInt8)⊕Int×Option (List (List UInt8×Bool))×List (List UInt8)⊕Unit⊕Unit)=>
                  match x4 with
                  | Sum.inl x=>if x.snd.snd.fst=true then some (Sum.inr (Sum.inr ())) else x.snd.snd.snd.fst.bind fun (l6:List (List UInt8×Bool))=>some (Sum.inl (IntKind.i64.wrap (x.snd.fst+1),some (kE keS l6 x.fst true),x.snd.snd.snd.snd))
                  | Sum.inr r=>some r
            else some (Sum.inr (Sum.inl ())))
          (0,some [],l1)).bind
      fun (x2:Unit⊕Unit)=>
      match x2 with
      | Sum.inl x=>some true
      | Sum.inr y=>some false
theorem e73:vfn (T:=tE) lpK H73 (aP [n95,n96]) q73 A3.res (vOf A3.code L73)=p73:=by kernel_rfl
abbrev n73:En tE:=⟨73,[],q73,p73⟩
theorem o73:aq F tE 73 q73 1 p73:=by
 rw [← e73]
 exact af (fn:=A3) (aa (en:=n95) (aa (en:=n96) ae o96 rfl) o95 rfl) rfl (by kernel_rfl)
def me:FSp:=⟨[(true,[.d true (.int .i64),.d true (.int .i64)]),(false,[.ptr 0 0])],[.pr (.st 0)],[1],[.ld 0 false,.d true .bool,.slot 0 false,.ld 1 false,.ptr 0 0,.slot 1 false,.pr (.st 0)]⟩
def xV:List (Nat×Lb):=[]
def yu:List (Nat×VT):=[]
def jz:Int×Int×TArc→Option (Bool×TArc):=fun (x:Int×Int×TArc)=>some (decide (x.fst=x.snd.snd.Place),x.snd.snd)
theorem yN:vfn (T:=tE) lpK yu (aP []) me qB.res (vOf qB.code xV)=jz:=by kernel_rfl
abbrev qQ:En tE:=⟨108,[(1,0)],me,jz⟩
theorem yQ:aq F tE 108 me 2 jz:=by
 rw [← yN]
 exact af (fn:=qB) ae rfl (by kernel_rfl)
def mT:FSp:=⟨[(false,[.d false (.sl false (.st 0))]),(false,[.fn 108 [0]])],[.pr (.st 0)],[],[.ld 0 false,.d true (.int .i64),.slot 0 false]⟩
def yU:List (Nat×Lb):=[(3,.l [.ld 0 false,.d false (.sl false (.st 0)),.slot 0 false,.ld 7 false,.d true (.int .i64),.slot 7 false] [.ld 1 false,.fn 108 [0],.slot 1 false,.ld 4 false,.d true (.int .i64),.slot 4 false,.ld 8 false,.d true (.int .i64),.slot 8 false,.pr (.st 0)] [(some 0,[]),(none,[.ld 4 false,.d true (.int .i64),.slot 4 false])])]
def xz:List (Nat×VT):=[]
def kj:List TArc×TArc→Option Int:=fun (x:List TArc×TArc)=>
  (aw (fun (x1:Int×Int×TArc)=>if x1.snd.fst < (↑x.fst.length:Int) then (idx x.fst x1.snd.fst).bind fun (x2:TArc)=>(jz (x2.Place,x2.N,x1.snd.snd)).bind fun (x3:Bool×TArc)=>if x3.fst=true then some (Sum.inr (Sum.inr x1.snd.fst)) else some (Sum.inl (x1.fst,IntKind.i64.wrap (x1.snd.fst+1),x3.snd)) else some (Sum.inr (Sum.inl ()))) (0,0,x.snd)).bind fun (x1:Unit⊕Int)=>
    match x1 with
    | Sum.inl x=>some (-1)
    | Sum.inr y=>some y
theorem yk:vfn (T:=tE) lpK xz (aP [qQ]) mT si.res (vOf si.code yU)=kj:=by kernel_rfl
abbrev rx:En tE:=⟨110,[(1,108)],mT,kj⟩
theorem wJ:aq F tE 110 mT 2 kj:=by
 rw [← yk]
 exact af (fn:=si) (aa (en:=qQ) ae yQ rfl) rfl (by kernel_rfl)
def mR:FSp:=⟨[(false,[.d false (.sl false (.st 0))]),(false,[.fn 108 [0]])],[.pr (.st 0)],[],[.ld 0 false,.d true .bool,.slot 0 false]⟩
def zk:List (Nat×Lb):=[]
def xR:List (Nat×VT):=[]
def kB:List TArc×TArc→Option Bool:=fun (x:List TArc×TArc)=>(kj (x.fst,x.snd)).bind fun (n1:Int)=>some (decide (0≤n1))
theorem zz:vfn (T:=tE) lpK xR (aP [rx]) mR pW.res (vOf pW.code zk)=kB:=by kernel_rfl
abbrev tz:En tE:=⟨107,[(1,108)],mR,kB⟩
theorem yO:aq F tE 107 mR 2 kB:=by
 rw [← zz]
 exact af (fn:=pW) (aa (en:=rx) ae wJ rfl) rfl (by kernel_rfl)
def q98:FSp:=⟨[(false,[.d false (.sl false (.st 0))]),(false,[.d true (.int .i64)])],[],[],[.ld 0 false,.d true (.int .i64),.slot 0 false]⟩
def L98:List (Nat×Lb):=[(3,.l [.ld 0 false,.d false (.sl false (.st 0)),.slot 0 false,.ld 1 false,.d true (.int .i64),.slot 1 false,.ld 7 false,.d false (.sl false (.st 0)),.slot 7 false,.ld 8 false,.d true (.int .i64),.slot 8 false] [.ld 4 false,.d true (.int .i64),.slot 4 false,.ld 9 false,.d true (.int .i64),.slot 9 false] [(some 0,[]),(none,[.ld 4 false,.d true (.int .i64),.slot 4 false])]),(10,.j [.ld 4 false,.d true (.int .i64),.slot 4 false,.ld 5 false,.d true (.int .i64),.slot 5 false,.ld 6 false,.ptr 0 0,.slot 6 false,.ld 9 false,.d true (.int .i64),.slot 9 false,.ld 18 false,.d true .bool,.slot 18 false,.pr (.st 0)])]
def H98:List (Nat×VT):=[]
def p98:List TArc×Int→Option Int:=fun (x:List TArc×Int)=>
  (aw
        (fun (x1:Int×Int)=>
          if x1.snd < (↑x.fst.length:Int) then
            (idx x.fst x1.snd).bind fun (x2:TArc)=>
              (p97 (x2.N,1)).bind fun (b3:Bool)=>
                if b3=true then some (Sum.inr (Sum.inr 3))
                else
                  (if x2.Place < 0 then some (Sum.inl (x1.fst,x1.snd,x1.snd,true,x2)) else some (Sum.inl (x1.fst,x1.snd,x1.snd,decide (x.snd≤x2.Place),x2))).bind fun (x4:Int×Int×Int×Bool×TArc⊕Int×Int⊕Unit⊕Int)=>
                    match x4 with
                    | Sum.inl x_1=>if x_1.snd.snd.snd.fst=true then some (Sum.inr (Sum.inr 2)) else (slc x.fst 0 x_1.snd.fst).bind fun (l6:List TArc)=>(kB (l6,x_1.snd.snd.snd.snd)).bind fun (b7:Bool)=>if b7=true then some (Sum.inr (Sum.inr 1)) else some (Sum.inl (x_1.fst,IntKind.i64.wrap (x_1.snd.snd.fst+1)))
                    | Sum.inr r=>some r
          else some (Sum.inr (Sum.inl ())))
        (0,0)).bind
    fun (x1:Unit⊕Int)=>
    match x1 with
    | Sum.inl x=>some 0
    | Sum.inr y=>some y
theorem e98:vfn (T:=tE) lpK H98 (aP [tz,n97]) q98 BI.res (vOf BI.code L98)=p98:=by kernel_rfl
abbrev n98:En tE:=⟨98,[],q98,p98⟩
theorem o98:aq F tE 98 q98 2 p98:=by
 rw [← e98]
 exact af (fn:=BI) (aa (en:=tz) (aa (en:=n97) ae o97 rfl) yO rfl) rfl (by kernel_rfl)
def q74:FSp:=⟨[(true,[.d false (.sl false (.st 2)),.d true (.sl false (.st 1))])],[],[],[.ld 0 false,.d true (.int .i64),.slot 0 false]⟩
def L74:List (Nat×Lb):=[(3,.l [.ld 11 false,.d false (.sl false (.st 2)),.slot 11 false,.ld 12 false,.d true (.int .i64),.slot 12 false] [.ld 1 false,.ptr 0 0,.slot 1 false,.ld 2 false,.d true (.int .i64),.slot 2 false,.ld 13 false,.d true (.int .i64),.slot 13 false,.ldr,.d false (.sl false (.st 2)),.d true (.sl false (.st 1)),.row] [(some 0,[.ld 1 false,.ptr 0 0,.slot 1 false,.ld 2 false,.d true (.int .i64),.slot 2 false,.ldr,.d false (.sl false (.st 2)),.d true (.sl false (.st 1)),.row]),(none,[.ld 2 false,.d true (.int .i64),.slot 2 false])]),(12,.l [.ld 22 false,.d true (.sl false (.st 1)),.slot 22 false,.ld 23 false,.d true (.int .i64),.slot 23 false] [.ld 1 false,.ptr 0 0,.slot 1 false,.ld 2 false,.d true (.int .i64),.slot 2 false,.ld 24 false,.d true (.int .i64),.slot 24 false,.ldr,.d false (.sl false (.st 2)),.d true (.sl false (.st 1)),.row] [(some 2,[]),(none,[.ld 2 false,.d true (.int .i64),.slot 2 false])]),(18,.j [.ld 1 false,.ptr 0 0,.slot 1 false,.ld 2 false,.d true (.int .i64),.slot 2 false,.ld 6 false,.ptr 1 0,.slot 6 false,.ld 24 false,.d true (.int .i64),.slot 24 false,.ld 35 false,.d true .bool,.slot 35 false,.ldr,.d false (.sl false (.st 2)),.d true (.sl false (.st 1)),.row,.pr (.st 1)]),(21,.l [.ld 24 false,.d true (.int .i64),.slot 24 false,.ld 43 false,.d true (.int .i64),.slot 43 false] [.ld 1 false,.ptr 0 0,.slot 1 false,.ld 2 false,.d true (.int .i64),.slot 2 false,.ld 42 false,.r 1,.slot 42 false,.ld 44 false,.d true (.int .i64),.slot 44 false,.ldr,.d false (.sl false (.st 2)),.d true (.sl false (.st 1)),.row,.sl (.sl false (.st 0))] [(some 4,[.ld 1 false,.ptr 0 0,.slot 1 false,.ld 2 false,.d true (.int .i64),.slot 2 false,.ldr,.d false (.sl false (.st 2)),.d true (.sl false (.st 1)),.row]),(none,[.ld 2 false,.d true (.int .i64),.slot 2 false])])]
def H74:List (Nat×VT):=[(42,(.sl false (.st 0)))]
def p74:List TPlace×List TTrans→Option Int:=fun (x:List TPlace×List TTrans)=>
  (aw (fun (x1:Int×Int×List TPlace×List TTrans)=>if x1.snd.fst < (↑x.fst.length:Int) then (idx x.fst x1.snd.fst).bind fun (x2:TPlace)=>(p97 (x2.Tokens,0)).bind fun (b3:Bool)=>if b3=true then some (Sum.inr (Sum.inr 3)) else some (Sum.inl (x1.fst,IntKind.i64.wrap (x1.snd.fst+1),x1.snd.snd.fst,x1.snd.snd.snd)) else some (Sum.inr (Sum.inl (x1.fst,x1.snd.snd.fst,x1.snd.snd.snd)))) (0,0,x.fst,x.snd)).bind fun (x1:Int×List TPlace×List TTrans⊕Int)=>
    match x1 with
    | Sum.inl x=>
      (aw
            (fun (x3:Int×Int×List TPlace×List TTrans)=>
              if x3.snd.fst < (↑x.snd.snd.length:Int) then
                (idx x.snd.snd x3.snd.fst).bind fun (x4:TTrans)=>
                  ((p97 (x4.Delay,0)).bind fun (b5:Bool)=>if b5=true then some (Sum.inl (x3.fst,x3.snd.fst,true,x3.snd.snd.fst,x3.snd.snd.snd,x4)) else (p97 (x4.Prio,0)).bind fun (b6:Bool)=>some (Sum.inl (x3.fst,x3.snd.fst,b6,x3.snd.snd.fst,x3.snd.snd.snd,x4))).bind fun (x5:Int×Int×Bool×List TPlace×List TTrans×TTrans⊕Int×Int×List TPlace×List TTrans⊕Unit⊕Int)=>
                    match x5 with
                    | Sum.inl x=>
                      if x.snd.snd.fst=true then some (Sum.inr (Sum.inr 3))
                      else
                        (aw (fun (x7:Int×Int×List TPlace×List TTrans×List (List TArc))=>if x7.snd.fst < (↑[x.snd.snd.snd.snd.snd.In,x.snd.snd.snd.snd.snd.Not,x.snd.snd.snd.snd.snd.Out].length:Int) then (idx x7.snd.snd.snd.snd x7.snd.fst).bind fun (l8:List TArc)=>(p98 (l8,(↑x7.snd.snd.fst.length:Int))).bind fun (n9:Int)=>if (!decide (n9=0))=true then some (Sum.inr (Sum.inr n9)) else some (Sum.inl (x7.fst,IntKind.i64.wrap (x7.snd.fst+1),x7.snd.snd.fst,x7.snd.snd.snd.fst,x7.snd.snd.snd.snd)) else some (Sum.inr (Sum.inl (x7.fst,x7.snd.snd.fst,x7.snd.snd.snd.fst)))) (x.fst,0,x.snd.snd.snd.fst,x.snd.snd.snd.snd.fst,[x.snd.snd.snd.snd.snd.In,x.snd.snd.snd.snd.snd.Not,x.snd.snd.snd.snd.snd.Out])).bind fun (x7:Int×List TPlace×List TTrans⊕Int)=>
                          match x7 with
                          | Sum.inl x_1=>some (Sum.inl (x_1.fst,IntKind.i64.wrap (x.snd.fst+1),x_1.snd.fst,x_1.snd.snd))
                          | Sum.inr y=>some (Sum.inr (Sum.inr y))
                    | Sum.inr r=>some r
              else some (Sum.inr (Sum.inl ())))
            (x.fst,0,x.snd.fst,x.snd.snd)).bind
        fun (x3:Unit⊕Int)=>
        match x3 with
        | Sum.inl x=>some 0
        | Sum.inr y=>some y
    | Sum.inr y=>some y
theorem e74:vfn (T:=tE) lpK H74 (aP [n97,n98]) q74 BW.res (vOf BW.code L74)=p74:=by kernel_rfl
abbrev n74:En tE:=⟨74,[],q74,p74⟩
theorem o74:aq F tE 74 q74 1 p74:=by
 rw [← e74]
 exact af (fn:=BW) (aa (en:=n97) (aa (en:=n98) ae o98 rfl) o97 rfl) rfl (by kernel_rfl)
def q55:FSp:=⟨[(true,[.d false (.sl false (.st 2)),.d true (.sl false (.st 1))])],[],[],[.ld 0 false,.d true (.int .i64),.slot 0 false]⟩
def L55:List (Nat×Lb):=[(2,.j [.ld 1 false,.ptr 0 0,.slot 1 false,.ld 2 false,.d true (.int .i64),.slot 2 false,.ld 14 false,.d true .bool,.slot 14 false,.ldr,.d false (.sl false (.st 2)),.d true (.sl false (.st 1)),.row]),(6,.l [.ld 16 false,.d true (.sl false (.st 1)),.slot 16 false,.ld 17 false,.d true (.int .i64),.slot 17 false] [.ld 1 false,.ptr 0 0,.slot 1 false,.ld 2 false,.d true (.int .i64),.slot 2 false,.ld 18 false,.d true (.int .i64),.slot 18 false,.ldr,.d false (.sl false (.st 2)),.d true (.sl false (.st 1)),.row] [(some 0,[.ld 1 false,.ptr 0 0,.slot 1 false,.ldr,.d false (.sl false (.st 2)),.d true (.sl false (.st 1)),.row]),(none,[.ld 2 false,.d true (.int .i64),.slot 2 false])])]
def H55:List (Nat×VT):=[(28,(.sl false (.st 0)))]
def p55:List TPlace×List TTrans→Option Int:=fun (x:List TPlace×List TTrans)=>
  (if 32 < (↑x.fst.length:Int) then some (Sum.inl (0,true,x.fst,x.snd)) else some (Sum.inl (0,decide (32 < (↑x.snd.length:Int)),x.fst,x.snd))).bind fun (x1:Int×Bool×List TPlace×List TTrans⊕Int)=>
    match x1 with
    | Sum.inl x=>
      if x.snd.fst=true then some 5
      else
        (aw (fun (x3:Int×Int×List TPlace×List TTrans)=>if x3.snd.fst < (↑x.snd.snd.snd.length:Int) then (idx x.snd.snd.snd x3.snd.fst).bind fun (x4:TTrans)=>(p72 [x4.In,x4.Not,x4.Out]).bind fun (b5:Bool)=>if b5=true then some (Sum.inr (Sum.inr 5)) else some (Sum.inl (x3.fst,IntKind.i64.wrap (x3.snd.fst+1),x3.snd.snd.fst,x3.snd.snd.snd)) else some (Sum.inr (Sum.inl (x3.snd.snd.fst,x3.snd.snd.snd)))) (x.fst,0,x.snd.snd.fst,x.snd.snd.snd)).bind fun (x3:List TPlace×List TTrans⊕Int)=>
          match x3 with
          | Sum.inl x=>(p73 (x.fst,x.snd)).bind fun (b5:Bool)=>if (!b5)=true then some 7 else (p74 (x.fst,x.snd)).bind fun (n6:Int)=>some n6
          | Sum.inr y=>some y
    | Sum.inr r=>some r
theorem e55:vfn (T:=tE) lpK H55 (aP [n72,n73,n74]) q55 AY.res (vOf AY.code L55)=p55:=by kernel_rfl
abbrev n55:En tE:=⟨55,[],q55,p55⟩
theorem o55:aq F tE 55 q55 1 p55:=by
 rw [← e55]
 exact af (fn:=AY) (aa (en:=n72) (aa (en:=n73) (aa (en:=n74) ae o74 rfl) o73 rfl) o72 rfl) rfl (by kernel_rfl)
def q75:FSp:=⟨[(false,[.d false (.sl false (.st 2))])],[],[],[.ld 0 false,.r 0,.slot 0 false,.sl (.st 2)]⟩
def L75:List (Nat×Lb):=[]
def H75:List (Nat×VT):=[(5,(.st 2))]
def GP:List TPlace→Option (List TPlace):=fun (x:List TPlace)=>p7 x (some []) ((app 24 [] x).bind fun (l1:List TPlace)=>some l1)
def p75:List TPlace→Option (List TPlace):=fun (x:List TPlace)=>((app 24 [] x).bind fun (l1:List TPlace)=>some l1)
theorem wn:GP=p75:=by
 funext x
 exact gO (fun h=>by cases x; rfl; cases h)
theorem e75:vfn (T:=tE) lpK H75 (aP []) q75 Aw.res (vOf Aw.code L75)=p75:=by
 rw [← wn]
 kernel_rfl
abbrev n75:En tE:=⟨75,[],q75,p75⟩
theorem o75:aq F tE 75 q75 1 p75:=by
 rw [← e75]
 exact af (fn:=Aw) ae rfl (by kernel_rfl)
def q76:FSp:=⟨[(false,[.d true (.sl false (.st 1))])],[],[],[.ld 0 false,.r 0,.slot 0 false,.sl (.st 1)]⟩
def L76:List (Nat×Lb):=[]
def H76:List (Nat×VT):=[(5,(.st 1))]
def Gm:List TTrans→Option (List TTrans):=fun (x:List TTrans)=>p7 x (some []) ((app 104 [] x).bind fun (l1:List TTrans)=>some l1)
def p76:List TTrans→Option (List TTrans):=fun (x:List TTrans)=>((app 104 [] x).bind fun (l1:List TTrans)=>some l1)
theorem xU:Gm=p76:=by
 funext x
 exact gO (fun h=>by cases x; rfl; cases h)
theorem e76:vfn (T:=tE) lpK H76 (aP []) q76 Cz.res (vOf Cz.code L76)=p76:=by
 rw [← xU]
 kernel_rfl
abbrev n76:En tE:=⟨76,[],q76,p76⟩
theorem o76:aq F tE 76 q76 1 p76:=by
 rw [← e76]
 exact af (fn:=Cz) ae rfl (by kernel_rfl)
def q77:FSp:=⟨[(false,[.d false (.sl false (.st 0))])],[],[],[.ld 0 false,.r 0,.slot 0 false,.sl (.st 0)]⟩
def L77:List (Nat×Lb):=[]
def H77:List (Nat×VT):=[(5,(.st 0))]
def Fp:List TArc→Option (List TArc):=fun (x:List TArc)=>p7 x (some []) ((app 16 [] x).bind fun (l1:List TArc)=>some l1)
def p77:List TArc→Option (List TArc):=fun (x:List TArc)=>((app 16 [] x).bind fun (l1:List TArc)=>some l1)
theorem vM:Fp=p77:=by
 funext x
 exact gO (fun h=>by cases x; rfl; cases h)
theorem e77:vfn (T:=tE) lpK H77 (aP []) q77 Cc.res (vOf Cc.code L77)=p77:=by
 rw [← vM]
 kernel_rfl
abbrev n77:En tE:=⟨77,[],q77,p77⟩
theorem o77:aq F tE 77 q77 1 p77:=by
 rw [← e77]
 exact af (fn:=Cc) ae rfl (by kernel_rfl)
def q56:FSp:=⟨[(true,[.d false (.sl false (.st 2)),.d true (.sl false (.st 1))])],[],[],[.ld 0 true,.r 0,.r 1,.slot 0 true,.sl (.st 2),.sl (.st 1)]⟩
def L56:List (Nat×Lb):=[(4,.l [.ld 15 false,.d true (.int .i64),.slot 15 false] [.ld 2 false,.ptr 0 0,.slot 2 false,.ld 3 false,.ptr 1 0,.slot 3 false,.ld 16 false,.d true (.int .i64),.slot 16 false,.pr (.st 3),.pr (.st 3)] [(some 0,[.ld 2 false,.ptr 0 0,.slot 2 false,.ld 3 false,.ptr 1 0,.slot 3 false,.pr (.st 3),.pr (.st 3)])])]
def H56:List (Nat×VT):=[]
def p56:List TPlace×List TTrans→Option (List TPlace×List TTrans):=fun (x:List TPlace×List TTrans)=>(p75 x.fst).bind fun (l1:List TPlace)=>(p76 x.snd).bind fun (l2:List TTrans)=>(aw (fun (x3:Int×TNet×TNet)=>if x3.fst < (↑l2.length:Int) then (idx x3.snd.snd.Trans x3.fst).bind fun (x4:TTrans)=>(p77 x4.In).bind fun (l5:List TArc)=>(p77 x4.Not).bind fun (l6:List TArc)=>(p77 x4.Out).bind fun (l7:List TArc)=>(idx (x3.snd.snd.Trans.set x3.fst.toNat { Name:=x4.Name,Delay:=x4.Delay,Prio:=x4.Prio,In:=l5,Not:=x4.Not,Out:=x4.Out }) x3.fst).bind fun (x8:TTrans)=>(idx ((x3.snd.snd.Trans.set x3.fst.toNat { Name:=x4.Name,Delay:=x4.Delay,Prio:=x4.Prio,In:=l5,Not:=x4.Not,Out:=x4.Out }).set x3.fst.toNat { Name:=x8.Name,Delay:=x8.Delay,Prio:=x8.Prio,In:=x8.In,Not:=l6,Out:=x8.Out }) x3.fst).bind fun (x9:TTrans)=>some (Sum.inl (IntKind.i64.wrap (x3.fst+1),x3.snd.fst,{ Places:=x3.snd.snd.Places,Trans:=((x3.snd.snd.Trans.set x3.fst.toNat { Name:=x4.Name,Delay:=x4.Delay,Prio:=x4.Prio,In:=l5,Not:=x4.Not,Out:=x4.Out }).set x3.fst.toNat { Name:=x8.Name,Delay:=x8.Delay,Prio:=x8.Prio,In:=x8.In,Not:=l6,Out:=x8.Out }).set x3.fst.toNat { Name:=x9.Name,Delay:=x9.Delay,Prio:=x9.Prio,In:=x9.In,Not:=x9.Not,Out:=l7 } })) else some (Sum.inr (x3.snd.fst,x3.snd.snd))) (0,{ Places:=[],Trans:=[] },{ Places:=l1,Trans:=l2 })).bind fun (x3:TNet×TNet)=>some (x3.snd.Places,x3.snd.Trans)
theorem e56:vfn (T:=tE) lpK H56 (aP [n75,n76,n77]) q56 BT.res (vOf BT.code L56)=p56:=by kernel_rfl
abbrev n56:En tE:=⟨56,[],q56,p56⟩
theorem o56:aq F tE 56 q56 1 p56:=by
 rw [← e56]
 exact af (fn:=BT) (aa (en:=n75) (aa (en:=n76) (aa (en:=n77) ae o77 rfl) o76 rfl) o75 rfl) rfl (by kernel_rfl)
def q57:FSp:=⟨[(false,[.d false (.sl false (.st 5))])],[],[],[.ld 0 false,.ptr 0 0,.slot 0 false,.pr (.st 14)]⟩
def L57:List (Nat×Lb):=[]
def H57:List (Nat×VT):=[(7,(.sl true (.st 9)))]
def p57:List TLane→Option TBox:=fun (x:List TLane)=>(app 24 [] x).bind fun (l1:List TLane)=>(mkS 24 (↑x.length:Int) (↑x.length:Int) []).bind fun (l2:List (List TEvent))=>some { lanes:=l1,l:=l2,sent:=0 }
theorem e57:vfn (T:=tE) lpK H57 (aP []) q57 B0.res (vOf B0.code L57)=p57:=by kernel_rfl
abbrev n57:En tE:=⟨57,[],q57,p57⟩
theorem o57:aq F tE 57 q57 1 p57:=by
 rw [← e57]
 exact af (fn:=B0) ae rfl (by kernel_rfl)
def q59:FSp:=⟨[(false,[.e false (.st 14) 0])],[],[],[.ld 0 false,.d true (.int .i64),.slot 0 false]⟩
def L59:List (Nat×Lb):=[(7,.l [.ld 11 false,.d false (.sl true (.sl true (.st 9))),.slot 11 false,.ld 12 false,.d true (.int .i64),.slot 12 false] [.ld 3 false,.d true (.int .i64),.slot 3 false,.ld 13 false,.d true (.int .i64),.slot 13 false] [(some 0,[.ld 3 false,.d true (.int .i64),.slot 3 false])])]
def H59:List (Nat×VT):=[]
def p59:TBox→Option Int:=fun (x:TBox)=>(aw (fun (x1:Int×Int)=>if x1.snd < (↑x.l.length:Int) then (idx x.l x1.snd).bind fun (l2:List TEvent)=>some (Sum.inl (IntKind.i64.wrap (x1.fst+(↑l2.length:Int)),IntKind.i64.wrap (x1.snd+1))) else some (Sum.inr x1.fst)) (0,0)).bind fun (n1:Int)=>some n1
theorem e59:vfn (T:=tE) lpK H59 (aP []) q59 Az.res (vOf Az.code L59)=p59:=by kernel_rfl
abbrev n59:En tE:=⟨59,[],q59,p59⟩
theorem o59:aq F tE 59 q59 1 p59:=by
 rw [← e59]
 exact af (fn:=Az) ae rfl (by kernel_rfl)
def mX:FSp:=⟨[(false,[.e false (.st 15) 0]),(false,[.c (.func 18 [])])],[],[],[.ld 0 false,.d true .bool,.slot 0 false]⟩
def wH:List (Nat×Lb):=[(3,.l [.ld 1 false,.c (.func 18 []),.slot 1 false,.ld 10 false,.d false (.sl true (.pt (.st 11))),.slot 10 false,.ld 11 false,.d true (.int .i64),.slot 11 false] [.ld 4 false,.c (.bool false),.slot 4 false,.ld 12 false,.d true (.int .i64),.slot 12 false] [(some 0,[]),(none,[.ld 4 false,.c (.bool false),.slot 4 false])])]
def wB:List (Nat×VT):=[]
def jp:TKernel→Option Bool:=fun (x:TKernel)=>
  (aw (fun (n1:Int)=>if n1 < (↑x.l.length:Int) then (idx x.l n1).bind fun (x2:Option TProcess)=>x2.bind fun (x3:TProcess)=>(p18 x3).bind fun (b4:Bool)=>if (!b4)=true then some (Sum.inr (Sum.inr ())) else some (Sum.inl (IntKind.i64.wrap (n1+1))) else some (Sum.inr (Sum.inl ()))) 0).bind fun (x1:Unit⊕Unit)=>
    match x1 with
    | Sum.inl x=>some true
    | Sum.inr y=>some false
theorem vQ:vfn (T:=tE) lpK wB (aP [n18]) mX z9.res (vOf z9.code wH)=jp:=by kernel_rfl
abbrev sz:En tE:=⟨58,[(1,18)],mX,jp⟩
theorem zp:aq F tE 58 mX 2 jp:=by
 rw [← vQ]
 exact af (fn:=z9) (aa (en:=n18) ae o18 rfl) rfl (by kernel_rfl)
def q33:FSp:=⟨[(false,[.e false (.st 15) 0])],[],[],[.ld 0 false,.d true .bool,.slot 0 false]⟩
def L33:List (Nat×Lb):=[]
def H33:List (Nat×VT):=[]
def p33:TKernel→Option Bool:=fun (x:TKernel)=>if (!decide (x.e=0))=true then some false else (jp x).bind fun (b1:Bool)=>if b1=true then x.box.bind fun (x2:TBox)=>(p59 x2).bind fun (n3:Int)=>some (decide (n3=0)) else some false
theorem e33:vfn (T:=tE) lpK H33 (aP [sz,n59]) q33 Bp.res (vOf Bp.code L33)=p33:=by kernel_rfl
abbrev n33:En tE:=⟨33,[],q33,p33⟩
theorem o33:aq F tE 33 q33 1 p33:=by
 rw [← e33]
 exact af (fn:=Bp) (aa (en:=sz) (aa (en:=n59) ae o59 rfl) zp rfl) rfl (by kernel_rfl)
def q78:FSp:=⟨[(false,[.e false (.st 14) 0]),(false,[.d true (.int .i64)]),(false,[.d true (.int .i64)])],[],[],[.ld 0 false,.d true (.int .i64),.slot 0 false]⟩
def L78:List (Nat×Lb):=[]
def H78:List (Nat×VT):=[]
def p78:TBox×Int×Int→Option Int:=fun (x:TBox×Int×Int)=>(p25 (x.fst.lanes,x.snd.fst,x.snd.snd)).bind fun (n1:Int)=>if n1 < 0 then some 0 else (p25 (x.fst.lanes,x.snd.fst,x.snd.snd)).bind fun (n2:Int)=>(idx x.fst.l n2).bind fun (l3:List TEvent)=>some (↑l3.length:Int)
theorem e78:vfn (T:=tE) lpK H78 (aP [n25]) q78 Av.res (vOf Av.code L78)=p78:=by kernel_rfl
abbrev n78:En tE:=⟨78,[],q78,p78⟩
theorem o78:aq F tE 78 q78 3 p78:=by
 rw [← e78]
 exact af (fn:=Av) (aa (en:=n25) ae o25 rfl) rfl (by kernel_rfl)
def q60:FSp:=⟨[(false,[.e false (.st 15) 0]),(true,[.d true .bool,.d true (.int .i64),.d true (.int .i64)])],[],[],[.ld 0 false,.d true .bool,.slot 0 false]⟩
def L60:List (Nat×Lb):=[]
def H60:List (Nat×VT):=[]
def p60:TKernel×Bool×Int×Int→Option Bool:=fun (x:TKernel×Bool×Int×Int)=>if (!decide (x.fst.e=0))=true then some false else if x.snd.fst=true then x.fst.box.bind fun (x1:TBox)=>(p78 (x1,x.snd.snd.fst,x.snd.snd.snd)).bind fun (n2:Int)=>some (decide (0 < n2)) else if 0≤x.snd.snd.fst then if x.snd.snd.fst < (↑x.fst.l.length:Int) then (idx x.fst.l x.snd.snd.fst).bind fun (x1:Option TProcess)=>x1.bind fun (x2:TProcess)=>(p16 x2).bind fun (b3:Bool)=>some b3 else some false else some false
theorem e60:vfn (T:=tE) lpK H60 (aP [n78,n16]) q60 A7.res (vOf A7.code L60)=p60:=by kernel_rfl
abbrev n60:En tE:=⟨60,[],q60,p60⟩
theorem o60:aq F tE 60 q60 2 p60:=by
 rw [← e60]
 exact af (fn:=A7) (aa (en:=n78) (aa (en:=n16) ae o16 rfl) o78 rfl) rfl (by kernel_rfl)
def q61:FSp:=⟨[(false,[.ptr 0 0]),(false,[.d true (.int .i64)]),(false,[.d true (.int .i64)])],[.pr (.st 14)],[0],[.ld 0 true,.d true (.int .i64),.d true (.int .i64),.d true (.int .i64),.d true (.int .i64),.d true (.int .i64),.slot 0 true,.ld 1 false,.d true .bool,.slot 1 false,.ld 2 false,.ptr 0 0,.slot 2 false,.pr (.st 14)]⟩
def L61:List (Nat×Lb):=[]
def H61:List (Nat×VT):=[]
def p61:Int×Int×TBox→Option (Int×Int×Int×Int×Int×Bool×TBox):=fun (x:Int×Int×TBox)=>(p78 (x.snd.snd,x.fst,x.snd.fst)).bind fun (n1:Int)=>if n1=0 then some (0,0,0,0,0,false,x.snd.snd) else (p25 (x.snd.snd.lanes,x.fst,x.snd.fst)).bind fun (n2:Int)=>(idx x.snd.snd.l n2).bind fun (l3:List TEvent)=>(idx l3 0).bind fun (x4:TEvent)=>(idx x.snd.snd.l n2).bind fun (l5:List TEvent)=>(idx (x.snd.snd.l.set n2.toNat l3) n2).bind fun (l6:List TEvent)=>(slc l6 1 (↑l6.length:Int)).bind fun (l7:List TEvent)=>(idx (x.snd.snd.l.set n2.toNat l3) n2).bind fun (l8:List TEvent)=>if n2.toNat=n2.toNat then some (x.fst,x.snd.fst,x4.Time,x4.Place,x4.N,true,{ lanes:=x.snd.snd.lanes,l:=(x.snd.snd.l.set n2.toNat l3).set n2.toNat l7,sent:=x.snd.snd.sent }) else none
theorem e61:vfn (T:=tE) lpK H61 (aP [n78,n25]) q61 CD.res (vOf CD.code L61)=p61:=by kernel_rfl
abbrev n61:En tE:=⟨61,[],q61,p61⟩
theorem o61:aq F tE 61 q61 3 p61:=by
 rw [← e61]
 exact af (fn:=CD) (aa (en:=n78) (aa (en:=n25) ae o25 rfl) o78 rfl) rfl (by kernel_rfl)
def q62:FSp:=⟨[(false,[.ptr 0 0]),(true,[.d true (.int .i64),.d true (.int .i64),.d true (.int .i64),.d true (.int .i64),.d true (.int .i64)])],[.pr (.st 14)],[0],[.ld 0 false,.d true .bool,.slot 0 false,.ld 1 false,.ptr 0 0,.slot 1 false,.pr (.st 14)]⟩
def L62:List (Nat×Lb):=[]
def H62:List (Nat×VT):=[(43,(.st 9))]
def p62:Int×Int×Int×Int×Int×TBox→Option (Bool×TBox):=fun (x:Int×Int×Int×Int×Int×TBox)=>(p25 (x.snd.snd.snd.snd.snd.lanes,x.fst,x.snd.fst)).bind fun (n1:Int)=>if n1 < 0 then some (false,x.snd.snd.snd.snd.snd) else (p25 (x.snd.snd.snd.snd.snd.lanes,x.fst,x.snd.fst)).bind fun (n2:Int)=>(idx x.snd.snd.snd.snd.snd.l n2).bind fun (l3:List TEvent)=>(app 24 l3 [{ Time:=x.snd.snd.fst,Place:=x.snd.snd.snd.fst,N:=x.snd.snd.snd.snd.fst }]).bind fun (l4:List TEvent)=>(idx x.snd.snd.snd.snd.snd.l n2).bind fun (l5:List TEvent)=>if n2.toNat=n2.toNat then some (true,{ lanes:=x.snd.snd.snd.snd.snd.lanes,l:=x.snd.snd.snd.snd.snd.l.set n2.toNat l4,sent:=IntKind.i64.wrap (x.snd.snd.snd.snd.snd.sent+1) }) else none
theorem e62:vfn (T:=tE) lpK H62 (aP [n25]) q62 A1.res (vOf A1.code L62)=p62:=by kernel_rfl
abbrev n62:En tE:=⟨62,[],q62,p62⟩
theorem o62:aq F tE 62 q62 2 p62:=by
 rw [← e62]
 exact af (fn:=A1) (aa (en:=n25) ae o25 rfl) rfl (by kernel_rfl)
def q34:FSp:=⟨[(false,[.ptr 0 0]),(true,[.d true .bool,.d true (.int .i64),.d true (.int .i64)])],[.pr (.st 15)],[0],[.ld 0 false,.d true .bool,.slot 0 false,.ld 1 false,.d true (.int .i64),.slot 1 false,.ld 2 false,.ptr 0 0,.slot 2 false,.pr (.st 15)]⟩
def L34:List (Nat×Lb):=[(17,.l [.ld 9 false,.d true (.int .i64),.slot 9 false,.ld 73 false,.d true (.int .i64),.slot 73 false] [.ld 0 false,.ptr 0 0,.slot 0 false,.ld 72 false,.r 1,.slot 72 false,.ld 74 false,.d true (.int .i64),.slot 74 false,.pr (.st 15),.sl (.st 13)] [(some 0,[.ld 0 false,.ptr 0 0,.slot 0 false,.pr (.st 15)])])]
def H34:List (Nat×VT):=[]
def p34:Bool×Int×Int×TKernel→Option (Bool×Int×TKernel):=fun (x:Bool×Int×Int×TKernel)=>(p60 ({ n:=x.snd.snd.snd.n,l:=x.snd.snd.snd.l,lanes:=x.snd.snd.snd.lanes,box:=x.snd.snd.snd.box,e:=x.snd.snd.snd.e,picks:=IntKind.i64.wrap (x.snd.snd.snd.picks+1),moves:=x.snd.snd.snd.moves },x.fst,x.snd.fst,x.snd.snd.fst)).bind fun (b1:Bool)=>if (!b1)=true then some (false,x.snd.snd.snd.e,{ n:=x.snd.snd.snd.n,l:=x.snd.snd.snd.l,lanes:=x.snd.snd.snd.lanes,box:=x.snd.snd.snd.box,e:=x.snd.snd.snd.e,picks:=IntKind.i64.wrap (x.snd.snd.snd.picks+1),moves:=x.snd.snd.snd.moves }) else if x.fst=true then x.snd.snd.snd.box.bind fun (x2:TBox)=>(p61 (x.snd.fst,x.snd.snd.fst,x2)).bind fun (x3:Int×Int×Int×Int×Int×Bool×TBox)=>(idx x.snd.snd.snd.l x.snd.snd.fst).bind fun (x4:Option TProcess)=>x4.bind fun (x5:TProcess)=>(p22 (x3.fst,x3.snd.fst,x3.snd.snd.fst,x3.snd.snd.snd.fst,x3.snd.snd.snd.snd.fst,x5)).bind fun (x6:TProcess)=>some (true,0,{ n:=x.snd.snd.snd.n,l:=x.snd.snd.snd.l.set x.snd.snd.fst.toNat (some x6),lanes:=x.snd.snd.snd.lanes,box:=some x3.snd.snd.snd.snd.snd.snd,e:=x.snd.snd.snd.e,picks:=IntKind.i64.wrap (x.snd.snd.snd.picks+1),moves:=IntKind.i64.wrap (x.snd.snd.snd.moves+1) }) else (idx x.snd.snd.snd.l x.snd.fst).bind fun (x2:Option TProcess)=>x2.bind fun (x3:TProcess)=>(p17 x3).bind fun (x4:Int×List TMail×TProcess)=>(aw (fun (x5:Int×TKernel×List TMail)=>if x5.fst < (↑x4.snd.fst.length:Int) then (idx x5.snd.snd x5.fst).bind fun (x6:TMail)=>x5.snd.fst.box.bind fun (x7:TBox)=>(p62 (x6.From,x6.To,x6.E.Time,x6.E.Place,x6.E.N,x7)).bind fun (x8:Bool×TBox)=>some (Sum.inl (IntKind.i64.wrap (x5.fst+1),{ n:=x5.snd.fst.n,l:=x5.snd.fst.l,lanes:=x5.snd.fst.lanes,box:=some x8.snd,e:=x5.snd.fst.e,picks:=x5.snd.fst.picks,moves:=x5.snd.fst.moves },x5.snd.snd)) else some (Sum.inr x5.snd.fst)) (0,{ n:=x.snd.snd.snd.n,l:=x.snd.snd.snd.l.set x.snd.fst.toNat (some x4.snd.snd),lanes:=x.snd.snd.snd.lanes,box:=x.snd.snd.snd.box,e:=x.snd.snd.snd.e,picks:=IntKind.i64.wrap (x.snd.snd.snd.picks+1),moves:=IntKind.i64.wrap (x.snd.snd.snd.moves+1) },x4.snd.fst)).bind fun (x5:TKernel)=>some (true,x4.fst,{ n:=x5.n,l:=x5.l,lanes:=x5.lanes,box:=x5.box,e:=x4.fst,picks:=x5.picks,moves:=x5.moves })
theorem e34:vfn (T:=tE) lpK H34 (aP [n60,n61,n22,n17,n62]) q34 Cm.res (vOf Cm.code L34)=p34:=by kernel_rfl
abbrev n34:En tE:=⟨34,[],q34,p34⟩
theorem o34:aq F tE 34 q34 2 p34:=by
 rw [← e34]
 exact af (fn:=Cm) (aa (en:=n60) (aa (en:=n61) (aa (en:=n22) (aa (en:=n17) (aa (en:=n62) ae o62 rfl) o17 rfl) o22 rfl) o61 rfl) o60 rfl) rfl (by kernel_rfl)
def q28:FSp:=⟨[(false,[.ptr 0 0]),(false,[.d false (.sl false (.st 16))])],[.pr (.st 15)],[0],[.ld 0 false,.d true (.int .i64),.slot 0 false,.ld 1 false,.ptr 0 0,.slot 1 false,.pr (.st 15)]⟩
def L28:List (Nat×Lb):=[(3,.l [.ld 9 false,.d false (.sl false (.st 16)),.slot 9 false,.ld 10 false,.d true (.int .i64),.slot 10 false] [.ld 0 false,.ptr 0 0,.slot 0 false,.ld 4 false,.d true (.int .i64),.slot 4 false,.ld 11 false,.d true (.int .i64),.slot 11 false,.pr (.st 15)] [(some 0,[.ld 0 false,.ptr 0 0,.slot 0 false,.pr (.st 15)]),(none,[.ld 0 false,.ptr 0 0,.slot 0 false,.ld 4 false,.d true (.int .i64),.slot 4 false,.pr (.st 15)])])]
def H28:List (Nat×VT):=[]
def p28:List TPick×TKernel→Option (Int×TKernel):=fun (x:List TPick×TKernel)=>
  (aw (fun (x1:Int×Int×TKernel)=>if x1.snd.fst < (↑x.fst.length:Int) then (idx x.fst x1.snd.fst).bind fun (x2:TPick)=>(p33 x1.snd.snd).bind fun (b3:Bool)=>if b3=true then some (Sum.inr (Sum.inl x1.snd.snd)) else (p34 (x2.Deliver,x2.A,x2.B,x1.snd.snd)).bind fun (x4:Bool×Int×TKernel)=>if (!decide (x4.snd.fst=0))=true then some (Sum.inr (Sum.inr (x4.snd.fst,x4.snd.snd))) else some (Sum.inl (x1.fst,IntKind.i64.wrap (x1.snd.fst+1),x4.snd.snd)) else some (Sum.inr (Sum.inl x1.snd.snd))) (0,0,x.snd)).bind fun (x1:TKernel⊕Int×TKernel)=>
    match x1 with
    | Sum.inl x=>if (!decide (x.e=0))=true then some (x.e,x) else (p33 x).bind fun (b3:Bool)=>if (!b3)=true then some (8,x) else some (0,x)
    | Sum.inr y=>some (y.fst,y.snd)
theorem e28:vfn (T:=tE) lpK H28 (aP [n33,n34]) q28 AM.res (vOf AM.code L28)=p28:=by kernel_rfl
abbrev n28:En tE:=⟨28,[],q28,p28⟩
theorem o28:aq F tE 28 q28 2 p28:=by
 rw [← e28]
 exact af (fn:=AM) (aa (en:=n33) (aa (en:=n34) ae o34 rfl) o33 rfl) rfl (by kernel_rfl)
def q29:FSp:=⟨[(false,[.e false (.st 15) 0])],[],[],[.ld 0 false,.r 0,.slot 0 false,.sl (.st 16)]⟩
def L29:List (Nat×Lb):=[(7,.l [.ld 0 false,.e false (.st 15) 0,.slot 0 false,.ld 13 false,.d true (.int .i64),.slot 13 false] [.ld 3 false,.r 0,.slot 3 false,.ld 14 false,.d true (.int .i64),.slot 14 false,.sl (.st 16)] [(some 0,[.ld 3 false,.r 0,.slot 3 false,.sl (.st 16)])]),(14,.l [.ld 26 false,.d false (.sl true (.st 5)),.slot 26 false,.ld 27 false,.d true (.int .i64),.slot 27 false] [.ld 3 false,.r 0,.slot 3 false,.ld 28 false,.d true (.int .i64),.slot 28 false,.sl (.st 16)] [(some 2,[.ld 3 false,.r 0,.slot 3 false,.sl (.st 16)])])]
def H29:List (Nat×VT):=[(20,(.st 16)),(38,(.st 16))]
def p29:TKernel→Option (List TPick):=fun (x:TKernel)=>(aw (fun (x1:Int×List TPick)=>if x1.fst < (↑x.l.length:Int) then (app 24 x1.snd [{ Deliver:=false,A:=x1.fst,B:=0 }]).bind fun (l2:List TPick)=>some (Sum.inl (IntKind.i64.wrap (x1.fst+1),l2)) else some (Sum.inr x1.snd)) (0,[])).bind fun (l1:List TPick)=>(aw (fun (x2:Int×List TPick)=>if x2.fst < (↑x.lanes.length:Int) then (idx x.lanes x2.fst).bind fun (x3:TLane)=>(app 24 x2.snd [{ Deliver:=true,A:=x3.From,B:=x3.To }]).bind fun (l4:List TPick)=>some (Sum.inl (IntKind.i64.wrap (x2.fst+1),l4)) else some (Sum.inr x2.snd)) (0,l1)).bind fun (l2:List TPick)=>some l2
theorem e29:vfn (T:=tE) lpK H29 (aP []) q29 Ai.res (vOf Ai.code L29)=p29:=by kernel_rfl
abbrev n29:En tE:=⟨29,[],q29,p29⟩
theorem o29:aq F tE 29 q29 1 p29:=by
 rw [← e29]
 exact af (fn:=Ai) ae rfl (by kernel_rfl)
def q30:FSp:=⟨[(false,[.e false (.st 15) 0])],[],[],[.ld 0 false,.r 0,.slot 0 false,.sl (.st 12)]⟩
def L30:List (Nat×Lb):=[(7,.l [.ld 11 false,.d false (.sl true (.pt (.st 11))),.slot 11 false,.ld 12 false,.d true (.int .i64),.slot 12 false] [.ld 3 false,.r 0,.slot 3 false,.ld 13 false,.d true (.int .i64),.slot 13 false,.sl (.st 12)] [(some 0,[.ld 3 false,.r 0,.slot 3 false,.sl (.st 12)])])]
def H30:List (Nat×VT):=[(20,(.st 12))]
def p30:TKernel→Option (List TResult):=fun (x:TKernel)=>(aw (fun (x1:Int×List TResult)=>if x1.fst < (↑x.l.length:Int) then (idx x.l x1.fst).bind fun (x2:Option TProcess)=>x2.bind fun (x3:TProcess)=>(p20 x3).bind fun (x4:Int×List TFire×List Int×List Int)=>(app 80 x1.snd [{ Log:=x4.snd.fst,Marks:=x4.snd.snd.fst,Way:=x4.snd.snd.snd,Time:=x4.fst }]).bind fun (l5:List TResult)=>some (Sum.inl (IntKind.i64.wrap (x1.fst+1),l5)) else some (Sum.inr x1.snd)) (0,[])).bind fun (l1:List TResult)=>some l1
theorem e30:vfn (T:=tE) lpK H30 (aP [n20]) q30 Cj.res (vOf Cj.code L30)=p30:=by kernel_rfl
abbrev n30:En tE:=⟨30,[],q30,p30⟩
theorem o30:aq F tE 30 q30 1 p30:=by
 rw [← e30]
 exact af (fn:=Cj) (aa (en:=n20) ae o20 rfl) rfl (by kernel_rfl)
def q54:FSp:=⟨[(false,[.e false (.st 15) 0])],[],[],[.ld 0 false,.r 0,.slot 0 false,.sl (.st 5)]⟩
def L54:List (Nat×Lb):=[]
def H54:List (Nat×VT):=[]
def p54:TKernel→Option (List TLane):=fun (x:TKernel)=>(app 24 [] x.lanes).bind fun (l1:List TLane)=>some l1
theorem e54:vfn (T:=tE) lpK H54 (aP []) q54 Cg.res (vOf Cg.code L54)=p54:=by kernel_rfl
abbrev n54:En tE:=⟨54,[],q54,p54⟩
theorem o54:aq F tE 54 q54 1 p54:=by
 rw [← e54]
 exact af (fn:=Cg) ae rfl (by kernel_rfl)
end
end Go.Proofs.Ytmchbhheoieepaa
