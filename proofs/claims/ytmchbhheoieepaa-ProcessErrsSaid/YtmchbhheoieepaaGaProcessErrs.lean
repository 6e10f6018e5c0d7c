/- Pure functions of the law's functions, and that these do so. No condition. Own work. -/
import Derived.Test.YtmchbhheoieepaaCProcessErrs
import Derived.Test.YtmchbhheoieepaaEProcessErrs
import Derived.Test.YtmchbhheoieepaaPProcessErrs
import Derived.Test.YtmchbhheoieepaaVm5ProcessErrs
set_option linter.unusedVariables false
namespace Go.Proofs.Ytmchbhheoieepaa
open Go Go.Am
noncomputable section
def q63:FSp:=⟨[(true,[.d true .str,.d true (.int .i64),.d true (.int .i64),.d false (.sl false (.st 0)),.d false (.sl false (.st 0)),.d false (.sl false (.st 0))])],[],[],[.ld 0 false,.r 0,.slot 0 false,.sl (.int .i64)]⟩
def L63:List (Nat×Lb):=[(4,.l [.ld 12 true,.d false (.sl false (.st 0)),.d false (.sl false (.st 0)),.slot 12 true] [.ld 3 false,.r 0,.slot 3 false,.ld 13 false,.d true (.int .i64),.slot 13 false,.sl (.int .i64)] [(some 0,[.ld 3 false,.r 0,.slot 3 false,.sl (.int .i64)])]),(10,.l [.ld 13 false,.d true (.int .i64),.slot 13 false,.ld 16 false,.d false (.sl false (.st 0)),.slot 16 false,.ld 17 false,.d true (.int .i64),.slot 17 false] [.ld 3 false,.r 0,.slot 3 false,.ld 18 false,.d true (.int .i64),.slot 18 false,.sl (.int .i64)] [(some 2,[.ld 3 false,.r 0,.slot 3 false,.sl (.int .i64)])])]
def H63:List (Nat×VT):=[(25,(.int .i64))]
def p63:List UInt8×Int×Int×List TArc×List TArc×List TArc→Option (List Int):=fun (x:List UInt8×Int×Int×List TArc×List TArc×List TArc)=>(aq (fun (x1:Int×List Int)=>if x1.fst < 2 then (idx [x.snd.snd.snd.fst,x.snd.snd.snd.snd.fst] x1.fst).bind fun (l2:List TArc)=>(aq (fun (x3:Int×List Int)=>if x3.fst < (↑l2.length:Int) then (idx l2 x3.fst).bind fun (x4:TArc)=>(app 8 x3.snd [x4.Place]).bind fun (l5:List Int)=>some (Sum.inl (IntKind.i64.wrap (x3.fst+1),l5)) else some (Sum.inr x3.snd)) (0,x1.snd)).bind fun (l3:List Int)=>some (Sum.inl (IntKind.i64.wrap (x1.fst+1),l3)) else some (Sum.inr x1.snd)) (0,[])).bind fun (l1:List Int)=>some l1
theorem e63:vfn (T:=tE) lpK H63 (a6 []) q63 CO.res (vOf CO.code L63)=p63:=by kernel_rfl
abbrev n63:En tE:=⟨63,[],q63,p63⟩
theorem o63:aB F tE 63 q63 1 p63:=by
 rw [← e63]
 exact aw (fn:=CO) ah rfl (by kernel_rfl)
def q36:FSp:=⟨[(true,[.d false (.sl false (.st 2)),.d false (.sl false (.st 1))]),(true,[.d true (.int .i64),.d false (.sl false (.int .i64)),.d false (.sl false (.int .i64))])],[],[],[.ld 0 false,.d true (.int .i64),.slot 0 false]⟩
def L36:List (Nat×Lb):=[(2,.j [.ld 2 false,.ptr 0 0,.slot 2 false,.ld 3 false,.ptr 1 0,.slot 3 false,.ld 4 false,.d true (.int .i64),.slot 4 false,.ld 40 false,.d true .bool,.slot 40 false,.ldr,.d false (.sl false (.st 2)),.d false (.sl false (.st 1)),.row,.ldr,.d true (.int .i64),.d false (.sl false (.int .i64)),.d false (.sl false (.int .i64)),.row]),(6,.l [.ld 45 true,.d false (.sl false (.int .i64)),.d false (.sl false (.int .i64)),.slot 45 true] [.ld 2 false,.ptr 0 0,.slot 2 false,.ld 3 false,.ptr 1 0,.slot 3 false,.ld 4 false,.d true (.int .i64),.slot 4 false,.ld 46 false,.d true (.int .i64),.slot 46 false,.ldr,.d false (.sl false (.st 2)),.d false (.sl false (.st 1)),.row,.ldr,.d true (.int .i64),.d false (.sl false (.int .i64)),.d false (.sl false (.int .i64)),.row] [(some 0,[.ld 2 false,.ptr 0 0,.slot 2 false,.ld 3 false,.ptr 1 0,.slot 3 false,.ld 4 false,.d true (.int .i64),.slot 4 false,.ldr,.d false (.sl false (.st 2)),.d false (.sl false (.st 1)),.row,.ldr,.d true (.int .i64),.d false (.sl false (.int .i64)),.d false (.sl false (.int .i64)),.row]),(none,[.ld 4 false,.d true (.int .i64),.slot 4 false])]),(12,.l [.ld 46 false,.d true (.int .i64),.slot 46 false,.ld 49 false,.d false (.sl false (.int .i64)),.slot 49 false,.ld 50 false,.d true (.int .i64),.slot 50 false] [.ld 2 false,.ptr 0 0,.slot 2 false,.ld 3 false,.ptr 1 0,.slot 3 false,.ld 4 false,.d true (.int .i64),.slot 4 false,.ld 51 false,.d true (.int .i64),.slot 51 false,.ldr,.d false (.sl false (.st 2)),.d false (.sl false (.st 1)),.row,.ldr,.d true (.int .i64),.d false (.sl false (.int .i64)),.d false (.sl false (.int .i64)),.row] [(some 2,[.ld 2 false,.ptr 0 0,.slot 2 false,.ld 3 false,.ptr 1 0,.slot 3 false,.ld 4 false,.d true (.int .i64),.slot 4 false,.ldr,.d false (.sl false (.st 2)),.d false (.sl false (.st 1)),.row,.ldr,.d true (.int .i64),.d false (.sl false (.int .i64)),.d false (.sl false (.int .i64)),.row]),(none,[.ld 4 false,.d true (.int .i64),.slot 4 false])]),(17,.j [.ld 2 false,.ptr 0 0,.slot 2 false,.ld 3 false,.ptr 1 0,.slot 3 false,.ld 4 false,.d true (.int .i64),.slot 4 false,.ld 51 false,.d true (.int .i64),.slot 51 false,.ld 62 false,.d true .bool,.slot 62 false,.ldr,.d false (.sl false (.st 2)),.d false (.sl false (.st 1)),.row,.ldr,.d true (.int .i64),.d false (.sl false (.int .i64)),.d false (.sl false (.int .i64)),.row]),(21,.l [.ld 66 false,.d false (.sl false (.st 1)),.slot 66 false,.ld 67 false,.d true (.int .i64),.slot 67 false] [.ld 3 false,.ptr 0 0,.slot 3 false,.ld 4 false,.d true (.int .i64),.slot 4 false,.ld 68 false,.d true (.int .i64),.slot 68 false,.ldr,.d true (.int .i64),.d false (.sl false (.int .i64)),.d false (.sl false (.int .i64)),.row] [(some 4,[]),(none,[.ld 4 false,.d true (.int .i64),.slot 4 false])]),(28,.l [.ld 9 false,.d true (.int .i64),.slot 9 false,.ld 68 false,.d true (.int .i64),.slot 68 false,.ld 75 false,.d true (.int .i64),.slot 75 false] [.ld 3 false,.ptr 0 0,.slot 3 false,.ld 4 false,.d true (.int .i64),.slot 4 false,.ld 10 false,.ptr 1 0,.slot 10 false,.ld 74 false,.r 2,.slot 74 false,.ld 76 false,.d true (.int .i64),.slot 76 false,.ldr,.d true (.int .i64),.d false (.sl false (.int .i64)),.d false (.sl false (.int .i64)),.row,.ldr,.d true .str,.d true (.int .i64),.d true (.int .i64),.d false (.sl false (.st 0)),.d false (.sl false (.st 0)),.d false (.sl false (.st 0)),.row,.sl (.int .i64)] [(some 6,[.ld 3 false,.ptr 0 0,.slot 3 false,.ld 4 false,.d true (.int .i64),.slot 4 false,.ld 10 false,.ptr 1 0,.slot 10 false,.ldr,.d true (.int .i64),.d false (.sl false (.int .i64)),.d false (.sl false (.int .i64)),.row,.ldr,.d true .str,.d true (.int .i64),.d true (.int .i64),.d false (.sl false (.st 0)),.d false (.sl false (.st 0)),.d false (.sl false (.st 0)),.row]),(none,[.ld 4 false,.d true (.int .i64),.slot 4 false])]),(36,.l [.ld 9 false,.d true (.int .i64),.slot 9 false,.ld 68 false,.d true (.int .i64),.slot 68 false,.ld 93 false,.d false (.sl false (.st 0)),.slot 93 false,.ld 94 false,.d true (.int .i64),.slot 94 false] [.ld 3 false,.ptr 0 0,.slot 3 false,.ld 4 false,.d true (.int .i64),.slot 4 false,.ld 10 false,.ptr 1 0,.slot 10 false,.ld 95 false,.d true (.int .i64),.slot 95 false,.ldr,.d true (.int .i64),.d false (.sl false (.int .i64)),.d false (.sl false (.int .i64)),.row,.ldr,.d true .str,.d true (.int .i64),.d true (.int .i64),.d false (.sl false (.st 0)),.d false (.sl false (.st 0)),.d false (.sl false (.st 0)),.row] [(some 8,[.ld 3 false,.ptr 0 0,.slot 3 false,.ld 4 false,.d true (.int .i64),.slot 4 false,.ldr,.d true (.int .i64),.d false (.sl false (.int .i64)),.d false (.sl false (.int .i64)),.row]),(none,[.ld 4 false,.d true (.int .i64),.slot 4 false])]),(41,.j [.ld 3 false,.ptr 0 0,.slot 3 false,.ld 4 false,.d true (.int .i64),.slot 4 false,.ld 10 false,.ptr 1 0,.slot 10 false,.ld 95 false,.d true (.int .i64),.slot 95 false,.ld 115 false,.d true .bool,.slot 115 false,.ldr,.d true (.int .i64),.d false (.sl false (.int .i64)),.d false (.sl false (.int .i64)),.row,.ldr,.d true .str,.d true (.int .i64),.d true (.int .i64),.d false (.sl false (.st 0)),.d false (.sl false (.st 0)),.d false (.sl false (.st 0)),.row])]
def H36:List (Nat×VT):=[]
def p36:List TPlace×List TTrans×Int×List Int×List Int→Option Int:=fun (x:List TPlace×List TTrans×Int×List Int×List Int)=>
  (if (!decide ((↑x.snd.snd.snd.fst.length:Int)=(↑x.fst.length:Int)))=true then some (Sum.inl ((0:Int),true,x.fst,x.snd.fst,x.snd.snd.fst,x.snd.snd.snd.fst,x.snd.snd.snd.snd)) else if (!decide ((↑x.snd.snd.snd.snd.length:Int)=(↑x.snd.fst.length:Int)))=true then some (Sum.inl ((0:Int),true,x.fst,x.snd.fst,x.snd.snd.fst,x.snd.snd.snd.fst,x.snd.snd.snd.snd)) else if x.snd.snd.fst < 1 then some (Sum.inl ((0:Int),true,x.fst,x.snd.fst,x.snd.snd.fst,x.snd.snd.snd.fst,x.snd.snd.snd.snd)) else some (Sum.inl ((0:Int),decide (32 < x.snd.snd.fst),x.fst,x.snd.fst,x.snd.snd.fst,x.snd.snd.snd.fst,x.snd.snd.snd.snd))).bind fun (x1:Int×Bool×List TPlace×List TTrans×Int×List Int×List Int⊕Int)=>
    match x1 with
    | Sum.inl x=>
      if x.snd.fst=true then some 1
      else
        (aq
              (fun (x3:Int×Int×List TPlace×List TTrans×Int×List Int×List Int)=>
                if x3.snd.fst < 2 then
                  (idx [x.snd.snd.snd.snd.snd.fst,x.snd.snd.snd.snd.snd.snd] x3.snd.fst).bind fun (l4:List Int)=>
                    (aq
                          (fun (x5:Int×Int×List TPlace×List TTrans×Int×List Int×List Int)=>
                            if x5.snd.fst < (↑l4.length:Int) then
                              (idx l4 x5.snd.fst).bind fun (n6:Int)=>
                                (if n6 < 0 then some (Sum.inl (x5.fst,x5.snd.fst,true,x5.snd.snd.fst,x5.snd.snd.snd.fst,x5.snd.snd.snd.snd.fst,x5.snd.snd.snd.snd.snd.fst,x5.snd.snd.snd.snd.snd.snd)) else some (Sum.inl (x5.fst,x5.snd.fst,decide (x5.snd.snd.snd.snd.fst≤n6),x5.snd.snd.fst,x5.snd.snd.snd.fst,x5.snd.snd.snd.snd.fst,x5.snd.snd.snd.snd.snd.fst,x5.snd.snd.snd.snd.snd.snd))).bind fun (x7:Int×Int×Bool×List TPlace×List TTrans×Int×List Int×List Int⊕Int×Int×List TPlace×List TTrans×Int×List Int×List Int⊕Int×List TPlace×List TTrans×Int×List Int×List Int⊕Int)=>
                                  match x7 with
                                  | Sum.inl x=>if x.snd.snd.fst=true then some (Sum.inr (Sum.inr 1)) else some (Sum.inl (x.fst,IntKind.i64.wrap (x.snd.fst+1),x.snd.snd.snd.fst,x.snd.snd.snd.snd.fst,x.snd.snd.snd.snd.snd.fst,x.snd.snd.snd.snd.snd.snd.fst,x.snd.snd.snd.snd.snd.snd.snd))
                                  | Sum.inr r=>some r
                            else some (Sum.inr (Sum.inl (x5.fst,x5.snd.snd.fst,x5.snd.snd.snd.fst,x5.snd.snd.snd.snd.fst,x5.snd.snd.snd.snd.snd.fst,x5.snd.snd.snd.snd.snd.snd))))
                          (x3.fst,0,x3.snd.snd.fst,x3.snd.snd.snd.fst,x3.snd.snd.snd.snd.fst,x3.snd.snd.snd.snd.snd.fst,x3.snd.snd.snd.snd.snd.snd)).bind
                      fun (x5:Int×List TPlace×List TTrans×Int×List Int×List Int⊕Int)=>
                      match x5 with
                      | Sum.inl x=>some (Sum.inl (x.fst,IntKind.i64.wrap (x3.snd.fst+1),x.snd.fst,x.snd.snd.fst,x.snd.snd.snd.fst,x.snd.snd.snd.snd.fst,x.snd.snd.snd.snd.snd))
                      | Sum.inr y=>some (Sum.inr (Sum.inr y))
                else some (Sum.inr (Sum.inl (x3.fst,x3.snd.snd.fst,x3.snd.snd.snd.fst,x3.snd.snd.snd.snd.fst,x3.snd.snd.snd.snd.snd.fst,x3.snd.snd.snd.snd.snd.snd))))
              (x.fst,0,x.snd.snd.fst,x.snd.snd.snd.fst,x.snd.snd.snd.snd.fst,x.snd.snd.snd.snd.snd.fst,x.snd.snd.snd.snd.snd.snd)).bind
          fun (x3:Int×List TPlace×List TTrans×Int×List Int×List Int⊕Int)=>
          match x3 with
          | Sum.inl x=>
            (aq
                  (fun (x5:Int×Int×Int×List Int×List Int)=>
                    if x5.snd.fst < (↑x.snd.snd.fst.length:Int) then
                      (idx x.snd.snd.fst x5.snd.fst).bind fun (x6:TTrans)=>
                        (p63 (x6.Name,x6.Delay,x6.Prio,x6.In,x6.Not,x6.Out)).bind fun (l7:List Int)=>
                          (aq (fun (x8:Int×Int×Int×List Int×List Int×List UInt8×Int×Int×List TArc×List TArc×List TArc×List Int)=>if x8.snd.fst < (↑l7.length:Int) then (idx x8.snd.snd.snd.snd.snd.snd.snd.snd.snd.snd.snd x8.snd.fst).bind fun (n9:Int)=>(idx x8.snd.snd.snd.fst n9).bind fun (n10:Int)=>(idx x8.snd.snd.snd.snd.fst x5.snd.fst).bind fun (n11:Int)=>if (!decide (n10=n11))=true then some (Sum.inr (Sum.inr 9)) else some (Sum.inl (x8.fst,IntKind.i64.wrap (x8.snd.fst+1),x8.snd.snd.fst,x8.snd.snd.snd.fst,x8.snd.snd.snd.snd.fst,x8.snd.snd.snd.snd.snd.fst,x8.snd.snd.snd.snd.snd.snd.fst,x8.snd.snd.snd.snd.snd.snd.snd.fst,x8.snd.snd.snd.snd.snd.snd.snd.snd.fst,x8.snd.snd.snd.snd.snd.snd.snd.snd.snd.fst,x8.snd.snd.snd.snd.snd.snd.snd.snd.snd.snd.fst,x8.snd.snd.snd.snd.snd.snd.snd.snd.snd.snd.snd)) else some (Sum.inr (Sum.inl (x8.fst,x8.snd.snd.fst,x8.snd.snd.snd.fst,x8.snd.snd.snd.snd.fst,x8.snd.snd.snd.snd.snd.fst,x8.snd.snd.snd.snd.snd.snd.fst,x8.snd.snd.snd.snd.snd.snd.snd.fst,x8.snd.snd.snd.snd.snd.snd.snd.snd.fst,x8.snd.snd.snd.snd.snd.snd.snd.snd.snd.fst,x8.snd.snd.snd.snd.snd.snd.snd.snd.snd.snd.fst)))) (x5.fst,0,x5.snd.snd.fst,x5.snd.snd.snd.fst,x5.snd.snd.snd.snd,x6.Name,x6.Delay,x6.Prio,x6.In,x6.Not,x6.Out,l7)).bind fun (x8:Int×Int×List Int×List Int×List UInt8×Int×Int×List TArc×List TArc×List TArc⊕Int)=>
                            match x8 with
                            | Sum.inl x=>
                              (aq
                                    (fun (x10:Int×Int×Int×List Int×List Int×List UInt8×Int×Int×List TArc×List TArc×List TArc)=>
                                      if x10.snd.fst < (↑x.snd.snd.snd.snd.snd.snd.snd.snd.snd.length:Int) then
                                        (idx x.snd.snd.snd.snd.snd.snd.snd.snd.snd x10.snd.fst).bind fun (x11:TArc)=>
                                          (if x10.snd.snd.snd.snd.snd.snd.fst=0 then (idx x10.snd.snd.snd.fst x11.Place).bind fun (n12:Int)=>(idx x10.snd.snd.snd.snd.fst x5.snd.fst).bind fun (n13:Int)=>some (Sum.inl (x10.fst,x10.snd.fst,!decide (n12=n13),x10.snd.snd.fst,x10.snd.snd.snd.fst,x10.snd.snd.snd.snd.fst,x10.snd.snd.snd.snd.snd.fst,x10.snd.snd.snd.snd.snd.snd.fst,x10.snd.snd.snd.snd.snd.snd.snd.fst,x10.snd.snd.snd.snd.snd.snd.snd.snd.fst,x10.snd.snd.snd.snd.snd.snd.snd.snd.snd.fst,x10.snd.snd.snd.snd.snd.snd.snd.snd.snd.snd)) else some (Sum.inl (x10.fst,x10.snd.fst,false,x10.snd.snd.fst,x10.snd.snd.snd.fst,x10.snd.snd.snd.snd.fst,x10.snd.snd.snd.snd.snd.fst,x10.snd.snd.snd.snd.snd.snd.fst,x10.snd.snd.snd.snd.snd.snd.snd.fst,x10.snd.snd.snd.snd.snd.snd.snd.snd.fst,x10.snd.snd.snd.snd.snd.snd.snd.snd.snd.fst,x10.snd.snd.snd.snd.snd.snd.snd.snd.snd.snd))).bind fun (x12:Int×Int×Bool×Int×List Int×List Int×List UInt8×Int×Int×List TArc×List TArc×List TArc⊕Int×Int×Int×List Int×List Int×List UInt8×Int×Int×List TArc×List TArc×List TArc⊕Int×Int×List Int×List Int⊕Int)=>
                                            match x12 with
                                            | Sum.inl x=>if x.snd.snd.fst=true then some (Sum.inr (Sum.inr 9)) else some (Sum.inl (x.fst,IntKind.i64.wrap (x.snd.fst+1),x.snd.snd.snd.fst,x.snd.snd.snd.snd.fst,x.snd.snd.snd.snd.snd.fst,x.snd.snd.snd.snd.snd.snd.fst,x.snd.snd.snd.snd.snd.snd.snd.fst,x.snd.snd.snd.snd.snd.snd.snd.snd.fst,x.snd.snd.snd.snd.snd.snd.snd.snd.snd.fst,x.snd.snd.snd.snd.snd.snd.snd.snd.snd.snd.fst,x.snd.snd.snd.snd.snd.snd.snd.snd.snd.snd.snd))
                                            | Sum.inr r=>some r
                                      else some (Sum.inr (Sum.inl (x10.fst,x10.snd.snd.fst,x10.snd.snd.snd.fst,x10.snd.snd.snd.snd.fst))))
                                    (x.fst,0,x.snd.fst,x.snd.snd.fst,x.snd.snd.snd.fst,x.snd.snd.snd.snd.fst,x.snd.snd.snd.snd.snd.fst,x.snd.snd.snd.snd.snd.snd.fst,x.snd.snd.snd.snd.snd.snd.snd.fst,x.snd.snd.snd.snd.snd.snd.snd.snd.fst,x.snd.snd.snd.snd.snd.snd.snd.snd.snd)).bind
                                fun (x10:Int×Int×List Int×List Int⊕Int)=>
                                match x10 with
                                | Sum.inl x=>some (Sum.inl (x.fst,IntKind.i64.wrap (x5.snd.fst+1),x.snd.fst,x.snd.snd.fst,x.snd.snd.snd))
                                | Sum.inr y=>some (Sum.inr (Sum.inr y))
                            | Sum.inr y=>some (Sum.inr (Sum.inr y))
                    else some (Sum.inr (Sum.inl ())))
                  (x.fst,0,x.snd.snd.snd.fst,x.snd.snd.snd.snd.fst,x.snd.snd.snd.snd.snd)).bind
              fun (x5:Unit⊕Int)=>
              match x5 with
              | Sum.inl x=>some 0
              | Sum.inr y=>some y
          | Sum.inr y=>some y
    | Sum.inr r=>some r
theorem e36:vfn (T:=tE) lpK H36 (a6 [n63]) q36 BP.res (vOf BP.code L36)=p36:=by kernel_rfl
abbrev n36:En tE:=⟨36,[],q36,p36⟩
theorem o36:aB F tE 36 q36 2 p36:=by
 rw [← e36]
 exact aw (fn:=BP) (af (en:=n63) ah o63 rfl) rfl (by kernel_rfl)
def q92:FSp:=⟨[(false,[.d true (.int .u64)])],[],[],[.ld 0 false,.d true (.int .i64),.slot 0 false]⟩
def L92:List (Nat×Lb):=[(1,.j [.ld 0 false,.d true (.int .u64),.slot 0 false,.ld 2 false,.d true (.int .i64),.slot 2 false]),(4,.j [.ld 0 false,.d true (.int .u64),.slot 0 false,.ld 2 false,.d true (.int .i64),.slot 2 false]),(7,.j [.ld 0 false,.d true (.int .u64),.slot 0 false,.ld 2 false,.d true (.int .i64),.slot 2 false])]
def H92:List (Nat×VT):=[]
def p92:Int→Option Int:=fun (x:Int)=>
  (if 4294967296≤x then (wT IntKind.u64 x 32).bind fun (n1:Int)=>some (Sum.inl (n1,32)) else some (Sum.inl (x,0))).bind fun (x1:Int×Int⊕Int)=>
    match x1 with
    | Sum.inl x=>
      (if 65536≤x.fst then (wT IntKind.u64 x.fst 16).bind fun (n3:Int)=>some (Sum.inl (n3,IntKind.i64.wrap (x.snd+16))) else some (Sum.inl (x.fst,x.snd))).bind fun (x3:Int×Int⊕Int)=>
        match x3 with
        | Sum.inl x=>
          (if 256≤x.fst then (wT IntKind.u64 x.fst 8).bind fun (n5:Int)=>some (Sum.inl (n5,IntKind.i64.wrap (x.snd+8))) else some (Sum.inl (x.fst,x.snd))).bind fun (x5:Int×Int⊕Int)=>
            match x5 with
            | Sum.inl x=>(Ee [0,1,2,2,3,3,3,3,4,4,4,4,4,4,4,4,5,5,5,5,5,5,5,5,5,5,5,5,5,5,5,5,6,6,6,6,6,6,6,6,6,6,6,6,6,6,6,6,6,6,6,6,6,6,6,6,6,6,6,6,6,6,6,6,7,7,7,7,7,7,7,7,7,7,7,7,7,7,7,7,7,7,7,7,7,7,7,7,7,7,7,7,7,7,7,7,7,7,7,7,7,7,7,7,7,7,7,7,7,7,7,7,7,7,7,7,7,7,7,7,7,7,7,7,7,7,7,7,8,8,8,8,8,8,8,8,8,8,8,8,8,8,8,8,8,8,8,8,8,8,8,8,8,8,8,8,8,8,8,8,8,8,8,8,8,8,8,8,8,8,8,8,8,8,8,8,8,8,8,8,8,8,8,8,8,8,8,8,8,8,8,8,8,8,8,8,8,8,8,8,8,8,8,8,8,8,8,8,8,8,8,8,8,8,8,8,8,8,8,8,8,8,8,8,8,8,8,8,8,8,8,8,8,8,8,8,8,8,8,8,8,8,8,8,8,8,8,8,8,8,8,8,8,8,8,8] (IntKind.u8.wrap x.fst)).bind fun (n7:Int)=>some (IntKind.i64.wrap (x.snd+IntKind.i64.wrap n7))
            | Sum.inr r=>some r
        | Sum.inr r=>some r
    | Sum.inr r=>some r
theorem e92:vfn (T:=tE) lpK H92 (a6 []) q92 DR.res (vOf DR.code L92)=p92:=by kernel_rfl
abbrev n92:En tE:=⟨92,[],q92,p92⟩
theorem o92:aB F tE 92 q92 1 p92:=by
 rw [← e92]
 exact aw (fn:=DR) ah rfl (by kernel_rfl)
def q70:FSp:=⟨[(false,[.d true (.int .u64)])],[],[],[.ld 0 false,.d true (.int .i64),.slot 0 false]⟩
def L70:List (Nat×Lb):=[]
def H70:List (Nat×VT):=[]
def p70:Int→Option Int:=fun (x:Int)=>(p92 x).bind fun (n1:Int)=>some n1
theorem e70:vfn (T:=tE) lpK H70 (a6 [n92]) q70 Dz.res (vOf Dz.code L70)=p70:=by kernel_rfl
abbrev n70:En tE:=⟨70,[],q70,p70⟩
theorem o70:aB F tE 70 q70 1 p70:=by
 rw [← e70]
 exact aw (fn:=Dz) (af (en:=n92) ah o92 rfl) rfl (by kernel_rfl)
def FP:FSp:=⟨[(false,[.d true (.int .i64)])],[],[],[.ld 0 false,.d true (.int .u64),.slot 0 false]⟩
def JD:List (Nat×Lb):=[]
def Ht:List (Nat×VT):=[]
def Cu:Int→Option Int:=fun (x:Int)=>(p70 (IntKind.u64.wrap x)).bind fun (n1:Int)=>(Bj IntKind.u64 1 n1).bind fun (n2:Int)=>some n2
theorem Ii:vfn (T:=tE) lpK Ht (a6 [n70]) FP sn.res (vOf sn.code JD)=Cu:=by kernel_rfl
abbrev Gl:En tE:=⟨100,[],FP,Cu⟩
theorem Jg:aB F tE 100 FP 1 Cu:=by
 rw [← Ii]
 exact aw (fn:=sn) (af (en:=n70) ah o70 rfl) rfl (by kernel_rfl)
def Fb:FSp:=⟨[(false,[.ptr 0 0])],[.pr (.int .u64)],[0],[.ld 0 false,.d true (.int .u64),.slot 0 false,.ld 1 false,.ptr 0 0,.slot 1 false,.pr (.int .u64)]⟩
def HX:List (Nat×Lb):=[]
def G4:List (Nat×VT):=[]
def Bt:Int→Option (Int×Int):=fun (x:Int)=>(Bj IntKind.u64 x 13).bind fun (n1:Int)=>(wT IntKind.u64 (IntKind.u64.wrap (↑(BitVec.ofInt IntKind.u64.bits x ^^^ BitVec.ofInt IntKind.u64.bits n1).toNat:Int)) 7).bind fun (n2:Int)=>(Bj IntKind.u64 (IntKind.u64.wrap (↑(BitVec.ofInt IntKind.u64.bits (IntKind.u64.wrap (↑(BitVec.ofInt IntKind.u64.bits x ^^^ BitVec.ofInt IntKind.u64.bits n1).toNat:Int)) ^^^ BitVec.ofInt IntKind.u64.bits n2).toNat:Int)) 17).bind fun (n3:Int)=>some (IntKind.u64.wrap (↑(BitVec.ofInt IntKind.u64.bits (IntKind.u64.wrap (↑(BitVec.ofInt IntKind.u64.bits (IntKind.u64.wrap (↑(BitVec.ofInt IntKind.u64.bits x ^^^ BitVec.ofInt IntKind.u64.bits n1).toNat:Int)) ^^^ BitVec.ofInt IntKind.u64.bits n2).toNat:Int)) ^^^ BitVec.ofInt IntKind.u64.bits n3).toNat:Int),IntKind.u64.wrap (↑(BitVec.ofInt IntKind.u64.bits (IntKind.u64.wrap (↑(BitVec.ofInt IntKind.u64.bits (IntKind.u64.wrap (↑(BitVec.ofInt IntKind.u64.bits x ^^^ BitVec.ofInt IntKind.u64.bits n1).toNat:Int)) ^^^ BitVec.ofInt IntKind.u64.bits n2).toNat:Int)) ^^^ BitVec.ofInt IntKind.u64.bits n3).toNat:Int))
theorem HH:vfn (T:=tE) lpK G4 (a6 []) Fb rh.res (vOf rh.code HX)=Bt:=by kernel_rfl
abbrev GC:En tE:=⟨101,[],Fb,Bt⟩
theorem Ha:aB F tE 101 Fb 1 Bt:=by
 rw [← HH]
 exact aw (fn:=rh) ah rfl (by kernel_rfl)
def q48:FSp:=⟨[(false,[.d false (.sl false (.int .i64))])],[],[],[.ld 0 false,.d true (.int .i64),.slot 0 false]⟩
def L48:List (Nat×Lb):=[(4,.l [.ld 3 false,.d true (.int .i64),.slot 3 false,.ld 6 false,.d false (.sl false (.int .i64)),.slot 6 false,.ld 7 false,.d true (.int .i64),.slot 7 false] [.ld 2 false,.d true (.int .i64),.slot 2 false,.ld 8 false,.d true (.int .i64),.slot 8 false] [(some 0,[]),(none,[.ld 2 false,.d true (.int .i64),.slot 2 false])])]
def H48:List (Nat×VT):=[]
def p48:List Int→Option Int:=fun (x:List Int)=>
  (aq (fun (x1:Int×Int)=>if x1.snd < (↑x.length:Int) then (idx x x1.snd).bind fun (n2:Int)=>if (!decide (n2=0))=true then some (Sum.inr (Sum.inr n2)) else some (Sum.inl (x1.fst,IntKind.i64.wrap (x1.snd+1))) else some (Sum.inr (Sum.inl ()))) (0,0)).bind fun (x1:Unit⊕Int)=>
    match x1 with
    | Sum.inl x=>some 0
    | Sum.inr y=>some y
theorem e48:vfn (T:=tE) lpK H48 (a6 []) q48 Dy.res (vOf Dy.code L48)=p48:=by kernel_rfl
abbrev n48:En tE:=⟨48,[],q48,p48⟩
theorem o48:aB F tE 48 q48 1 p48:=by
 rw [← e48]
 exact aw (fn:=Dy) ah rfl (by kernel_rfl)
def q71:FSp:=⟨[(false,[.d true (.int .i64)])],[],[],[.ld 0 false,.d true .bool,.slot 0 false]⟩
def L71:List (Nat×Lb):=[]
def H71:List (Nat×VT):=[]
def p71:Int→Option Bool:=fun (x:Int)=>some !decide (x=x)
theorem e71:vfn (T:=tE) lpK H71 (a6 []) q71 Dq.res (vOf Dq.code L71)=p71:=by kernel_rfl
abbrev n71:En tE:=⟨71,[],q71,p71⟩
theorem o71:aB F tE 71 q71 1 p71:=by
 rw [← e71]
 exact aw (fn:=Dq) ah rfl (by kernel_rfl)
def q49:FSp:=⟨[(false,[.d true (.int .i64)]),(false,[.d true (.int .i64)])],[],[],[.ld 0 false,.d true (.int .i64),.slot 0 false]⟩
def L49:List (Nat×Lb):=[]
def H49:List (Nat×VT):=[]
def p49:Int×Int→Option Int:=fun (x:Int×Int)=>(p71 x.fst).bind fun (b1:Bool)=>(p71 x.snd).bind fun (b2:Bool)=>if b1=true then if b2=true then some 0 else some (-1) else if b2=true then some 1 else if x.fst < x.snd then some (-1) else if x.snd < x.fst then some 1 else some 0
theorem e49:vfn (T:=tE) lpK H49 (a6 [n71]) q49 DF.res (vOf DF.code L49)=p49:=by kernel_rfl
abbrev n49:En tE:=⟨49,[],q49,p49⟩
theorem o49:aB F tE 49 q49 2 p49:=by
 rw [← e49]
 exact aw (fn:=DF) (af (en:=n71) ah o71 rfl) rfl (by kernel_rfl)
def q47:FSp:=⟨[(true,[.d true (.int .i64),.d true (.int .i64),.d true (.int .i64)]),(true,[.d true (.int .i64),.d true (.int .i64),.d true (.int .i64)])],[],[],[.ld 0 false,.d true (.int .i64),.slot 0 false]⟩
def L47:List (Nat×Lb):=[]
def H47:List (Nat×VT):=[(20,(.int .i64))]
def p47:Int×Int×Int×Int×Int×Int→Option Int:=fun (x:Int×Int×Int×Int×Int×Int)=>(p49 (x.fst,x.snd.snd.snd.fst)).bind fun (n1:Int)=>(p49 (x.snd.fst,x.snd.snd.snd.snd.fst)).bind fun (n2:Int)=>(p49 (x.snd.snd.fst,x.snd.snd.snd.snd.snd)).bind fun (n3:Int)=>(p48 [n1,n2,n3]).bind fun (n4:Int)=>some n4
theorem e47:vfn (T:=tE) lpK H47 (a6 [n49,n48]) q47 Dg.res (vOf Dg.code L47)=p47:=by kernel_rfl
abbrev n47:En tE:=⟨47,[],q47,p47⟩
theorem o47:aB F tE 47 q47 2 p47:=by
 rw [← e47]
 exact aw (fn:=Dg) (af (en:=n49) (af (en:=n48) ah o48 rfl) o49 rfl) rfl (by kernel_rfl)
def q51:FSp:=⟨[(true,[.d true (.int .i64),.d true (.int .i64),.d true (.int .i64)]),(true,[.d true (.int .i64),.d true (.int .i64),.d true (.int .i64)])],[],[],[.ld 0 false,.d true .bool,.slot 0 false]⟩
def L51:List (Nat×Lb):=[]
def H51:List (Nat×VT):=[]
def p51:Int×Int×Int×Int×Int×Int→Option Bool:=fun (x:Int×Int×Int×Int×Int×Int)=>if x.fst=x.snd.snd.snd.fst then some (decide (x.snd.fst=x.snd.snd.snd.snd.fst)) else some false
theorem e51:vfn (T:=tE) lpK H51 (a6 []) q51 Cd.res (vOf Cd.code L51)=p51:=by kernel_rfl
theorem o51:aB F tE 51 q51 2 p51:=by
 rw [← e51]
 exact aw (fn:=Cd) ah rfl (by kernel_rfl)
def nN:FSp:=⟨[(false,[.r 0]),(false,[.d true (.int .i64)]),(false,[.d true (.int .i64)]),(false,[.c (.func 47 [])])],[.sl (.st 5)],[0],[.ld 0 false,.r 0,.slot 0 false,.sl (.st 5)]⟩
def xj:List (Nat×Lb):=[(1,.l [.ld 1 false,.d true (.int .i64),.slot 1 false,.ld 2 false,.d true (.int .i64),.slot 2 false,.ld 3 false,.c (.func 47 []),.slot 3 false] [.ld 0 false,.r 0,.slot 0 false,.ld 8 false,.d true (.int .i64),.slot 8 false,.sl (.st 5)] [(some 0,[.ld 0 false,.r 0,.slot 0 false,.sl (.st 5)])]),(6,.l [.ld 8 false,.d true (.int .i64),.slot 8 false] [.ld 0 false,.r 0,.slot 0 false,.ld 9 false,.d true (.int .i64),.slot 9 false,.sl (.st 5)] [(some 2,[.ld 0 false,.r 0,.slot 0 false,.sl (.st 5)])]),(8,.j [.ld 0 false,.r 0,.slot 0 false,.ld 9 false,.d true (.int .i64),.slot 9 false,.ld 34 false,.d true .bool,.slot 34 false,.sl (.st 5)])]
def A4:List (Nat×VT):=[]
def gI:Int×Int×List TLane→Option (List TLane):=fun (x:Int×Int×List TLane)=>
  (aq
        (fun (x1:Int×List TLane)=>
          if x1.fst < x.snd.fst then
            (aq
                  (fun (x2:Int×List TLane)=>
                    (if x.fst < x2.fst then (idx x2.snd x2.fst).bind fun (x3:TLane)=>(idx x2.snd (IntKind.i64.wrap (x2.fst - 1))).bind fun (x4:TLane)=>(p47 (x3.From,x3.To,x3.Ahead,x4.From,x4.To,x4.Ahead)).bind fun (n5:Int)=>some (Sum.inl (x2.fst,decide (n5 < 0),x2.snd)) else some (Sum.inl (x2.fst,false,x2.snd))).bind fun (x3:Int×Bool×List TLane⊕Int×List TLane⊕List TLane)=>
                      match x3 with
                      | Sum.inl x=>if x.snd.fst=true then (idx x.snd.snd (IntKind.i64.wrap (x.fst - 1))).bind fun (x5:TLane)=>(idx x.snd.snd x.fst).bind fun (x6:TLane)=>(idx x.snd.snd x.fst).bind fun (x7:TLane)=>(idx (x.snd.snd.set x.fst.toNat x5) (IntKind.i64.wrap (x.fst - 1))).bind fun (x8:TLane)=>some (Sum.inl (IntKind.i64.wrap (x.fst - 1),(x.snd.snd.set x.fst.toNat x5).set (IntKind.i64.wrap (x.fst - 1)).toNat x6)) else some (Sum.inr x.snd.snd)
                      | Sum.inr r=>some r)
                  (x1.fst,x1.snd)).bind
              fun (l2:List TLane)=>some (Sum.inl (IntKind.i64.wrap (x1.fst+1),l2))
          else some (Sum.inr x1.snd))
        (IntKind.i64.wrap (x.fst+1),x.snd.snd)).bind
    fun (l1:List TLane)=>some l1
theorem yG:vfn (T:=tE) lpK A4 (a6 [n47]) nN DW.res (vOf DW.code xj)=gI:=by kernel_rfl
abbrev rj:En tE:=⟨83,[(3,47)],nN,gI⟩
theorem As:aB F tE 83 nN 4 gI:=by
 rw [← yG]
 exact aw (fn:=DW) (af (en:=n47) ah o47 rfl) rfl (by kernel_rfl)
def ou:FSp:=⟨[(false,[.r 0]),(false,[.d true (.int .i64)]),(false,[.d true (.int .i64)]),(false,[.d true (.int .i64)]),(false,[.c (.func 47 [])])],[.sl (.st 5)],[0],[.ld 0 false,.r 0,.slot 0 false,.sl (.st 5)]⟩
def zP:List (Nat×Lb):=[(1,.l [.ld 2 false,.d true (.int .i64),.slot 2 false,.ld 3 false,.d true (.int .i64),.slot 3 false,.ld 4 false,.c (.func 47 []),.slot 4 false] [.ld 0 false,.r 0,.slot 0 false,.ld 10 false,.d true (.int .i64),.slot 10 false,.sl (.st 5)] [(some 0,[.ld 0 false,.r 0,.slot 0 false,.sl (.st 5)]),(none,[.ld 0 false,.r 0,.slot 0 false,.sl (.st 5)])]),(5,.j [.ld 0 false,.r 0,.slot 0 false,.ld 10 false,.d true (.int .i64),.slot 10 false,.ld 11 false,.d true (.int .i64),.slot 11 false,.sl (.st 5)]),(6,.j [.ld 0 false,.r 0,.slot 0 false,.ld 10 false,.d true (.int .i64),.slot 10 false,.ld 11 false,.d true (.int .i64),.slot 11 false,.ld 40 false,.d true .bool,.slot 40 false,.sl (.st 5)])]
def Ao:List (Nat×VT):=[]
def dT:Int×Int×Int×List TLane→Option (List TLane):=fun (x:Int×Int×Int×List TLane)=>
  (aq
        (fun (x1:Int×List TLane)=>
          if x.snd.fst≤IntKind.i64.wrap (IntKind.i64.wrap (2 * x1.fst)+1) then some (Sum.inr (Sum.inl x1.snd))
          else
            ((if IntKind.i64.wrap (IntKind.i64.wrap (IntKind.i64.wrap (2 * x1.fst)+1)+1) < x.snd.fst then (idx x1.snd (IntKind.i64.wrap (x.snd.snd.fst+IntKind.i64.wrap (IntKind.i64.wrap (2 * x1.fst)+1)))).bind fun (x2:TLane)=>(idx x1.snd (IntKind.i64.wrap (IntKind.i64.wrap (x.snd.snd.fst+IntKind.i64.wrap (IntKind.i64.wrap (2 * x1.fst)+1))+1))).bind fun (x3:TLane)=>(p47 (x2.From,x2.To,x2.Ahead,x3.From,x3.To,x3.Ahead)).bind fun (n4:Int)=>some (Sum.inl (x1.fst,IntKind.i64.wrap (IntKind.i64.wrap (2 * x1.fst)+1),decide (n4 < 0),x1.snd)) else some (Sum.inl (x1.fst,IntKind.i64.wrap (IntKind.i64.wrap (2 * x1.fst)+1),false,x1.snd))).bind fun (x2:Int×Int×Bool×List TLane⊕Int×Int×List TLane⊕Int×List TLane⊕List TLane⊕List TLane)=>
                  match x2 with
                  | Sum.inl x=>if x.snd.snd.fst=true then some (Sum.inl (x.fst,IntKind.i64.wrap (x.snd.fst+1),x.snd.snd.snd)) else some (Sum.inl (x.fst,x.snd.fst,x.snd.snd.snd))
                  | Sum.inr r=>some r).bind
              fun (x2:Int×Int×List TLane⊕Int×List TLane⊕List TLane⊕List TLane)=>
              match x2 with
              | Sum.inl x_1=>(idx x_1.snd.snd (IntKind.i64.wrap (x.snd.snd.fst+x_1.fst))).bind fun (x4:TLane)=>(idx x_1.snd.snd (IntKind.i64.wrap (x.snd.snd.fst+x_1.snd.fst))).bind fun (x5:TLane)=>(p47 (x4.From,x4.To,x4.Ahead,x5.From,x5.To,x5.Ahead)).bind fun (n6:Int)=>if (!decide (n6 < 0))=true then some (Sum.inr (Sum.inr x_1.snd.snd)) else (idx x_1.snd.snd (IntKind.i64.wrap (x.snd.snd.fst+x_1.snd.fst))).bind fun (x7:TLane)=>(idx x_1.snd.snd (IntKind.i64.wrap (x.snd.snd.fst+x_1.fst))).bind fun (x8:TLane)=>(idx x_1.snd.snd (IntKind.i64.wrap (x.snd.snd.fst+x_1.fst))).bind fun (x9:TLane)=>(idx (x_1.snd.snd.set (IntKind.i64.wrap (x.snd.snd.fst+x_1.fst)).toNat x7) (IntKind.i64.wrap (x.snd.snd.fst+x_1.snd.fst))).bind fun (x10:TLane)=>some (Sum.inl (x_1.snd.fst,(x_1.snd.snd.set (IntKind.i64.wrap (x.snd.snd.fst+x_1.fst)).toNat x7).set (IntKind.i64.wrap (x.snd.snd.fst+x_1.snd.fst)).toNat x8))
              | Sum.inr r=>some r)
        (x.fst,x.snd.snd.snd)).bind
    fun (x1:List TLane⊕List TLane)=>
    match x1 with
    | Sum.inl x=>some x
    | Sum.inr y=>some y
theorem zZ:vfn (T:=tE) lpK Ao (a6 [n47]) ou Cr.res (vOf Cr.code zP)=dT:=by kernel_rfl
abbrev sC:En tE:=⟨99,[(4,47)],ou,dT⟩
theorem yH:aB F tE 99 ou 5 dT:=by
 rw [← zZ]
 exact aw (fn:=Cr) (af (en:=n47) ah o47 rfl) rfl (by kernel_rfl)
def oE:FSp:=⟨[(false,[.r 0]),(false,[.d true (.int .i64)]),(false,[.d true (.int .i64)]),(false,[.c (.func 47 [])])],[.sl (.st 5)],[0],[.ld 0 false,.r 0,.slot 0 false,.sl (.st 5)]⟩
def zC:List (Nat×Lb):=[(5,.l [.ld 3 false,.c (.func 47 []),.slot 3 false,.ld 8 false,.d true (.int .i64),.slot 8 false,.ld 9 false,.d true (.int .i64),.slot 9 false,.ld 10 false,.d true (.int .i64),.slot 10 false] [.ld 0 false,.r 0,.slot 0 false,.ld 11 false,.d true (.int .i64),.slot 11 false,.sl (.st 5)] [(some 0,[.ld 0 false,.r 0,.slot 0 false,.sl (.st 5)])]),(10,.l [.ld 3 false,.c (.func 47 []),.slot 3 false,.ld 8 false,.d true (.int .i64),.slot 8 false,.ld 9 false,.d true (.int .i64),.slot 9 false] [.ld 0 false,.r 0,.slot 0 false,.ld 12 false,.d true (.int .i64),.slot 12 false,.sl (.st 5)] [(some 2,[.ld 0 false,.r 0,.slot 0 false,.sl (.st 5)])])]
def zL:List (Nat×VT):=[]
def gm:Int×Int×List TLane→Option (List TLane):=fun (x:Int×Int×List TLane)=>(quoI IntKind.i64 (IntKind.i64.wrap (IntKind.i64.wrap (x.snd.fst - x.fst) - 1)) 2).bind fun (n1:Int)=>(aq (fun (x2:Int×List TLane)=>if 0≤x2.fst then (dT (x2.fst,IntKind.i64.wrap (x.snd.fst - x.fst),x.fst,x2.snd)).bind fun (l3:List TLane)=>some (Sum.inl (IntKind.i64.wrap (x2.fst - 1),l3)) else some (Sum.inr x2.snd)) (n1,x.snd.snd)).bind fun (l2:List TLane)=>(aq (fun (x3:Int×List TLane)=>if 0≤x3.fst then (idx x3.snd (IntKind.i64.wrap (x.fst+x3.fst))).bind fun (x4:TLane)=>(idx x3.snd x.fst).bind fun (x5:TLane)=>(idx x3.snd x.fst).bind fun (x6:TLane)=>(idx (x3.snd.set x.fst.toNat x4) (IntKind.i64.wrap (x.fst+x3.fst))).bind fun (x7:TLane)=>(dT (0,x3.fst,x.fst,(x3.snd.set x.fst.toNat x4).set (IntKind.i64.wrap (x.fst+x3.fst)).toNat x5)).bind fun (l8:List TLane)=>some (Sum.inl (IntKind.i64.wrap (x3.fst - 1),l8)) else some (Sum.inr x3.snd)) (IntKind.i64.wrap (IntKind.i64.wrap (x.snd.fst - x.fst) - 1),l2)).bind fun (l3:List TLane)=>some l3
theorem xV:vfn (T:=tE) lpK zL (a6 [sC]) oE CZ.res (vOf CZ.code zC)=gm:=by kernel_rfl
abbrev rm:En tE:=⟨84,[(3,47)],oE,gm⟩
theorem AJ:aB F tE 84 oE 4 gm:=by
 rw [← xV]
 exact aw (fn:=CZ) (af (en:=sC) ah yH rfl) rfl (by kernel_rfl)
def nM:FSp:=⟨[(false,[.d false (.sl false (.st 5))]),(false,[.d true (.int .i64)]),(false,[.d true (.int .i64)]),(false,[.ptr 0 0]),(false,[.c (.func 47 [])])],[.pr (.int .i64)],[3],[.ld 0 false,.d true (.int .i64),.slot 0 false,.ld 1 false,.d true (.int .i64),.slot 1 false,.ld 2 false,.ptr 0 0,.slot 2 false,.pr (.int .i64)]⟩
def yz:List (Nat×Lb):=[]
def A3:List (Nat×VT):=[]
def dU:List TLane×Int×Int×Int→Option (Int×Int×Int):=fun (x:List TLane×Int×Int×Int)=>(idx x.fst x.snd.snd.fst).bind fun (x1:TLane)=>(idx x.fst x.snd.fst).bind fun (x2:TLane)=>(p47 (x1.From,x1.To,x1.Ahead,x2.From,x2.To,x2.Ahead)).bind fun (n3:Int)=>if n3 < 0 then some (x.snd.snd.fst,x.snd.fst,IntKind.i64.wrap (x.snd.snd.snd+1)) else some (x.snd.fst,x.snd.snd.fst,x.snd.snd.snd)
theorem AN:vfn (T:=tE) lpK A3 (a6 [n47]) nM rb.res (vOf rb.code yz)=dU:=by kernel_rfl
abbrev rl:En tE:=⟨109,[(4,47)],nM,dU⟩
theorem zA:aB F tE 109 nM 5 dU:=by
 rw [← AN]
 exact aw (fn:=rb) (af (en:=n47) ah o47 rfl) rfl (by kernel_rfl)
def oz:FSp:=⟨[(false,[.d false (.sl false (.st 5))]),(false,[.d true (.int .i64)]),(false,[.d true (.int .i64)]),(false,[.d true (.int .i64)]),(false,[.ptr 0 0]),(false,[.c (.func 47 [])])],[.pr (.int .i64)],[4],[.ld 0 false,.d true (.int .i64),.slot 0 false,.ld 1 false,.ptr 0 0,.slot 1 false,.pr (.int .i64)]⟩
def A5:List (Nat×Lb):=[]
def yA:List (Nat×VT):=[]
def eV:List TLane×Int×Int×Int×Int→Option (Int×Int):=fun (x:List TLane×Int×Int×Int×Int)=>(dU (x.fst,x.snd.fst,x.snd.snd.fst,x.snd.snd.snd.snd)).bind fun (x1:Int×Int×Int)=>(dU (x.fst,x1.snd.fst,x.snd.snd.snd.fst,x1.snd.snd)).bind fun (x2:Int×Int×Int)=>(dU (x.fst,x1.fst,x2.fst,x2.snd.snd)).bind fun (x3:Int×Int×Int)=>some (x3.snd.fst,x3.snd.snd)
theorem zK:vfn (T:=tE) lpK yA (a6 [rl]) oz su.res (vOf su.code A5)=eV:=by kernel_rfl
abbrev kB:En tE:=⟨103,[(5,47)],oz,eV⟩
theorem t5:aB F tE 103 oz 6 eV:=by
 rw [← zK]
 exact aw (fn:=su) (af (en:=rl) ah zA rfl) rfl (by kernel_rfl)
def oD:FSp:=⟨[(false,[.d false (.sl false (.st 5))]),(false,[.d true (.int .i64)]),(false,[.ptr 0 0]),(false,[.c (.func 47 [])])],[.pr (.int .i64)],[2],[.ld 0 false,.d true (.int .i64),.slot 0 false,.ld 1 false,.ptr 0 0,.slot 1 false,.pr (.int .i64)]⟩
def zX:List (Nat×Lb):=[]
def Az:List (Nat×VT):=[]
def gq:List TLane×Int×Int→Option (Int×Int):=fun (x:List TLane×Int×Int)=>(eV (x.fst,IntKind.i64.wrap (x.snd.fst - 1),x.snd.fst,IntKind.i64.wrap (x.snd.fst+1),x.snd.snd)).bind fun (x1:Int×Int)=>some (x1.fst,x1.snd)
theorem yF:vfn (T:=tE) lpK Az (a6 [kB]) oD rP.res (vOf rP.code zX)=gq:=by kernel_rfl
abbrev rD:En tE:=⟨102,[(3,47)],oD,gq⟩
theorem ze:aB F tE 102 oD 4 gq:=by
 rw [← yF]
 exact aw (fn:=rP) (af (en:=kB) ah t5 rfl) rfl (by kernel_rfl)
def om:FSp:=⟨[(false,[.d false (.sl false (.st 5))]),(false,[.d true (.int .i64)]),(false,[.d true (.int .i64)]),(false,[.c (.func 47 [])])],[],[],[.ld 0 false,.d true (.int .i64),.slot 0 false,.ld 1 false,.d true (.int .i64),.slot 1 false]⟩
def AH:List (Nat×Lb):=[(6,.j [.ld 11 false,.ptr 0 0,.slot 11 false,.ld 13 false,.d true (.int .i64),.slot 13 false,.pr (.int .i64)]),(8,.j [.ld 0 false,.d false (.sl false (.st 5)),.slot 0 false,.ld 3 false,.c (.func 47 []),.slot 3 false,.ld 11 false,.ptr 0 0,.slot 11 false,.ld 12 false,.d true (.int .i64),.slot 12 false,.ld 13 false,.d true (.int .i64),.slot 13 false,.ld 14 false,.d true (.int .i64),.slot 14 false,.pr (.int .i64)])]
def xA:List (Nat×VT):=[]
def gw:List TLane×Int×Int→Option (Int×Int):=fun (x:List TLane×Int×Int)=>
  (quoI IntKind.i64 (IntKind.i64.wrap (x.snd.snd - x.snd.fst)) 4).bind fun (n1:Int)=>
    (quoI IntKind.i64 (IntKind.i64.wrap (x.snd.snd - x.snd.fst)) 4).bind fun (n2:Int)=>
      (quoI IntKind.i64 (IntKind.i64.wrap (x.snd.snd - x.snd.fst)) 4).bind fun (n3:Int)=>
        (if 8≤IntKind.i64.wrap (x.snd.snd - x.snd.fst) then
              (if 50≤IntKind.i64.wrap (x.snd.snd - x.snd.fst) then (gq (x.fst,IntKind.i64.wrap (x.snd.fst+IntKind.i64.wrap (n1 * 1)),0)).bind fun (x4:Int×Int)=>(gq (x.fst,IntKind.i64.wrap (x.snd.fst+IntKind.i64.wrap (n2 * 2)),x4.snd)).bind fun (x5:Int×Int)=>(gq (x.fst,IntKind.i64.wrap (x.snd.fst+IntKind.i64.wrap (n3 * 3)),x5.snd)).bind fun (x6:Int×Int)=>some (Sum.inl (x.fst,x4.fst,x5.fst,x6.fst,x6.snd)) else some (Sum.inl (x.fst,IntKind.i64.wrap (x.snd.fst+IntKind.i64.wrap (n1 * 1)),IntKind.i64.wrap (x.snd.fst+IntKind.i64.wrap (n2 * 2)),IntKind.i64.wrap (x.snd.fst+IntKind.i64.wrap (n3 * 3)),0))).bind fun (x4:List TLane×Int×Int×Int×Int⊕Int×Int⊕Int×Int)=>
                match x4 with
                | Sum.inl x=>(eV (x.fst,x.snd.fst,x.snd.snd.fst,x.snd.snd.snd.fst,x.snd.snd.snd.snd)).bind fun (x6:Int×Int)=>some (Sum.inl (x6.fst,x6.snd))
                | Sum.inr r=>some r
            else some (Sum.inl (IntKind.i64.wrap (x.snd.fst+IntKind.i64.wrap (n2 * 2)),0))).bind
          fun (x4:Int×Int⊕Int×Int)=>
          match x4 with
          | Sum.inl x=>if x.snd=0 then some (x.fst,1) else if x.snd=12 then some (x.fst,2) else some (x.fst,0)
          | Sum.inr r=>some r
theorem yS:vfn (T:=tE) lpK xA (a6 [rD,kB]) om D5.res (vOf D5.code AH)=gw:=by kernel_rfl
abbrev sf:En tE:=⟨86,[(3,47)],om,gw⟩
theorem zS:aB F tE 86 om 4 gw:=by
 rw [← yS]
 exact aw (fn:=D5) (af (en:=rD) (af (en:=kB) ah t5 rfl) ze rfl) rfl (by kernel_rfl)
def nr:FSp:=⟨[(false,[.r 0]),(false,[.d true (.int .i64)]),(false,[.d true (.int .i64)]),(false,[.c (.func 47 [])])],[.sl (.st 5)],[0],[.ld 0 false,.r 0,.slot 0 false,.sl (.st 5)]⟩
def yR:List (Nat×Lb):=[(2,.l [] [.ld 0 false,.r 0,.slot 0 false,.ld 8 false,.d true (.int .i64),.slot 8 false,.ld 9 false,.d true (.int .i64),.slot 9 false,.sl (.st 5)] [(some 0,[.ld 0 false,.r 0,.slot 0 false,.sl (.st 5)])])]
def yW:List (Nat×VT):=[]
def gd:Int×Int×List TLane→Option (List TLane):=fun (x:Int×Int×List TLane)=>(aq (fun (x1:Int×Int×List TLane)=>if x1.fst < x1.snd.fst then (idx x1.snd.snd x1.snd.fst).bind fun (x2:TLane)=>(idx x1.snd.snd x1.fst).bind fun (x3:TLane)=>(idx x1.snd.snd x1.fst).bind fun (x4:TLane)=>(idx (x1.snd.snd.set x1.fst.toNat x2) x1.snd.fst).bind fun (x5:TLane)=>some (Sum.inl (IntKind.i64.wrap (x1.fst+1),IntKind.i64.wrap (x1.snd.fst - 1),(x1.snd.snd.set x1.fst.toNat x2).set x1.snd.fst.toNat x3)) else some (Sum.inr x1.snd.snd)) (x.fst,IntKind.i64.wrap (x.snd.fst - 1),x.snd.snd)).bind fun (l1:List TLane)=>some l1
theorem Aq:vfn (T:=tE) lpK yW (a6 []) nr Df.res (vOf Df.code yR)=gd:=by kernel_rfl
abbrev ug:En tE:=⟨87,[(3,47)],nr,gd⟩
theorem zg:aB F tE 87 nr 4 gd:=by
 rw [← Aq]
 exact aw (fn:=Df) ah rfl (by kernel_rfl)
def nY:FSp:=⟨[(false,[.r 0]),(false,[.d true (.int .i64)]),(false,[.d true (.int .i64)]),(false,[.c (.func 47 [])])],[.sl (.st 5)],[0],[.ld 0 false,.d true .bool,.slot 0 false,.ld 1 false,.r 0,.slot 1 false,.sl (.st 5)]⟩
def Ak:List (Nat×Lb):=[(4,.l [.ld 1 false,.d true (.int .i64),.slot 1 false,.ld 2 false,.d true (.int .i64),.slot 2 false,.ld 3 false,.c (.func 47 []),.slot 3 false] [.ld 0 false,.r 0,.slot 0 false,.ld 8 false,.c (.bool false),.slot 8 false,.ld 9 false,.d true (.int .i64),.slot 9 false,.ld 10 false,.d true (.int .i64),.slot 10 false,.sl (.st 5)] [(some 0,[.ld 0 false,.r 0,.slot 0 false,.sl (.st 5)]),(none,[.ld 0 false,.r 0,.slot 0 false,.ld 8 false,.d true .bool,.slot 8 false,.sl (.st 5)])]),(9,.l [.ld 8 false,.c (.bool false),.slot 8 false,.ld 10 false,.d true (.int .i64),.slot 10 false] [.ld 0 false,.r 0,.slot 0 false,.ld 9 false,.d true (.int .i64),.slot 9 false,.sl (.st 5)] [(some 2,[.ld 0 false,.r 0,.slot 0 false,.ld 9 false,.d true (.int .i64),.slot 9 false,.sl (.st 5)])]),(11,.j [.ld 0 false,.r 0,.slot 0 false,.ld 9 false,.d true (.int .i64),.slot 9 false,.ld 36 false,.d true .bool,.slot 36 false,.sl (.st 5)]),(19,.j [.ld 0 false,.r 0,.slot 0 false,.ld 8 false,.c (.bool false),.slot 8 false,.ld 9 false,.d true (.int .i64),.slot 9 false,.ld 10 false,.d true (.int .i64),.slot 10 false,.sl (.st 5)]),(22,.l [.ld 8 false,.c (.bool false),.slot 8 false,.ld 9 false,.d true (.int .i64),.slot 9 false,.ld 10 false,.d true (.int .i64),.slot 10 false] [.ld 0 false,.r 0,.slot 0 false,.ld 11 false,.d true (.int .i64),.slot 11 false,.sl (.st 5)] [(some 4,[.ld 0 false,.r 0,.slot 0 false,.sl (.st 5)])]),(30,.l [.ld 8 false,.c (.bool false),.slot 8 false,.ld 9 false,.d true (.int .i64),.slot 9 false,.ld 10 false,.d true (.int .i64),.slot 10 false] [.ld 0 false,.r 0,.slot 0 false,.ld 12 false,.d true (.int .i64),.slot 12 false,.sl (.st 5)] [(some 6,[.ld 0 false,.r 0,.slot 0 false,.sl (.st 5)])])]
def Bg:List (Nat×VT):=[]
def fW:Int×Int×List TLane→Option (Bool×List TLane):=fun (x:Int×Int×List TLane)=>
  (aq
        (fun (x1:Int×Int×List TLane)=>
          if x1.snd.fst < 5 then
            (aq
                  (fun (x2:Int×List TLane)=>
                    (if x2.fst < x.snd.fst then (idx x2.snd x2.fst).bind fun (x3:TLane)=>(idx x2.snd (IntKind.i64.wrap (x2.fst - 1))).bind fun (x4:TLane)=>(p47 (x3.From,x3.To,x3.Ahead,x4.From,x4.To,x4.Ahead)).bind fun (n5:Int)=>some (Sum.inl (x2.fst,!decide (n5 < 0),x2.snd)) else some (Sum.inl (x2.fst,false,x2.snd))).bind fun (x3:Int×Bool×List TLane⊕Int×List TLane⊕Int×List TLane)=>
                      match x3 with
                      | Sum.inl x=>if x.snd.fst=true then some (Sum.inl (IntKind.i64.wrap (x.fst+1),x.snd.snd)) else some (Sum.inr (x.fst,x.snd.snd))
                      | Sum.inr r=>some r)
                  (x1.fst,x1.snd.snd)).bind
              fun (x2:Int×List TLane)=>
              if x2.fst=x.snd.fst then some (Sum.inr (Sum.inr (true,x2.snd)))
              else
                if IntKind.i64.wrap (x.snd.fst - x.fst) < 50 then some (Sum.inr (Sum.inr (false,x2.snd)))
                else
                  (idx x2.snd (IntKind.i64.wrap (x2.fst - 1))).bind fun (x3:TLane)=>
                    (idx x2.snd x2.fst).bind fun (x4:TLane)=>
                      (idx x2.snd x2.fst).bind fun (x5:TLane)=>
                        (idx (x2.snd.set x2.fst.toNat x3) (IntKind.i64.wrap (x2.fst - 1))).bind fun (x6:TLane)=>
                          (if 2≤IntKind.i64.wrap (x2.fst - x.fst) then (aq (fun (x7:Int×List TLane)=>if 1≤x7.fst then (idx x7.snd x7.fst).bind fun (x8:TLane)=>(idx x7.snd (IntKind.i64.wrap (x7.fst - 1))).bind fun (x9:TLane)=>(p47 (x8.From,x8.To,x8.Ahead,x9.From,x9.To,x9.Ahead)).bind fun (n10:Int)=>if (!decide (n10 < 0))=true then some (Sum.inr x7.snd) else (idx x7.snd (IntKind.i64.wrap (x7.fst - 1))).bind fun (x11:TLane)=>(idx x7.snd x7.fst).bind fun (x12:TLane)=>(idx x7.snd x7.fst).bind fun (x13:TLane)=>(idx (x7.snd.set x7.fst.toNat x11) (IntKind.i64.wrap (x7.fst - 1))).bind fun (x14:TLane)=>some (Sum.inl (IntKind.i64.wrap (x7.fst - 1),(x7.snd.set x7.fst.toNat x11).set (IntKind.i64.wrap (x7.fst - 1)).toNat x12)) else some (Sum.inr x7.snd)) (IntKind.i64.wrap (x2.fst - 1),(x2.snd.set x2.fst.toNat x3).set (IntKind.i64.wrap (x2.fst - 1)).toNat x4)).bind fun (l7:List TLane)=>some (Sum.inl (x2.fst,x1.snd.fst,l7)) else some (Sum.inl (x2.fst,x1.snd.fst,(x2.snd.set x2.fst.toNat x3).set (IntKind.i64.wrap (x2.fst - 1)).toNat x4))).bind fun (x7:Int×Int×List TLane⊕Int×Int×List TLane⊕List TLane⊕Bool×List TLane)=>
                            match x7 with
                            | Sum.inl x_1=>if 2≤IntKind.i64.wrap (x.snd.fst - x_1.fst) then (aq (fun (x9:Int×List TLane)=>if x9.fst < x.snd.fst then (idx x9.snd x9.fst).bind fun (x10:TLane)=>(idx x9.snd (IntKind.i64.wrap (x9.fst - 1))).bind fun (x11:TLane)=>(p47 (x10.From,x10.To,x10.Ahead,x11.From,x11.To,x11.Ahead)).bind fun (n12:Int)=>if (!decide (n12 < 0))=true then some (Sum.inr x9.snd) else (idx x9.snd (IntKind.i64.wrap (x9.fst - 1))).bind fun (x13:TLane)=>(idx x9.snd x9.fst).bind fun (x14:TLane)=>(idx x9.snd x9.fst).bind fun (x15:TLane)=>(idx (x9.snd.set x9.fst.toNat x13) (IntKind.i64.wrap (x9.fst - 1))).bind fun (x16:TLane)=>some (Sum.inl (IntKind.i64.wrap (x9.fst+1),(x9.snd.set x9.fst.toNat x13).set (IntKind.i64.wrap (x9.fst - 1)).toNat x14)) else some (Sum.inr x9.snd)) (IntKind.i64.wrap (x_1.fst+1),x_1.snd.snd)).bind fun (l9:List TLane)=>some (Sum.inl (x_1.fst,IntKind.i64.wrap (x_1.snd.fst+1),l9)) else some (Sum.inl (x_1.fst,IntKind.i64.wrap (x_1.snd.fst+1),x_1.snd.snd))
                            | Sum.inr r=>some r
          else some (Sum.inr (Sum.inl x1.snd.snd)))
        (IntKind.i64.wrap (x.fst+1),0,x.snd.snd)).bind
    fun (x1:List TLane⊕Bool×List TLane)=>
    match x1 with
    | Sum.inl x=>some (false,x)
    | Sum.inr y=>some (y.fst,y.snd)
theorem zb:vfn (T:=tE) lpK Bg (a6 [n47]) nY CK.res (vOf CK.code Ak)=fW:=by kernel_rfl
abbrev rK:En tE:=⟨88,[(3,47)],nY,fW⟩
theorem Ba:aB F tE 88 nY 4 fW:=by
 rw [← zb]
 exact aw (fn:=CK) (af (en:=n47) ah o47 rfl) rfl (by kernel_rfl)
def nW:FSp:=⟨[(false,[.r 0]),(false,[.d true (.int .i64)]),(false,[.d true (.int .i64)]),(false,[.d true (.int .i64)]),(false,[.c (.func 47 [])])],[.sl (.st 5)],[0],[.ld 0 false,.d true (.int .i64),.slot 0 false,.ld 1 false,.r 0,.slot 1 false,.sl (.st 5)]⟩
def A2:List (Nat×Lb):=[(4,.l [.ld 1 false,.d true (.int .i64),.slot 1 false,.ld 4 false,.c (.func 47 []),.slot 4 false] [.ld 0 false,.r 0,.slot 0 false,.ld 11 false,.d true (.int .i64),.slot 11 false,.ld 12 false,.d true (.int .i64),.slot 12 false,.sl (.st 5)] [(some 0,[.ld 0 false,.r 0,.slot 0 false,.ld 11 false,.d true (.int .i64),.slot 11 false,.sl (.st 5)])]),(6,.l [.ld 12 false,.d true (.int .i64),.slot 12 false] [.ld 0 false,.r 0,.slot 0 false,.ld 11 false,.d true (.int .i64),.slot 11 false,.sl (.st 5)] [(some 2,[.ld 0 false,.r 0,.slot 0 false,.ld 11 false,.d true (.int .i64),.slot 11 false,.sl (.st 5)])]),(8,.j [.ld 0 false,.r 0,.slot 0 false,.ld 11 false,.d true (.int .i64),.slot 11 false,.ld 47 false,.d true .bool,.slot 47 false,.sl (.st 5)]),(10,.l [.ld 11 false,.d true (.int .i64),.slot 11 false] [.ld 0 false,.r 0,.slot 0 false,.ld 12 false,.d true (.int .i64),.slot 12 false,.sl (.st 5)] [(some 4,[.ld 0 false,.r 0,.slot 0 false,.ld 12 false,.d true (.int .i64),.slot 12 false,.sl (.st 5)])]),(12,.j [.ld 0 false,.r 0,.slot 0 false,.ld 12 false,.d true (.int .i64),.slot 12 false,.ld 65 false,.d true .bool,.slot 65 false,.sl (.st 5)])]
def yg:List (Nat×VT):=[]
def gl:Int×Int×Int×List TLane→Option (Int×List TLane):=fun (x:Int×Int×Int×List TLane)=>
  (idx x.snd.snd.snd x.snd.snd.fst).bind fun (x1:TLane)=>
    (idx x.snd.snd.snd x.fst).bind fun (x2:TLane)=>
      (idx x.snd.snd.snd x.fst).bind fun (x3:TLane)=>
        (idx (x.snd.snd.snd.set x.fst.toNat x1) x.snd.snd.fst).bind fun (x4:TLane)=>
          (aq
                (fun (x5:Int×Int×List TLane)=>
                  (aq
                        (fun (x6:Int×List TLane)=>
                          (if x6.fst≤x5.snd.fst then (idx x6.snd x.fst).bind fun (x7:TLane)=>(idx x6.snd x6.fst).bind fun (x8:TLane)=>(p47 (x7.From,x7.To,x7.Ahead,x8.From,x8.To,x8.Ahead)).bind fun (n9:Int)=>some (Sum.inl (x6.fst,!decide (n9 < 0),x6.snd)) else some (Sum.inl (x6.fst,false,x6.snd))).bind fun (x7:Int×Bool×List TLane⊕Int×List TLane⊕Int×List TLane)=>
                            match x7 with
                            | Sum.inl x=>if x.snd.fst=true then some (Sum.inl (IntKind.i64.wrap (x.fst+1),x.snd.snd)) else some (Sum.inr (x.fst,x.snd.snd))
                            | Sum.inr r=>some r)
                        (x5.fst,x5.snd.snd)).bind
                    fun (x6:Int×List TLane)=>
                    (aq
                          (fun (x7:Int×List TLane)=>
                            (if x6.fst≤x7.fst then (idx x7.snd x.fst).bind fun (x8:TLane)=>(idx x7.snd x7.fst).bind fun (x9:TLane)=>(p47 (x8.From,x8.To,x8.Ahead,x9.From,x9.To,x9.Ahead)).bind fun (n10:Int)=>some (Sum.inl (x7.fst,decide (n10 < 0),x7.snd)) else some (Sum.inl (x7.fst,false,x7.snd))).bind fun (x8:Int×Bool×List TLane⊕Int×List TLane⊕Int×List TLane)=>
                              match x8 with
                              | Sum.inl x=>if x.snd.fst=true then some (Sum.inl (IntKind.i64.wrap (x.fst - 1),x.snd.snd)) else some (Sum.inr (x.fst,x.snd.snd))
                              | Sum.inr r=>some r)
                          (x5.snd.fst,x6.snd)).bind
                      fun (x7:Int×List TLane)=>if x7.fst < x6.fst then some (Sum.inr (x6.fst,x7.snd)) else (idx x7.snd x7.fst).bind fun (x8:TLane)=>(idx x7.snd x6.fst).bind fun (x9:TLane)=>(idx x7.snd x6.fst).bind fun (x10:TLane)=>(idx (x7.snd.set x6.fst.toNat x8) x7.fst).bind fun (x11:TLane)=>some (Sum.inl (IntKind.i64.wrap (x6.fst+1),IntKind.i64.wrap (x7.fst - 1),(x7.snd.set x6.fst.toNat x8).set x7.fst.toNat x9)))
                (IntKind.i64.wrap (x.fst+1),IntKind.i64.wrap (x.snd.fst - 1),(x.snd.snd.snd.set x.fst.toNat x1).set x.snd.snd.fst.toNat x2)).bind
            fun (x5:Int×List TLane)=>some (x5.fst,x5.snd)
theorem Ap:vfn (T:=tE) lpK yg (a6 [n47]) nW Cy.res (vOf Cy.code A2)=gl:=by kernel_rfl
abbrev ti:En tE:=⟨89,[(4,47)],nW,gl⟩
theorem AY:aB F tE 89 nW 5 gl:=by
 rw [← Ap]
 exact aw (fn:=Cy) (af (en:=n47) ah o47 rfl) rfl (by kernel_rfl)
def oq:FSp:=⟨[(false,[.r 0]),(false,[.d true (.int .i64)]),(false,[.d true (.int .i64)]),(false,[.d true (.int .i64)]),(false,[.c (.func 47 [])])],[.sl (.st 5)],[0],[.ld 0 false,.d true (.int .i64),.slot 0 false,.ld 1 false,.d true .bool,.slot 1 false,.ld 2 false,.r 0,.slot 2 false,.sl (.st 5)]⟩
def Ay:List (Nat×Lb):=[(4,.l [.ld 1 false,.d true (.int .i64),.slot 1 false,.ld 4 false,.c (.func 47 []),.slot 4 false,.ld 13 false,.d true (.int .i64),.slot 13 false] [.ld 0 false,.r 0,.slot 0 false,.ld 12 false,.d true (.int .i64),.slot 12 false,.sl (.st 5)] [(some 0,[.ld 0 false,.r 0,.slot 0 false,.ld 12 false,.d true (.int .i64),.slot 12 false,.sl (.st 5)])]),(6,.j [.ld 0 false,.r 0,.slot 0 false,.ld 12 false,.d true (.int .i64),.slot 12 false,.ld 47 false,.d true .bool,.slot 47 false,.sl (.st 5)]),(8,.l [.ld 1 false,.d true (.int .i64),.slot 1 false,.ld 4 false,.c (.func 47 []),.slot 4 false,.ld 12 false,.d true (.int .i64),.slot 12 false] [.ld 0 false,.r 0,.slot 0 false,.ld 13 false,.d true (.int .i64),.slot 13 false,.sl (.st 5)] [(some 2,[.ld 0 false,.r 0,.slot 0 false,.ld 13 false,.d true (.int .i64),.slot 13 false,.sl (.st 5)])]),(10,.j [.ld 0 false,.r 0,.slot 0 false,.ld 13 false,.d true (.int .i64),.slot 13 false,.ld 66 false,.d true .bool,.slot 66 false,.sl (.st 5)]),(19,.l [.ld 1 false,.d true (.int .i64),.slot 1 false,.ld 4 false,.c (.func 47 []),.slot 4 false] [.ld 0 false,.r 0,.slot 0 false,.ld 12 false,.d true (.int .i64),.slot 12 false,.ld 13 false,.d true (.int .i64),.slot 13 false,.sl (.st 5)] [(some 4,[.ld 0 false,.r 0,.slot 0 false,.ld 13 false,.d true (.int .i64),.slot 13 false,.sl (.st 5)])]),(21,.l [.ld 13 false,.d true (.int .i64),.slot 13 false] [.ld 0 false,.r 0,.slot 0 false,.ld 12 false,.d true (.int .i64),.slot 12 false,.sl (.st 5)] [(some 6,[.ld 0 false,.r 0,.slot 0 false,.ld 12 false,.d true (.int .i64),.slot 12 false,.sl (.st 5)])]),(23,.j [.ld 0 false,.r 0,.slot 0 false,.ld 12 false,.d true (.int .i64),.slot 12 false,.ld 120 false,.d true .bool,.slot 120 false,.sl (.st 5)]),(25,.l [.ld 12 false,.d true (.int .i64),.slot 12 false] [.ld 0 false,.r 0,.slot 0 false,.ld 13 false,.d true (.int .i64),.slot 13 false,.sl (.st 5)] [(some 8,[.ld 0 false,.r 0,.slot 0 false,.ld 13 false,.d true (.int .i64),.slot 13 false,.sl (.st 5)])]),(27,.j [.ld 0 false,.r 0,.slot 0 false,.ld 13 false,.d true (.int .i64),.slot 13 false,.ld 139 false,.d true .bool,.slot 139 false,.sl (.st 5)])]
def xZ:List (Nat×VT):=[]
def gH:Int×Int×Int×List TLane→Option (Int×Bool×List TLane):=fun (x:Int×Int×Int×List TLane)=>
  (idx x.snd.snd.snd x.snd.snd.fst).bind fun (x1:TLane)=>
    (idx x.snd.snd.snd x.fst).bind fun (x2:TLane)=>
      (idx x.snd.snd.snd x.fst).bind fun (x3:TLane)=>
        (idx (x.snd.snd.snd.set x.fst.toNat x1) x.snd.snd.fst).bind fun (x4:TLane)=>
          (aq
                (fun (x5:Int×List TLane)=>
                  (if x5.fst≤IntKind.i64.wrap (x.snd.fst - 1) then (idx x5.snd x5.fst).bind fun (x6:TLane)=>(idx x5.snd x.fst).bind fun (x7:TLane)=>(p47 (x6.From,x6.To,x6.Ahead,x7.From,x7.To,x7.Ahead)).bind fun (n8:Int)=>some (Sum.inl (x5.fst,decide (n8 < 0),x5.snd)) else some (Sum.inl (x5.fst,false,x5.snd))).bind fun (x6:Int×Bool×List TLane⊕Int×List TLane⊕Int×List TLane)=>
                    match x6 with
                    | Sum.inl x=>if x.snd.fst=true then some (Sum.inl (IntKind.i64.wrap (x.fst+1),x.snd.snd)) else some (Sum.inr (x.fst,x.snd.snd))
                    | Sum.inr r=>some r)
                (IntKind.i64.wrap (x.fst+1),(x.snd.snd.snd.set x.fst.toNat x1).set x.snd.snd.fst.toNat x2)).bind
            fun (x5:Int×List TLane)=>
            (aq
                  (fun (x6:Int×List TLane)=>
                    (if x5.fst≤x6.fst then (idx x6.snd x6.fst).bind fun (x7:TLane)=>(idx x6.snd x.fst).bind fun (x8:TLane)=>(p47 (x7.From,x7.To,x7.Ahead,x8.From,x8.To,x8.Ahead)).bind fun (n9:Int)=>some (Sum.inl (x6.fst,!decide (n9 < 0),x6.snd)) else some (Sum.inl (x6.fst,false,x6.snd))).bind fun (x7:Int×Bool×List TLane⊕Int×List TLane⊕Int×List TLane)=>
                      match x7 with
                      | Sum.inl x=>if x.snd.fst=true then some (Sum.inl (IntKind.i64.wrap (x.fst - 1),x.snd.snd)) else some (Sum.inr (x.fst,x.snd.snd))
                      | Sum.inr r=>some r)
                  (IntKind.i64.wrap (x.snd.fst - 1),x5.snd)).bind
              fun (x6:Int×List TLane)=>
              if x6.fst < x5.fst then (idx x6.snd x.fst).bind fun (x7:TLane)=>(idx x6.snd x6.fst).bind fun (x8:TLane)=>(idx x6.snd x6.fst).bind fun (x9:TLane)=>(idx (x6.snd.set x6.fst.toNat x7) x.fst).bind fun (x10:TLane)=>some (x6.fst,true,(x6.snd.set x6.fst.toNat x7).set x.fst.toNat x8)
              else
                (idx x6.snd x6.fst).bind fun (x7:TLane)=>
                  (idx x6.snd x5.fst).bind fun (x8:TLane)=>
                    (idx x6.snd x5.fst).bind fun (x9:TLane)=>
                      (idx (x6.snd.set x5.fst.toNat x7) x6.fst).bind fun (x10:TLane)=>
                        (aq
                              (fun (x11:Int×Int×List TLane)=>
                                (aq
                                      (fun (x12:Int×List TLane)=>
                                        (if x12.fst≤x11.snd.fst then (idx x12.snd x12.fst).bind fun (x13:TLane)=>(idx x12.snd x.fst).bind fun (x14:TLane)=>(p47 (x13.From,x13.To,x13.Ahead,x14.From,x14.To,x14.Ahead)).bind fun (n15:Int)=>some (Sum.inl (x12.fst,decide (n15 < 0),x12.snd)) else some (Sum.inl (x12.fst,false,x12.snd))).bind fun (x13:Int×Bool×List TLane⊕Int×List TLane⊕Int×List TLane)=>
                                          match x13 with
                                          | Sum.inl x=>if x.snd.fst=true then some (Sum.inl (IntKind.i64.wrap (x.fst+1),x.snd.snd)) else some (Sum.inr (x.fst,x.snd.snd))
                                          | Sum.inr r=>some r)
                                      (x11.fst,x11.snd.snd)).bind
                                  fun (x12:Int×List TLane)=>
                                  (aq
                                        (fun (x13:Int×List TLane)=>
                                          (if x12.fst≤x13.fst then (idx x13.snd x13.fst).bind fun (x14:TLane)=>(idx x13.snd x.fst).bind fun (x15:TLane)=>(p47 (x14.From,x14.To,x14.Ahead,x15.From,x15.To,x15.Ahead)).bind fun (n16:Int)=>some (Sum.inl (x13.fst,!decide (n16 < 0),x13.snd)) else some (Sum.inl (x13.fst,false,x13.snd))).bind fun (x14:Int×Bool×List TLane⊕Int×List TLane⊕Int×List TLane)=>
                                            match x14 with
                                            | Sum.inl x=>if x.snd.fst=true then some (Sum.inl (IntKind.i64.wrap (x.fst - 1),x.snd.snd)) else some (Sum.inr (x.fst,x.snd.snd))
                                            | Sum.inr r=>some r)
                                        (x11.snd.fst,x12.snd)).bind
                                    fun (x13:Int×List TLane)=>if x13.fst < x12.fst then some (Sum.inr (x13.fst,x13.snd)) else (idx x13.snd x13.fst).bind fun (x14:TLane)=>(idx x13.snd x12.fst).bind fun (x15:TLane)=>(idx x13.snd x12.fst).bind fun (x16:TLane)=>(idx (x13.snd.set x12.fst.toNat x14) x13.fst).bind fun (x17:TLane)=>some (Sum.inl (IntKind.i64.wrap (x12.fst+1),IntKind.i64.wrap (x13.fst - 1),(x13.snd.set x12.fst.toNat x14).set x13.fst.toNat x15)))
                              (IntKind.i64.wrap (x5.fst+1),IntKind.i64.wrap (x6.fst - 1),(x6.snd.set x5.fst.toNat x7).set x6.fst.toNat x8)).bind
                          fun (x11:Int×List TLane)=>(idx x11.snd x.fst).bind fun (x12:TLane)=>(idx x11.snd x11.fst).bind fun (x13:TLane)=>(idx x11.snd x11.fst).bind fun (x14:TLane)=>(idx (x11.snd.set x11.fst.toNat x12) x.fst).bind fun (x15:TLane)=>some (x11.fst,false,(x11.snd.set x11.fst.toNat x12).set x.fst.toNat x13)
theorem ym:vfn (T:=tE) lpK xZ (a6 [n47]) oq C3.res (vOf C3.code Ay)=gH:=by kernel_rfl
abbrev sS:En tE:=⟨90,[(4,47)],oq,gH⟩
theorem AW:aB F tE 90 oq 5 gH:=by
 rw [← ym]
 exact aw (fn:=C3) (af (en:=n47) ah o47 rfl) rfl (by kernel_rfl)
def nX:FSp:=⟨[(false,[.r 0]),(false,[.d true (.int .i64)]),(false,[.d true (.int .i64)]),(false,[.c (.func 47 [])])],[.sl (.st 5)],[0],[.ld 0 false,.r 0,.slot 0 false,.sl (.st 5)]⟩
def yN:List (Nat×Lb):=[(5,.l [.ld 1 false,.d true (.int .i64),.slot 1 false,.ld 8 false,.d true (.int .i64),.slot 8 false,.ld 10 false,.d true (.int .u64),.slot 10 false] [.ld 0 false,.r 0,.slot 0 false,.ld 9 false,.ptr 1 0,.slot 9 false,.ld 11 false,.d true (.int .i64),.slot 11 false,.sl (.st 5),.pr (.int .u64)] [(some 0,[.ld 0 false,.r 0,.slot 0 false,.sl (.st 5)])]),(10,.j [.ld 0 false,.r 0,.slot 0 false,.ld 9 false,.ptr 1 0,.slot 9 false,.ld 11 false,.d true (.int .i64),.slot 11 false,.ld 12 false,.d true (.int .i64),.slot 12 false,.sl (.st 5),.pr (.int .u64)])]
def A0:List (Nat×VT):=[]
def gA:Int×Int×List TLane→Option (List TLane):=fun (x:Int×Int×List TLane)=>
  if 8≤IntKind.i64.wrap (x.snd.fst - x.fst) then
    (Cu (IntKind.i64.wrap (x.snd.fst - x.fst))).bind fun (n1:Int)=>
      (quoI IntKind.i64 (IntKind.i64.wrap (x.snd.fst - x.fst)) 4).bind fun (n2:Int)=>
        (aq
              (fun (x3:Int×List TLane×Int)=>
                (quoI IntKind.i64 (IntKind.i64.wrap (x.snd.fst - x.fst)) 4).bind fun (n4:Int)=>
                  if x3.fst≤IntKind.i64.wrap (IntKind.i64.wrap (x.fst+IntKind.i64.wrap (n4 * 2))+1) then
                    (Bt x3.snd.snd).bind fun (x5:Int×Int)=>
                      (if IntKind.i64.wrap (x.snd.fst - x.fst)≤IntKind.i64.wrap (IntKind.u64.wrap (↑(BitVec.ofInt IntKind.u64.bits x5.fst &&& BitVec.ofInt IntKind.u64.bits (IntKind.u64.wrap (n1 - 1))).toNat:Int)) then some (Sum.inl (x3.fst,IntKind.i64.wrap (IntKind.i64.wrap (IntKind.u64.wrap (↑(BitVec.ofInt IntKind.u64.bits x5.fst &&& BitVec.ofInt IntKind.u64.bits (IntKind.u64.wrap (n1 - 1))).toNat:Int)) - IntKind.i64.wrap (x.snd.fst - x.fst)),x3.snd.fst,x5.snd)) else some (Sum.inl (x3.fst,IntKind.i64.wrap (IntKind.u64.wrap (↑(BitVec.ofInt IntKind.u64.bits x5.fst &&& BitVec.ofInt IntKind.u64.bits (IntKind.u64.wrap (n1 - 1))).toNat:Int)),x3.snd.fst,x5.snd))).bind fun (x6:Int×Int×List TLane×Int⊕Int×List TLane×Int⊕List TLane)=>
                        match x6 with
                        | Sum.inl x_1=>(idx x_1.snd.snd.fst (IntKind.i64.wrap (x.fst+x_1.snd.fst))).bind fun (x8:TLane)=>(idx x_1.snd.snd.fst x_1.fst).bind fun (x9:TLane)=>(idx x_1.snd.snd.fst x_1.fst).bind fun (x10:TLane)=>(idx (x_1.snd.snd.fst.set x_1.fst.toNat x8) (IntKind.i64.wrap (x.fst+x_1.snd.fst))).bind fun (x11:TLane)=>some (Sum.inl (IntKind.i64.wrap (x_1.fst+1),(x_1.snd.snd.fst.set x_1.fst.toNat x8).set (IntKind.i64.wrap (x.fst+x_1.snd.fst)).toNat x9,x_1.snd.snd.snd))
                        | Sum.inr r=>some r
                  else some (Sum.inr x3.snd.fst))
              (IntKind.i64.wrap (IntKind.i64.wrap (x.fst+IntKind.i64.wrap (n2 * 2)) - 1),x.snd.snd,IntKind.u64.wrap (IntKind.i64.wrap (x.snd.fst - x.fst)))).bind
          fun (l3:List TLane)=>some l3
  else some x.snd.snd
theorem yv:vfn (T:=tE) lpK A0 (a6 [Gl,GC]) nX D6.res (vOf D6.code yN)=gA:=by kernel_rfl
abbrev sJ:En tE:=⟨85,[(3,47)],nX,gA⟩
theorem yJ:aB F tE 85 nX 4 gA:=by
 rw [← yv]
 exact aw (fn:=D6) (af (en:=Gl) (af (en:=GC) ah Ha rfl) Jg rfl) rfl (by kernel_rfl)
def kZ:FSp:=⟨[(false,[.r 0]),(false,[.d true (.int .i64)]),(false,[.d true (.int .i64)]),(false,[.d true (.int .i64)]),(false,[.c (.func 47 [])])],[.sl (.st 5)],[0],[.ld 0 false,.r 0,.slot 0 false,.sl (.st 5)]⟩
def xT:List (Nat×Lb):=[(2,.l [.ld 4 false,.c (.func 47 []),.slot 4 false] [.ld 0 false,.r 0,.slot 0 false,.ld 1 false,.d true (.int .i64),.slot 1 false,.ld 2 false,.d true (.int .i64),.slot 2 false,.ld 3 false,.d true (.int .i64),.slot 3 false,.ld 10 false,.d true .bool,.slot 10 false,.ld 11 false,.d true .bool,.slot 11 false,.sl (.st 5)] [(none,[.ld 0 false,.r 0,.slot 0 false,.sl (.st 5)])]),(10,.j [.ld 0 false,.r 0,.slot 0 false,.ld 1 false,.d true (.int .i64),.slot 1 false,.ld 2 false,.d true (.int .i64),.slot 2 false,.ld 3 false,.d true (.int .i64),.slot 3 false,.ld 10 false,.d true .bool,.slot 10 false,.ld 11 false,.d true .bool,.slot 11 false,.ld 12 false,.d true (.int .i64),.slot 12 false,.sl (.st 5)]),(14,.j [.ld 0 false,.r 0,.slot 0 false,.ld 1 false,.d true (.int .i64),.slot 1 false,.ld 2 false,.d true (.int .i64),.slot 2 false,.ld 3 false,.d true (.int .i64),.slot 3 false,.ld 10 false,.d true .bool,.slot 10 false,.ld 11 false,.d true .bool,.slot 11 false,.ld 12 false,.d true (.int .i64),.slot 12 false,.ld 13 false,.d true (.int .i64),.slot 13 false,.ld 14 false,.d true (.int .i64),.slot 14 false,.sl (.st 5)]),(18,.j [.ld 0 false,.r 0,.slot 0 false,.ld 1 false,.d true (.int .i64),.slot 1 false,.ld 2 false,.d true (.int .i64),.slot 2 false,.ld 3 false,.d true (.int .i64),.slot 3 false,.ld 10 false,.d true .bool,.slot 10 false,.ld 11 false,.d true .bool,.slot 11 false,.ld 12 false,.d true (.int .i64),.slot 12 false,.ld 13 false,.d true (.int .i64),.slot 13 false,.sl (.st 5)]),(19,.j [.ld 0 false,.r 0,.slot 0 false,.ld 1 false,.d true (.int .i64),.slot 1 false,.ld 2 false,.d true (.int .i64),.slot 2 false,.ld 3 false,.d true (.int .i64),.slot 3 false,.ld 10 false,.d true .bool,.slot 10 false,.ld 11 false,.d true .bool,.slot 11 false,.ld 12 false,.d true (.int .i64),.slot 12 false,.ld 13 false,.d true (.int .i64),.slot 13 false,.ld 75 false,.d true .bool,.slot 75 false,.sl (.st 5)]),(22,.j [.ld 0 false,.r 0,.slot 0 false,.ld 1 false,.d true (.int .i64),.slot 1 false,.ld 2 false,.d true (.int .i64),.slot 2 false,.ld 3 false,.d true (.int .i64),.slot 3 false,.ld 10 false,.d true .bool,.slot 10 false,.ld 11 false,.d true .bool,.slot 11 false,.ld 12 false,.d true (.int .i64),.slot 12 false,.ld 13 false,.d true (.int .i64),.slot 13 false,.ld 97 false,.d true .bool,.slot 97 false,.sl (.st 5)])]
def yZ:List (Nat×VT):=[]
def eO:(Int×Int×Int×List TLane→Option (List TLane))→Int×Int×Int×List TLane→Option (List TLane):=fun (g:Int×Int×Int×List TLane→Option (List TLane)) (x:Int×Int×Int×List TLane)=>
  (aq
        (fun (x2:Int×Int×Int×Bool×Bool×List TLane)=>
          if IntKind.i64.wrap (x2.snd.fst - x2.fst)≤12 then (gI (x2.fst,x2.snd.fst,x2.snd.snd.snd.snd.snd)).bind fun (l3:List TLane)=>some (Sum.inr l3)
          else
            if x2.snd.snd.fst=0 then (gm (x2.fst,x2.snd.fst,x2.snd.snd.snd.snd.snd)).bind fun (l3:List TLane)=>some (Sum.inr l3)
            else
              (if (!x2.snd.snd.snd.fst)=true then (gA (x2.fst,x2.snd.fst,x2.snd.snd.snd.snd.snd)).bind fun (l3:List TLane)=>some (Sum.inl (x2.fst,x2.snd.fst,IntKind.i64.wrap (x2.snd.snd.fst - 1),x2.snd.snd.snd.fst,x2.snd.snd.snd.snd.fst,IntKind.i64.wrap (x2.snd.fst - x2.fst),l3)) else some (Sum.inl (x2.fst,x2.snd.fst,x2.snd.snd.fst,x2.snd.snd.snd.fst,x2.snd.snd.snd.snd.fst,IntKind.i64.wrap (x2.snd.fst - x2.fst),x2.snd.snd.snd.snd.snd))).bind fun (x3:Int×Int×Int×Bool×Bool×Int×List TLane⊕Int×Int×Int×Bool×Bool×List TLane⊕List TLane)=>
                match x3 with
                | Sum.inl x=>
                  (gw (x.snd.snd.snd.snd.snd.snd,x.fst,x.snd.fst)).bind fun (x5:Int×Int)=>
                    (if x5.snd=2 then (gd (x.fst,x.snd.fst,x.snd.snd.snd.snd.snd.snd)).bind fun (l6:List TLane)=>some (Sum.inl (x.fst,x.snd.fst,x.snd.snd.fst,x.snd.snd.snd.fst,x.snd.snd.snd.snd.fst,x.snd.snd.snd.snd.snd.fst,IntKind.i64.wrap (IntKind.i64.wrap (x.snd.fst - 1) - IntKind.i64.wrap (x5.fst - x.fst)),1,l6)) else some (Sum.inl (x.fst,x.snd.fst,x.snd.snd.fst,x.snd.snd.snd.fst,x.snd.snd.snd.snd.fst,x.snd.snd.snd.snd.snd.fst,x5.fst,x5.snd,x.snd.snd.snd.snd.snd.snd))).bind fun (x6:Int×Int×Int×Bool×Bool×Int×Int×Int×List TLane⊕Int×Int×Int×Bool×Bool×List TLane⊕List TLane)=>
                      match x6 with
                      | Sum.inl x=>
                        ((if x.snd.snd.snd.fst=true then if x.snd.snd.snd.snd.fst=true then some (Sum.inl (x.fst,x.snd.fst,x.snd.snd.fst,x.snd.snd.snd.fst,x.snd.snd.snd.snd.fst,x.snd.snd.snd.snd.snd.fst,x.snd.snd.snd.snd.snd.snd.fst,decide (x.snd.snd.snd.snd.snd.snd.snd.fst=1),x.snd.snd.snd.snd.snd.snd.snd.snd)) else some (Sum.inl (x.fst,x.snd.fst,x.snd.snd.fst,x.snd.snd.snd.fst,x.snd.snd.snd.snd.fst,x.snd.snd.snd.snd.snd.fst,x.snd.snd.snd.snd.snd.snd.fst,false,x.snd.snd.snd.snd.snd.snd.snd.snd)) else some (Sum.inl (x.fst,x.snd.fst,x.snd.snd.fst,x.snd.snd.snd.fst,x.snd.snd.snd.snd.fst,x.snd.snd.snd.snd.snd.fst,x.snd.snd.snd.snd.snd.snd.fst,false,x.snd.snd.snd.snd.snd.snd.snd.snd))).bind fun (x8:Int×Int×Int×Bool×Bool×Int×Int×Bool×List TLane⊕Int×Int×Int×Bool×Bool×Int×Int×List TLane⊕Int×Int×Int×Bool×Bool×List TLane⊕List TLane)=>
                              match x8 with
                              | Sum.inl x=>if x.snd.snd.snd.snd.snd.snd.snd.fst=true then (fW (x.fst,x.snd.fst,x.snd.snd.snd.snd.snd.snd.snd.snd)).bind fun (x10:Bool×List TLane)=>if x10.fst=true then some (Sum.inr (Sum.inr x10.snd)) else some (Sum.inl (x.fst,x.snd.fst,x.snd.snd.fst,x.snd.snd.snd.fst,x.snd.snd.snd.snd.fst,x.snd.snd.snd.snd.snd.fst,x.snd.snd.snd.snd.snd.snd.fst,x10.snd)) else some (Sum.inl (x.fst,x.snd.fst,x.snd.snd.fst,x.snd.snd.snd.fst,x.snd.snd.snd.snd.fst,x.snd.snd.snd.snd.snd.fst,x.snd.snd.snd.snd.snd.snd.fst,x.snd.snd.snd.snd.snd.snd.snd.snd))
                              | Sum.inr r=>some r).bind
                          fun (x8:Int×Int×Int×Bool×Bool×Int×Int×List TLane⊕Int×Int×Int×Bool×Bool×List TLane⊕List TLane)=>
                          match x8 with
                          | Sum.inl x=>
                            (if 0 < x.fst then (idx x.snd.snd.snd.snd.snd.snd.snd (IntKind.i64.wrap (x.fst - 1))).bind fun (x10:TLane)=>(idx x.snd.snd.snd.snd.snd.snd.snd x.snd.snd.snd.snd.snd.snd.fst).bind fun (x11:TLane)=>(p47 (x10.From,x10.To,x10.Ahead,x11.From,x11.To,x11.Ahead)).bind fun (n12:Int)=>some (Sum.inl (x.fst,x.snd.fst,x.snd.snd.fst,x.snd.snd.snd.fst,x.snd.snd.snd.snd.fst,x.snd.snd.snd.snd.snd.fst,x.snd.snd.snd.snd.snd.snd.fst,!decide (n12 < 0),x.snd.snd.snd.snd.snd.snd.snd)) else some (Sum.inl (x.fst,x.snd.fst,x.snd.snd.fst,x.snd.snd.snd.fst,x.snd.snd.snd.snd.fst,x.snd.snd.snd.snd.snd.fst,x.snd.snd.snd.snd.snd.snd.fst,false,x.snd.snd.snd.snd.snd.snd.snd))).bind fun (x10:Int×Int×Int×Bool×Bool×Int×Int×Bool×List TLane⊕Int×Int×Int×Bool×Bool×List TLane⊕List TLane)=>
                              match x10 with
                              | Sum.inl x=>if x.snd.snd.snd.snd.snd.snd.snd.fst=true then (gl (x.fst,x.snd.fst,x.snd.snd.snd.snd.snd.snd.fst,x.snd.snd.snd.snd.snd.snd.snd.snd)).bind fun (x12:Int×List TLane)=>some (Sum.inl (x12.fst,x.snd.fst,x.snd.snd.fst,x.snd.snd.snd.fst,x.snd.snd.snd.snd.fst,x12.snd)) else (gH (x.fst,x.snd.fst,x.snd.snd.snd.snd.snd.snd.fst,x.snd.snd.snd.snd.snd.snd.snd.snd)).bind fun (x12:Int×Bool×List TLane)=>(quoI IntKind.i64 x.snd.snd.snd.snd.snd.fst 8).bind fun (n13:Int)=>if IntKind.i64.wrap (x12.fst - x.fst) < IntKind.i64.wrap (x.snd.fst - x12.fst) then (g (x.fst,x12.fst,x.snd.snd.fst,x12.snd.snd)).bind fun (l14:List TLane)=>some (Sum.inl (IntKind.i64.wrap (x12.fst+1),x.snd.fst,x.snd.snd.fst,decide (n13≤IntKind.i64.wrap (x12.fst - x.fst)),x12.snd.fst,l14)) else (g (IntKind.i64.wrap (x12.fst+1),x.snd.fst,x.snd.snd.fst,x12.snd.snd)).bind fun (l14:List TLane)=>some (Sum.inl (x.fst,x12.fst,x.snd.snd.fst,decide (n13≤IntKind.i64.wrap (x.snd.fst - x12.fst)),x12.snd.fst,l14))
                              | Sum.inr r=>some r
                          | Sum.inr r=>some r
                      | Sum.inr r=>some r
                | Sum.inr r=>some r)
        (x.fst,x.snd.fst,x.snd.snd.fst,true,true,x.snd.snd.snd)).bind
    fun (l2:List TLane)=>some l2
def oH:=xo eO 1099511627776
theorem z8:(fun g=>vfn (T:=tE) lpK yZ (a6 (⟨69,[(4,47)],kZ,g⟩::[rj,rm,sf,ug,rK,ti,sS,sJ,n47])) kZ D9.res (vOf D9.code xT))=eO:=by kernel_rfl
abbrev uq:En tE:=⟨69,[(4,47)],kZ,oH⟩
theorem xO:aB F tE 69 kZ 5 oH:=AP (fn:=D9) (af (en:=rj) (af (en:=rm) (af (en:=sf) (af (en:=ug) (af (en:=rK) (af (en:=ti) (af (en:=sS) (af (en:=sJ) (af (en:=n47) ah o47 rfl) yJ rfl) AW rfl) AY rfl) Ba rfl) zg rfl) zS rfl) AJ rfl) As rfl) rfl (by kernel_rfl) rfl z8 _
def od:FSp:=⟨[(false,[.r 0]),(false,[.c (.func 47 [])])],[.sl (.st 5)],[0],[.ld 0 false,.r 0,.slot 0 false,.sl (.st 5)]⟩
def yQ:List (Nat×Lb):=[]
def Ag:List (Nat×VT):=[]
def gf:List TLane→Option (List TLane):=fun (x:List TLane)=>(p70 (IntKind.u64.wrap (↑x.length:Int))).bind fun (n1:Int)=>(oH (0,(↑x.length:Int),n1,x)).bind fun (l2:List TLane)=>some l2
theorem Bf:vfn (T:=tE) lpK Ag (a6 [uq,n70]) od D3.res (vOf D3.code yQ)=gf:=by kernel_rfl
abbrev sP:En tE:=⟨46,[(1,47)],od,gf⟩
theorem zH:aB F tE 46 od 2 gf:=by
 rw [← Bf]
 exact aw (fn:=D3) (af (en:=uq) (af (en:=n70) ah o70 rfl) xO rfl) rfl (by kernel_rfl)
def ru:FSp:=⟨[(false,[.r 0]),(false,[.c (.func 51 [])])],[.sl (.st 5)],[],[.ld 0 false,.r 0,.slot 0 false,.sl (.st 5)]⟩
def ly (y10:Int) (y11:Int) (y12:List TLane):Option ((Int×Int×(List TLane))⊕(Int×(List TLane))):=some (.inl (y11,(IntKind.wrap .i64 (y10+(1:Int))),y12))
def ni (x0:List TLane) (x1:TLane→TLane→Option Bool) (y13:Int) (st:Int×Int×(List TLane)):Option ((Int×Int×(List TLane))⊕(Int×(List TLane))):=match st with | (y14,y10,y15)=>(slc y15 y13 (x0.length:Int)).bind fun w16=>if y10 < (w16.length:Int) then ((idx w16 y10).bind fun e17=>(idx w16 (IntKind.wrap .i64 (y10 - (1:Int)))).bind fun e18=>(x1 e17 e18).bind fun r19=>if (!r19)=true then ((idx w16 y10).bind fun e20=>(idx y15 y14).bind fun e21=>(some (y15.set (y14:Int).toNat e20)).bind fun y22=>ly y10 (IntKind.wrap .i64 (y14+(1:Int))) y22) else (ly y10 y14 y15)) else (some (.inr (y14,y15)))
def oQ (x0:List TLane) (x1:TLane→TLane→Option Bool) (y13:Int):Option (Int⊕((List TLane)⊕Unit)):=if y13 < (x0.length:Int) then ((idx x0 y13).bind fun e23=>(idx x0 (IntKind.wrap .i64 (y13 - (1:Int)))).bind fun e24=>(x1 e23 e24).bind fun r25=>if r25=true then ((slc x0 y13 (x0.length:Int)).bind fun y26=>(aq (ni x0 x1 y13) (y13,(1:Int),x0)).bind fun res27=>(match res27 with | (y28,y29)=>(slc y29 y28 (y29.length:Int)).bind fun y30=>(neL y30).bind fun u31=>(slc (wr y29 (y28:Int).toNat (((y29.length:Int):Int).toNat - (y28:Int).toNat) (TLane.mk (0:Int) (0:Int) (0:Int))) (0:Int) y28).bind fun y32=>some (.inr (.inl y32)))) else (some (.inl (IntKind.wrap .i64 (y13+(1:Int)))))) else (some (.inr (.inr ())))
def Ex (x0:List TLane) (x1:TLane→TLane→Option Bool):Option (List TLane):=if (x0.length:Int) < (2:Int) then (some x0) else ((aq (oQ x0 x1) (1:Int)).bind fun res33=>(match res33 with | .inl y34=>some y34 | .inr _=>some x0))
theorem Bc (l:List TLane) (q:TLane→TLane→Option Bool):Ole (Ex l q) (p50 l q):=by
 refine Ole.ite (Ole.refl _) (Ole.bind (Ole.loop (fun s=>?_) _) fun x=>Ole.refl _)
 refine Ole.ite (Ole.bind (Ole.refl _) fun x=>Ole.bind (Ole.refl _) fun y=>Ole.bind (Ole.refl _) fun z=>Ole.ite ?_ (Ole.refl _)) (Ole.refl _)
 refine Ole.bind (Ole.refl _) fun u=>Ole.bind (Ole.loop (fun s=>?_) _) fun x=>Ole.refl _
 exact Ole.refl _
def k9:List TLane→Option (List TLane):=fun l=>Ex l fun a b=>p51 (a.From,a.To,a.Ahead,b.From,b.To,b.Ahead)
theorem u9 (G:Hp) (cs:List AV) (x:TLane):bf.R G cs x↔(tE.r (.st 5)).R G cs x:=by
 constructor
 · intro h
   obtain rfl:=cm h
   exact reR (T:=tE) (t:=.st 5) (⟨[_],_,rfl,rfl,⟨[_],_,rfl,rfl,⟨[_],_,rfl,rfl,rfl⟩⟩⟩)
 intro h
 obtain ⟨_,_,rfl,rfl,⟨_,_,rfl,rfl,⟨_,_,rfl,rfl,rfl⟩⟩⟩:=unR (T:=tE) (t:=.st 5) h
 exact kK
theorem xY:aB F tE 50 ru 2 k9:=u0 (T:=tE) (t:=.st 5) rfl u9 rfl fun S hf=>r50 (a1_0:=.func 51 []) S (fun h a b r hr=>show ZC F 51 ([.agg [.int .i64 a.From,.int .i64 a.To,.int .i64 a.Ahead],.agg [.int .i64 b.From,.int .i64 b.To,.int .i64 b.Ahead]]++[]) h _ from vL (xs:=[.agg [.int .i64 a.From,.int .i64 a.To,.int .i64 a.Ahead],.agg [.int .i64 b.From,.int .i64 b.To,.int .i64 b.Ahead]]) o51 (x:=(a.From,a.To,a.Ahead,b.From,b.To,b.Ahead,())) hr rfl (am:=fun _=>.nilPtr) ⟨_,rfl,rfl,_,rfl,rfl,_,rfl,rfl,rfl,_,rfl,rfl,_,rfl,rfl,_,rfl,rfl,rfl,rfl⟩) (Bc _ _ _ hf)
abbrev rV:En tE:=⟨50,[(1,51)],ru,k9⟩
def q24:FSp:=⟨[(true,[.d false (.sl false (.st 2)),.d false (.sl false (.st 1))]),(true,[.d true (.int .i64),.d false (.sl false (.int .i64)),.d false (.sl false (.int .i64))])],[],[],[.ld 0 false,.r 0,.slot 0 false,.sl (.st 5)]⟩
def L24:List (Nat×Lb):=[(7,.l [.ld 16 false,.d false (.sl false (.st 1)),.slot 16 false,.ld 17 false,.d true (.int .i64),.slot 17 false] [.ld 3 false,.ptr 0 0,.slot 3 false,.ld 5 false,.r 1,.slot 5 false,.ld 18 false,.d true (.int .i64),.slot 18 false,.ldr,.d true (.int .i64),.d false (.sl false (.int .i64)),.d false (.sl false (.int .i64)),.row,.sl (.st 5)] [(some 0,[.ld 5 false,.r 0,.slot 5 false,.sl (.st 5)])]),(13,.l [.ld 6 false,.d true (.int .i64),.slot 6 false,.ld 18 false,.d true (.int .i64),.slot 18 false,.ld 24 false,.d false (.sl false (.st 0)),.slot 24 false,.ld 25 false,.d true (.int .i64),.slot 25 false] [.ld 3 false,.ptr 0 0,.slot 3 false,.ld 5 false,.r 1,.slot 5 false,.ld 7 false,.ptr 2 0,.slot 7 false,.ld 26 false,.d true (.int .i64),.slot 26 false,.ldr,.d true (.int .i64),.d false (.sl false (.int .i64)),.d false (.sl false (.int .i64)),.row,.sl (.st 5),.ldr,.d true .str,.d true (.int .i64),.d true (.int .i64),.d false (.sl false (.st 0)),.d false (.sl false (.st 0)),.d false (.sl false (.st 0)),.row] [(some 2,[.ld 3 false,.ptr 0 0,.slot 3 false,.ld 5 false,.r 1,.slot 5 false,.ldr,.d true (.int .i64),.d false (.sl false (.int .i64)),.d false (.sl false (.int .i64)),.row,.sl (.st 5)])])]
def H24:List (Nat×VT):=[(51,(.st 5))]
def p24:List TPlace×List TTrans×Int×List Int×List Int→Option (List TLane):=fun (x:List TPlace×List TTrans×Int×List Int×List Int)=>(p36 (x.fst,x.snd.fst,x.snd.snd.fst,x.snd.snd.snd.fst,x.snd.snd.snd.snd)).bind fun (n1:Int)=>if (!decide (n1=0))=true then some [] else (aq (fun (x2:Int×Int×List Int×List Int×List TLane)=>if x2.fst < (↑x.snd.fst.length:Int) then (idx x.snd.fst x2.fst).bind fun (x3:TTrans)=>(aq (fun (x4:Int×Int×List Int×List Int×List TLane×List UInt8×Int×Int×List TArc×List TArc×List TArc)=>if x4.fst < (↑x3.Out.length:Int) then (idx x3.Out x4.fst).bind fun (x5:TArc)=>(idx x4.snd.snd.snd.fst x2.fst).bind fun (n6:Int)=>(idx x4.snd.snd.fst x5.Place).bind fun (n7:Int)=>if (!decide (n6=n7))=true then (app 24 x4.snd.snd.snd.snd.fst [{ From:=n6,To:=n7,Ahead:=x4.snd.snd.snd.snd.snd.snd.fst }]).bind fun (l8:List TLane)=>some (Sum.inl (IntKind.i64.wrap (x4.fst+1),x4.snd.fst,x4.snd.snd.fst,x4.snd.snd.snd.fst,l8,x4.snd.snd.snd.snd.snd.fst,x4.snd.snd.snd.snd.snd.snd.fst,x4.snd.snd.snd.snd.snd.snd.snd.fst,x4.snd.snd.snd.snd.snd.snd.snd.snd.fst,x4.snd.snd.snd.snd.snd.snd.snd.snd.snd.fst,x4.snd.snd.snd.snd.snd.snd.snd.snd.snd.snd)) else some (Sum.inl (IntKind.i64.wrap (x4.fst+1),x4.snd.fst,x4.snd.snd.fst,x4.snd.snd.snd.fst,x4.snd.snd.snd.snd.fst,x4.snd.snd.snd.snd.snd.fst,x4.snd.snd.snd.snd.snd.snd.fst,x4.snd.snd.snd.snd.snd.snd.snd.fst,x4.snd.snd.snd.snd.snd.snd.snd.snd.fst,x4.snd.snd.snd.snd.snd.snd.snd.snd.snd.fst,x4.snd.snd.snd.snd.snd.snd.snd.snd.snd.snd)) else some (Sum.inr (x4.snd.fst,x4.snd.snd.fst,x4.snd.snd.snd.fst,x4.snd.snd.snd.snd.fst))) (0,x2.snd.fst,x2.snd.snd.fst,x2.snd.snd.snd.fst,x2.snd.snd.snd.snd,x3.Name,x3.Delay,x3.Prio,x3.In,x3.Not,x3.Out)).bind fun (x4:Int×List Int×List Int×List TLane)=>some (Sum.inl (IntKind.i64.wrap (x2.fst+1),x4.fst,x4.snd.fst,x4.snd.snd.fst,x4.snd.snd.snd)) else some (Sum.inr x2.snd.snd.snd.snd)) (0,x.snd.snd.fst,x.snd.snd.snd.fst,x.snd.snd.snd.snd,[])).bind fun (l2:List TLane)=>(gf l2).bind fun (l3:List TLane)=>(k9 l3).bind fun (l4:List TLane)=>some l4
theorem e24:vfn (T:=tE) lpK H24 (a6 [sP,rV,n36]) q24 DM.res (vOf DM.code L24)=p24:=by kernel_rfl
abbrev n24:En tE:=⟨24,[],q24,p24⟩
theorem o24:aB F tE 24 q24 2 p24:=by
 rw [← e24]
 exact aw (fn:=DM) (af (en:=sP) (af (en:=rV) (af (en:=n36) ah o36 rfl) xY rfl) zH rfl) rfl (by kernel_rfl)
def q64:FSp:=⟨[(true,[.d false (.sl false (.st 2)),.d false (.sl false (.st 1))])],[],[],[.ld 0 false,.r 0,.slot 0 false,.sl (.int .i64)]⟩
def L64:List (Nat×Lb):=[(4,.l [.ld 11 false,.d false (.sl false (.st 2)),.slot 11 false,.ld 12 false,.d true (.int .i64),.slot 12 false] [.ld 3 false,.r 0,.slot 3 false,.ld 13 false,.d true (.int .i64),.slot 13 false,.sl (.int .i64)] [(some 0,[.ld 3 false,.r 0,.slot 3 false,.sl (.int .i64)])])]
def H64:List (Nat×VT):=[(9,(.int .i64))]
def p64:List TPlace×List TTrans→Option (List Int):=fun (x:List TPlace×List TTrans)=>(mkS 8 (↑x.fst.length:Int) (↑x.fst.length:Int) 0).bind fun (l1:List Int)=>(aq (fun (x2:Int×List Int)=>if x2.fst < (↑x.fst.length:Int) then (idx x.fst x2.fst).bind fun (x3:TPlace)=>(idx x2.snd x2.fst).bind fun (n4:Int)=>some (Sum.inl (IntKind.i64.wrap (x2.fst+1),x2.snd.set x2.fst.toNat x3.Tokens)) else some (Sum.inr x2.snd)) (0,l1)).bind fun (l2:List Int)=>some l2
theorem e64:vfn (T:=tE) lpK H64 (a6 []) q64 B2.res (vOf B2.code L64)=p64:=by kernel_rfl
abbrev n64:En tE:=⟨64,[],q64,p64⟩
theorem o64:aB F tE 64 q64 1 p64:=by
 rw [← e64]
 exact aw (fn:=B2) ah rfl (by kernel_rfl)
def q65:FSp:=⟨[(false,[.d false (.sl false .bool)]),(false,[.d true (.int .i64)])],[],[],[.ld 0 false,.d true .bool,.slot 0 false]⟩
def L65:List (Nat×Lb):=[]
def H65:List (Nat×VT):=[]
def p65:List Bool×Int→Option Bool:=fun (x:List Bool×Int)=>if x.snd < (↑x.fst.length:Int) then (idx x.fst x.snd).bind fun (b1:Bool)=>some b1 else some false
theorem e65:vfn (T:=tE) lpK H65 (a6 []) q65 CF.res (vOf CF.code L65)=p65:=by kernel_rfl
abbrev n65:En tE:=⟨65,[],q65,p65⟩
theorem o65:aB F tE 65 q65 2 p65:=by
 rw [← e65]
 exact aw (fn:=CF) ah rfl (by kernel_rfl)
def q66:FSp:=⟨[(true,[.d true .str,.d true (.int .i64),.d true (.int .i64),.d false (.sl false (.st 0)),.d false (.sl false (.st 0)),.d false (.sl false (.st 0))]),(false,[.d false (.sl false (.int .i64))])],[],[],[.ld 0 false,.d true .bool,.slot 0 false]⟩
def L66:List (Nat×Lb):=[(3,.l [.ld 1 false,.d false (.sl false (.int .i64)),.slot 1 false,.ld 10 false,.d false (.sl false (.st 0)),.slot 10 false,.ld 11 false,.d true (.int .i64),.slot 11 false] [.ld 2 false,.ptr 0 0,.slot 2 false,.ld 4 false,.c (.bool false),.slot 4 false,.ld 12 false,.d true (.int .i64),.slot 12 false,.ldr,.d true .str,.d true (.int .i64),.d true (.int .i64),.d false (.sl false (.st 0)),.d false (.sl false (.st 0)),.d false (.sl false (.st 0)),.row] [(some 0,[.ld 2 false,.ptr 0 0,.slot 2 false,.ld 4 false,.c (.bool false),.slot 4 false,.ldr,.d true .str,.d true (.int .i64),.d true (.int .i64),.d false (.sl false (.st 0)),.d false (.sl false (.st 0)),.d false (.sl false (.st 0)),.row]),(none,[.ld 4 false,.c (.bool false),.slot 4 false])]),(12,.l [.ld 1 false,.d false (.sl false (.int .i64)),.slot 1 false,.ld 26 false,.d false (.sl false (.st 0)),.slot 26 false,.ld 27 false,.d true (.int .i64),.slot 27 false] [.ld 4 false,.c (.bool false),.slot 4 false,.ld 28 false,.d true (.int .i64),.slot 28 false] [(some 2,[]),(none,[.ld 4 false,.c (.bool false),.slot 4 false])])]
def H66:List (Nat×VT):=[]
def p66:List UInt8×Int×Int×List TArc×List TArc×List TArc×List Int→Option Bool:=fun (x:List UInt8×Int×Int×List TArc×List TArc×List TArc×List Int)=>
  (aq (fun (x1:Int×List UInt8×Int×Int×List TArc×List TArc×List TArc)=>if x1.fst < (↑x.snd.snd.snd.fst.length:Int) then (idx x.snd.snd.snd.fst x1.fst).bind fun (x2:TArc)=>(idx x.snd.snd.snd.snd.snd.snd x2.Place).bind fun (n3:Int)=>if n3 < x2.N then some (Sum.inr (Sum.inr ())) else some (Sum.inl (IntKind.i64.wrap (x1.fst+1),x1.snd.fst,x1.snd.snd.fst,x1.snd.snd.snd.fst,x1.snd.snd.snd.snd.fst,x1.snd.snd.snd.snd.snd.fst,x1.snd.snd.snd.snd.snd.snd)) else some (Sum.inr (Sum.inl (x1.snd.fst,x1.snd.snd.fst,x1.snd.snd.snd.fst,x1.snd.snd.snd.snd.fst,x1.snd.snd.snd.snd.snd.fst,x1.snd.snd.snd.snd.snd.snd)))) (0,x.fst,x.snd.fst,x.snd.snd.fst,x.snd.snd.snd.fst,x.snd.snd.snd.snd.fst,x.snd.snd.snd.snd.snd.fst)).bind fun (x1:List UInt8×Int×Int×List TArc×List TArc×List TArc⊕Unit)=>
    match x1 with
    | Sum.inl x_1=>
      (aq (fun (n3:Int)=>if n3 < (↑x_1.snd.snd.snd.snd.fst.length:Int) then (idx x_1.snd.snd.snd.snd.fst n3).bind fun (x4:TArc)=>(idx x.snd.snd.snd.snd.snd.snd x4.Place).bind fun (n5:Int)=>if x4.N≤n5 then some (Sum.inr (Sum.inr ())) else some (Sum.inl (IntKind.i64.wrap (n3+1))) else some (Sum.inr (Sum.inl ()))) 0).bind fun (x3:Unit⊕Unit)=>
        match x3 with
        | Sum.inl x=>some true
        | Sum.inr y=>some false
    | Sum.inr y=>some false
theorem e66:vfn (T:=tE) lpK H66 (a6 []) q66 DU.res (vOf DU.code L66)=p66:=by kernel_rfl
abbrev n66:En tE:=⟨66,[],q66,p66⟩
theorem o66:aB F tE 66 q66 2 p66:=by
 rw [← e66]
 exact aw (fn:=DU) ah rfl (by kernel_rfl)
def q37:FSp:=⟨[(true,[.d true (.sl false (.st 2)),.d true (.sl false (.st 1))]),(false,[.d true (.sl false .bool)]),(false,[.d true (.sl false .bool)])],[],[],[.ld 0 false,.ptr 0 0,.slot 0 false,.pr (.st 10)]⟩
def L37:List (Nat×Lb):=[(4,.l [.ld 1 false,.d true (.sl false .bool),.slot 1 false,.ld 34 false,.d true (.sl false (.st 1)),.slot 34 false,.ld 35 false,.d true (.int .i64),.slot 35 false] [.ld 7 false,.ptr 0 0,.slot 7 false,.ld 36 false,.d true (.int .i64),.slot 36 false,.ldr,.d true (.sl false (.st 2)),.d true (.sl false (.st 1)),.d true (.sl false .bool),.r 1,.r 2,.r 3,.c .nilSlice,.c .nilMap,.c .nilSlice,.r 4,.d true (.int .i64),.c .nilSlice,.d true (.sl false .bool),.d true (.int .i64),.row,.sl (.sl true (.int .i64)),.sl .bool,.sl (.int .i64),.sl (.int .i64)] [(some 0,[.ld 7 false,.ptr 0 0,.slot 7 false,.ldr,.d true (.sl false (.st 2)),.d true (.sl false (.st 1)),.d true (.sl false .bool),.r 1,.r 2,.r 3,.c .nilSlice,.c .nilMap,.c .nilSlice,.r 4,.d true (.int .i64),.c .nilSlice,.d true (.sl false .bool),.d true (.int .i64),.row,.sl (.sl true (.int .i64)),.sl .bool,.sl (.int .i64),.sl (.int .i64)])]),(13,.l [.ld 8 false,.d true (.int .i64),.slot 8 false,.ld 36 false,.d true (.int .i64),.slot 36 false,.ld 50 false,.d true (.int .i64),.slot 50 false] [.ld 7 false,.ptr 0 0,.slot 7 false,.ld 9 false,.ptr 1 0,.slot 9 false,.ld 49 false,.r 2,.slot 49 false,.ld 51 false,.d true (.int .i64),.slot 51 false,.ldr,.d true (.sl false (.st 2)),.d true (.sl false (.st 1)),.d true (.sl false .bool),.r 3,.r 4,.r 5,.c .nilSlice,.c .nilMap,.c .nilSlice,.r 6,.d true (.int .i64),.c .nilSlice,.d true (.sl false .bool),.d true (.int .i64),.row,.pr (.st 1),.sl (.sl false (.st 0)),.sl (.sl true (.int .i64)),.sl .bool,.sl (.int .i64),.sl (.int .i64)] [(some 2,[.ld 7 false,.ptr 0 0,.slot 7 false,.ld 9 false,.ptr 1 0,.slot 9 false,.ldr,.d true (.sl false (.st 2)),.d true (.sl false (.st 1)),.d true (.sl false .bool),.r 2,.r 3,.r 4,.c .nilSlice,.c .nilMap,.c .nilSlice,.r 5,.d true (.int .i64),.c .nilSlice,.d true (.sl false .bool),.d true (.int .i64),.row,.pr (.st 1),.sl (.sl true (.int .i64)),.sl .bool,.sl (.int .i64),.sl (.int .i64)])]),(19,.l [.ld 51 false,.d true (.int .i64),.slot 51 false,.ld 55 false,.d true (.sl false (.st 0)),.slot 55 false,.ld 56 false,.d true (.int .i64),.slot 56 false] [.ld 7 false,.ptr 0 0,.slot 7 false,.ld 9 false,.ptr 1 0,.slot 9 false,.ld 49 false,.r 2,.slot 49 false,.ld 57 false,.d true (.int .i64),.slot 57 false,.ldr,.d true (.sl false (.st 2)),.d true (.sl false (.st 1)),.d true (.sl false .bool),.r 3,.r 4,.r 5,.c .nilSlice,.c .nilMap,.c .nilSlice,.r 6,.d true (.int .i64),.c .nilSlice,.d true (.sl false .bool),.d true (.int .i64),.row,.pr (.st 1),.sl (.sl false (.st 0)),.sl (.sl true (.int .i64)),.sl .bool,.sl (.int .i64),.sl (.int .i64)] [(some 4,[.ld 7 false,.ptr 0 0,.slot 7 false,.ld 9 false,.ptr 1 0,.slot 9 false,.ld 49 false,.r 2,.slot 49 false,.ldr,.d true (.sl false (.st 2)),.d true (.sl false (.st 1)),.d true (.sl false .bool),.r 3,.r 4,.r 5,.c .nilSlice,.c .nilMap,.c .nilSlice,.r 6,.d true (.int .i64),.c .nilSlice,.d true (.sl false .bool),.d true (.int .i64),.row,.pr (.st 1),.sl (.sl false (.st 0)),.sl (.sl true (.int .i64)),.sl .bool,.sl (.int .i64),.sl (.int .i64)])])]
def H37:List (Nat×VT):=[(20,(.sl true (.int .i64))),(24,.bool),(30,(.int .i64)),(49,(.sl false (.st 0))),(76,(.int .i64))]
def p37:List TPlace×List TTrans×List Bool×List Bool→Option TEngine:=fun (x:List TPlace×List TTrans×List Bool×List Bool)=>(mkS 24 (↑x.fst.length:Int) (↑x.fst.length:Int) []).bind fun (l1:List (List Int))=>(mkS 1 (↑x.snd.fst.length:Int) (↑x.snd.fst.length:Int) false).bind fun (l2:List Bool)=>(mkS 8 (↑x.fst.length:Int) (↑x.fst.length:Int) 0).bind fun (l3:List Int)=>(p64 (x.fst,x.snd.fst)).bind fun (l4:List Int)=>(aq (fun (x5:Int×List TPlace×List TTrans×List Bool×Int×List Bool×Int×List (List Int)×List Bool×List Int×List Int)=>if x5.fst < (↑x.snd.fst.length:Int) then (idx x.snd.fst x5.fst).bind fun (x6:TTrans)=>(p65 (x.snd.snd.fst,x5.fst)).bind fun (b7:Bool)=>if (!b7)=true then some (Sum.inl (IntKind.i64.wrap (x5.fst+1),x5.snd.fst,x5.snd.snd.fst,x5.snd.snd.snd.fst,x5.snd.snd.snd.snd.fst,x5.snd.snd.snd.snd.snd.fst,x5.snd.snd.snd.snd.snd.snd.fst,x5.snd.snd.snd.snd.snd.snd.snd.fst,x5.snd.snd.snd.snd.snd.snd.snd.snd.fst,x5.snd.snd.snd.snd.snd.snd.snd.snd.snd.fst,x5.snd.snd.snd.snd.snd.snd.snd.snd.snd.snd)) else (aq (fun (x8:Int×List TPlace×List TTrans×List Bool×Int×List Bool×Int×TTrans×List (List TArc)×List (List Int)×List Bool×List Int×List Int)=>if x8.fst < (↑[x6.In,x6.Not].length:Int) then (idx x8.snd.snd.snd.snd.snd.snd.snd.snd.fst x8.fst).bind fun (l9:List TArc)=>(aq (fun (x10:Int×List TPlace×List TTrans×List Bool×Int×List Bool×Int×TTrans×List (List TArc)×List (List Int)×List Bool×List Int×List Int)=>if x10.fst < (↑l9.length:Int) then (idx l9 x10.fst).bind fun (x11:TArc)=>(idx x10.snd.snd.snd.snd.snd.snd.snd.snd.snd.fst x11.Place).bind fun (l12:List Int)=>(app 8 l12 [x5.fst]).bind fun (l13:List Int)=>(idx x10.snd.snd.snd.snd.snd.snd.snd.snd.snd.fst x11.Place).bind fun (l14:List Int)=>if x11.Place.toNat=x11.Place.toNat then some (Sum.inl (IntKind.i64.wrap (x10.fst+1),x10.snd.fst,x10.snd.snd.fst,x10.snd.snd.snd.fst,x10.snd.snd.snd.snd.fst,x10.snd.snd.snd.snd.snd.fst,x10.snd.snd.snd.snd.snd.snd.fst,x10.snd.snd.snd.snd.snd.snd.snd.fst,x10.snd.snd.snd.snd.snd.snd.snd.snd.fst,x10.snd.snd.snd.snd.snd.snd.snd.snd.snd.fst.set x11.Place.toNat l13,x10.snd.snd.snd.snd.snd.snd.snd.snd.snd.snd.fst,x10.snd.snd.snd.snd.snd.snd.snd.snd.snd.snd.snd.fst,x10.snd.snd.snd.snd.snd.snd.snd.snd.snd.snd.snd.snd)) else none else some (Sum.inr (x10.snd.fst,x10.snd.snd.fst,x10.snd.snd.snd.fst,x10.snd.snd.snd.snd.fst,x10.snd.snd.snd.snd.snd.fst,x10.snd.snd.snd.snd.snd.snd.fst,x10.snd.snd.snd.snd.snd.snd.snd.fst,x10.snd.snd.snd.snd.snd.snd.snd.snd.fst,x10.snd.snd.snd.snd.snd.snd.snd.snd.snd.fst,x10.snd.snd.snd.snd.snd.snd.snd.snd.snd.snd.fst,x10.snd.snd.snd.snd.snd.snd.snd.snd.snd.snd.snd.fst,x10.snd.snd.snd.snd.snd.snd.snd.snd.snd.snd.snd.snd))) (0,x8.snd.fst,x8.snd.snd.fst,x8.snd.snd.snd.fst,x8.snd.snd.snd.snd.fst,x8.snd.snd.snd.snd.snd.fst,x8.snd.snd.snd.snd.snd.snd.fst,x8.snd.snd.snd.snd.snd.snd.snd.fst,x8.snd.snd.snd.snd.snd.snd.snd.snd.fst,x8.snd.snd.snd.snd.snd.snd.snd.snd.snd.fst,x8.snd.snd.snd.snd.snd.snd.snd.snd.snd.snd.fst,x8.snd.snd.snd.snd.snd.snd.snd.snd.snd.snd.snd.fst,x8.snd.snd.snd.snd.snd.snd.snd.snd.snd.snd.snd.snd)).bind fun (x10:List TPlace×List TTrans×List Bool×Int×List Bool×Int×TTrans×List (List TArc)×List (List Int)×List Bool×List Int×List Int)=>some (Sum.inl (IntKind.i64.wrap (x8.fst+1),x10.fst,x10.snd.fst,x10.snd.snd.fst,x10.snd.snd.snd.fst,x10.snd.snd.snd.snd.fst,x10.snd.snd.snd.snd.snd.fst,x10.snd.snd.snd.snd.snd.snd.fst,x10.snd.snd.snd.snd.snd.snd.snd.fst,x10.snd.snd.snd.snd.snd.snd.snd.snd.fst,x10.snd.snd.snd.snd.snd.snd.snd.snd.snd.fst,x10.snd.snd.snd.snd.snd.snd.snd.snd.snd.snd.fst,x10.snd.snd.snd.snd.snd.snd.snd.snd.snd.snd.snd)) else some (Sum.inr (x8.snd.fst,x8.snd.snd.fst,x8.snd.snd.snd.fst,x8.snd.snd.snd.snd.fst,x8.snd.snd.snd.snd.snd.fst,x8.snd.snd.snd.snd.snd.snd.fst,x8.snd.snd.snd.snd.snd.snd.snd.fst,x8.snd.snd.snd.snd.snd.snd.snd.snd.snd.fst,x8.snd.snd.snd.snd.snd.snd.snd.snd.snd.snd.fst,x8.snd.snd.snd.snd.snd.snd.snd.snd.snd.snd.snd.fst,x8.snd.snd.snd.snd.snd.snd.snd.snd.snd.snd.snd.snd))) (0,x5.snd.fst,x5.snd.snd.fst,x5.snd.snd.snd.fst,x5.snd.snd.snd.snd.fst,x5.snd.snd.snd.snd.snd.fst,x5.snd.snd.snd.snd.snd.snd.fst,x6,[x6.In,x6.Not],x5.snd.snd.snd.snd.snd.snd.snd.fst,x5.snd.snd.snd.snd.snd.snd.snd.snd.fst,x5.snd.snd.snd.snd.snd.snd.snd.snd.snd.fst,x5.snd.snd.snd.snd.snd.snd.snd.snd.snd.snd)).bind fun (x8:List TPlace×List TTrans×List Bool×Int×List Bool×Int×TTrans×List (List Int)×List Bool×List Int×List Int)=>(p66 (x8.snd.snd.snd.snd.snd.snd.fst.Name,x8.snd.snd.snd.snd.snd.snd.fst.Delay,x8.snd.snd.snd.snd.snd.snd.fst.Prio,x8.snd.snd.snd.snd.snd.snd.fst.In,x8.snd.snd.snd.snd.snd.snd.fst.Not,x8.snd.snd.snd.snd.snd.snd.fst.Out,x8.snd.snd.snd.snd.snd.snd.snd.snd.snd.fst)).bind fun (b9:Bool)=>(idx x8.snd.snd.snd.snd.snd.snd.snd.snd.fst x5.fst).bind fun (b10:Bool)=>some (Sum.inl (IntKind.i64.wrap (x5.fst+1),x8.fst,x8.snd.fst,x8.snd.snd.fst,x8.snd.snd.snd.fst,x8.snd.snd.snd.snd.fst,x8.snd.snd.snd.snd.snd.fst,x8.snd.snd.snd.snd.snd.snd.snd.fst,x8.snd.snd.snd.snd.snd.snd.snd.snd.fst.set x5.fst.toNat b9,x8.snd.snd.snd.snd.snd.snd.snd.snd.snd.fst,x8.snd.snd.snd.snd.snd.snd.snd.snd.snd.snd)) else some (Sum.inr (x5.snd.fst,x5.snd.snd.fst,x5.snd.snd.snd.fst,x5.snd.snd.snd.snd.fst,x5.snd.snd.snd.snd.snd.fst,x5.snd.snd.snd.snd.snd.snd.fst,x5.snd.snd.snd.snd.snd.snd.snd.fst,x5.snd.snd.snd.snd.snd.snd.snd.snd.fst,x5.snd.snd.snd.snd.snd.snd.snd.snd.snd.fst,x5.snd.snd.snd.snd.snd.snd.snd.snd.snd.snd))) (0,x.fst,x.snd.fst,x.snd.snd.fst,0,x.snd.snd.snd,0,l1,l2,l4,l3)).bind fun (x5:List TPlace×List TTrans×List Bool×Int×List Bool×Int×List (List Int)×List Bool×List Int×List Int)=>some { n:={ Places:=x5.fst,Trans:=x5.snd.fst },mine:=x5.snd.snd.fst,near:=x5.snd.snd.snd.snd.snd.snd.fst,ready:=x5.snd.snd.snd.snd.snd.snd.snd.fst,marks:=x5.snd.snd.snd.snd.snd.snd.snd.snd.fst,wait:={ l:=[] },in_:=none,log:=[],way:=x5.snd.snd.snd.snd.snd.snd.snd.snd.snd,time:=x5.snd.snd.snd.fst,out:=[],away:=x5.snd.snd.snd.snd.fst,count:=x5.snd.snd.snd.snd.snd.fst }
theorem e37:vfn (T:=tE) lpK H37 (a6 [n64,n65,n66]) q37 D4.res (vOf D4.code L37)=p37:=by kernel_rfl
abbrev n37:En tE:=⟨37,[],q37,p37⟩
theorem o37:aB F tE 37 q37 3 p37:=by
 rw [← e37]
 exact aw (fn:=D4) (af (en:=n64) (af (en:=n65) (af (en:=n66) ah o66 rfl) o65 rfl) o64 rfl) rfl (by kernel_rfl)
def q14:FSp:=⟨[(true,[.d true (.sl false (.st 2)),.d true (.sl false (.st 1))]),(true,[.d true (.int .i64),.d true (.sl false (.int .i64)),.d true (.sl false (.int .i64))]),(false,[.d true (.int .i64)]),(false,[.d true (.int .i64)])],[],[],[.ld 0 false,.r 0,.slot 0 false,.ld 1 false,.d true (.int .i64),.slot 1 false,.po (.st 11)]⟩
def L14:List (Nat×Lb):=[(6,.j [.ld 2 false,.d true (.int .i64),.slot 2 false,.ld 3 false,.d true (.int .i64),.slot 3 false,.ld 4 false,.ptr 0 0,.slot 4 false,.ld 5 false,.ptr 1 0,.slot 5 false,.ld 33 false,.d true .bool,.slot 33 false,.ldr,.d true (.sl false (.st 2)),.d true (.sl false (.st 1)),.row,.ldr,.d true (.int .i64),.d true (.sl false (.int .i64)),.d true (.sl false (.int .i64)),.row]),(12,.l [.ld 2 false,.d true (.int .i64),.slot 2 false,.ld 49 false,.d true (.sl false (.int .i64)),.slot 49 false,.ld 50 false,.d true (.int .i64),.slot 50 false] [.ld 4 false,.ptr 0 0,.slot 4 false,.ld 5 false,.ptr 1 0,.slot 5 false,.ld 11 false,.ptr 2 0,.slot 11 false,.ld 12 false,.r 3,.slot 12 false,.ld 13 false,.r 4,.slot 13 false,.ld 51 false,.d true (.int .i64),.slot 51 false,.ldr,.d true (.sl false (.st 2)),.d true (.sl false (.st 1)),.row,.ldr,.d true (.int .i64),.d true (.sl false (.int .i64)),.d true (.sl false (.int .i64)),.row,.pr (.st 11),.sl .bool,.sl .bool] [(some 0,[.ld 4 false,.ptr 0 0,.slot 4 false,.ld 5 false,.ptr 1 0,.slot 5 false,.ld 11 false,.ptr 2 0,.slot 11 false,.ld 12 false,.r 3,.slot 12 false,.ld 13 false,.r 4,.slot 13 false,.ldr,.d true (.sl false (.st 2)),.d true (.sl false (.st 1)),.row,.ldr,.d true (.int .i64),.d true (.sl false (.int .i64)),.d true (.sl false (.int .i64)),.row,.pr (.st 11),.sl .bool,.sl .bool])]),(19,.l [.ld 2 false,.d true (.int .i64),.slot 2 false,.ld 64 false,.d true (.sl false (.int .i64)),.slot 64 false,.ld 65 false,.d true (.int .i64),.slot 65 false] [.ld 4 false,.ptr 0 0,.slot 4 false,.ld 5 false,.ptr 1 0,.slot 5 false,.ld 11 false,.ptr 2 0,.slot 11 false,.ld 12 false,.r 3,.slot 12 false,.ld 13 false,.r 4,.slot 13 false,.ld 66 false,.d true (.int .i64),.slot 66 false,.ldr,.d true (.sl false (.st 2)),.d true (.sl false (.st 1)),.row,.ldr,.d true (.int .i64),.d true (.sl false (.int .i64)),.d true (.sl false (.int .i64)),.row,.pr (.st 11),.sl .bool,.sl .bool] [(some 2,[.ld 4 false,.ptr 0 0,.slot 4 false,.ld 5 false,.ptr 1 0,.slot 5 false,.ld 11 false,.ptr 2 0,.slot 11 false,.ld 12 false,.r 3,.slot 12 false,.ld 13 false,.r 4,.slot 13 false,.ldr,.d true (.sl false (.st 2)),.d true (.sl false (.st 1)),.row,.ldr,.d true (.int .i64),.d true (.sl false (.int .i64)),.d true (.sl false (.int .i64)),.row,.pr (.st 11),.sl .bool,.sl .bool])]),(27,.l [.ld 2 false,.d true (.int .i64),.slot 2 false,.ld 89 false,.d true (.int .i64),.slot 89 false] [.ld 11 false,.ptr 0 0,.slot 11 false,.ld 88 false,.r 1,.slot 88 false,.ld 90 false,.d true (.int .i64),.slot 90 false,.pr (.st 11),.sl (.st 5)] [(some 4,[.ld 11 false,.ptr 0 0,.slot 11 false,.pr (.st 11)])]),(32,.j [.ld 11 false,.ptr 0 0,.slot 11 false,.ld 19 false,.ptr 1 0,.slot 19 false,.ld 88 false,.r 2,.slot 88 false,.ld 90 false,.d true (.int .i64),.slot 90 false,.pr (.st 11),.pr (.st 5),.sl (.st 5)])]
def H14:List (Nat×VT):=[(43,.bool),(47,.bool),(105,(.st 5)),(111,(.int .i64)),(128,(.st 5)),(134,(.int .i64))]
def p14:List TPlace×List TTrans×Int×List Int×List Int×Int×Int→Option (Int×Option TProcess):=fun (x:List TPlace×List TTrans×Int×List Int×List Int×Int×Int)=>
  (p36 (x.fst,x.snd.fst,x.snd.snd.fst,x.snd.snd.snd.fst,x.snd.snd.snd.snd.fst)).bind fun (n1:Int)=>
    if (!decide (n1=0))=true then some (n1,none)
    else
      (if x.snd.snd.snd.snd.snd.fst < 0 then some (Sum.inl (x.snd.snd.snd.snd.snd.fst,x.snd.snd.snd.snd.snd.snd,true,x.fst,x.snd.fst,x.snd.snd.fst,x.snd.snd.snd.fst,x.snd.snd.snd.snd.fst)) else some (Sum.inl (x.snd.snd.snd.snd.snd.fst,x.snd.snd.snd.snd.snd.snd,decide (x.snd.snd.fst≤x.snd.snd.snd.snd.snd.fst),x.fst,x.snd.fst,x.snd.snd.fst,x.snd.snd.snd.fst,x.snd.snd.snd.snd.fst))).bind fun (x2:Int×Int×Bool×List TPlace×List TTrans×Int×List Int×List Int⊕Int×Option TProcess)=>
        match x2 with
        | Sum.inl x=>
          if x.snd.snd.fst=true then some (1,none)
          else
            (mkS 1 (↑x.snd.snd.snd.snd.fst.length:Int) (↑x.snd.snd.snd.snd.fst.length:Int) false).bind fun (l4:List Bool)=>
              (mkS 1 (↑x.snd.snd.snd.fst.length:Int) (↑x.snd.snd.snd.fst.length:Int) false).bind fun (l5:List Bool)=>
                (aq (fun (x6:Int×List TPlace×List TTrans×Int×List Int×List Int×TProcess×List Bool×List Bool)=>if x6.fst < (↑x.snd.snd.snd.snd.snd.snd.snd.length:Int) then (idx x.snd.snd.snd.snd.snd.snd.snd x6.fst).bind fun (n7:Int)=>(idx x6.snd.snd.snd.snd.snd.snd.snd.fst x6.fst).bind fun (b8:Bool)=>some (Sum.inl (IntKind.i64.wrap (x6.fst+1),x6.snd.fst,x6.snd.snd.fst,x6.snd.snd.snd.fst,x6.snd.snd.snd.snd.fst,x6.snd.snd.snd.snd.snd.fst,x6.snd.snd.snd.snd.snd.snd.fst,x6.snd.snd.snd.snd.snd.snd.snd.fst.set x6.fst.toNat (decide (n7=x.fst)),x6.snd.snd.snd.snd.snd.snd.snd.snd)) else some (Sum.inr (x6.snd.fst,x6.snd.snd.fst,x6.snd.snd.snd.fst,x6.snd.snd.snd.snd.fst,x6.snd.snd.snd.snd.snd.fst,x6.snd.snd.snd.snd.snd.snd.fst,x6.snd.snd.snd.snd.snd.snd.snd.fst,x6.snd.snd.snd.snd.snd.snd.snd.snd))) (0,x.snd.snd.snd.fst,x.snd.snd.snd.snd.fst,x.snd.snd.snd.snd.snd.fst,x.snd.snd.snd.snd.snd.snd.fst,x.snd.snd.snd.snd.snd.snd.snd,{ id:=x.fst,x:=none,p:={ N:=x.snd.snd.snd.snd.snd.fst,Places:=x.snd.snd.snd.snd.snd.snd.fst,Trans:=x.snd.snd.snd.snd.snd.snd.snd },in_:=[],out:=[],clocks:=[],sent:=[],horizon:=if 1099511627777 < x.snd.fst then 1099511627777 else x.snd.fst,began:=false,done:=false },l4,l5)).bind fun (x6:List TPlace×List TTrans×Int×List Int×List Int×TProcess×List Bool×List Bool)=>
                  (aq (fun (x7:Int×List TPlace×List TTrans×Int×List Int×List Int×TProcess×List Bool×List Bool)=>if x7.fst < (↑x6.snd.snd.snd.fst.length:Int) then (idx x6.snd.snd.snd.fst x7.fst).bind fun (n8:Int)=>(idx x7.snd.snd.snd.snd.snd.snd.snd.snd x7.fst).bind fun (b9:Bool)=>some (Sum.inl (IntKind.i64.wrap (x7.fst+1),x7.snd.fst,x7.snd.snd.fst,x7.snd.snd.snd.fst,x7.snd.snd.snd.snd.fst,x7.snd.snd.snd.snd.snd.fst,x7.snd.snd.snd.snd.snd.snd.fst,x7.snd.snd.snd.snd.snd.snd.snd.fst,x7.snd.snd.snd.snd.snd.snd.snd.snd.set x7.fst.toNat !decide (n8=x.fst))) else some (Sum.inr (x7.snd.fst,x7.snd.snd.fst,x7.snd.snd.snd.fst,x7.snd.snd.snd.snd.fst,x7.snd.snd.snd.snd.snd.fst,x7.snd.snd.snd.snd.snd.snd.fst,x7.snd.snd.snd.snd.snd.snd.snd.fst,x7.snd.snd.snd.snd.snd.snd.snd.snd))) (0,x6.fst,x6.snd.fst,x6.snd.snd.fst,x6.snd.snd.snd.fst,x6.snd.snd.snd.snd.fst,x6.snd.snd.snd.snd.snd.fst,x6.snd.snd.snd.snd.snd.snd.fst,x6.snd.snd.snd.snd.snd.snd.snd)).bind fun (x7:List TPlace×List TTrans×Int×List Int×List Int×TProcess×List Bool×List Bool)=>
                    (p37 (x7.fst,x7.snd.fst,x7.snd.snd.snd.snd.snd.snd.fst,x7.snd.snd.snd.snd.snd.snd.snd)).bind fun (x8:TEngine)=>
                      (p24 (x7.fst,x7.snd.fst,x7.snd.snd.fst,x7.snd.snd.snd.fst,x7.snd.snd.snd.snd.fst)).bind fun (l9:List TLane)=>
                        (aq
                              (fun (x10:Int×TProcess×List TLane)=>
                                if x10.fst < (↑l9.length:Int) then
                                  (idx x10.snd.snd x10.fst).bind fun (x11:TLane)=>
                                    (if x11.To=x.fst then (app 24 x10.snd.fst.in_ [x11]).bind fun (l12:List TLane)=>(app 8 x10.snd.fst.clocks [0]).bind fun (l13:List Int)=>some (Sum.inl (x10.fst,{ id:=x10.snd.fst.id,x:=x10.snd.fst.x,p:=x10.snd.fst.p,in_:=l12,out:=x10.snd.fst.out,clocks:=l13,sent:=x10.snd.fst.sent,horizon:=x10.snd.fst.horizon,began:=x10.snd.fst.began,done:=x10.snd.fst.done },x11,x10.snd.snd)) else some (Sum.inl (x10.fst,x10.snd.fst,x11,x10.snd.snd))).bind fun (x12:Int×TProcess×TLane×List TLane⊕Int×TProcess×List TLane⊕TProcess)=>
                                      match x12 with
                                      | Sum.inl x_1=>if x_1.snd.snd.fst.From=x.fst then (app 24 x_1.snd.fst.out [x_1.snd.snd.fst]).bind fun (l14:List TLane)=>(app 8 x_1.snd.fst.sent [0]).bind fun (l15:List Int)=>some (Sum.inl (IntKind.i64.wrap (x_1.fst+1),{ id:=x_1.snd.fst.id,x:=x_1.snd.fst.x,p:=x_1.snd.fst.p,in_:=x_1.snd.fst.in_,out:=l14,clocks:=x_1.snd.fst.clocks,sent:=l15,horizon:=x_1.snd.fst.horizon,began:=x_1.snd.fst.began,done:=x_1.snd.fst.done },x_1.snd.snd.snd)) else some (Sum.inl (IntKind.i64.wrap (x_1.fst+1),x_1.snd.fst,x_1.snd.snd.snd))
                                      | Sum.inr r=>some r
                                else some (Sum.inr x10.snd.fst))
                              (0,{ id:=x7.snd.snd.snd.snd.snd.fst.id,x:=some x8,p:=x7.snd.snd.snd.snd.snd.fst.p,in_:=x7.snd.snd.snd.snd.snd.fst.in_,out:=x7.snd.snd.snd.snd.snd.fst.out,clocks:=x7.snd.snd.snd.snd.snd.fst.clocks,sent:=x7.snd.snd.snd.snd.snd.fst.sent,horizon:=x7.snd.snd.snd.snd.snd.fst.horizon,began:=x7.snd.snd.snd.snd.snd.fst.began,done:=x7.snd.snd.snd.snd.snd.fst.done },l9)).bind
                          fun (x10:TProcess)=>some (0,some x10)
        | Sum.inr r=>some r
theorem e14:vfn (T:=tE) lpK H14 (a6 [n36,n37,n24]) q14 BX.res (vOf BX.code L14)=p14:=by kernel_rfl
abbrev n14:En tE:=⟨14,[],q14,p14⟩
theorem o14:aB F tE 14 q14 4 p14:=by
 rw [← e14]
 exact aw (fn:=BX) (af (en:=n36) (af (en:=n37) (af (en:=n24) ah o24 rfl) o37 rfl) o36 rfl) rfl (by kernel_rfl)
def nP:FSp:=⟨[(false,[.e false (.st 10) 6])],[],[],[.ld 0 true,.d true (.int .i64),.d true (.int .i64),.d true (.int .i64),.d true (.int .i64),.slot 0 true,.ld 1 false,.d true .bool,.slot 1 false]⟩
def AF:List (Nat×Lb):=[]
def yB:List (Nat×VT):=[]
def kL:TEngine→Option (Int×Int×Int×Int×Bool):=fun (x:TEngine)=>if (↑x.wait.l.length:Int)=0 then some (0,0,0,0,false) else (idx x.wait.l 0).bind fun (x1:TKey)=>some (x1.Time,x1.Prio,x1.ID,x1.N,true)
theorem xm:vfn (T:=tE) lpK yB (a6 []) nP lS.res (vOf lS.code AF)=kL:=by kernel_rfl
abbrev th:En tE:=⟨132,[(0,6)],nP,kL⟩
theorem yr:aB F tE 132 nP 1 kL:=by
 rw [← xm]
 exact aw (fn:=lS) ah rfl (by kernel_rfl)
def FM:FSp:=⟨[(false,[.e false (.st 10) 0])],[],[],[.ld 0 false,.d true (.int .i64),.slot 0 false]⟩
def Ik:List (Nat×Lb):=[]
def HB:List (Nat×VT):=[]
def Ez:TEngine→Option Int:=fun (x:TEngine)=>(kL x).bind fun (x1:Int×Int×Int×Int×Bool)=>if (!x1.snd.snd.snd.snd)=true then some (-1) else some x1.fst
theorem IT:vfn (T:=tE) lpK HB (a6 [th]) FM r9.res (vOf r9.code Ik)=Ez:=by kernel_rfl
abbrev F3:En tE:=⟨128,[],FM,Ez⟩
theorem Im:aB F tE 128 FM 1 Ez:=by
 rw [← IT]
 exact aw (fn:=r9) (af (en:=th) ah yr rfl) rfl (by kernel_rfl)
def q23:FSp:=⟨[(false,[.e false (.st 11) 0])],[],[],[.ld 0 false,.d true (.int .i64),.slot 0 false]⟩
def L23:List (Nat×Lb):=[(7,.l [.ld 11 false,.d false (.sl true (.int .i64)),.slot 11 false,.ld 12 false,.d true (.int .i64),.slot 12 false] [.ld 3 false,.d true (.int .i64),.slot 3 false,.ld 13 false,.d true (.int .i64),.slot 13 false] [(some 0,[.ld 3 false,.d true (.int .i64),.slot 3 false])])]
def H23:List (Nat×VT):=[]
def p23:TProcess→Option Int:=fun (x:TProcess)=>(aq (fun (x1:Int×Int)=>if x1.snd < (↑x.clocks.length:Int) then (idx x.clocks x1.snd).bind fun (n2:Int)=>some (Sum.inl (if n2 < x1.fst then n2 else x1.fst,IntKind.i64.wrap (x1.snd+1))) else some (Sum.inr x1.fst)) (2305843009213693952,0)).bind fun (n1:Int)=>some n1
theorem e23:vfn (T:=tE) lpK H23 (a6 []) q23 xa.res (vOf xa.code L23)=p23:=by kernel_rfl
abbrev n23:En tE:=⟨23,[],q23,p23⟩
theorem o23:aB F tE 23 q23 1 p23:=by
 rw [← e23]
 exact aw (fn:=xa) ah rfl (by kernel_rfl)
def q42:FSp:=⟨[(false,[.e false (.st 11) 0])],[],[],[.ld 0 false,.d true (.int .i64),.slot 0 false]⟩
def L42:List (Nat×Lb):=[]
def H42:List (Nat×VT):=[]
def p42:TProcess→Option Int:=fun (x:TProcess)=>x.x.bind fun (x1:TEngine)=>(Ez x1).bind fun (n2:Int)=>if (!x.began)=true then some 0 else if 0≤n2 then some n2 else some 2305843009213693952
theorem e42:vfn (T:=tE) lpK H42 (a6 [F3]) q42 C5.res (vOf C5.code L42)=p42:=by kernel_rfl
abbrev n42:En tE:=⟨42,[],q42,p42⟩
theorem o42:aB F tE 42 q42 1 p42:=by
 rw [← e42]
 exact aw (fn:=C5) (af (en:=F3) ah Im rfl) rfl (by kernel_rfl)
def q39:FSp:=⟨[(false,[.e false (.st 11) 0])],[],[],[.ld 0 false,.d true .bool,.slot 0 false]⟩
def L39:List (Nat×Lb):=[]
def H39:List (Nat×VT):=[]
def p39:TProcess→Option Bool:=fun (x:TProcess)=>(p42 x).bind fun (n1:Int)=>if n1≤x.horizon then (p42 x).bind fun (n2:Int)=>(p23 x).bind fun (n3:Int)=>some (decide (n2 < n3)) else some false
theorem e39:vfn (T:=tE) lpK H39 (a6 [n42,n23]) q39 Cv.res (vOf Cv.code L39)=p39:=by kernel_rfl
abbrev n39:En tE:=⟨39,[],q39,p39⟩
theorem o39:aB F tE 39 q39 1 p39:=by
 rw [← e39]
 exact aw (fn:=Cv) (af (en:=n42) (af (en:=n23) ah o23 rfl) o42 rfl) rfl (by kernel_rfl)
def q40:FSp:=⟨[(false,[.e false (.st 11) 0])],[],[],[.ld 0 false,.d true .bool,.slot 0 false]⟩
def L40:List (Nat×Lb):=[]
def H40:List (Nat×VT):=[]
def p40:TProcess→Option Bool:=fun (x:TProcess)=>(p42 x).bind fun (n1:Int)=>if x.horizon < n1 then (p23 x).bind fun (n2:Int)=>some (decide (x.horizon < n2)) else some false
theorem e40:vfn (T:=tE) lpK H40 (a6 [n42,n23]) q40 CM.res (vOf CM.code L40)=p40:=by kernel_rfl
abbrev n40:En tE:=⟨40,[],q40,p40⟩
theorem o40:aB F tE 40 q40 1 p40:=by
 rw [← e40]
 exact aw (fn:=CM) (af (en:=n42) (af (en:=n23) ah o23 rfl) o42 rfl) rfl (by kernel_rfl)
def q41:FSp:=⟨[(false,[.e false (.st 11) 0]),(true,[.d true (.int .i64),.d true (.int .i64),.d true (.int .i64)])],[],[],[.ld 0 false,.d true (.int .i64),.slot 0 false]⟩
def L41:List (Nat×Lb):=[]
def H41:List (Nat×VT):=[]
def p41:TProcess×Int×Int×Int→Option Int:=fun (x:TProcess×Int×Int×Int)=>(p42 x.fst).bind fun (n1:Int)=>(p23 x.fst).bind fun (n2:Int)=>some (if IntKind.i64.wrap ((if x.fst.horizon < -1 then -1 else x.fst.horizon)+1) < IntKind.i64.wrap ((if n2 < n1 then n2 else n1)+x.snd.snd.snd) then IntKind.i64.wrap ((if x.fst.horizon < -1 then -1 else x.fst.horizon)+1) else IntKind.i64.wrap ((if n2 < n1 then n2 else n1)+x.snd.snd.snd))
theorem e41:vfn (T:=tE) lpK H41 (a6 [n42,n23]) q41 CD.res (vOf CD.code L41)=p41:=by kernel_rfl
abbrev n41:En tE:=⟨41,[],q41,p41⟩
theorem o41:aB F tE 41 q41 2 p41:=by
 rw [← e41]
 exact aw (fn:=CD) (af (en:=n42) (af (en:=n23) ah o23 rfl) o42 rfl) rfl (by kernel_rfl)
def q16:FSp:=⟨[(false,[.e false (.st 11) 0])],[],[],[.ld 0 false,.d true .bool,.slot 0 false]⟩
def L16:List (Nat×Lb):=[(5,.j [.ld 0 false,.e false (.st 11) 0,.slot 0 false,.ld 2 false,.c (.bool false),.slot 2 false,.ld 18 false,.d true .bool,.slot 18 false]),(9,.l [.ld 0 false,.e false (.st 11) 0,.slot 0 false,.ld 22 false,.d false (.sl true (.st 5)),.slot 22 false,.ld 23 false,.d true (.int .i64),.slot 23 false] [.ld 2 false,.c (.bool false),.slot 2 false,.ld 24 false,.d true (.int .i64),.slot 24 false] [(some 0,[]),(none,[.ld 2 false,.c (.bool true),.slot 2 false])])]
def H16:List (Nat×VT):=[]
def p16:TProcess→Option Bool:=fun (x:TProcess)=>
  if x.done=true then some false
  else
    ((p39 x).bind fun (b1:Bool)=>if b1=true then some (Sum.inl (x,true)) else (p40 x).bind fun (b2:Bool)=>some (Sum.inl (x,b2))).bind fun (x1:TProcess×Bool⊕Bool)=>
      match x1 with
      | Sum.inl x=>
        if x.snd=true then some true
        else
          (aq (fun (n3:Int)=>if n3 < (↑x.fst.out.length:Int) then (idx x.fst.out n3).bind fun (x4:TLane)=>(p41 (x.fst,x4.From,x4.To,x4.Ahead)).bind fun (n5:Int)=>(idx x.fst.sent n3).bind fun (n6:Int)=>if n6 < n5 then some (Sum.inr (Sum.inr ())) else some (Sum.inl (IntKind.i64.wrap (n3+1))) else some (Sum.inr (Sum.inl ()))) 0).bind fun (x3:Unit⊕Unit)=>
            match x3 with
            | Sum.inl x=>some false
            | Sum.inr y=>some true
      | Sum.inr r=>some r
theorem e16:vfn (T:=tE) lpK H16 (a6 [n39,n40,n41]) q16 wz.res (vOf wz.code L16)=p16:=by kernel_rfl
abbrev n16:En tE:=⟨16,[],q16,p16⟩
theorem o16:aB F tE 16 q16 1 p16:=by
 rw [← e16]
 exact aw (fn:=wz) (af (en:=n39) (af (en:=n40) (af (en:=n41) ah o41 rfl) o40 rfl) o39 rfl) rfl (by kernel_rfl)
def E5:FSp:=⟨[(true,[.d true (.int .i64),.d true (.int .i64),.d true (.int .i64),.d true (.int .i64)]),(true,[.d true (.int .i64),.d true (.int .i64),.d true (.int .i64),.d true (.int .i64)])],[],[],[.ld 0 false,.d true .bool,.slot 0 false]⟩
def IY:List (Nat×Lb):=[]
def Hf:List (Nat×VT):=[(25,(.int .i64))]
def BR:Int×Int×Int×Int×Int×Int×Int×Int→Option Bool:=fun (x:Int×Int×Int×Int×Int×Int×Int×Int)=>(p49 (x.fst,x.snd.snd.snd.snd.fst)).bind fun (n1:Int)=>(p49 (x.snd.fst,x.snd.snd.snd.snd.snd.fst)).bind fun (n2:Int)=>(p49 (x.snd.snd.fst,x.snd.snd.snd.snd.snd.snd.fst)).bind fun (n3:Int)=>(p49 (x.snd.snd.snd.fst,x.snd.snd.snd.snd.snd.snd.snd)).bind fun (n4:Int)=>(p48 [n1,n2,n3,n4]).bind fun (n5:Int)=>some (decide (n5 < 0))
theorem G6:vfn (T:=tE) lpK Hf (a6 [n49,n48]) E5 ui.res (vOf ui.code IY)=BR:=by kernel_rfl
abbrev ED:En tE:=⟨138,[],E5,BR⟩
theorem Gu:aB F tE 138 E5 2 BR:=by
 rw [← G6]
 exact aw (fn:=ui) (af (en:=n49) (af (en:=n48) ah o48 rfl) o49 rfl) rfl (by kernel_rfl)
def EJ:FSp:=⟨[(false,[.r 0]),(false,[.d true (.int .i64)]),(false,[.d true (.int .i64)])],[.sl (.int .i64)],[0],[.ld 0 false,.d true .bool,.slot 0 false,.ld 1 false,.r 0,.slot 1 false,.sl (.int .i64)]⟩
def I0:List (Nat×Lb):=[]
def Iz:List (Nat×VT):=[]
def DK:Int×Int×List Int→Option (Bool×List Int):=fun (x:Int×Int×List Int)=>(idx x.snd.snd x.fst).bind fun (n1:Int)=>(idx x.snd.snd x.fst).bind fun (n2:Int)=>(idx (x.snd.snd.set x.fst.toNat (IntKind.i64.wrap (n1+x.snd.fst))) x.fst).bind fun (n3:Int)=>some (decide (n3≤1099511627776),x.snd.snd.set x.fst.toNat (IntKind.i64.wrap (n1+x.snd.fst)))
theorem Hi:vfn (T:=tE) lpK Iz (a6 []) EJ tW.res (vOf tW.code I0)=DK:=by kernel_rfl
abbrev EC:En tE:=⟨134,[],EJ,DK⟩
theorem GD:aB F tE 134 EJ 3 DK:=by
 rw [← Hi]
 exact aw (fn:=tW) ah rfl (by kernel_rfl)
def Fg:FSp:=⟨[(false,[.ptr 0 0]),(false,[.d true (.int .i64)])],[.pr (.st 10)],[0],[.ld 0 false,.ptr 0 0,.slot 0 false,.pr (.st 10)]⟩
def Hk:List (Nat×Lb):=[(1,.l [.ld 12 false,.d true (.sl false (.int .i64)),.slot 12 false,.ld 13 false,.d true (.int .i64),.slot 13 false] [.ld 0 false,.ptr 0 0,.slot 0 false,.ld 14 false,.d true (.int .i64),.slot 14 false,.pr (.st 10)] [(some 0,[.ld 0 false,.ptr 0 0,.slot 0 false,.pr (.st 10)])])]
def Jk:List (Nat×VT):=[]
def wn:Int×TEngine→Option TEngine:=fun (x:Int×TEngine)=>(idx x.snd.near x.fst).bind fun (l1:List Int)=>(aq (fun (x2:Int×TEngine)=>if x2.fst < (↑l1.length:Int) then (idx l1 x2.fst).bind fun (n3:Int)=>(idx x2.snd.n.Trans n3).bind fun (x4:TTrans)=>(p66 (x4.Name,x4.Delay,x4.Prio,x4.In,x4.Not,x4.Out,x2.snd.marks)).bind fun (b5:Bool)=>(idx x2.snd.ready n3).bind fun (b6:Bool)=>some (Sum.inl (IntKind.i64.wrap (x2.fst+1),{ n:=x2.snd.n,mine:=x2.snd.mine,near:=x2.snd.near,ready:=x2.snd.ready.set n3.toNat b5,marks:=x2.snd.marks,wait:=x2.snd.wait,in_:=x2.snd.in_,log:=x2.snd.log,way:=x2.snd.way,time:=x2.snd.time,out:=x2.snd.out,away:=x2.snd.away,count:=x2.snd.count })) else some (Sum.inr x2.snd)) (0,x.snd)).bind fun (x2:TEngine)=>some x2
theorem Hv:vfn (T:=tE) lpK Jk (a6 [n66]) Fg rL.res (vOf rL.code Hk)=wn:=by kernel_rfl
abbrev EA:En tE:=⟨135,[],Fg,wn⟩
theorem F5:aB F tE 135 Fg 2 wn:=by
 rw [← Hv]
 exact aw (fn:=rL) (af (en:=n66) ah o66 rfl) rfl (by kernel_rfl)
def Fv:FSp:=⟨[(true,[.d false (.sl false (.st 2)),.d false (.sl false (.st 1))]),(false,[.d true (.int .i64)]),(false,[.d true (.int .i64)])],[],[],[.ld 0 false,.d true .bool,.slot 0 false]⟩
def IW:List (Nat×Lb):=[]
def IE:List (Nat×VT):=[]
def El:List TPlace×List TTrans×Int×Int→Option Bool:=fun (x:List TPlace×List TTrans×Int×Int)=>(idx x.snd.fst x.snd.snd.fst).bind fun (x1:TTrans)=>(idx x.snd.fst x.snd.snd.snd).bind fun (x2:TTrans)=>if (!decide (x1.Prio=x2.Prio))=true then (idx x.snd.fst x.snd.snd.fst).bind fun (x3:TTrans)=>(idx x.snd.fst x.snd.snd.snd).bind fun (x4:TTrans)=>some (decide (x3.Prio < x4.Prio)) else some (decide (x.snd.snd.fst < x.snd.snd.snd))
theorem Hz:vfn (T:=tE) lpK IE (a6 []) Fv uc.res (vOf uc.code IW)=El:=by kernel_rfl
abbrev F4:En tE:=⟨136,[],Fv,El⟩
theorem Hq:aB F tE 136 Fv 3 El:=by
 rw [← Hz]
 exact aw (fn:=uc) ah rfl (by kernel_rfl)
def nz:FSp:=⟨[(false,[.ptr 0 6]),(true,[.d true (.int .i64),.d true (.int .i64),.d true (.int .i64),.d true (.int .i64)])],[.pr (.st 10)],[0],[.ld 0 false,.ptr 0 6,.slot 0 false,.pr (.st 10)]⟩
def zw:List (Nat×Lb):=[(5,.l [] [.ld 0 false,.ptr 0 6,.slot 0 false,.ld 4 false,.d true (.int .i64),.slot 4 false,.pr (.st 10)] [(some 0,[.ld 0 false,.ptr 0 6,.slot 0 false,.pr (.st 10)])])]
def xr:List (Nat×VT):=[(14,(.st 6))]
def lB:Int×Int×Int×Int×TEngine→Option TEngine:=fun (x:Int×Int×Int×Int×TEngine)=>(app 32 x.snd.snd.snd.snd.wait.l [{ Time:=x.fst,Prio:=x.snd.fst,ID:=x.snd.snd.fst,N:=x.snd.snd.snd.fst }]).bind fun (l1:List TKey)=>(aq (fun (x2:Int×TEngine)=>if 0 < x2.fst then (quoI IntKind.i64 (IntKind.i64.wrap (x2.fst - 1)) 2).bind fun (n3:Int)=>(idx x2.snd.wait.l x2.fst).bind fun (x4:TKey)=>(idx x2.snd.wait.l n3).bind fun (x5:TKey)=>(BR (x4.Time,x4.Prio,x4.ID,x4.N,x5.Time,x5.Prio,x5.ID,x5.N)).bind fun (b6:Bool)=>if (!b6)=true then some (Sum.inr x2.snd) else (idx x2.snd.wait.l n3).bind fun (x7:TKey)=>(idx x2.snd.wait.l x2.fst).bind fun (x8:TKey)=>(idx x2.snd.wait.l x2.fst).bind fun (x9:TKey)=>(idx (x2.snd.wait.l.set x2.fst.toNat x7) n3).bind fun (x10:TKey)=>some (Sum.inl (n3,{ n:=x2.snd.n,mine:=x2.snd.mine,near:=x2.snd.near,ready:=x2.snd.ready,marks:=x2.snd.marks,wait:={ l:=(x2.snd.wait.l.set x2.fst.toNat x7).set n3.toNat x8 },in_:=x2.snd.in_,log:=x2.snd.log,way:=x2.snd.way,time:=x2.snd.time,out:=x2.snd.out,away:=x2.snd.away,count:=x2.snd.count })) else some (Sum.inr x2.snd)) (IntKind.i64.wrap ((↑l1.length:Int) - 1),{ n:=x.snd.snd.snd.snd.n,mine:=x.snd.snd.snd.snd.mine,near:=x.snd.snd.snd.snd.near,ready:=x.snd.snd.snd.snd.ready,marks:=x.snd.snd.snd.snd.marks,wait:={ l:=l1 },in_:=x.snd.snd.snd.snd.in_,log:=x.snd.snd.snd.snd.log,way:=x.snd.snd.snd.snd.way,time:=x.snd.snd.snd.snd.time,out:=x.snd.snd.snd.snd.out,away:=x.snd.snd.snd.snd.away,count:=x.snd.snd.snd.snd.count })).bind fun (x2:TEngine)=>some x2
theorem xw:vfn (T:=tE) lpK xr (a6 [ED]) nz rJ.res (vOf rJ.code zw)=lB:=by kernel_rfl
abbrev rH:En tE:=⟨131,[(0,6)],nz,lB⟩
theorem AA:aB F tE 131 nz 2 lB:=by
 rw [← xw]
 exact aw (fn:=rJ) (af (en:=ED) ah Gu rfl) rfl (by kernel_rfl)
def Fm:FSp:=⟨[(false,[.ptr 0 0]),(true,[.d true (.int .i64),.d true (.int .i64),.d true (.int .i64)])],[.pr (.st 10)],[0],[.ld 0 false,.ptr 0 0,.slot 0 false,.pr (.st 10)]⟩
def Hc:List (Nat×Lb):=[(2,.j [.ld 0 false,.ptr 0 0,.slot 0 false,.ld 3 false,.ptr 1 0,.slot 3 false,.ld 20 false,.d true .bool,.slot 20 false,.pr (.st 10),.pr (.st 9)])]
def It:List (Nat×VT):=[]
def DI:Int×Int×Int×TEngine→Option TEngine:=fun (x:Int×Int×Int×TEngine)=>
  (if x.snd.fst < 0 then some (Sum.inl (true,x.snd.snd.snd,{ Time:=x.fst,Place:=x.snd.fst,N:=x.snd.snd.fst })) else some (Sum.inl (decide ((↑x.snd.snd.snd.marks.length:Int)≤x.snd.fst),x.snd.snd.snd,{ Time:=x.fst,Place:=x.snd.fst,N:=x.snd.snd.fst }))).bind fun (x1:Bool×TEngine×TEvent⊕TEngine)=>
    match x1 with
    | Sum.inl x=>if x.fst=true then some x.snd.fst else (lB (x.snd.snd.Time,x.snd.snd.N,x.snd.snd.Place,IntKind.i64.wrap (x.snd.fst.count+1),{ n:=x.snd.fst.n,mine:=x.snd.fst.mine,near:=x.snd.fst.near,ready:=x.snd.fst.ready,marks:=x.snd.fst.marks,wait:=x.snd.fst.wait,in_:=x.snd.fst.in_,log:=x.snd.fst.log,way:=x.snd.fst.way,time:=x.snd.fst.time,out:=x.snd.fst.out,away:=x.snd.fst.away,count:=IntKind.i64.wrap (x.snd.fst.count+1) })).bind fun (x3:TEngine)=>(idx x3.way x.snd.snd.Place).bind fun (n4:Int)=>(idx x3.way x.snd.snd.Place).bind fun (n5:Int)=>some { n:=x3.n,mine:=x3.mine,near:=x3.near,ready:=x3.ready,marks:=x3.marks,wait:=x3.wait,in_:=x3.in_,log:=x3.log,way:=x3.way.set x.snd.snd.Place.toNat (IntKind.i64.wrap (n4+x.snd.snd.N)),time:=x3.time,out:=x3.out,away:=x3.away,count:=x3.count }
    | Sum.inr r=>some r
theorem HY:vfn (T:=tE) lpK It (a6 [rH]) Fm tX.res (vOf tX.code Hc)=DI:=by kernel_rfl
abbrev GS:En tE:=⟨126,[],Fm,DI⟩
theorem Hw:aB F tE 126 Fm 2 DI:=by
 rw [← HY]
 exact aw (fn:=tX) (af (en:=rH) ah AA rfl) rfl (by kernel_rfl)
def E6:FSp:=⟨[(true,[.d true .str,.d true (.int .i64),.d true (.int .i64),.d false (.sl false (.st 0)),.d false (.sl false (.st 0)),.d false (.sl false (.st 0))]),(false,[.r 0])],[.sl (.int .i64)],[1],[.ld 0 false,.r 0,.slot 0 false,.sl (.int .i64)]⟩
def Jy:List (Nat×Lb):=[(2,.l [.ld 7 false,.d false (.sl false (.st 0)),.slot 7 false,.ld 8 false,.d true (.int .i64),.slot 8 false] [.ld 1 false,.r 0,.slot 1 false,.ld 9 false,.d true (.int .i64),.slot 9 false,.sl (.int .i64)] [(some 0,[.ld 1 false,.r 0,.slot 1 false,.sl (.int .i64)])])]
def G7:List (Nat×VT):=[]
def Eo:List UInt8×Int×Int×List TArc×List TArc×List TArc×List Int→Option (List Int):=fun (x:List UInt8×Int×Int×List TArc×List TArc×List TArc×List Int)=>(aq (fun (x1:Int×List Int)=>if x1.fst < (↑x.snd.snd.snd.fst.length:Int) then (idx x.snd.snd.snd.fst x1.fst).bind fun (x2:TArc)=>(idx x1.snd x2.Place).bind fun (n3:Int)=>(idx x1.snd x2.Place).bind fun (n4:Int)=>some (Sum.inl (IntKind.i64.wrap (x1.fst+1),x1.snd.set x2.Place.toNat (IntKind.i64.wrap (n3 - x2.N)))) else some (Sum.inr x1.snd)) (0,x.snd.snd.snd.snd.snd.snd)).bind fun (l1:List Int)=>some l1
theorem HF:vfn (T:=tE) lpK G7 (a6 []) E6 sK.res (vOf sK.code Jy)=Eo:=by kernel_rfl
abbrev GO:En tE:=⟨140,[],E6,Eo⟩
theorem IL:aB F tE 140 E6 2 Eo:=by
 rw [← HF]
 exact aw (fn:=sK) ah rfl (by kernel_rfl)
def E0:FSp:=⟨[(false,[.ptr 0 0]),(false,[.d true (.int .i64)])],[.pr (.st 10)],[0],[.ld 0 false,.d true (.int .i64),.slot 0 false,.ld 1 false,.ptr 0 0,.slot 1 false,.pr (.st 10)]⟩
def I9:List (Nat×Lb):=[(7,.j [.ld 0 false,.ptr 0 0,.slot 0 false,.ld 1 false,.d true (.int .i64),.slot 1 false,.ld 5 false,.ptr 1 0,.slot 5 false,.ld 35 false,.d true .bool,.slot 35 false,.pr (.st 10),.pr (.st 1)]),(14,.l [.ld 79 false,.d true (.sl false (.st 0)),.slot 79 false,.ld 80 false,.d true (.int .i64),.slot 80 false] [.ld 0 false,.ptr 0 0,.slot 0 false,.ld 5 false,.ptr 1 0,.slot 5 false,.ld 81 false,.d true (.int .i64),.slot 81 false,.pr (.st 10),.pr (.st 1)] [(some 1,[.ld 0 false,.ptr 0 0,.slot 0 false,.ld 5 false,.ptr 1 0,.slot 5 false,.pr (.st 10),.pr (.st 1)])]),(22,.l [.ld 91 false,.d true (.sl false (.st 0)),.slot 91 false,.ld 92 false,.d true (.int .i64),.slot 92 false] [.ld 0 false,.ptr 0 0,.slot 0 false,.ld 5 false,.ptr 1 0,.slot 5 false,.ld 8 false,.d true .bool,.slot 8 false,.ld 93 false,.d true (.int .i64),.slot 93 false,.pr (.st 10),.pr (.st 1)] [(some 3,[.ld 0 false,.ptr 0 0,.slot 0 false,.ld 8 false,.d true .bool,.slot 8 false,.pr (.st 10)])])]
def Ip:List (Nat×VT):=[(68,(.st 8)),(140,(.st 9))]
def Ed:Int×TEngine→Option (Int×TEngine):=fun (x:Int×TEngine)=>
  (idx x.snd.n.Trans x.fst).bind fun (x1:TTrans)=>
    if (x.snd.in_.bind fun (l2:List (Int×Int))=>qp (keI IntKind.i64) l2 x.fst).getD 0=20 then some (4,x.snd)
    else
      if (↑x.snd.log.length:Int)=2000 then some (5,x.snd)
      else
        (if 0 < (↑x1.Out.length:Int) then some (Sum.inl (x.fst,decide (1099511627776 < IntKind.i64.wrap (x.snd.time+x1.Delay)),x.snd,x1)) else some (Sum.inl (x.fst,false,x.snd,x1))).bind fun (x2:Int×Bool×TEngine×TTrans⊕Int×TEngine)=>
          match x2 with
          | Sum.inl x=>if x.snd.fst=true then some (3,x.snd.snd.fst) else x.snd.snd.fst.in_.bind fun (l4:List (Int×Int))=>(app 16 x.snd.snd.fst.log [{ Time:=x.snd.snd.fst.time,Trans:=x.fst }]).bind fun (l5:List TFire)=>(Eo (x.snd.snd.snd.Name,x.snd.snd.snd.Delay,x.snd.snd.snd.Prio,x.snd.snd.snd.In,x.snd.snd.snd.Not,x.snd.snd.snd.Out,x.snd.snd.fst.marks)).bind fun (l6:List Int)=>(aq (fun (x7:Int×TEngine×TTrans)=>if x7.fst < (↑x.snd.snd.snd.In.length:Int) then (idx x.snd.snd.snd.In x7.fst).bind fun (x8:TArc)=>(wn (x8.Place,x7.snd.fst)).bind fun (x9:TEngine)=>some (Sum.inl (IntKind.i64.wrap (x7.fst+1),x9,x7.snd.snd)) else some (Sum.inr (x7.snd.fst,x7.snd.snd))) (0,{ n:=x.snd.snd.fst.n,mine:=x.snd.snd.fst.mine,near:=x.snd.snd.fst.near,ready:=x.snd.snd.fst.ready,marks:=l6,wait:=x.snd.snd.fst.wait,in_:=some (lP (keI IntKind.i64) l4 x.fst (IntKind.i64.wrap ((x.snd.snd.fst.in_.bind fun (l7:List (Int×Int))=>qp (keI IntKind.i64) l7 x.fst).getD 0+1))),log:=l5,way:=x.snd.snd.fst.way,time:=x.snd.snd.fst.time,out:=x.snd.snd.fst.out,away:=x.snd.snd.fst.away,count:=x.snd.snd.fst.count },x.snd.snd.snd)).bind fun (x7:TEngine×TTrans)=>(aq (fun (x8:Bool×Int×TEngine×TTrans)=>if x8.snd.fst < (↑x7.snd.Out.length:Int) then (idx x7.snd.Out x8.snd.fst).bind fun (x9:TArc)=>(p65 (x8.snd.snd.fst.away,x9.Place)).bind fun (b10:Bool)=>if b10=true then (app 24 x8.snd.snd.fst.out [{ Time:=IntKind.i64.wrap (x8.snd.snd.fst.time+x8.snd.snd.snd.Delay),Place:=x9.Place,N:=x9.N }]).bind fun (l11:List TEvent)=>some (Sum.inl (x8.fst,IntKind.i64.wrap (x8.snd.fst+1),{ n:=x8.snd.snd.fst.n,mine:=x8.snd.snd.fst.mine,near:=x8.snd.snd.fst.near,ready:=x8.snd.snd.fst.ready,marks:=x8.snd.snd.fst.marks,wait:=x8.snd.snd.fst.wait,in_:=x8.snd.snd.fst.in_,log:=x8.snd.snd.fst.log,way:=x8.snd.snd.fst.way,time:=x8.snd.snd.fst.time,out:=l11,away:=x8.snd.snd.fst.away,count:=x8.snd.snd.fst.count },x8.snd.snd.snd)) else if 0 < x8.snd.snd.snd.Delay then (DI (IntKind.i64.wrap (x8.snd.snd.fst.time+x8.snd.snd.snd.Delay),x9.Place,x9.N,x8.snd.snd.fst)).bind fun (x11:TEngine)=>some (Sum.inl (x8.fst,IntKind.i64.wrap (x8.snd.fst+1),x11,x8.snd.snd.snd)) else (DK (x9.Place,x9.N,x8.snd.snd.fst.marks)).bind fun (x11:Bool×List Int)=>if (!x11.fst)=true then (wn (x9.Place,{ n:=x8.snd.snd.fst.n,mine:=x8.snd.snd.fst.mine,near:=x8.snd.snd.fst.near,ready:=x8.snd.snd.fst.ready,marks:=x11.snd,wait:=x8.snd.snd.fst.wait,in_:=x8.snd.snd.fst.in_,log:=x8.snd.snd.fst.log,way:=x8.snd.snd.fst.way,time:=x8.snd.snd.fst.time,out:=x8.snd.snd.fst.out,away:=x8.snd.snd.fst.away,count:=x8.snd.snd.fst.count })).bind fun (x12:TEngine)=>some (Sum.inl (true,IntKind.i64.wrap (x8.snd.fst+1),x12,x8.snd.snd.snd)) else (wn (x9.Place,{ n:=x8.snd.snd.fst.n,mine:=x8.snd.snd.fst.mine,near:=x8.snd.snd.fst.near,ready:=x8.snd.snd.fst.ready,marks:=x11.snd,wait:=x8.snd.snd.fst.wait,in_:=x8.snd.snd.fst.in_,log:=x8.snd.snd.fst.log,way:=x8.snd.snd.fst.way,time:=x8.snd.snd.fst.time,out:=x8.snd.snd.fst.out,away:=x8.snd.snd.fst.away,count:=x8.snd.snd.fst.count })).bind fun (x12:TEngine)=>some (Sum.inl (x8.fst,IntKind.i64.wrap (x8.snd.fst+1),x12,x8.snd.snd.snd)) else some (Sum.inr (x8.fst,x8.snd.snd.fst))) (false,0,x7.fst,x7.snd)).bind fun (x8:Bool×TEngine)=>if x8.fst=true then some (3,x8.snd) else some (0,x8.snd)
          | Sum.inr r=>some r
theorem IQ:vfn (T:=tE) lpK Ip (a6 [GO,EA,n65,GS,EC]) E0 sU.res (vOf sU.code I9)=Ed:=by kernel_rfl
abbrev Gn:En tE:=⟨137,[],E0,Ed⟩
theorem Jm:aB F tE 137 E0 2 Ed:=by
 rw [← IQ]
 exact aw (fn:=sU) (af (en:=GO) (af (en:=EA) (af (en:=n65) (af (en:=GS) (af (en:=EC) ah GD rfl) Hw rfl) o65 rfl) F5 rfl) IL rfl) rfl (by kernel_rfl)
def nq:FSp:=⟨[(false,[.ptr 0 6])],[.pr (.st 10)],[0],[.ld 0 true,.d true (.int .i64),.d true (.int .i64),.d true (.int .i64),.d true (.int .i64),.slot 0 true,.ld 1 false,.d true .bool,.slot 1 false,.ld 2 false,.ptr 0 6,.slot 2 false,.pr (.st 10)]⟩
def zj:List (Nat×Lb):=[]
def Bi:List (Nat×VT):=[]
def gu:TEngine→Option (Int×Int×Int×Int×Bool×TEngine):=fun (x:TEngine)=>if (↑x.wait.l.length:Int)=0 then some (0,0,0,0,false,x) else (idx x.wait.l 0).bind fun (x1:TKey)=>some (x1.Time,x1.Prio,x1.ID,x1.N,true,x)
theorem yq:vfn (T:=tE) lpK Bi (a6 []) nq lS.res (vOf lS.code zj)=gu:=by kernel_rfl
abbrev lm:En tE:=⟨132,[(0,6)],nq,gu⟩
theorem tg:aB F tE 132 nq 1 gu:=by
 rw [← yq]
 exact aw (fn:=lS) ah rfl (by kernel_rfl)
def nR:FSp:=⟨[(false,[.ptr 0 6])],[.pr (.st 10)],[0],[.ld 0 false,.ptr 0 6,.slot 0 false,.pr (.st 10)]⟩
def xM:List (Nat×Lb):=[(1,.l [] [.ld 0 false,.ptr 0 6,.slot 0 false,.ld 2 false,.d true (.int .i64),.slot 2 false,.pr (.st 10)] [(none,[.ld 0 false,.ptr 0 6,.slot 0 false,.pr (.st 10)])]),(5,.l [.ld 2 false,.d true (.int .i64),.slot 2 false,.ld 13 true,.d true (.int .i64),.d true (.int .i64),.slot 13 true] [.ld 0 false,.ptr 0 6,.slot 0 false,.ld 3 false,.d true (.int .i64),.slot 3 false,.ld 14 false,.d true (.int .i64),.slot 14 false,.pr (.st 10)] [(some 2,[.ld 0 false,.ptr 0 6,.slot 0 false,.ld 3 false,.d true (.int .i64),.slot 3 false,.pr (.st 10)])]),(10,.j [.ld 0 false,.ptr 0 6,.slot 0 false,.ld 3 false,.d true (.int .i64),.slot 3 false,.ld 5 false,.d true (.int .i64),.slot 5 false,.ld 14 false,.d true (.int .i64),.slot 14 false,.ld 40 false,.d true .bool,.slot 40 false,.pr (.st 10)])]
def xI:List (Nat×VT):=[]
def ln:TEngine→Option TEngine:=fun (x:TEngine)=>
  (aq
        (fun (x1:Int×TEngine)=>
          (aq
                (fun (x2:Int×Int×TEngine)=>
                  if x2.snd.fst < 2 then
                    (idx [IntKind.i64.wrap (IntKind.i64.wrap (2 * x1.fst)+1),IntKind.i64.wrap (IntKind.i64.wrap (2 * x1.fst)+2)] x2.snd.fst).bind fun (n3:Int)=>
                      (if n3 < (↑x2.snd.snd.wait.l.length:Int) then (idx x2.snd.snd.wait.l n3).bind fun (x4:TKey)=>(idx x2.snd.snd.wait.l x2.fst).bind fun (x5:TKey)=>(BR (x4.Time,x4.Prio,x4.ID,x4.N,x5.Time,x5.Prio,x5.ID,x5.N)).bind fun (b6:Bool)=>some (Sum.inl (x2.fst,n3,x2.snd.fst,b6,x2.snd.snd)) else some (Sum.inl (x2.fst,n3,x2.snd.fst,false,x2.snd.snd))).bind fun (x4:Int×Int×Int×Bool×TEngine⊕Int×Int×TEngine⊕Int×TEngine)=>
                        match x4 with
                        | Sum.inl x=>if x.snd.snd.snd.fst=true then some (Sum.inl (x.snd.fst,IntKind.i64.wrap (x.snd.snd.fst+1),x.snd.snd.snd.snd)) else some (Sum.inl (x.fst,IntKind.i64.wrap (x.snd.snd.fst+1),x.snd.snd.snd.snd))
                        | Sum.inr r=>some r
                  else some (Sum.inr (x2.fst,x2.snd.snd)))
                (x1.fst,0,x1.snd)).bind
            fun (x2:Int×TEngine)=>if x2.fst=x1.fst then some (Sum.inr x2.snd) else (idx x2.snd.wait.l x2.fst).bind fun (x3:TKey)=>(idx x2.snd.wait.l x1.fst).bind fun (x4:TKey)=>(idx x2.snd.wait.l x1.fst).bind fun (x5:TKey)=>(idx (x2.snd.wait.l.set x1.fst.toNat x3) x2.fst).bind fun (x6:TKey)=>some (Sum.inl (x2.fst,{ n:=x2.snd.n,mine:=x2.snd.mine,near:=x2.snd.near,ready:=x2.snd.ready,marks:=x2.snd.marks,wait:={ l:=(x2.snd.wait.l.set x1.fst.toNat x3).set x2.fst.toNat x4 },in_:=x2.snd.in_,log:=x2.snd.log,way:=x2.snd.way,time:=x2.snd.time,out:=x2.snd.out,away:=x2.snd.away,count:=x2.snd.count })))
        (0,x)).bind
    fun (x1:TEngine)=>some x1
theorem xG:vfn (T:=tE) lpK xI (a6 [ED]) nR tF.res (vOf tF.code xM)=ln:=by kernel_rfl
abbrev rp:En tE:=⟨139,[(0,6)],nR,ln⟩
theorem xD:aB F tE 139 nR 1 ln:=by
 rw [← xG]
 exact aw (fn:=tF) (af (en:=ED) ah Gu rfl) rfl (by kernel_rfl)
def nw:FSp:=⟨[(false,[.ptr 0 6])],[.pr (.st 10)],[0],[.ld 0 true,.d true (.int .i64),.d true (.int .i64),.d true (.int .i64),.d true (.int .i64),.slot 0 true,.ld 1 false,.d true .bool,.slot 1 false,.ld 2 false,.ptr 0 6,.slot 2 false,.pr (.st 10)]⟩
def xF:List (Nat×Lb):=[]
def zf:List (Nat×VT):=[]
def lI:TEngine→Option (Int×Int×Int×Int×Bool×TEngine):=fun (x:TEngine)=>(gu x).bind fun (x1:Int×Int×Int×Int×Bool×TEngine)=>if (!x1.snd.snd.snd.snd.fst)=true then some (x1.fst,x1.snd.fst,x1.snd.snd.fst,x1.snd.snd.snd.fst,false,x1.snd.snd.snd.snd.snd) else (idx x1.snd.snd.snd.snd.snd.wait.l (IntKind.i64.wrap ((↑x1.snd.snd.snd.snd.snd.wait.l.length:Int) - 1))).bind fun (x2:TKey)=>(idx x1.snd.snd.snd.snd.snd.wait.l 0).bind fun (x3:TKey)=>(slc (x1.snd.snd.snd.snd.snd.wait.l.set (Int.toNat 0) x2) 0 (IntKind.i64.wrap ((↑x1.snd.snd.snd.snd.snd.wait.l.length:Int) - 1))).bind fun (l4:List TKey)=>(ln { n:=x1.snd.snd.snd.snd.snd.n,mine:=x1.snd.snd.snd.snd.snd.mine,near:=x1.snd.snd.snd.snd.snd.near,ready:=x1.snd.snd.snd.snd.snd.ready,marks:=x1.snd.snd.snd.snd.snd.marks,wait:={ l:=l4 },in_:=x1.snd.snd.snd.snd.snd.in_,log:=x1.snd.snd.snd.snd.snd.log,way:=x1.snd.snd.snd.snd.snd.way,time:=x1.snd.snd.snd.snd.snd.time,out:=x1.snd.snd.snd.snd.snd.out,away:=x1.snd.snd.snd.snd.snd.away,count:=x1.snd.snd.snd.snd.snd.count }).bind fun (x5:TEngine)=>some (x1.fst,x1.snd.fst,x1.snd.snd.fst,x1.snd.snd.snd.fst,true,x5)
theorem xL:vfn (T:=tE) lpK zf (a6 [lm,rp]) nw sy.res (vOf sy.code xF)=lI:=by kernel_rfl
abbrev t6:En tE:=⟨133,[(0,6)],nw,lI⟩
theorem xu:aB F tE 133 nw 1 lI:=by
 rw [← xL]
 exact aw (fn:=sy) (af (en:=lm) (af (en:=rp) ah xD rfl) tg rfl) rfl (by kernel_rfl)
def E2:FSp:=⟨[(false,[.ptr 0 0]),(false,[.d true (.int .i64)])],[.pr (.st 10)],[0],[.ld 0 false,.d true (.int .i64),.slot 0 false,.ld 1 false,.ptr 0 0,.slot 1 false,.pr (.st 10)]⟩
def HR:List (Nat×Lb):=[(8,.l [.ld 1 false,.d true (.int .i64),.slot 1 false,.ld 4 false,.d true (.int .i64),.slot 4 false] [.ld 0 false,.ptr 0 0,.slot 0 false,.ld 5 false,.d true .bool,.slot 5 false,.ld 6 false,.ptr 1 0,.slot 6 false,.ld 7 false,.d true .bool,.slot 7 false,.pr (.st 10),.pr (.st 6)] [(some 0,[.ld 0 false,.ptr 0 0,.slot 0 false,.ld 5 false,.d true .bool,.slot 5 false,.pr (.st 10)])]),(10,.j [.ld 0 false,.ptr 0 0,.slot 0 false,.ld 5 false,.d true .bool,.slot 5 false,.ld 6 false,.ptr 1 0,.slot 6 false,.ld 35 false,.d true .bool,.slot 35 false,.pr (.st 10),.pr (.st 6)]),(11,.j [.ld 0 false,.ptr 0 0,.slot 0 false,.ld 5 false,.d true .bool,.slot 5 false,.ld 6 false,.ptr 1 0,.slot 6 false,.pr (.st 10),.pr (.st 6)]),(20,.l [] [.ld 0 false,.ptr 0 0,.slot 0 false,.ld 4 false,.d true (.int .i64),.slot 4 false,.pr (.st 10)] [(none,[.ld 0 false,.ptr 0 0,.slot 0 false,.ld 4 false,.d true (.int .i64),.slot 4 false,.pr (.st 10)])]),(24,.l [.ld 4 false,.d true (.int .i64),.slot 4 false,.ld 82 false,.d true (.int .i64),.slot 82 false] [.ld 0 false,.ptr 0 0,.slot 0 false,.ld 8 false,.d true (.int .i64),.slot 8 false,.ld 81 false,.r 1,.slot 81 false,.ld 83 false,.d true (.int .i64),.slot 83 false,.ldr,.d true (.sl false (.st 2)),.d true (.sl false (.st 1)),.d true (.sl false .bool),.r 2,.r 1,.r 3,.r 4,.r 5,.r 6,.r 7,.d true (.int .i64),.r 8,.d true (.sl false .bool),.d true (.int .i64),.row,.sl .bool,.sl (.sl false (.int .i64)),.sl (.int .i64),.sl (.st 6),.mp (.int .i64) (.int .i64),.sl (.st 8),.sl (.int .i64),.sl (.st 9)] [(some 4,[.ld 0 false,.ptr 0 0,.slot 0 false,.ld 8 false,.d true (.int .i64),.slot 8 false,.pr (.st 10)])]),(29,.j [.ld 0 false,.ptr 0 0,.slot 0 false,.ld 8 false,.d true (.int .i64),.slot 8 false,.ld 9 false,.d true (.int .i64),.slot 9 false,.ld 81 false,.r 1,.slot 81 false,.ld 83 false,.d true (.int .i64),.slot 83 false,.ld 101 false,.d true .bool,.slot 101 false,.ldr,.d true (.sl false (.st 2)),.d true (.sl false (.st 1)),.d true (.sl false .bool),.r 2,.r 1,.r 3,.r 4,.r 5,.r 6,.r 7,.d true (.int .i64),.r 8,.d true (.sl false .bool),.d true (.int .i64),.row,.sl .bool,.sl (.sl false (.int .i64)),.sl (.int .i64),.sl (.st 6),.mp (.int .i64) (.int .i64),.sl (.st 8),.sl (.int .i64),.sl (.st 9)])]
def JM:List (Nat×VT):=[(17,(.mp (.int .i64) (.int .i64)))]
def EF:Int×TEngine→Option (Int×TEngine):=fun (x:Int×TEngine)=>
  (gu { n:=x.snd.n,mine:=x.snd.mine,near:=x.snd.near,ready:=x.snd.ready,marks:=x.snd.marks,wait:=x.snd.wait,in_:=some [],log:=x.snd.log,way:=x.snd.way,time:=x.fst,out:=x.snd.out,away:=x.snd.away,count:=x.snd.count }).bind fun (x1:Int×Int×Int×Int×Bool×TEngine)=>
    (aq
          (fun (x2:Bool×Bool×TEngine×TKey)=>
            (if x2.snd.fst=true then some (Sum.inl (x2.fst,decide (x2.snd.snd.snd.Time≤x.fst),x2.snd.snd.fst,x2.snd.snd.snd)) else some (Sum.inl (x2.fst,false,x2.snd.snd.fst,x2.snd.snd.snd))).bind fun (x3:Bool×Bool×TEngine×TKey⊕Bool×Bool×TEngine×TKey⊕Bool×TEngine)=>
              match x3 with
              | Sum.inl x=>
                if x.snd.fst=true then
                  ((lI x.snd.snd.fst).bind fun (x5:Int×Int×Int×Int×Bool×TEngine)=>(idx x5.snd.snd.snd.snd.snd.way x.snd.snd.snd.ID).bind fun (n6:Int)=>(idx x5.snd.snd.snd.snd.snd.way x.snd.snd.snd.ID).bind fun (n7:Int)=>(DK (x.snd.snd.snd.ID,x.snd.snd.snd.Prio,x5.snd.snd.snd.snd.snd.marks)).bind fun (x8:Bool×List Int)=>if (!x8.fst)=true then (wn (x.snd.snd.snd.ID,{ n:=x5.snd.snd.snd.snd.snd.n,mine:=x5.snd.snd.snd.snd.snd.mine,near:=x5.snd.snd.snd.snd.snd.near,ready:=x5.snd.snd.snd.snd.snd.ready,marks:=x8.snd,wait:=x5.snd.snd.snd.snd.snd.wait,in_:=x5.snd.snd.snd.snd.snd.in_,log:=x5.snd.snd.snd.snd.snd.log,way:=x5.snd.snd.snd.snd.snd.way.set x.snd.snd.snd.ID.toNat (IntKind.i64.wrap (n6 - x.snd.snd.snd.Prio)),time:=x5.snd.snd.snd.snd.snd.time,out:=x5.snd.snd.snd.snd.snd.out,away:=x5.snd.snd.snd.snd.snd.away,count:=x5.snd.snd.snd.snd.snd.count })).bind fun (x9:TEngine)=>some (Sum.inl (true,x9,x.snd.snd.snd)) else (wn (x.snd.snd.snd.ID,{ n:=x5.snd.snd.snd.snd.snd.n,mine:=x5.snd.snd.snd.snd.snd.mine,near:=x5.snd.snd.snd.snd.snd.near,ready:=x5.snd.snd.snd.snd.snd.ready,marks:=x8.snd,wait:=x5.snd.snd.snd.snd.snd.wait,in_:=x5.snd.snd.snd.snd.snd.in_,log:=x5.snd.snd.snd.snd.snd.log,way:=x5.snd.snd.snd.snd.snd.way.set x.snd.snd.snd.ID.toNat (IntKind.i64.wrap (n6 - x.snd.snd.snd.Prio)),time:=x5.snd.snd.snd.snd.snd.time,out:=x5.snd.snd.snd.snd.snd.out,away:=x5.snd.snd.snd.snd.snd.away,count:=x5.snd.snd.snd.snd.snd.count })).bind fun (x9:TEngine)=>some (Sum.inl (x.fst,x9,x.snd.snd.snd))).bind fun (x5:Bool×TEngine×TKey⊕Bool×Bool×TEngine×TKey⊕Bool×TEngine)=>
                    match x5 with
                    | Sum.inl x=>(gu x.snd.fst).bind fun (x7:Int×Int×Int×Int×Bool×TEngine)=>some (Sum.inl (x.fst,x7.snd.snd.snd.snd.fst,x7.snd.snd.snd.snd.snd,{ Time:=x7.fst,Prio:=x7.snd.fst,ID:=x7.snd.snd.fst,N:=x7.snd.snd.snd.fst }))
                    | Sum.inr r=>some r
                else some (Sum.inr (x.fst,x.snd.snd.fst))
              | Sum.inr r=>some r)
          (false,x1.snd.snd.snd.snd.fst,x1.snd.snd.snd.snd.snd,{ Time:=x1.fst,Prio:=x1.snd.fst,ID:=x1.snd.snd.fst,N:=x1.snd.snd.snd.fst })).bind
      fun (x2:Bool×TEngine)=>
      if x2.fst=true then some (3,x2.snd)
      else
        (aq
              (fun (x3:Int×TEngine)=>
                (aq
                      (fun (x4:Int×Int×List TPlace×List TTrans×List Bool×Int×List Bool×Int×List Bool×List (List Int)×List Int×List TKey×Option (List (Int×Int))×List TFire×List Int×List TEvent)=>
                        if x4.snd.fst < (↑x3.snd.ready.length:Int) then
                          (idx x4.snd.snd.snd.snd.snd.snd.snd.snd.fst x4.snd.fst).bind fun (b5:Bool)=>
                            (if b5=true then if x4.fst < 0 then some (Sum.inl (x4.fst,x4.snd.fst,x4.snd.fst,true,x4.snd.snd.fst,x4.snd.snd.snd.fst,x4.snd.snd.snd.snd.fst,x4.snd.snd.snd.snd.snd.fst,x4.snd.snd.snd.snd.snd.snd.fst,x4.snd.snd.snd.snd.snd.snd.snd.fst,x4.snd.snd.snd.snd.snd.snd.snd.snd.fst,x4.snd.snd.snd.snd.snd.snd.snd.snd.snd.fst,x4.snd.snd.snd.snd.snd.snd.snd.snd.snd.snd.fst,x4.snd.snd.snd.snd.snd.snd.snd.snd.snd.snd.snd.fst,x4.snd.snd.snd.snd.snd.snd.snd.snd.snd.snd.snd.snd.fst,x4.snd.snd.snd.snd.snd.snd.snd.snd.snd.snd.snd.snd.snd.fst,x4.snd.snd.snd.snd.snd.snd.snd.snd.snd.snd.snd.snd.snd.snd.fst,x4.snd.snd.snd.snd.snd.snd.snd.snd.snd.snd.snd.snd.snd.snd.snd)) else (El (x4.snd.snd.fst,x4.snd.snd.snd.fst,x4.snd.fst,x4.fst)).bind fun (b6:Bool)=>some (Sum.inl (x4.fst,x4.snd.fst,x4.snd.fst,b6,x4.snd.snd.fst,x4.snd.snd.snd.fst,x4.snd.snd.snd.snd.fst,x4.snd.snd.snd.snd.snd.fst,x4.snd.snd.snd.snd.snd.snd.fst,x4.snd.snd.snd.snd.snd.snd.snd.fst,x4.snd.snd.snd.snd.snd.snd.snd.snd.fst,x4.snd.snd.snd.snd.snd.snd.snd.snd.snd.fst,x4.snd.snd.snd.snd.snd.snd.snd.snd.snd.snd.fst,x4.snd.snd.snd.snd.snd.snd.snd.snd.snd.snd.snd.fst,x4.snd.snd.snd.snd.snd.snd.snd.snd.snd.snd.snd.snd.fst,x4.snd.snd.snd.snd.snd.snd.snd.snd.snd.snd.snd.snd.snd.fst,x4.snd.snd.snd.snd.snd.snd.snd.snd.snd.snd.snd.snd.snd.snd.fst,x4.snd.snd.snd.snd.snd.snd.snd.snd.snd.snd.snd.snd.snd.snd.snd)) else some (Sum.inl (x4.fst,x4.snd.fst,x4.snd.fst,false,x4.snd.snd.fst,x4.snd.snd.snd.fst,x4.snd.snd.snd.snd.fst,x4.snd.snd.snd.snd.snd.fst,x4.snd.snd.snd.snd.snd.snd.fst,x4.snd.snd.snd.snd.snd.snd.snd.fst,x4.snd.snd.snd.snd.snd.snd.snd.snd.fst,x4.snd.snd.snd.snd.snd.snd.snd.snd.snd.fst,x4.snd.snd.snd.snd.snd.snd.snd.snd.snd.snd.fst,x4.snd.snd.snd.snd.snd.snd.snd.snd.snd.snd.snd.fst,x4.snd.snd.snd.snd.snd.snd.snd.snd.snd.snd.snd.snd.fst,x4.snd.snd.snd.snd.snd.snd.snd.snd.snd.snd.snd.snd.snd.fst,x4.snd.snd.snd.snd.snd.snd.snd.snd.snd.snd.snd.snd.snd.snd.fst,x4.snd.snd.snd.snd.snd.snd.snd.snd.snd.snd.snd.snd.snd.snd.snd))).bind fun (x6:Int×Int×Int×Bool×List TPlace×List TTrans×List Bool×Int×List Bool×Int×List Bool×List (List Int)×List Int×List TKey×Option (List (Int×Int))×List TFire×List Int×List TEvent⊕Int×Int×List TPlace×List TTrans×List Bool×Int×List Bool×Int×List Bool×List (List Int)×List Int×List TKey×Option (List (Int×Int))×List TFire×List Int×List TEvent⊕Int×TEngine)=>
                              match x6 with
                              | Sum.inl x=>if x.snd.snd.snd.fst=true then some (Sum.inl (x.snd.fst,IntKind.i64.wrap (x.snd.snd.fst+1),x.snd.snd.snd.snd.fst,x.snd.snd.snd.snd.snd.fst,x.snd.snd.snd.snd.snd.snd.fst,x.snd.snd.snd.snd.snd.snd.snd.fst,x.snd.snd.snd.snd.snd.snd.snd.snd.fst,x.snd.snd.snd.snd.snd.snd.snd.snd.snd.fst,x.snd.snd.snd.snd.snd.snd.snd.snd.snd.snd.fst,x.snd.snd.snd.snd.snd.snd.snd.snd.snd.snd.snd.fst,x.snd.snd.snd.snd.snd.snd.snd.snd.snd.snd.snd.snd.fst,x.snd.snd.snd.snd.snd.snd.snd.snd.snd.snd.snd.snd.snd.fst,x.snd.snd.snd.snd.snd.snd.snd.snd.snd.snd.snd.snd.snd.snd.fst,x.snd.snd.snd.snd.snd.snd.snd.snd.snd.snd.snd.snd.snd.snd.snd.fst,x.snd.snd.snd.snd.snd.snd.snd.snd.snd.snd.snd.snd.snd.snd.snd.snd.fst,x.snd.snd.snd.snd.snd.snd.snd.snd.snd.snd.snd.snd.snd.snd.snd.snd.snd)) else some (Sum.inl (x.fst,IntKind.i64.wrap (x.snd.snd.fst+1),x.snd.snd.snd.snd.fst,x.snd.snd.snd.snd.snd.fst,x.snd.snd.snd.snd.snd.snd.fst,x.snd.snd.snd.snd.snd.snd.snd.fst,x.snd.snd.snd.snd.snd.snd.snd.snd.fst,x.snd.snd.snd.snd.snd.snd.snd.snd.snd.fst,x.snd.snd.snd.snd.snd.snd.snd.snd.snd.snd.fst,x.snd.snd.snd.snd.snd.snd.snd.snd.snd.snd.snd.fst,x.snd.snd.snd.snd.snd.snd.snd.snd.snd.snd.snd.snd.fst,x.snd.snd.snd.snd.snd.snd.snd.snd.snd.snd.snd.snd.snd.fst,x.snd.snd.snd.snd.snd.snd.snd.snd.snd.snd.snd.snd.snd.snd.fst,x.snd.snd.snd.snd.snd.snd.snd.snd.snd.snd.snd.snd.snd.snd.snd.fst,x.snd.snd.snd.snd.snd.snd.snd.snd.snd.snd.snd.snd.snd.snd.snd.snd.fst,x.snd.snd.snd.snd.snd.snd.snd.snd.snd.snd.snd.snd.snd.snd.snd.snd.snd))
                              | Sum.inr r=>some r
                        else some (Sum.inr (x4.fst,{ n:={ Places:=x4.snd.snd.fst,Trans:=x4.snd.snd.snd.fst },mine:=x4.snd.snd.snd.snd.fst,near:=x4.snd.snd.snd.snd.snd.snd.snd.snd.snd.fst,ready:=x4.snd.snd.snd.snd.snd.snd.snd.snd.fst,marks:=x4.snd.snd.snd.snd.snd.snd.snd.snd.snd.snd.fst,wait:={ l:=x4.snd.snd.snd.snd.snd.snd.snd.snd.snd.snd.snd.fst },in_:=x4.snd.snd.snd.snd.snd.snd.snd.snd.snd.snd.snd.snd.fst,log:=x4.snd.snd.snd.snd.snd.snd.snd.snd.snd.snd.snd.snd.snd.fst,way:=x4.snd.snd.snd.snd.snd.snd.snd.snd.snd.snd.snd.snd.snd.snd.fst,time:=x4.snd.snd.snd.snd.snd.fst,out:=x4.snd.snd.snd.snd.snd.snd.snd.snd.snd.snd.snd.snd.snd.snd.snd,away:=x4.snd.snd.snd.snd.snd.snd.fst,count:=x4.snd.snd.snd.snd.snd.snd.snd.fst })))
                      (-1,0,x3.snd.n.Places,x3.snd.n.Trans,x3.snd.mine,x3.snd.time,x3.snd.away,x3.snd.count,x3.snd.ready,x3.snd.near,x3.snd.marks,x3.snd.wait.l,x3.snd.in_,x3.snd.log,x3.snd.way,x3.snd.out)).bind
                  fun (x4:Int×TEngine)=>if x4.fst < 0 then some (Sum.inr ((0:Int),x4.snd)) else (Ed (x4.fst,x4.snd)).bind fun (x5:Int×TEngine)=>if (!decide (x5.fst=0))=true then some (Sum.inr (x5.fst,x5.snd)) else some (Sum.inl (x3.fst,x5.snd)))
              (0,x2.snd)).bind
          fun (x3:Int×TEngine)=>some (x3.fst,x3.snd)
theorem Hs:vfn (T:=tE) lpK JM (a6 [lm,t6,EC,EA,F4,Gn]) E2 uu.res (vOf uu.code HR)=EF:=by kernel_rfl
abbrev G0:En tE:=⟨127,[],E2,EF⟩
theorem Jw:aB F tE 127 E2 2 EF:=by
 rw [← Hs]
 exact aw (fn:=uu) (af (en:=lm) (af (en:=t6) (af (en:=EC) (af (en:=EA) (af (en:=F4) (af (en:=Gn) ah Jm rfl) Hq rfl) F5 rfl) GD rfl) xu rfl) tg rfl) rfl (by kernel_rfl)
def Fh:FSp:=⟨[(false,[.ptr 0 0])],[.pr (.st 10)],[0],[.ld 0 false,.r 0,.slot 0 false,.ld 1 false,.ptr 1 0,.slot 1 false,.sl (.st 9),.pr (.st 10)]⟩
def HI:List (Nat×Lb):=[]
def Jl:List (Nat×VT):=[]
def Ek:TEngine→Option (List TEvent×TEngine):=fun (x:TEngine)=>some (x.out,{ n:=x.n,mine:=x.mine,near:=x.near,ready:=x.ready,marks:=x.marks,wait:=x.wait,in_:=x.in_,log:=x.log,way:=x.way,time:=x.time,out:=[],away:=x.away,count:=x.count })
theorem Jq:vfn (T:=tE) lpK Jl (a6 []) Fh sX.res (vOf sX.code HI)=Ek:=by kernel_rfl
abbrev Gd:En tE:=⟨130,[],Fh,Ek⟩
theorem Jr:aB F tE 130 Fh 1 Ek:=by
 rw [← Jq]
 exact aw (fn:=sX) ah rfl (by kernel_rfl)
def FL:FSp:=⟨[(false,[.e false (.st 10) 0])],[],[],[.ld 0 true,.r 0,.r 1,.r 2,.d true (.int .i64),.slot 0 true,.sl (.st 8),.sl (.int .i64),.sl (.int .i64)]⟩
def Ju:List (Nat×Lb):=[]
def Js:List (Nat×VT):=[]
def Em:TEngine→Option (Int×List TFire×List Int×List Int):=fun (x:TEngine)=>(app 16 [] x.log).bind fun (l1:List TFire)=>(app 8 [] x.marks).bind fun (l2:List Int)=>(app 8 [] x.way).bind fun (l3:List Int)=>some (x.time,l1,l2,l3)
theorem Ig:vfn (T:=tE) lpK Js (a6 []) FL rT.res (vOf rT.code Ju)=Em:=by kernel_rfl
abbrev GY:En tE:=⟨129,[],FL,Em⟩
theorem Iy:aB F tE 129 FL 1 Em:=by
 rw [← Ig]
 exact aw (fn:=rT) ah rfl (by kernel_rfl)
def q17:FSp:=⟨[(false,[.ptr 0 0])],[.pr (.st 11)],[0],[.ld 0 false,.r 0,.slot 0 false,.ld 1 false,.d true (.int .i64),.slot 1 false,.ld 2 false,.ptr 1 0,.slot 2 false,.sl (.st 13),.pr (.st 11)]⟩
def L17:List (Nat×Lb):=[(5,.j [.ld 0 false,.ptr 0 0,.slot 0 false,.ld 4 false,.r 1,.slot 4 false,.pr (.st 11),.sl (.st 13)]),(14,.l [.ld 36 false,.d true (.int .i64),.slot 36 false] [.ld 0 false,.ptr 0 0,.slot 0 false,.ld 4 false,.r 1,.slot 4 false,.ld 35 false,.r 2,.slot 35 false,.ld 37 false,.d true (.int .i64),.slot 37 false,.pr (.st 11),.sl (.st 13),.sl (.st 9)] [(some 0,[.ld 0 false,.ptr 0 0,.slot 0 false,.ld 4 false,.r 1,.slot 4 false,.pr (.st 11),.sl (.st 13)])]),(21,.l [.ld 64 false,.d true (.int .i64),.slot 64 false] [.ld 0 false,.ptr 0 0,.slot 0 false,.ld 4 false,.r 1,.slot 4 false,.ld 63 false,.r 2,.slot 63 false,.ld 65 false,.d true (.int .i64),.slot 65 false,.ldr,.d true (.int .i64),.r 3,.d true (.int .i64),.d true (.sl false (.int .i64)),.d true (.sl false (.int .i64)),.r 4,.r 2,.r 5,.r 6,.d true (.int .i64),.d true .bool,.d true .bool,.row,.sl (.st 13),.sl (.st 5),.io 101 (.st 10),.sl (.st 5),.sl (.int .i64),.sl (.int .i64)] [(some 2,[.ld 0 false,.ptr 0 0,.slot 0 false,.ld 4 false,.r 1,.slot 4 false,.pr (.st 11),.sl (.st 13)])])]
def H17:List (Nat×VT):=[(57,(.st 13)),(97,(.st 13))]
def p17:TProcess→Option (Int×List TMail×TProcess):=fun (x:TProcess)=>
  (p16 x).bind fun (b1:Bool)=>
    if (!b1)=true then some (0,[],x)
    else
      ((p39 x).bind fun (b2:Bool)=>if b2=true then (p42 x).bind fun (n3:Int)=>x.x.bind fun (x4:TEngine)=>(EF (n3,x4)).bind fun (x5:Int×TEngine)=>if (!decide (x5.fst=0))=true then Option.map (fun (x6:Int×List TMail×TProcess)=>Sum.inr x6) (some (x5.fst,[],{ id:=x.id,x:=some x5.snd,p:=x.p,in_:=x.in_,out:=x.out,clocks:=x.clocks,sent:=x.sent,horizon:=x.horizon,began:=true,done:=x.done })) else (Ek x5.snd).bind fun (x6:List TEvent×TEngine)=>(aq (fun (x7:Int×TProcess×List TMail×List TEvent)=>if x7.fst < (↑x6.fst.length:Int) then (idx x7.snd.snd.snd x7.fst).bind fun (x8:TEvent)=>(idx x7.snd.fst.p.Places x8.Place).bind fun (n9:Int)=>(app 40 x7.snd.snd.fst [{ From:=x7.snd.fst.id,To:=n9,E:=x8 }]).bind fun (l10:List TMail)=>some (Sum.inl (IntKind.i64.wrap (x7.fst+1),x7.snd.fst,l10,x7.snd.snd.snd)) else some (Sum.inr (x7.snd.fst,x7.snd.snd.fst))) (0,{ id:=x.id,x:=some x6.snd,p:=x.p,in_:=x.in_,out:=x.out,clocks:=x.clocks,sent:=x.sent,horizon:=x.horizon,began:=true,done:=x.done },[],x6.fst)).bind fun (x7:TProcess×List TMail)=>some (Sum.inl (x7.fst,x7.snd)) else some (Sum.inl (x,[]))).bind fun (x2:TProcess×List TMail⊕Int×List TMail×TProcess)=>
        match x2 with
        | Sum.inl x=>(aq (fun (x4:Int×Int×Int×List Int×List Int×Int×Bool×Bool×List TMail×List TLane×Option TEngine×List TLane×List Int×List Int)=>if x4.fst < (↑x.fst.out.length:Int) then (idx x4.snd.snd.snd.snd.snd.snd.snd.snd.snd.fst x4.fst).bind fun (x5:TLane)=>(p41 ({ id:=x4.snd.fst,x:=x4.snd.snd.snd.snd.snd.snd.snd.snd.snd.snd.fst,p:={ N:=x4.snd.snd.fst,Places:=x4.snd.snd.snd.fst,Trans:=x4.snd.snd.snd.snd.fst },in_:=x4.snd.snd.snd.snd.snd.snd.snd.snd.snd.snd.snd.fst,out:=x4.snd.snd.snd.snd.snd.snd.snd.snd.snd.fst,clocks:=x4.snd.snd.snd.snd.snd.snd.snd.snd.snd.snd.snd.snd.fst,sent:=x4.snd.snd.snd.snd.snd.snd.snd.snd.snd.snd.snd.snd.snd,horizon:=x4.snd.snd.snd.snd.snd.fst,began:=x4.snd.snd.snd.snd.snd.snd.fst,done:=x4.snd.snd.snd.snd.snd.snd.snd.fst },x5.From,x5.To,x5.Ahead)).bind fun (n6:Int)=>(idx x4.snd.snd.snd.snd.snd.snd.snd.snd.snd.snd.snd.snd.snd x4.fst).bind fun (n7:Int)=>if n7 < n6 then (idx x4.snd.snd.snd.snd.snd.snd.snd.snd.snd.snd.snd.snd.snd x4.fst).bind fun (n8:Int)=>(app 40 x4.snd.snd.snd.snd.snd.snd.snd.snd.fst [{ From:=x5.From,To:=x5.To,E:={ Time:=n6,Place:=0,N:=0 } }]).bind fun (l9:List TMail)=>some (Sum.inl (IntKind.i64.wrap (x4.fst+1),x4.snd.fst,x4.snd.snd.fst,x4.snd.snd.snd.fst,x4.snd.snd.snd.snd.fst,x4.snd.snd.snd.snd.snd.fst,x4.snd.snd.snd.snd.snd.snd.fst,x4.snd.snd.snd.snd.snd.snd.snd.fst,l9,x4.snd.snd.snd.snd.snd.snd.snd.snd.snd.fst,x4.snd.snd.snd.snd.snd.snd.snd.snd.snd.snd.fst,x4.snd.snd.snd.snd.snd.snd.snd.snd.snd.snd.snd.fst,x4.snd.snd.snd.snd.snd.snd.snd.snd.snd.snd.snd.snd.fst,x4.snd.snd.snd.snd.snd.snd.snd.snd.snd.snd.snd.snd.snd.set x4.fst.toNat n6)) else some (Sum.inl (IntKind.i64.wrap (x4.fst+1),x4.snd.fst,x4.snd.snd.fst,x4.snd.snd.snd.fst,x4.snd.snd.snd.snd.fst,x4.snd.snd.snd.snd.snd.fst,x4.snd.snd.snd.snd.snd.snd.fst,x4.snd.snd.snd.snd.snd.snd.snd.fst,x4.snd.snd.snd.snd.snd.snd.snd.snd.fst,x4.snd.snd.snd.snd.snd.snd.snd.snd.snd.fst,x4.snd.snd.snd.snd.snd.snd.snd.snd.snd.snd.fst,x4.snd.snd.snd.snd.snd.snd.snd.snd.snd.snd.snd.fst,x4.snd.snd.snd.snd.snd.snd.snd.snd.snd.snd.snd.snd.fst,x4.snd.snd.snd.snd.snd.snd.snd.snd.snd.snd.snd.snd.snd)) else some (Sum.inr ({ id:=x4.snd.fst,x:=x4.snd.snd.snd.snd.snd.snd.snd.snd.snd.snd.fst,p:={ N:=x4.snd.snd.fst,Places:=x4.snd.snd.snd.fst,Trans:=x4.snd.snd.snd.snd.fst },in_:=x4.snd.snd.snd.snd.snd.snd.snd.snd.snd.snd.snd.fst,out:=x4.snd.snd.snd.snd.snd.snd.snd.snd.snd.fst,clocks:=x4.snd.snd.snd.snd.snd.snd.snd.snd.snd.snd.snd.snd.fst,sent:=x4.snd.snd.snd.snd.snd.snd.snd.snd.snd.snd.snd.snd.snd,horizon:=x4.snd.snd.snd.snd.snd.fst,began:=x4.snd.snd.snd.snd.snd.snd.fst,done:=x4.snd.snd.snd.snd.snd.snd.snd.fst },x4.snd.snd.snd.snd.snd.snd.snd.snd.fst))) (0,x.fst.id,x.fst.p.N,x.fst.p.Places,x.fst.p.Trans,x.fst.horizon,x.fst.began,x.fst.done,x.snd,x.fst.out,x.fst.x,x.fst.in_,x.fst.clocks,x.fst.sent)).bind fun (x4:TProcess×List TMail)=>(p40 x4.fst).bind fun (b5:Bool)=>some (0,x4.snd,{ id:=x4.fst.id,x:=x4.fst.x,p:=x4.fst.p,in_:=x4.fst.in_,out:=x4.fst.out,clocks:=x4.fst.clocks,sent:=x4.fst.sent,horizon:=x4.fst.horizon,began:=x4.fst.began,done:=b5 })
        | Sum.inr r=>some r
theorem e17:vfn (T:=tE) lpK H17 (a6 [n16,n39,n42,G0,Gd,n41,n40]) q17 wq.res (vOf wq.code L17)=p17:=by kernel_rfl
abbrev n17:En tE:=⟨17,[],q17,p17⟩
theorem o17:aB F tE 17 q17 1 p17:=by
 rw [← e17]
 exact aw (fn:=wq) (af (en:=n16) (af (en:=n39) (af (en:=n42) (af (en:=G0) (af (en:=Gd) (af (en:=n41) (af (en:=n40) ah o40 rfl) o41 rfl) Jr rfl) Jw rfl) o42 rfl) o39 rfl) o16 rfl) rfl (by kernel_rfl)
def q22:FSp:=⟨[(false,[.ptr 0 0]),(true,[.d true (.int .i64),.d true (.int .i64),.d true (.int .i64),.d true (.int .i64),.d true (.int .i64)])],[.pr (.st 11)],[0],[.ld 0 false,.ptr 0 0,.slot 0 false,.pr (.st 11)]⟩
def p22:Int×Int×Int×Int×Int×TProcess→Option TProcess:=fun (x:Int×Int×Int×Int×Int×TProcess)=>
  if 0 < x.snd.snd.snd.snd.fst then x.snd.snd.snd.snd.snd.x.bind fun (x1:TEngine)=>(DI (x.snd.snd.fst,x.snd.snd.snd.fst,x.snd.snd.snd.snd.fst,x1)).bind fun (x2:TEngine)=>some { id:=x.snd.snd.snd.snd.snd.id,x:=some x2,p:=x.snd.snd.snd.snd.snd.p,in_:=x.snd.snd.snd.snd.snd.in_,out:=x.snd.snd.snd.snd.snd.out,clocks:=x.snd.snd.snd.snd.snd.clocks,sent:=x.snd.snd.snd.snd.snd.sent,horizon:=x.snd.snd.snd.snd.snd.horizon,began:=x.snd.snd.snd.snd.snd.began,done:=x.snd.snd.snd.snd.snd.done }
  else
    (aq
          (fun (x1:Int×Int×Int×List Int×List Int×Int×Bool×Bool×TMail×List TLane×Option TEngine×List TLane×List Int×List Int)=>
            if x1.fst < (↑x.snd.snd.snd.snd.snd.in_.length:Int) then
              (idx x1.snd.snd.snd.snd.snd.snd.snd.snd.snd.fst x1.fst).bind fun (x2:TLane)=>
                (if x2.From=x1.snd.snd.snd.snd.snd.snd.snd.snd.fst.From then some (Sum.inl (x1.fst,x1.fst,decide (x2.To=x1.snd.snd.snd.snd.snd.snd.snd.snd.fst.To),x1.snd.fst,x1.snd.snd.fst,x1.snd.snd.snd.fst,x1.snd.snd.snd.snd.fst,x1.snd.snd.snd.snd.snd.fst,x1.snd.snd.snd.snd.snd.snd.fst,x1.snd.snd.snd.snd.snd.snd.snd.fst,x1.snd.snd.snd.snd.snd.snd.snd.snd.fst,x1.snd.snd.snd.snd.snd.snd.snd.snd.snd.fst,x1.snd.snd.snd.snd.snd.snd.snd.snd.snd.snd.fst,x1.snd.snd.snd.snd.snd.snd.snd.snd.snd.snd.snd.fst,x1.snd.snd.snd.snd.snd.snd.snd.snd.snd.snd.snd.snd.fst,x1.snd.snd.snd.snd.snd.snd.snd.snd.snd.snd.snd.snd.snd)) else some (Sum.inl (x1.fst,x1.fst,false,x1.snd.fst,x1.snd.snd.fst,x1.snd.snd.snd.fst,x1.snd.snd.snd.snd.fst,x1.snd.snd.snd.snd.snd.fst,x1.snd.snd.snd.snd.snd.snd.fst,x1.snd.snd.snd.snd.snd.snd.snd.fst,x1.snd.snd.snd.snd.snd.snd.snd.snd.fst,x1.snd.snd.snd.snd.snd.snd.snd.snd.snd.fst,x1.snd.snd.snd.snd.snd.snd.snd.snd.snd.snd.fst,x1.snd.snd.snd.snd.snd.snd.snd.snd.snd.snd.snd.fst,x1.snd.snd.snd.snd.snd.snd.snd.snd.snd.snd.snd.snd.fst,x1.snd.snd.snd.snd.snd.snd.snd.snd.snd.snd.snd.snd.snd))).bind fun (x3:Int×Int×Bool×Int×Int×List Int×List Int×Int×Bool×Bool×TMail×List TLane×Option TEngine×List TLane×List Int×List Int⊕Int×Int×Int×List Int×List Int×Int×Bool×Bool×TMail×List TLane×Option TEngine×List TLane×List Int×List Int⊕TProcess)=>
                  match x3 with
                  | Sum.inl x=>if x.snd.snd.fst=true then (idx x.snd.snd.snd.snd.snd.snd.snd.snd.snd.snd.snd.snd.snd.snd.fst x.fst).bind fun (n5:Int)=>(idx x.snd.snd.snd.snd.snd.snd.snd.snd.snd.snd.snd.snd.snd.snd.fst x.fst).bind fun (n6:Int)=>some (Sum.inl (IntKind.i64.wrap (x.snd.fst+1),x.snd.snd.snd.fst,x.snd.snd.snd.snd.fst,x.snd.snd.snd.snd.snd.fst,x.snd.snd.snd.snd.snd.snd.fst,x.snd.snd.snd.snd.snd.snd.snd.fst,x.snd.snd.snd.snd.snd.snd.snd.snd.fst,x.snd.snd.snd.snd.snd.snd.snd.snd.snd.fst,x.snd.snd.snd.snd.snd.snd.snd.snd.snd.snd.fst,x.snd.snd.snd.snd.snd.snd.snd.snd.snd.snd.snd.fst,x.snd.snd.snd.snd.snd.snd.snd.snd.snd.snd.snd.snd.fst,x.snd.snd.snd.snd.snd.snd.snd.snd.snd.snd.snd.snd.snd.fst,x.snd.snd.snd.snd.snd.snd.snd.snd.snd.snd.snd.snd.snd.snd.fst.set x.fst.toNat (if n5 < x.snd.snd.snd.snd.snd.snd.snd.snd.snd.snd.fst.E.Time then x.snd.snd.snd.snd.snd.snd.snd.snd.snd.snd.fst.E.Time else n5),x.snd.snd.snd.snd.snd.snd.snd.snd.snd.snd.snd.snd.snd.snd.snd)) else some (Sum.inl (IntKind.i64.wrap (x.snd.fst+1),x.snd.snd.snd.fst,x.snd.snd.snd.snd.fst,x.snd.snd.snd.snd.snd.fst,x.snd.snd.snd.snd.snd.snd.fst,x.snd.snd.snd.snd.snd.snd.snd.fst,x.snd.snd.snd.snd.snd.snd.snd.snd.fst,x.snd.snd.snd.snd.snd.snd.snd.snd.snd.fst,x.snd.snd.snd.snd.snd.snd.snd.snd.snd.snd.fst,x.snd.snd.snd.snd.snd.snd.snd.snd.snd.snd.snd.fst,x.snd.snd.snd.snd.snd.snd.snd.snd.snd.snd.snd.snd.fst,x.snd.snd.snd.snd.snd.snd.snd.snd.snd.snd.snd.snd.snd.fst,x.snd.snd.snd.snd.snd.snd.snd.snd.snd.snd.snd.snd.snd.snd.fst,x.snd.snd.snd.snd.snd.snd.snd.snd.snd.snd.snd.snd.snd.snd.snd))
                  | Sum.inr r=>some r
            else some (Sum.inr { id:=x1.snd.fst,x:=x1.snd.snd.snd.snd.snd.snd.snd.snd.snd.snd.fst,p:={ N:=x1.snd.snd.fst,Places:=x1.snd.snd.snd.fst,Trans:=x1.snd.snd.snd.snd.fst },in_:=x1.snd.snd.snd.snd.snd.snd.snd.snd.snd.fst,out:=x1.snd.snd.snd.snd.snd.snd.snd.snd.snd.snd.snd.fst,clocks:=x1.snd.snd.snd.snd.snd.snd.snd.snd.snd.snd.snd.snd.fst,sent:=x1.snd.snd.snd.snd.snd.snd.snd.snd.snd.snd.snd.snd.snd,horizon:=x1.snd.snd.snd.snd.snd.fst,began:=x1.snd.snd.snd.snd.snd.snd.fst,done:=x1.snd.snd.snd.snd.snd.snd.snd.fst }))
          (0,x.snd.snd.snd.snd.snd.id,x.snd.snd.snd.snd.snd.p.N,x.snd.snd.snd.snd.snd.p.Places,x.snd.snd.snd.snd.snd.p.Trans,x.snd.snd.snd.snd.snd.horizon,x.snd.snd.snd.snd.snd.began,x.snd.snd.snd.snd.snd.done,{ From:=x.fst,To:=x.snd.fst,E:={ Time:=x.snd.snd.fst,Place:=x.snd.snd.snd.fst,N:=x.snd.snd.snd.snd.fst } },x.snd.snd.snd.snd.snd.in_,x.snd.snd.snd.snd.snd.x,x.snd.snd.snd.snd.snd.out,x.snd.snd.snd.snd.snd.clocks,x.snd.snd.snd.snd.snd.sent)).bind
      fun (x1:TProcess)=>some x1
abbrev n22:En tE:=⟨22,[],q22,p22⟩
def q18:FSp:=⟨[(false,[.e false (.st 11) 0])],[],[],[.ld 0 false,.d true .bool,.slot 0 false]⟩
def L18:List (Nat×Lb):=[]
def H18:List (Nat×VT):=[]
def p18:TProcess→Option Bool:=fun (x:TProcess)=>some x.done
theorem e18:vfn (T:=tE) lpK H18 (a6 []) q18 wm.res (vOf wm.code L18)=p18:=by kernel_rfl
abbrev n18:En tE:=⟨18,[],q18,p18⟩
theorem o18:aB F tE 18 q18 1 p18:=by
 rw [← e18]
 exact aw (fn:=wm) ah rfl (by kernel_rfl)
def q20:FSp:=⟨[(false,[.e false (.st 11) 0])],[],[],[.ld 0 true,.r 0,.r 1,.r 2,.d true (.int .i64),.slot 0 true,.sl (.st 8),.sl (.int .i64),.sl (.int .i64)]⟩
def L20:List (Nat×Lb):=[]
def H20:List (Nat×VT):=[]
def p20:TProcess→Option (Int×List TFire×List Int×List Int):=fun (x:TProcess)=>x.x.bind fun (x1:TEngine)=>(Em x1).bind fun (x2:Int×List TFire×List Int×List Int)=>some (x2.fst,x2.snd.fst,x2.snd.snd.fst,x2.snd.snd.snd)
theorem e20:vfn (T:=tE) lpK H20 (a6 [GY]) q20 wk.res (vOf wk.code L20)=p20:=by kernel_rfl
abbrev n20:En tE:=⟨20,[],q20,p20⟩
theorem o20:aB F tE 20 q20 1 p20:=by
 rw [← e20]
 exact aw (fn:=wk) (af (en:=GY) ah Iy rfl) rfl (by kernel_rfl)
def q11:FSp:=⟨[],[],[],[.ld 0 false,.d true .bool,.slot 0 false]⟩
def L11:List (Nat×Lb):=[(4,.j [.ld 2 false,.r 0,.slot 2 false,.ld 27 false,.d true .bool,.slot 27 false,.po (.st 11)]),(8,.l [] [.ld 2 false,.r 0,.slot 2 false,.ld 4 false,.d true (.int .i64),.slot 4 false,.po (.st 11)] [(some 0,[.ld 2 false,.r 0,.slot 2 false,.po (.st 11)])])]
def H11:List (Nat×VT):=[(6,(.st 2)),(8,(.st 0)),(10,(.st 0)),(12,(.st 1)),(16,(.int .i64)),(17,(.int .i64))]
def p11:Unit→Option Bool:=fun (x:Unit)=>
  (p14 ([{ Name:=[112],Tokens:=1 }],[{ Name:=[116],Delay:=2,Prio:=0,In:=[{ Place:=0,N:=1 }],Not:=[],Out:=[{ Place:=0,N:=1 }] }],1,[0],[0],0,5)).bind fun (x1:Int×Option TProcess)=>
    (if (!decide (x1.fst=0))=true then some (Sum.inl (true,x1.snd)) else some (Sum.inl (x1.snd.isNone,x1.snd))).bind fun (x2:Bool×Option TProcess⊕Bool)=>
      match x2 with
      | Sum.inl x=>if x.fst=true then some false else (aq (fun (x4:Int×Option TProcess)=>if x4.fst < 5 then x4.snd.bind fun (x5:TProcess)=>(p17 x5).bind fun (x6:Int×List TMail×TProcess)=>some (Sum.inl (IntKind.i64.wrap (x4.fst+1),some x6.snd.snd)) else some (Sum.inr x4.snd)) (0,x.snd)).bind fun (x4:Option TProcess)=>x4.bind fun (x5:TProcess)=>(p18 x5).bind fun (b6:Bool)=>if b6=true then x4.bind fun (x7:TProcess)=>(p20 x7).bind fun (x8:Int×List TFire×List Int×List Int)=>if (↑x8.snd.fst.length:Int)=3 then x4.bind fun (x9:TProcess)=>(p23 x9).bind fun (n10:Int)=>some (decide (n10=2305843009213693952)) else some false else some false
      | Sum.inr r=>some r
theorem e11:vfn (T:=tE) lpK H11 (a6 [n14,n17,n18,n20,n23]) q11 B7.res (vOf B7.code L11)=p11:=by kernel_rfl
abbrev n11:En tE:=⟨11,[],q11,p11⟩
theorem o11:aB F tE 11 q11 0 p11:=by
 rw [← e11]
 exact aw (fn:=B7) (af (en:=n14) (af (en:=n17) (af (en:=n18) (af (en:=n20) (af (en:=n23) ah o23 rfl) o20 rfl) o18 rfl) o17 rfl) o14 rfl) rfl (by kernel_rfl)
def q12:FSp:=⟨[(true,[.d false (.sl false (.int .u8)),.d false (.sl false (.st 14))])],[],[],[.ld 0 false,.d true .bool,.slot 0 false]⟩
def L12:List (Nat×Lb):=[]
def H12:List (Nat×VT):=[]
def p12:List Int×List TAct→Option Bool:=fun (x:List Int×List TAct)=>if (↑x.fst.length:Int)≤60 then some (decide ((↑x.snd.length:Int)≤12)) else some false
theorem e12:vfn (T:=tE) lpK H12 (a6 []) q12 Cf.res (vOf Cf.code L12)=p12:=by kernel_rfl
abbrev n12:En tE:=⟨12,[],q12,p12⟩
theorem o12:aB F tE 12 q12 1 p12:=by
 rw [← e12]
 exact aw (fn:=Cf) ah rfl (by kernel_rfl)
def q35:FSp:=⟨[(false,[.r 0]),(false,[.d true (.int .i64)]),(false,[.d true (.int .i64)])],[.sl (.st 0)],[],[.ld 0 false,.r 0,.slot 0 false,.sl (.st 0)]⟩
def L35:List (Nat×Lb):=[(3,.l [.ld 1 false,.d true (.int .i64),.slot 1 false,.ld 2 false,.d true (.int .i64),.slot 2 false] [.ld 0 false,.r 0,.slot 0 false,.ld 6 false,.c .nilSlice,.slot 6 false,.ld 7 false,.d true (.int .i64),.slot 7 false,.sl (.st 0)] [(some 0,[.ld 0 false,.r 0,.slot 0 false,.sl (.st 0)]),(none,[.ld 0 false,.r 0,.slot 0 false,.ld 6 false,.r 0,.slot 6 false,.sl (.st 0)])])]
def H35:List (Nat×VT):=[(26,(.st 0))]
def p35:Int×Int×List TArc→Option (List TArc):=fun (x:Int×Int×List TArc)=>
  (aq (fun (x1:Int×List TArc)=>if x1.fst < (↑x1.snd.length:Int) then (idx x1.snd x1.fst).bind fun (x2:TArc)=>if x2.Place=x.fst then some (Sum.inr (Sum.inr x1.snd)) else some (Sum.inl (IntKind.i64.wrap (x1.fst+1),x1.snd)) else some (Sum.inr (Sum.inl x1.snd))) (0,x.snd.snd)).bind fun (x1:List TArc⊕List TArc)=>
    match x1 with
    | Sum.inl x_1=>(app 16 x_1 [{ Place:=x.fst,N:=x.snd.fst }]).bind fun (l3:List TArc)=>some l3
    | Sum.inr y=>some y
theorem e35:vfn (T:=tE) lpK H35 (a6 []) q35 DP.res (vOf DP.code L35)=p35:=by kernel_rfl
abbrev n35:En tE:=⟨35,[],q35,p35⟩
theorem o35:aB F tE 35 q35 3 p35:=by
 rw [← e35]
 exact aw (fn:=DP) ah rfl (by kernel_rfl)
def q13:FSp:=⟨[(true,[.d false (.sl false (.int .u8)),.d false (.sl false (.st 14))])],[],[],[.ld 0 true,.r 0,.r 1,.slot 0 true,.sl (.st 2),.sl (.st 1)]⟩
def L13:List (Nat×Lb):=[(4,.l [] [.ld 1 false,.ptr 0 0,.slot 1 false,.ld 2 false,.ptr 1 0,.slot 2 false,.ld 3 false,.ptr 2 0,.slot 3 false,.ld 4 false,.d true (.int .i64),.slot 4 false,.ldr,.d false (.sl false (.int .u8)),.d false (.sl false (.st 14)),.row,.pr (.st 3),.pr (.st 3)] [(some 0,[.ld 1 false,.ptr 0 0,.slot 1 false,.ld 2 false,.ptr 1 0,.slot 2 false,.ld 3 false,.ptr 2 0,.slot 3 false,.ldr,.d false (.sl false (.int .u8)),.d false (.sl false (.st 14)),.row,.pr (.st 3),.pr (.st 3)])]),(9,.j [.ld 1 false,.ptr 0 0,.slot 1 false,.ld 2 false,.ptr 1 0,.slot 2 false,.ld 3 false,.ptr 2 0,.slot 3 false,.ld 4 false,.d true (.int .i64),.slot 4 false,.ld 5 false,.d true (.int .i64),.slot 5 false,.ldr,.d false (.sl false (.int .u8)),.d false (.sl false (.st 14)),.row,.pr (.st 3),.pr (.st 3)]),(14,.l [.ld 6 false,.d true (.int .i64),.slot 6 false] [.ld 1 false,.ptr 0 0,.slot 1 false,.ld 2 false,.ptr 1 0,.slot 2 false,.ld 3 false,.ptr 2 0,.slot 3 false,.ld 7 false,.d true (.int .i64),.slot 7 false,.ldr,.d false (.sl false (.int .u8)),.d false (.sl false (.st 14)),.row,.pr (.st 3),.pr (.st 3)] [(some 2,[.ld 2 false,.ptr 0 0,.slot 2 false,.ld 3 false,.ptr 1 0,.slot 3 false,.pr (.st 3),.pr (.st 3)])]),(16,.j [.ld 1 false,.ptr 0 0,.slot 1 false,.ld 2 false,.ptr 1 0,.slot 2 false,.ld 3 false,.ptr 2 0,.slot 3 false,.ld 7 false,.d true (.int .i64),.slot 7 false,.ld 55 false,.d true .bool,.slot 55 false,.ldr,.d false (.sl false (.int .u8)),.d false (.sl false (.st 14)),.row,.pr (.st 3),.pr (.st 3)]),(21,.j [.ld 1 false,.ptr 0 0,.slot 1 false,.ld 2 false,.ptr 1 0,.slot 2 false,.ld 3 false,.ptr 2 0,.slot 3 false,.ld 7 false,.d true (.int .i64),.slot 7 false,.ld 8 false,.ptr 3 0,.slot 8 false,.ld 9 false,.ptr 4 0,.slot 9 false,.ldr,.d false (.sl false (.int .u8)),.d false (.sl false (.st 14)),.row,.pr (.st 3),.pr (.st 3),.pr (.st 14),.ldr,.d true .str,.d true (.int .i64),.d true (.int .i64),.r 5,.c .nilSlice,.c .nilSlice,.row,.sl (.st 0)]),(23,.j [.ld 1 false,.ptr 0 0,.slot 1 false,.ld 2 false,.ptr 1 0,.slot 2 false,.ld 3 false,.ptr 2 0,.slot 3 false,.ld 7 false,.d true (.int .i64),.slot 7 false,.ld 8 false,.ptr 3 0,.slot 8 false,.ld 9 false,.ptr 4 0,.slot 9 false,.ldr,.d false (.sl false (.int .u8)),.d false (.sl false (.st 14)),.row,.pr (.st 3),.pr (.st 3),.pr (.st 14),.ldr,.d true .str,.d true (.int .i64),.d true (.int .i64),.r 5,.r 6,.c .nilSlice,.row,.sl (.st 0),.sl (.st 0)]),(25,.j [.ld 1 false,.ptr 0 0,.slot 1 false,.ld 2 false,.ptr 1 0,.slot 2 false,.ld 3 false,.ptr 2 0,.slot 3 false,.ld 7 false,.d true (.int .i64),.slot 7 false,.ld 8 false,.ptr 3 0,.slot 8 false,.ld 9 false,.ptr 4 0,.slot 9 false,.ldr,.d false (.sl false (.int .u8)),.d false (.sl false (.st 14)),.row,.pr (.st 3),.pr (.st 3),.pr (.st 14),.ldr,.d true .str,.d true (.int .i64),.d true (.int .i64),.r 5,.r 6,.r 7,.row,.sl (.st 0),.sl (.st 0),.sl (.st 0)]),(27,.j [.ld 1 false,.ptr 0 0,.slot 1 false,.ld 2 false,.ptr 1 0,.slot 2 false,.ld 3 false,.ptr 2 0,.slot 3 false,.ld 7 false,.d true (.int .i64),.slot 7 false,.ld 8 false,.ptr 3 0,.slot 8 false,.ld 9 false,.ptr 4 0,.slot 9 false,.ldr,.d false (.sl false (.int .u8)),.d false (.sl false (.st 14)),.row,.pr (.st 3),.pr (.st 3),.pr (.st 14),.ldr,.d true .str,.d true (.int .i64),.d true (.int .i64),.r 5,.r 6,.r 7,.row,.sl (.st 0),.sl (.st 0),.sl (.st 0)]),(29,.j [.ld 1 false,.ptr 0 0,.slot 1 false,.ld 2 false,.ptr 1 0,.slot 2 false,.ld 3 false,.ptr 2 0,.slot 3 false,.ld 7 false,.d true (.int .i64),.slot 7 false,.ld 9 false,.ptr 3 0,.slot 9 false,.ldr,.d false (.sl false (.int .u8)),.d false (.sl false (.st 14)),.row,.pr (.st 3),.pr (.st 3),.ldr,.d true .str,.d true (.int .i64),.d true (.int .i64),.r 4,.r 5,.r 6,.row,.sl (.st 0),.sl (.st 0),.sl (.st 0)]),(30,.j [.ld 1 false,.ptr 0 0,.slot 1 false,.ld 2 false,.ptr 1 0,.slot 2 false,.ld 3 false,.ptr 2 0,.slot 3 false,.ld 7 false,.d true (.int .i64),.slot 7 false,.ld 9 false,.ptr 3 0,.slot 9 false,.ld 167 false,.d true .bool,.slot 167 false,.ldr,.d false (.sl false (.int .u8)),.d false (.sl false (.st 14)),.row,.pr (.st 3),.pr (.st 3),.ldr,.d true .str,.d true (.int .i64),.d true (.int .i64),.r 4,.r 5,.r 6,.row,.sl (.st 0),.sl (.st 0),.sl (.st 0)])]
def H13:List (Nat×VT):=[(36,(.int .u8)),(41,(.st 2)),(66,(.int .u8)),(172,(.st 1))]
def p13:List Int×List TAct→Option (List TPlace×List TTrans):=fun (x:List Int×List TAct)=>
  (aq
        (fun (x1:Int×List Int×List TAct×TNet×TNet)=>
          (remI IntKind.i64 (↑x1.snd.fst.length:Int) 7).bind fun (n2:Int)=>
            if x1.fst < IntKind.i64.wrap (1+n2) then
              (if x1.fst < (↑x1.snd.fst.length:Int) then (idx x1.snd.fst x1.fst).bind fun (n3:Int)=>(remI IntKind.u8 n3 5).bind fun (n4:Int)=>some (Sum.inl (x1.fst,IntKind.i64.wrap n4,x1.snd.fst,x1.snd.snd.fst,x1.snd.snd.snd.fst,x1.snd.snd.snd.snd)) else some (Sum.inl (x1.fst,0,x1.snd.fst,x1.snd.snd.fst,x1.snd.snd.snd.fst,x1.snd.snd.snd.snd))).bind fun (x3:Int×Int×List Int×List TAct×TNet×TNet⊕Int×List Int×List TAct×TNet×TNet⊕List Int×List TAct×TNet×TNet)=>
                match x3 with
                | Sum.inl x=>(catS [112] (u8 (IntKind.u8.wrap (IntKind.i64.wrap (97+x.fst)))::[])).bind fun (l5:List UInt8)=>(app 24 x.snd.snd.snd.snd.snd.Places [{ Name:=l5,Tokens:=x.snd.fst }]).bind fun (l6:List TPlace)=>some (Sum.inl (IntKind.i64.wrap (x.fst+1),x.snd.snd.fst,x.snd.snd.snd.fst,x.snd.snd.snd.snd.fst,{ Places:=l6,Trans:=x.snd.snd.snd.snd.snd.Trans }))
                | Sum.inr r=>some r
            else some (Sum.inr (x1.snd.fst,x1.snd.snd.fst,x1.snd.snd.snd.fst,x1.snd.snd.snd.snd)))
        (0,x.fst,x.snd,{ Places:=[],Trans:=[] },{ Places:=[],Trans:=[] })).bind
    fun (x1:List Int×List TAct×TNet×TNet)=>
    (aq
          (fun (x2:Int×List Int×List TAct×TNet×TNet)=>
            (if x2.fst < (↑x2.snd.snd.fst.length:Int) then some (Sum.inl (x2.fst,decide (x2.fst < 9),x2.snd.fst,x2.snd.snd.fst,x2.snd.snd.snd.fst,x2.snd.snd.snd.snd)) else some (Sum.inl (x2.fst,false,x2.snd.fst,x2.snd.snd.fst,x2.snd.snd.snd.fst,x2.snd.snd.snd.snd))).bind fun (x3:Int×Bool×List Int×List TAct×TNet×TNet⊕Int×List Int×List TAct×TNet×TNet⊕TNet×TNet)=>
              match x3 with
              | Sum.inl x=>
                if x.snd.fst=true then
                  (idx x.snd.snd.snd.fst x.fst).bind fun (x5:TAct)=>
                    (catS [116] (u8 (IntKind.u8.wrap (IntKind.i64.wrap (48+x.fst)))::[])).bind fun (l6:List UInt8)=>
                      (catS l6 [46,120]).bind fun (l7:List UInt8)=>
                        (remI IntKind.u8 x5.D 5).bind fun (n8:Int)=>
                          (remI IntKind.u8 x5.P 3).bind fun (n9:Int)=>
                            (remI IntKind.i64 (IntKind.i64.wrap x5.I) (↑x1.snd.snd.snd.Places.length:Int)).bind fun (n10:Int)=>
                              (quoI IntKind.u8 x5.I 64).bind fun (n11:Int)=>
                                (remI IntKind.i64 (IntKind.i64.wrap n11) 2).bind fun (n12:Int)=>
                                  (p35 (n10,IntKind.i64.wrap (1+n12),[])).bind fun (l13:List TArc)=>
                                    ((remI IntKind.u8 x5.J 3).bind fun (n14:Int)=>if n14=0 then (quoI IntKind.u8 x5.J 3).bind fun (n15:Int)=>(remI IntKind.i64 (IntKind.i64.wrap n15) (↑x1.snd.snd.snd.Places.length:Int)).bind fun (n16:Int)=>(p35 (n16,1,l13)).bind fun (l17:List TArc)=>some (Sum.inl (x.fst,x.snd.snd.fst,x.snd.snd.snd.fst,x.snd.snd.snd.snd.fst,x.snd.snd.snd.snd.snd,x5,l7,IntKind.i64.wrap n8,IntKind.i64.wrap n9,l17)) else some (Sum.inl (x.fst,x.snd.snd.fst,x.snd.snd.snd.fst,x.snd.snd.snd.snd.fst,x.snd.snd.snd.snd.snd,x5,l7,IntKind.i64.wrap n8,IntKind.i64.wrap n9,l13))).bind fun (x14:Int×List Int×List TAct×TNet×TNet×TAct×List UInt8×Int×Int×List TArc⊕Int×List Int×List TAct×TNet×TNet⊕TNet×TNet)=>
                                      match x14 with
                                      | Sum.inl x=>
                                        ((remI IntKind.u8 x.snd.snd.snd.snd.snd.fst.N 4).bind fun (n16:Int)=>if n16=0 then (quoI IntKind.u8 x.snd.snd.snd.snd.snd.fst.N 4).bind fun (n17:Int)=>(remI IntKind.i64 (IntKind.i64.wrap n17) (↑x1.snd.snd.snd.Places.length:Int)).bind fun (n18:Int)=>(quoI IntKind.u8 x.snd.snd.snd.snd.snd.fst.N 64).bind fun (n19:Int)=>(p35 (n18,IntKind.i64.wrap (1+IntKind.i64.wrap n19),[])).bind fun (l20:List TArc)=>some (Sum.inl (x.fst,x.snd.fst,x.snd.snd.fst,x.snd.snd.snd.fst,x.snd.snd.snd.snd.fst,x.snd.snd.snd.snd.snd.fst,x.snd.snd.snd.snd.snd.snd.fst,x.snd.snd.snd.snd.snd.snd.snd.fst,x.snd.snd.snd.snd.snd.snd.snd.snd.fst,x.snd.snd.snd.snd.snd.snd.snd.snd.snd,l20)) else some (Sum.inl (x.fst,x.snd.fst,x.snd.snd.fst,x.snd.snd.snd.fst,x.snd.snd.snd.snd.fst,x.snd.snd.snd.snd.snd.fst,x.snd.snd.snd.snd.snd.snd.fst,x.snd.snd.snd.snd.snd.snd.snd.fst,x.snd.snd.snd.snd.snd.snd.snd.snd.fst,x.snd.snd.snd.snd.snd.snd.snd.snd.snd,[]))).bind fun (x16:Int×List Int×List TAct×TNet×TNet×TAct×List UInt8×Int×Int×List TArc×List TArc⊕Int×List Int×List TAct×TNet×TNet⊕TNet×TNet)=>
                                          match x16 with
                                          | Sum.inl x=>
                                            ((remI IntKind.u8 x.snd.snd.snd.snd.snd.fst.O 5).bind fun (n18:Int)=>if 0 < n18 then (quoI IntKind.u8 x.snd.snd.snd.snd.snd.fst.O 5).bind fun (n19:Int)=>(remI IntKind.i64 (IntKind.i64.wrap n19) (↑x1.snd.snd.snd.Places.length:Int)).bind fun (n20:Int)=>(quoI IntKind.u8 x.snd.snd.snd.snd.snd.fst.O 128).bind fun (n21:Int)=>(p35 (n20,IntKind.i64.wrap (1+IntKind.i64.wrap n21),[])).bind fun (l22:List TArc)=>some (Sum.inl (x.fst,x.snd.fst,x.snd.snd.fst,x.snd.snd.snd.fst,x.snd.snd.snd.snd.fst,x.snd.snd.snd.snd.snd.fst,x.snd.snd.snd.snd.snd.snd.fst,x.snd.snd.snd.snd.snd.snd.snd.fst,x.snd.snd.snd.snd.snd.snd.snd.snd.fst,x.snd.snd.snd.snd.snd.snd.snd.snd.snd.fst,x.snd.snd.snd.snd.snd.snd.snd.snd.snd.snd,l22)) else some (Sum.inl (x.fst,x.snd.fst,x.snd.snd.fst,x.snd.snd.snd.fst,x.snd.snd.snd.snd.fst,x.snd.snd.snd.snd.snd.fst,x.snd.snd.snd.snd.snd.snd.fst,x.snd.snd.snd.snd.snd.snd.snd.fst,x.snd.snd.snd.snd.snd.snd.snd.snd.fst,x.snd.snd.snd.snd.snd.snd.snd.snd.snd.fst,x.snd.snd.snd.snd.snd.snd.snd.snd.snd.snd,[]))).bind fun (x18:Int×List Int×List TAct×TNet×TNet×TAct×List UInt8×Int×Int×List TArc×List TArc×List TArc⊕Int×List Int×List TAct×TNet×TNet⊕TNet×TNet)=>
                                              match x18 with
                                              | Sum.inl x=>
                                                ((remI IntKind.u8 x.snd.snd.snd.snd.snd.fst.Q 3).bind fun (n20:Int)=>if 0 < n20 then (quoI IntKind.u8 x.snd.snd.snd.snd.snd.fst.Q 3).bind fun (n21:Int)=>(remI IntKind.i64 (IntKind.i64.wrap n21) (↑x1.snd.snd.snd.Places.length:Int)).bind fun (n22:Int)=>(p35 (n22,1,x.snd.snd.snd.snd.snd.snd.snd.snd.snd.snd.snd)).bind fun (l23:List TArc)=>some (Sum.inl (x.fst,x.snd.fst,x.snd.snd.fst,x.snd.snd.snd.fst,x.snd.snd.snd.snd.fst,x.snd.snd.snd.snd.snd.fst,x.snd.snd.snd.snd.snd.snd.fst,x.snd.snd.snd.snd.snd.snd.snd.fst,x.snd.snd.snd.snd.snd.snd.snd.snd.fst,x.snd.snd.snd.snd.snd.snd.snd.snd.snd.fst,x.snd.snd.snd.snd.snd.snd.snd.snd.snd.snd.fst,l23)) else some (Sum.inl (x.fst,x.snd.fst,x.snd.snd.fst,x.snd.snd.snd.fst,x.snd.snd.snd.snd.fst,x.snd.snd.snd.snd.snd.fst,x.snd.snd.snd.snd.snd.snd.fst,x.snd.snd.snd.snd.snd.snd.snd.fst,x.snd.snd.snd.snd.snd.snd.snd.snd.fst,x.snd.snd.snd.snd.snd.snd.snd.snd.snd.fst,x.snd.snd.snd.snd.snd.snd.snd.snd.snd.snd.fst,x.snd.snd.snd.snd.snd.snd.snd.snd.snd.snd.snd))).bind fun (x20:Int×List Int×List TAct×TNet×TNet×TAct×List UInt8×Int×Int×List TArc×List TArc×List TArc⊕Int×List Int×List TAct×TNet×TNet⊕TNet×TNet)=>
                                                  match x20 with
                                                  | Sum.inl x=>
                                                    ((if x.snd.snd.snd.snd.snd.snd.snd.fst=0 then some (Sum.inl (x.fst,decide (x.snd.snd.snd.snd.snd.fst.D < 128),x.snd.fst,x.snd.snd.fst,x.snd.snd.snd.fst,x.snd.snd.snd.snd.fst,x.snd.snd.snd.snd.snd.snd.fst,x.snd.snd.snd.snd.snd.snd.snd.fst,x.snd.snd.snd.snd.snd.snd.snd.snd.fst,x.snd.snd.snd.snd.snd.snd.snd.snd.snd.fst,x.snd.snd.snd.snd.snd.snd.snd.snd.snd.snd.fst,x.snd.snd.snd.snd.snd.snd.snd.snd.snd.snd.snd)) else some (Sum.inl (x.fst,false,x.snd.fst,x.snd.snd.fst,x.snd.snd.snd.fst,x.snd.snd.snd.snd.fst,x.snd.snd.snd.snd.snd.snd.fst,x.snd.snd.snd.snd.snd.snd.snd.fst,x.snd.snd.snd.snd.snd.snd.snd.snd.fst,x.snd.snd.snd.snd.snd.snd.snd.snd.snd.fst,x.snd.snd.snd.snd.snd.snd.snd.snd.snd.snd.fst,x.snd.snd.snd.snd.snd.snd.snd.snd.snd.snd.snd))).bind fun (x22:Int×Bool×List Int×List TAct×TNet×TNet×List UInt8×Int×Int×List TArc×List TArc×List TArc⊕Int×List Int×List TAct×TNet×TNet×List UInt8×Int×Int×List TArc×List TArc×List TArc⊕Int×List Int×List TAct×TNet×TNet⊕TNet×TNet)=>
                                                          match x22 with
                                                          | Sum.inl x=>if x.snd.fst=true then some (Sum.inl (x.fst,x.snd.snd.fst,x.snd.snd.snd.fst,x.snd.snd.snd.snd.fst,x.snd.snd.snd.snd.snd.fst,x.snd.snd.snd.snd.snd.snd.fst,1,x.snd.snd.snd.snd.snd.snd.snd.snd.fst,x.snd.snd.snd.snd.snd.snd.snd.snd.snd.fst,x.snd.snd.snd.snd.snd.snd.snd.snd.snd.snd.fst,x.snd.snd.snd.snd.snd.snd.snd.snd.snd.snd.snd)) else some (Sum.inl (x.fst,x.snd.snd.fst,x.snd.snd.snd.fst,x.snd.snd.snd.snd.fst,x.snd.snd.snd.snd.snd.fst,x.snd.snd.snd.snd.snd.snd.fst,x.snd.snd.snd.snd.snd.snd.snd.fst,x.snd.snd.snd.snd.snd.snd.snd.snd.fst,x.snd.snd.snd.snd.snd.snd.snd.snd.snd.fst,x.snd.snd.snd.snd.snd.snd.snd.snd.snd.snd.fst,x.snd.snd.snd.snd.snd.snd.snd.snd.snd.snd.snd))
                                                          | Sum.inr r=>some r).bind
                                                      fun (x22:Int×List Int×List TAct×TNet×TNet×List UInt8×Int×Int×List TArc×List TArc×List TArc⊕Int×List Int×List TAct×TNet×TNet⊕TNet×TNet)=>
                                                      match x22 with
                                                      | Sum.inl x=>(app 104 x.snd.snd.snd.snd.fst.Trans [{ Name:=x.snd.snd.snd.snd.snd.fst,Delay:=x.snd.snd.snd.snd.snd.snd.fst,Prio:=x.snd.snd.snd.snd.snd.snd.snd.fst,In:=x.snd.snd.snd.snd.snd.snd.snd.snd.fst,Not:=x.snd.snd.snd.snd.snd.snd.snd.snd.snd.fst,Out:=x.snd.snd.snd.snd.snd.snd.snd.snd.snd.snd }]).bind fun (l24:List TTrans)=>some (Sum.inl (IntKind.i64.wrap (x.fst+1),x.snd.fst,x.snd.snd.fst,x.snd.snd.snd.fst,{ Places:=x.snd.snd.snd.snd.fst.Places,Trans:=l24 }))
                                                      | Sum.inr r=>some r
                                                  | Sum.inr r=>some r
                                              | Sum.inr r=>some r
                                          | Sum.inr r=>some r
                                      | Sum.inr r=>some r
                else some (Sum.inr (x.snd.snd.snd.snd.fst,x.snd.snd.snd.snd.snd))
              | Sum.inr r=>some r)
          (0,x1.fst,x1.snd.fst,x1.snd.snd.fst,x1.snd.snd.snd)).bind
      fun (x2:TNet×TNet)=>some (x2.snd.Places,x2.snd.Trans)
theorem e13:vfn (T:=tE) lpK H13 (a6 [n35]) q13 D0.res (vOf D0.code L13)=p13:=by kernel_rfl
abbrev n13:En tE:=⟨13,[],q13,p13⟩
theorem o13:aB F tE 13 q13 1 p13:=by
 rw [← e13]
 exact aw (fn:=D0) (af (en:=n35) ah o35 rfl) rfl (by kernel_rfl)
def q80:FSp:=⟨[(true,[.d true .str,.d true (.int .i64),.d true (.int .i64),.d false (.sl false (.st 0)),.d false (.sl false (.st 0)),.d false (.sl false (.st 0))]),(false,[.d true (.int .i64)])],[],[],[.ld 0 false,.d true .bool,.slot 0 false]⟩
def L80:List (Nat×Lb):=[(3,.l [.ld 1 false,.d true (.int .i64),.slot 1 false] [.ld 2 false,.ptr 0 0,.slot 2 false,.ld 4 false,.c (.bool false),.slot 4 false,.ld 5 false,.d true (.int .i64),.slot 5 false,.ldr,.d true .str,.d true (.int .i64),.d true (.int .i64),.d false (.sl false (.st 0)),.d false (.sl false (.st 0)),.d false (.sl false (.st 0)),.row] [(some 0,[.ld 2 false,.ptr 0 0,.slot 2 false,.ld 4 false,.c (.bool false),.slot 4 false,.ldr,.d true .str,.d true (.int .i64),.d true (.int .i64),.d false (.sl false (.st 0)),.d false (.sl false (.st 0)),.d false (.sl false (.st 0)),.row]),(none,[.ld 4 false,.c (.bool true),.slot 4 false])]),(11,.l [.ld 1 false,.d true (.int .i64),.slot 1 false] [.ld 2 false,.ptr 0 0,.slot 2 false,.ld 4 false,.c (.bool false),.slot 4 false,.ld 6 false,.d true (.int .i64),.slot 6 false,.ldr,.d true .str,.d true (.int .i64),.d true (.int .i64),.d false (.sl false (.st 0)),.d false (.sl false (.st 0)),.d false (.sl false (.st 0)),.row] [(some 2,[]),(none,[.ld 4 false,.c (.bool true),.slot 4 false])])]
def H80:List (Nat×VT):=[]
def p80:List UInt8×Int×Int×List TArc×List TArc×List TArc×Int→Option Bool:=fun (x:List UInt8×Int×Int×List TArc×List TArc×List TArc×Int)=>
  (aq (fun (x1:Int×List UInt8×Int×Int×List TArc×List TArc×List TArc)=>if x1.fst < (↑x1.snd.snd.snd.snd.fst.length:Int) then (idx x1.snd.snd.snd.snd.fst x1.fst).bind fun (x2:TArc)=>if x2.Place=x.snd.snd.snd.snd.snd.snd then some (Sum.inr (Sum.inr ())) else some (Sum.inl (IntKind.i64.wrap (x1.fst+1),x1.snd.fst,x1.snd.snd.fst,x1.snd.snd.snd.fst,x1.snd.snd.snd.snd.fst,x1.snd.snd.snd.snd.snd.fst,x1.snd.snd.snd.snd.snd.snd)) else some (Sum.inr (Sum.inl (x1.snd.fst,x1.snd.snd.fst,x1.snd.snd.snd.fst,x1.snd.snd.snd.snd.fst,x1.snd.snd.snd.snd.snd.fst,x1.snd.snd.snd.snd.snd.snd)))) (0,x.fst,x.snd.fst,x.snd.snd.fst,x.snd.snd.snd.fst,x.snd.snd.snd.snd.fst,x.snd.snd.snd.snd.snd.fst)).bind fun (x1:List UInt8×Int×Int×List TArc×List TArc×List TArc⊕Unit)=>
    match x1 with
    | Sum.inl x_1=>
      (aq (fun (x3:Int×List UInt8×Int×Int×List TArc×List TArc×List TArc)=>if x3.fst < (↑x3.snd.snd.snd.snd.snd.fst.length:Int) then (idx x3.snd.snd.snd.snd.snd.fst x3.fst).bind fun (x4:TArc)=>if x4.Place=x.snd.snd.snd.snd.snd.snd then some (Sum.inr (Sum.inr ())) else some (Sum.inl (IntKind.i64.wrap (x3.fst+1),x3.snd.fst,x3.snd.snd.fst,x3.snd.snd.snd.fst,x3.snd.snd.snd.snd.fst,x3.snd.snd.snd.snd.snd.fst,x3.snd.snd.snd.snd.snd.snd)) else some (Sum.inr (Sum.inl ()))) (0,x_1.fst,x_1.snd.fst,x_1.snd.snd.fst,x_1.snd.snd.snd.fst,x_1.snd.snd.snd.snd.fst,x_1.snd.snd.snd.snd.snd)).bind fun (x3:Unit⊕Unit)=>
        match x3 with
        | Sum.inl x=>some false
        | Sum.inr y=>some true
    | Sum.inr y=>some true
theorem e80:vfn (T:=tE) lpK H80 (a6 []) q80 Cz.res (vOf Cz.code L80)=p80:=by kernel_rfl
abbrev n80:En tE:=⟨80,[],q80,p80⟩
theorem o80:aB F tE 80 q80 2 p80:=by
 rw [← e80]
 exact aw (fn:=Cz) ah rfl (by kernel_rfl)
def q81:FSp:=⟨[(true,[.d true .str,.d true (.int .i64),.d true (.int .i64),.d false (.sl false (.st 0)),.d false (.sl false (.st 0)),.d false (.sl false (.st 0))]),(false,[.d true (.int .i64)])],[],[],[.ld 0 false,.d true .bool,.slot 0 false]⟩
def L81:List (Nat×Lb):=[(3,.l [.ld 1 false,.d true (.int .i64),.slot 1 false] [.ld 2 false,.ptr 0 0,.slot 2 false,.ld 4 false,.c (.bool false),.slot 4 false,.ld 5 false,.d true (.int .i64),.slot 5 false,.ldr,.d true .str,.d true (.int .i64),.d true (.int .i64),.d false (.sl false (.st 0)),.d false (.sl false (.st 0)),.d false (.sl false (.st 0)),.row] [(some 0,[]),(none,[.ld 4 false,.c (.bool true),.slot 4 false])])]
def H81:List (Nat×VT):=[]
def p81:List UInt8×Int×Int×List TArc×List TArc×List TArc×Int→Option Bool:=fun (x:List UInt8×Int×Int×List TArc×List TArc×List TArc×Int)=>
  (aq (fun (x1:Int×List UInt8×Int×Int×List TArc×List TArc×List TArc)=>if x1.fst < (↑x1.snd.snd.snd.snd.snd.snd.length:Int) then (idx x1.snd.snd.snd.snd.snd.snd x1.fst).bind fun (x2:TArc)=>if x2.Place=x.snd.snd.snd.snd.snd.snd then some (Sum.inr (Sum.inr ())) else some (Sum.inl (IntKind.i64.wrap (x1.fst+1),x1.snd.fst,x1.snd.snd.fst,x1.snd.snd.snd.fst,x1.snd.snd.snd.snd.fst,x1.snd.snd.snd.snd.snd.fst,x1.snd.snd.snd.snd.snd.snd)) else some (Sum.inr (Sum.inl ()))) (0,x.fst,x.snd.fst,x.snd.snd.fst,x.snd.snd.snd.fst,x.snd.snd.snd.snd.fst,x.snd.snd.snd.snd.snd.fst)).bind fun (x1:Unit⊕Unit)=>
    match x1 with
    | Sum.inl x=>some false
    | Sum.inr y=>some true
theorem e81:vfn (T:=tE) lpK H81 (a6 []) q81 B4.res (vOf B4.code L81)=p81:=by kernel_rfl
abbrev n81:En tE:=⟨81,[],q81,p81⟩
theorem o81:aB F tE 81 q81 2 p81:=by
 rw [← e81]
 exact aw (fn:=B4) ah rfl (by kernel_rfl)
def q82:FSp:=⟨[(false,[.d true (.int .i64)]),(false,[.d false (.sl false (.st 16))])],[],[],[.ld 0 false,.r 0,.slot 0 false,.sl (.sl false (.int .i64))]⟩
def L82:List (Nat×Lb):=[(4,.l [.ld 0 false,.d true (.int .i64),.slot 0 false,.ld 1 false,.d false (.sl false (.st 16)),.slot 1 false] [.ld 5 false,.r 0,.slot 5 false,.ld 6 false,.d true (.int .i64),.slot 6 false,.sl (.int .i64)] [(some 0,[.ld 5 false,.r 0,.slot 5 false,.sl (.int .i64)])]),(10,.l [.ld 0 false,.d true (.int .i64),.slot 0 false,.ld 1 false,.d false (.sl false (.st 16)),.slot 1 false] [.ld 5 false,.r 0,.slot 5 false,.ld 7 false,.d true (.int .i64),.slot 7 false,.sl (.int .i64)] [(some 2,[.ld 5 false,.r 0,.slot 5 false,.sl (.int .i64)])]),(15,.l [.ld 7 false,.d true (.int .i64),.slot 7 false] [.ld 5 false,.r 0,.slot 5 false,.ld 8 false,.d true (.int .i64),.slot 8 false,.sl (.int .i64)] [(some 4,[.ld 5 false,.r 0,.slot 5 false,.sl (.int .i64)])]),(22,.j [.ld 5 false,.r 0,.slot 5 false,.ld 8 false,.d true (.int .i64),.slot 8 false,.ld 9 false,.d true (.int .i64),.slot 9 false,.ld 10 false,.d true (.int .i64),.slot 10 false,.ld 62 false,.d true .bool,.slot 62 false,.sl (.int .i64)]),(27,.l [.ld 0 false,.d true (.int .i64),.slot 0 false] [.ld 5 false,.r 0,.slot 5 false,.ld 11 false,.r 1,.slot 11 false,.ld 12 false,.d true (.int .i64),.slot 12 false,.sl (.int .i64),.sl (.sl false (.int .i64))] [(some 6,[.ld 11 false,.r 0,.slot 11 false,.sl (.sl false (.int .i64))])]),(34,.l [.ld 11 false,.r 0,.slot 11 false,.ld 12 false,.d true (.int .i64),.slot 12 false,.sl (.sl false (.int .i64))] [.ld 5 false,.r 0,.slot 5 false,.ld 13 false,.r 1,.slot 13 false,.ld 14 false,.d true (.int .i64),.slot 14 false,.sl (.int .i64),.sl (.int .i64)] [(some 8,[.ld 5 false,.r 0,.slot 5 false,.ld 13 false,.r 1,.slot 13 false,.sl (.int .i64),.sl (.int .i64)])])]
def H82:List (Nat×VT):=[(16,(.int .i64)),(104,(.int .i64)),(111,(.sl false (.int .i64)))]
def p82:Int×List TArr2_Int→Option (List (List Int)):=fun (x:Int×List TArr2_Int)=>
  (mkS 8 x.fst x.fst 0).bind fun (l1:List Int)=>
    (aq (fun (x2:Int×List Int)=>if x2.fst < x.fst then (idx x2.snd x2.fst).bind fun (n3:Int)=>some (Sum.inl (IntKind.i64.wrap (x2.fst+1),x2.snd.set x2.fst.toNat x2.fst)) else some (Sum.inr x2.snd)) (0,l1)).bind fun (l2:List Int)=>
      (aq
            (fun (x3:Int×List Int)=>
              if x3.fst < x.fst then
                (aq
                      (fun (x4:Int×List Int)=>
                        if x4.fst < (↑x.snd.length:Int) then
                          (idx x.snd x4.fst).bind fun (x5:TArr2_Int)=>
                            (idx x.snd x4.fst).bind fun (x6:TArr2_Int)=>
                              (if x5.e0 < 0 then some (Sum.inl (x4.fst,x5.e0,x6.e1,true,x4.snd)) else if x.fst≤x5.e0 then some (Sum.inl (x4.fst,x5.e0,x6.e1,true,x4.snd)) else if x6.e1 < 0 then some (Sum.inl (x4.fst,x5.e0,x6.e1,true,x4.snd)) else some (Sum.inl (x4.fst,x5.e0,x6.e1,decide (x.fst≤x6.e1),x4.snd))).bind fun (x7:Int×Int×Int×Bool×List Int⊕Int×List Int⊕List Int)=>
                                match x7 with
                                | Sum.inl x=>if x.snd.snd.snd.fst=true then some (Sum.inl (IntKind.i64.wrap (x.fst+1),x.snd.snd.snd.snd)) else (idx x.snd.snd.snd.snd x.snd.fst).bind fun (n9:Int)=>(idx x.snd.snd.snd.snd x.snd.snd.fst).bind fun (n10:Int)=>if n9 < n10 then (idx x.snd.snd.snd.snd x.snd.fst).bind fun (n11:Int)=>(idx x.snd.snd.snd.snd x.snd.snd.fst).bind fun (n12:Int)=>some (Sum.inl (IntKind.i64.wrap (x.fst+1),x.snd.snd.snd.snd.set x.snd.snd.fst.toNat n11)) else (idx x.snd.snd.snd.snd x.snd.snd.fst).bind fun (n11:Int)=>(idx x.snd.snd.snd.snd x.snd.fst).bind fun (n12:Int)=>some (Sum.inl (IntKind.i64.wrap (x.fst+1),x.snd.snd.snd.snd.set x.snd.fst.toNat n11))
                                | Sum.inr r=>some r
                        else some (Sum.inr x4.snd))
                      (0,x3.snd)).bind
                  fun (l4:List Int)=>some (Sum.inl (IntKind.i64.wrap (x3.fst+1),l4))
              else some (Sum.inr x3.snd))
            (0,l2)).bind
        fun (l3:List Int)=>(aq (fun (x4:Int×List Int×List (List Int))=>if x4.fst < x.fst then (aq (fun (x5:Int×List Int×List Int)=>if x5.fst < x.fst then (idx x5.snd.fst x5.fst).bind fun (n6:Int)=>if n6=x4.fst then (app 8 x5.snd.snd [x5.fst]).bind fun (l7:List Int)=>some (Sum.inl (IntKind.i64.wrap (x5.fst+1),x5.snd.fst,l7)) else some (Sum.inl (IntKind.i64.wrap (x5.fst+1),x5.snd.fst,x5.snd.snd)) else some (Sum.inr (x5.snd.fst,x5.snd.snd))) (0,x4.snd.fst,[])).bind fun (x5:List Int×List Int)=>if 0 < (↑x5.snd.length:Int) then (app 24 x4.snd.snd [x5.snd]).bind fun (l6:List (List Int))=>some (Sum.inl (IntKind.i64.wrap (x4.fst+1),x5.fst,l6)) else some (Sum.inl (IntKind.i64.wrap (x4.fst+1),x5.fst,x4.snd.snd)) else some (Sum.inr x4.snd.snd)) (0,l3,[])).bind fun (l4:List (List Int))=>some l4
theorem e82:vfn (T:=tE) lpK H82 (a6 []) q82 BN.res (vOf BN.code L82)=p82:=by kernel_rfl
abbrev n82:En tE:=⟨82,[],q82,p82⟩
theorem o82:aB F tE 82 q82 2 p82:=by
 rw [← e82]
 exact aw (fn:=BN) ah rfl (by kernel_rfl)
def q68:FSp:=⟨[(true,[.d false (.sl false (.st 2)),.d false (.sl false (.st 1))])],[],[],[.ld 0 false,.r 0,.slot 0 false,.sl (.sl false (.int .i64))]⟩
def L68:List (Nat×Lb):=[(4,.l [] [.ld 1 false,.ptr 0 0,.slot 1 false,.ld 3 false,.r 1,.slot 3 false,.ld 4 false,.d true (.int .i64),.slot 4 false,.ldr,.d false (.sl false (.st 2)),.d false (.sl false (.st 1)),.row,.sl (.st 16)] [(some 0,[.ld 1 false,.ptr 0 0,.slot 1 false,.ld 3 false,.r 1,.slot 3 false,.ldr,.d false (.sl false (.st 2)),.d false (.sl false (.st 1)),.row,.sl (.st 16)])]),(9,.l [.ld 4 false,.d true (.int .i64),.slot 4 false] [.ld 1 false,.ptr 0 0,.slot 1 false,.ld 3 false,.r 1,.slot 3 false,.ld 5 false,.d true (.int .i64),.slot 5 false,.ldr,.d false (.sl false (.st 2)),.d false (.sl false (.st 1)),.row,.sl (.st 16)] [(some 2,[.ld 1 false,.ptr 0 0,.slot 1 false,.ld 3 false,.r 1,.slot 3 false,.ldr,.d false (.sl false (.st 2)),.d false (.sl false (.st 1)),.row,.sl (.st 16)])]),(13,.j [.ld 1 false,.ptr 0 0,.slot 1 false,.ld 3 false,.r 1,.slot 3 false,.ld 5 false,.d true (.int .i64),.slot 5 false,.ld 44 false,.d true .bool,.slot 44 false,.ldr,.d false (.sl false (.st 2)),.d false (.sl false (.st 1)),.row,.sl (.st 16)])]
def H68:List (Nat×VT):=[(53,(.st 16))]
def p68:List TPlace×List TTrans→Option (List (List Int)):=fun (x:List TPlace×List TTrans)=>
  (aq
        (fun (x1:Int×List TPlace×List TTrans×List TArr2_Int)=>
          if x1.fst < (↑x1.snd.snd.fst.length:Int) then
            (aq
                  (fun (x2:Int×List TPlace×List TTrans×List TArr2_Int)=>
                    if x2.fst < (↑x2.snd.fst.length:Int) then
                      ((idx x2.snd.snd.fst x1.fst).bind fun (x3:TTrans)=>(p80 (x3.Name,x3.Delay,x3.Prio,x3.In,x3.Not,x3.Out,x2.fst)).bind fun (b4:Bool)=>if b4=true then some (Sum.inl (x2.fst,true,x2.snd.fst,x2.snd.snd.fst,x2.snd.snd.snd)) else (idx x2.snd.snd.fst x1.fst).bind fun (x5:TTrans)=>if x5.Delay=0 then (idx x2.snd.snd.fst x1.fst).bind fun (x6:TTrans)=>(p81 (x6.Name,x6.Delay,x6.Prio,x6.In,x6.Not,x6.Out,x2.fst)).bind fun (b7:Bool)=>some (Sum.inl (x2.fst,b7,x2.snd.fst,x2.snd.snd.fst,x2.snd.snd.snd)) else some (Sum.inl (x2.fst,false,x2.snd.fst,x2.snd.snd.fst,x2.snd.snd.snd))).bind fun (x3:Int×Bool×List TPlace×List TTrans×List TArr2_Int⊕Int×List TPlace×List TTrans×List TArr2_Int⊕List TPlace×List TTrans×List TArr2_Int)=>
                        match x3 with
                        | Sum.inl x=>if x.snd.fst=true then (app 16 x.snd.snd.snd.snd [{ e0:=x.fst,e1:=IntKind.i64.wrap ((↑x.snd.snd.fst.length:Int)+x1.fst) }]).bind fun (l5:List TArr2_Int)=>some (Sum.inl (IntKind.i64.wrap (x.fst+1),x.snd.snd.fst,x.snd.snd.snd.fst,l5)) else some (Sum.inl (IntKind.i64.wrap (x.fst+1),x.snd.snd.fst,x.snd.snd.snd.fst,x.snd.snd.snd.snd))
                        | Sum.inr r=>some r
                    else some (Sum.inr (x2.snd.fst,x2.snd.snd.fst,x2.snd.snd.snd)))
                  (0,x1.snd.fst,x1.snd.snd.fst,x1.snd.snd.snd)).bind
              fun (x2:List TPlace×List TTrans×List TArr2_Int)=>some (Sum.inl (IntKind.i64.wrap (x1.fst+1),x2.fst,x2.snd.fst,x2.snd.snd))
          else some (Sum.inr (x1.snd.fst,x1.snd.snd.fst,x1.snd.snd.snd)))
        (0,x.fst,x.snd,[])).bind
    fun (x1:List TPlace×List TTrans×List TArr2_Int)=>(p82 (IntKind.i64.wrap ((↑x1.fst.length:Int)+(↑x1.snd.fst.length:Int)),x1.snd.snd)).bind fun (l2:List (List Int))=>some l2
theorem e68:vfn (T:=tE) lpK H68 (a6 [n80,n81,n82]) q68 Cm.res (vOf Cm.code L68)=p68:=by kernel_rfl
abbrev n68:En tE:=⟨68,[],q68,p68⟩
theorem o68:aB F tE 68 q68 1 p68:=by
 rw [← e68]
 exact aw (fn:=Cm) (af (en:=n80) (af (en:=n81) (af (en:=n82) ah o82 rfl) o81 rfl) o80 rfl) rfl (by kernel_rfl)
def q45:FSp:=⟨[(true,[.d false (.sl false (.st 2)),.d false (.sl false (.st 1))]),(false,[.d true (.int .u8)]),(false,[.d false (.sl false (.int .u8))])],[],[],[.ld 0 false,.d true (.int .i64),.slot 0 false,.ld 1 false,.r 0,.slot 1 false,.ld 2 false,.r 1,.slot 2 false,.sl (.int .i64),.sl (.int .i64)]⟩
def L45:List (Nat×Lb):=[(7,.l [.ld 2 false,.d false (.sl false (.int .u8)),.slot 2 false,.ld 9 false,.d true (.int .i64),.slot 9 false] [.ld 10 false,.r 0,.slot 10 false,.ld 11 false,.r 1,.slot 11 false,.ld 12 false,.r 2,.slot 12 false,.ld 13 false,.d true (.int .i64),.slot 13 false,.sl (.int .i64),.sl (.int .i64),.sl (.sl false (.int .i64))] [(some 0,[.ld 10 false,.r 0,.slot 10 false,.ld 11 false,.r 1,.slot 11 false,.sl (.int .i64),.sl (.int .i64)])]),(12,.j [.ld 10 false,.r 0,.slot 10 false,.ld 11 false,.r 1,.slot 11 false,.ld 12 false,.r 2,.slot 12 false,.ld 13 false,.d true (.int .i64),.slot 13 false,.ld 14 false,.d true (.int .i64),.slot 14 false,.sl (.int .i64),.sl (.int .i64),.sl (.sl false (.int .i64))]),(15,.l [.ld 13 false,.d true (.int .i64),.slot 13 false,.ld 14 false,.d true (.int .i64),.slot 14 false] [.ld 10 false,.r 0,.slot 10 false,.ld 11 false,.r 1,.slot 11 false,.ld 12 false,.r 2,.slot 12 false,.ld 15 false,.d true (.int .i64),.slot 15 false,.sl (.int .i64),.sl (.int .i64),.sl (.sl false (.int .i64))] [(some 2,[.ld 10 false,.r 0,.slot 10 false,.ld 11 false,.r 1,.slot 11 false,.ld 12 false,.r 2,.slot 12 false,.sl (.int .i64),.sl (.int .i64),.sl (.sl false (.int .i64))])])]
def H45:List (Nat×VT):=[(24,(.int .i64)),(28,(.int .i64))]
def p45:List TPlace×List TTrans×Int×List Int→Option (Int×List Int×List Int):=fun (x:List TPlace×List TTrans×Int×List Int)=>
  (remI IntKind.u8 x.snd.snd.fst 5).bind fun (n1:Int)=>
    (mkS 8 (↑x.fst.length:Int) (↑x.fst.length:Int) 0).bind fun (l2:List Int)=>
      (mkS 8 (↑x.snd.fst.length:Int) (↑x.snd.fst.length:Int) 0).bind fun (l3:List Int)=>
        (p68 (x.fst,x.snd.fst)).bind fun (l4:List (List Int))=>
          (aq
                (fun (x5:Int×List Int×List Int×List (List Int))=>
                  if x5.fst < (↑x5.snd.snd.snd.length:Int) then
                    (remI IntKind.i64 x5.fst (IntKind.i64.wrap (1+IntKind.i64.wrap n1))).bind fun (n6:Int)=>
                      (if x5.fst < (↑x.snd.snd.snd.length:Int) then (idx x.snd.snd.snd x5.fst).bind fun (n7:Int)=>(remI IntKind.i64 (IntKind.i64.wrap n7) (IntKind.i64.wrap (1+IntKind.i64.wrap n1))).bind fun (n8:Int)=>some (Sum.inl (x5.fst,n8,x5.snd.fst,x5.snd.snd.fst,x5.snd.snd.snd)) else some (Sum.inl (x5.fst,n6,x5.snd.fst,x5.snd.snd.fst,x5.snd.snd.snd))).bind fun (x7:Int×Int×List Int×List Int×List (List Int)⊕Int×List Int×List Int×List (List Int)⊕List Int×List Int)=>
                        match x7 with
                        | Sum.inl x=>(aq (fun (x9:Int×List Int×List Int×List (List Int))=>(idx x9.snd.snd.snd x.fst).bind fun (l10:List Int)=>if x9.fst < (↑l10.length:Int) then (idx x9.snd.snd.snd x.fst).bind fun (l11:List Int)=>(idx l11 x9.fst).bind fun (n12:Int)=>if n12 < (↑x9.snd.fst.length:Int) then (idx x9.snd.fst n12).bind fun (n13:Int)=>some (Sum.inl (IntKind.i64.wrap (x9.fst+1),x9.snd.fst.set n12.toNat x.snd.fst,x9.snd.snd.fst,x9.snd.snd.snd)) else (idx x9.snd.snd.fst (IntKind.i64.wrap (n12 - (↑x9.snd.fst.length:Int)))).bind fun (n13:Int)=>some (Sum.inl (IntKind.i64.wrap (x9.fst+1),x9.snd.fst,x9.snd.snd.fst.set (IntKind.i64.wrap (n12 - (↑x9.snd.fst.length:Int))).toNat x.snd.fst,x9.snd.snd.snd)) else some (Sum.inr (x9.snd.fst,x9.snd.snd.fst,x9.snd.snd.snd))) (0,x.snd.snd.fst,x.snd.snd.snd.fst,x.snd.snd.snd.snd)).bind fun (x9:List Int×List Int×List (List Int))=>some (Sum.inl (IntKind.i64.wrap (x.fst+1),x9.fst,x9.snd.fst,x9.snd.snd))
                        | Sum.inr r=>some r
                  else some (Sum.inr (x5.snd.fst,x5.snd.snd.fst)))
                (0,l2,l3,l4)).bind
            fun (x5:List Int×List Int)=>some (IntKind.i64.wrap (1+IntKind.i64.wrap n1),x5.fst,x5.snd)
theorem e45:vfn (T:=tE) lpK H45 (a6 [n68]) q45 B6.res (vOf B6.code L45)=p45:=by kernel_rfl
abbrev n45:En tE:=⟨45,[],q45,p45⟩
theorem o45:aB F tE 45 q45 3 p45:=by
 rw [← e45]
 exact aw (fn:=B6) (af (en:=n68) ah o68 rfl) rfl (by kernel_rfl)
def q21:FSp:=⟨[(true,[.d false (.sl false (.st 2)),.d false (.sl false (.st 1))]),(false,[.d true (.int .u8)]),(false,[.d false (.sl false (.int .u8))])],[],[],[.ld 0 true,.d true (.int .i64),.r 0,.r 1,.slot 0 true,.sl (.int .i64),.sl (.int .i64)]⟩
def L21:List (Nat×Lb):=[]
def H21:List (Nat×VT):=[]
def p21:List TPlace×List TTrans×Int×List Int→Option (Int×List Int×List Int):=fun (x:List TPlace×List TTrans×Int×List Int)=>(p45 (x.fst,x.snd.fst,x.snd.snd.fst,x.snd.snd.snd)).bind fun (x1:Int×List Int×List Int)=>some (x1.fst,x1.snd.fst,x1.snd.snd)
theorem e21:vfn (T:=tE) lpK H21 (a6 [n45]) q21 CR.res (vOf CR.code L21)=p21:=by kernel_rfl
abbrev n21:En tE:=⟨21,[],q21,p21⟩
theorem o21:aB F tE 21 q21 3 p21:=by
 rw [← e21]
 exact aw (fn:=CR) (af (en:=n45) ah o45 rfl) rfl (by kernel_rfl)
def zT:Int×Int×Int×Int×Int→Option (Bool×Int×Int):=fun (x:Int×Int×Int×Int×Int)=>if x.fst=x.snd.snd.snd.fst then some (decide (x.snd.fst=x.snd.snd.snd.snd),x.snd.snd.snd.fst,x.snd.snd.snd.snd) else some (false,x.snd.snd.snd.fst,x.snd.snd.snd.snd)
def yx:List TLane×Int×Int→Option Int:=fun (x:List TLane×Int×Int)=>
  (aq (fun (x1:Int×Int×Int×Int)=>if x1.snd.fst < (↑x.fst.length:Int) then (idx x.fst x1.snd.fst).bind fun (x2:TLane)=>(zT (x2.From,x2.To,x2.Ahead,x1.snd.snd.fst,x1.snd.snd.snd)).bind fun (x3:Bool×Int×Int)=>if x3.fst=true then some (Sum.inr (Sum.inr x1.snd.fst)) else some (Sum.inl (x1.fst,IntKind.i64.wrap (x1.snd.fst+1),x3.snd.fst,x3.snd.snd)) else some (Sum.inr (Sum.inl ()))) (0,0,x.snd.fst,x.snd.snd)).bind fun (x1:Unit⊕Int)=>
    match x1 with
    | Sum.inl x=>some (-1)
    | Sum.inr y=>some y
def q25:FSp:=⟨[(false,[.d false (.sl false (.st 5))]),(false,[.d true (.int .i64)]),(false,[.d true (.int .i64)])],[],[],[.ld 0 false,.d true (.int .i64),.slot 0 false]⟩
def p25:List TLane×Int×Int→Option Int:=fun (x:List TLane×Int×Int)=>(yx (x.fst,x.snd.fst,x.snd.snd)).bind fun (n1:Int)=>some n1
abbrev n25:En tE:=⟨25,[],q25,p25⟩
def Jc:Int→Option Bool:=fun (x:Int)=>if 97≤x then some (decide (x≤122)) else some false
def Jp:Int→Option Bool:=fun (x:Int)=>if 48≤x then some (decide (x≤57)) else some false
def p97:Int×Int→Option Bool:=fun (x:Int×Int)=>if x.fst < x.snd then some true else some (decide (1000000 < x.fst))
def p94:List TArc→Option Bool:=fun (x:List TArc)=>some (decide (8 < (↑x.length:Int)))
def yf:List (List TArc)→Option Int:=fun (x:List (List TArc))=>
  (aq (fun (x1:Int×Int)=>if x1.snd < (↑x.length:Int) then (idx x x1.snd).bind fun (l2:List TArc)=>(p94 l2).bind fun (b3:Bool)=>if b3=true then some (Sum.inr (Sum.inr x1.snd)) else some (Sum.inl (x1.fst,IntKind.i64.wrap (x1.snd+1))) else some (Sum.inr (Sum.inl ()))) (0,0)).bind fun (x1:Unit⊕Int)=>
    match x1 with
    | Sum.inl x=>some (-1)
    | Sum.inr y=>some y
def xv:List (List TArc)→Option Bool:=fun (x:List (List TArc))=>(yf x).bind fun (n1:Int)=>some (decide (0≤n1))
def p72:List (List TArc)→Option Bool:=fun (x:List (List TArc))=>(xv x).bind fun (b1:Bool)=>some b1
def p95:List TPlace×List TTrans→Option (List (List UInt8)):=fun (x:List TPlace×List TTrans)=>(aq (fun (x1:Int×List TPlace×List TTrans×List (List UInt8))=>if x1.fst < (↑x.fst.length:Int) then (idx x.fst x1.fst).bind fun (x2:TPlace)=>(app 16 x1.snd.snd.snd [x2.Name]).bind fun (l3:List (List UInt8))=>some (Sum.inl (IntKind.i64.wrap (x1.fst+1),x1.snd.fst,x1.snd.snd.fst,l3)) else some (Sum.inr (x1.snd.fst,x1.snd.snd.fst,x1.snd.snd.snd))) (0,x.fst,x.snd,[])).bind fun (x1:List TPlace×List TTrans×List (List UInt8))=>(aq (fun (x2:Int×List (List UInt8))=>if x2.fst < (↑x1.snd.fst.length:Int) then (idx x1.snd.fst x2.fst).bind fun (x3:TTrans)=>(app 16 x2.snd [x3.Name]).bind fun (l4:List (List UInt8))=>some (Sum.inl (IntKind.i64.wrap (x2.fst+1),l4)) else some (Sum.inr x2.snd)) (0,x1.snd.snd)).bind fun (l2:List (List UInt8))=>some l2
end
end Go.Proofs.Ytmchbhheoieepaa
