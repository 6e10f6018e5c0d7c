/- Pure functions of the law's functions, and that these do so. No condition. Own work. -/
import Derived.Test.YtmchbhheoieepaaCProcessClocks
import Derived.Test.YtmchbhheoieepaaEProcessClocks
import Derived.Test.YtmchbhheoieepaaPProcessClocks
import Derived.Test.YtmchbhheoieepaaVm5ProcessClocks
set_option linter.unusedVariables false
namespace Go.Proofs.Ytmchbhheoieepaa
open Go Go.Am
noncomputable section
def q63:FSp:=⟨[(true,[.d true .str,.d true (.int .i64),.d true (.int .i64),.d false (.sl false (.st 0)),.d false (.sl false (.st 0)),.d false (.sl false (.st 0))])],[],[],[.ld 0 false,.r 0,.slot 0 false,.sl (.int .i64)]⟩
def L63:List (Nat×Lb):=[(4,.l [.ld 12 true,.d false (.sl false (.st 0)),.d false (.sl false (.st 0)),.slot 12 true] [.ld 3 false,.r 0,.slot 3 false,.ld 13 false,.d true (.int .i64),.slot 13 false,.sl (.int .i64)] [(some 0,[.ld 3 false,.r 0,.slot 3 false,.sl (.int .i64)])]),(10,.l [.ld 13 false,.d true (.int .i64),.slot 13 false,.ld 16 false,.d false (.sl false (.st 0)),.slot 16 false,.ld 17 false,.d true (.int .i64),.slot 17 false] [.ld 3 false,.r 0,.slot 3 false,.ld 18 false,.d true (.int .i64),.slot 18 false,.sl (.int .i64)] [(some 2,[.ld 3 false,.r 0,.slot 3 false,.sl (.int .i64)])])]
def H63:List (Nat×VT):=[(25,(.int .i64))]
def p63:List UInt8×Int×Int×List TArc×List TArc×List TArc→Option (List Int):=fun (x:List UInt8×Int×Int×List TArc×List TArc×List TArc)=>(aq (fun (x1:Int×List Int)=>if x1.fst < 2 then (idx [x.snd.snd.snd.fst,x.snd.snd.snd.snd.fst] x1.fst).bind fun (l2:List TArc)=>(aq (fun (x3:Int×List Int)=>if x3.fst < (↑l2.length:Int) then (idx l2 x3.fst).bind fun (x4:TArc)=>(app 8 x3.snd [x4.Place]).bind fun (l5:List Int)=>some (Sum.inl (IntKind.i64.wrap (x3.fst+1),l5)) else some (Sum.inr x3.snd)) (0,x1.snd)).bind fun (l3:List Int)=>some (Sum.inl (IntKind.i64.wrap (x1.fst+1),l3)) else some (Sum.inr x1.snd)) (0,[])).bind fun (l1:List Int)=>some l1
theorem e63:vfn (T:=tE) lpK H63 (bn []) q63 zO.res (vOf zO.code L63)=p63:=by kernel_rfl
abbrev n63:En tE:=⟨63,[],q63,p63⟩
theorem o63:aC F tE 63 q63 1 p63:=by
 rw [← e63]
 exact au (fn:=zO) ag rfl (by kernel_rfl)
def q36:FSp:=⟨[(true,[.d false (.sl false (.st 2)),.d false (.sl false (.st 1))]),(true,[.d true (.int .i64),.d false (.sl false (.int .i64)),.d false (.sl false (.int .i64))])],[],[],[.ld 0 false,.d true (.int .i64),.slot 0 false]⟩
def L36:List (Nat×Lb):=[(2,.j [.ld 2 false,.ptr 0 0,.slot 2 false,.ld 3 false,.ptr 1 0,.slot 3 false,.ld 4 false,.d true (.int .i64),.slot 4 false,.ld 40 false,.d true .bool,.slot 40 false,.ldr,.d false (.sl false (.st 2)),.d false (.sl false (.st 1)),.row,.ldr,.d true (.int .i64),.d false (.sl false (.int .i64)),.d false (.sl false (.int .i64)),.row]),(6,.l [.ld 45 true,.d false (.sl false (.int .i64)),.d false (.sl false (.int .i64)),.slot 45 true] [.ld 2 false,.ptr 0 0,.slot 2 false,.ld 3 false,.ptr 1 0,.slot 3 false,.ld 4 false,.d true (.int .i64),.slot 4 false,.ld 46 false,.d true (.int .i64),.slot 46 false,.ldr,.d false (.sl false (.st 2)),.d false (.sl false (.st 1)),.row,.ldr,.d true (.int .i64),.d false (.sl false (.int .i64)),.d false (.sl false (.int .i64)),.row] [(some 0,[.ld 2 false,.ptr 0 0,.slot 2 false,.ld 3 false,.ptr 1 0,.slot 3 false,.ld 4 false,.d true (.int .i64),.slot 4 false,.ldr,.d false (.sl false (.st 2)),.d false (.sl false (.st 1)),.row,.ldr,.d true (.int .i64),.d false (.sl false (.int .i64)),.d false (.sl false (.int .i64)),.row]),(none,[.ld 4 false,.d true (.int .i64),.slot 4 false])]),(12,.l [.ld 46 false,.d true (.int .i64),.slot 46 false,.ld 49 false,.d false (.sl false (.int .i64)),.slot 49 false,.ld 50 false,.d true (.int .i64),.slot 50 false] [.ld 2 false,.ptr 0 0,.slot 2 false,.ld 3 false,.ptr 1 0,.slot 3 false,.ld 4 false,.d true (.int .i64),.slot 4 false,.ld 51 false,.d true (.int .i64),.slot 51 false,.ldr,.d false (.sl false (.st 2)),.d false (.sl false (.st 1)),.row,.ldr,.d true (.int .i64),.d false (.sl false (.int .i64)),.d false (.sl false (.int .i64)),.row] [(some 2,[.ld 2 false,.ptr 0 0,.slot 2 false,.ld 3 false,.ptr 1 0,.slot 3 false,.ld 4 false,.d true (.int .i64),.slot 4 false,.ldr,.d false (.sl false (.st 2)),.d false (.sl false (.st 1)),.row,.ldr,.d true (.int .i64),.d false (.sl false (.int .i64)),.d false (.sl false (.int .i64)),.row]),(none,[.ld 4 false,.d true (.int .i64),.slot 4 false])]),(17,.j [.ld 2 false,.ptr 0 0,.slot 2 false,.ld 3 false,.ptr 1 0,.slot 3 false,.ld 4 false,.d true (.int .i64),.slot 4 false,.ld 51 false,.d true (.int .i64),.slot 51 false,.ld 62 false,.d true .bool,.slot 62 false,.ldr,.d false (.sl false (.st 2)),.d false (.sl false (.st 1)),.row,.ldr,.d true (.int .i64),.d false (.sl false (.int .i64)),.d false (.sl false (.int .i64)),.row]),(21,.l [.ld 66 false,.d false (.sl false (.st 1)),.slot 66 false,.ld 67 false,.d true (.int .i64),.slot 67 false] [.ld 3 false,.ptr 0 0,.slot 3 false,.ld 4 false,.d true (.int .i64),.slot 4 false,.ld 68 false,.d true (.int .i64),.slot 68 false,.ldr,.d true (.int .i64),.d false (.sl false (.int .i64)),.d false (.sl false (.int .i64)),.row] [(some 4,[]),(none,[.ld 4 false,.d true (.int .i64),.slot 4 false])]),(28,.l [.ld 9 false,.d true (.int .i64),.slot 9 false,.ld 68 false,.d true (.int .i64),.slot 68 false,.ld 75 false,.d true (.int .i64),.slot 75 false] [.ld 3 false,.ptr 0 0,.slot 3 false,.ld 4 false,.d true (.int .i64),.slot 4 false,.ld 10 false,.ptr 1 0,.slot 10 false,.ld 74 false,.r 2,.slot 74 false,.ld 76 false,.d true (.int .i64),.slot 76 false,.ldr,.d true (.int .i64),.d false (.sl false (.int .i64)),.d false (.sl false (.int .i64)),.row,.ldr,.d true .str,.d true (.int .i64),.d true (.int .i64),.d false (.sl false (.st 0)),.d false (.sl false (.st 0)),.d false (.sl false (.st 0)),.row,.sl (.int .i64)] [(some 6,[.ld 3 false,.ptr 0 0,.slot 3 false,.ld 4 false,.d true (.int .i64),.slot 4 false,.ld 10 false,.ptr 1 0,.slot 10 false,.ldr,.d true (.int .i64),.d false (.sl false (.int .i64)),.d false (.sl false (.int .i64)),.row,.ldr,.d true .str,.d true (.int .i64),.d true (.int .i64),.d false (.sl false (.st 0)),.d false (.sl false (.st 0)),.d false (.sl false (.st 0)),.row]),(none,[.ld 4 false,.d true (.int .i64),.slot 4 false])]),(36,.l [.ld 9 false,.d true (.int .i64),.slot 9 false,.ld 68 false,.d true (.int .i64),.slot 68 false,.ld 93 false,.d false (.sl false (.st 0)),.slot 93 false,.ld 94 false,.d true (.int .i64),.slot 94 false] [.ld 3 false,.ptr 0 0,.slot 3 false,.ld 4 false,.d true (.int .i64),.slot 4 false,.ld 10 false,.ptr 1 0,.slot 10 false,.ld 95 false,.d true (.int .i64),.slot 95 false,.ldr,.d true (.int .i64),.d false (.sl false (.int .i64)),.d false (.sl false (.int .i64)),.row,.ldr,.d true .str,.d true (.int .i64),.d true (.int .i64),.d false (.sl false (.st 0)),.d false (.sl false (.st 0)),.d false (.sl false (.st 0)),.row] [(some 8,[.ld 3 false,.ptr 0 0,.slot 3 false,.ld 4 false,.d true (.int .i64),.slot 4 false,.ldr,.d true (.int .i64),.d false (.sl false (.int .i64)),.d false (.sl false (.int .i64)),.row]),(none,[.ld 4 false,.d true (.int .i64),.slot 4 false])]),(41,.j [.ld 3 false,.ptr 0 0,.slot 3 false,.ld 4 false,.d true (.int .i64),.slot 4 false,.ld 10 false,.ptr 1 0,.slot 10 false,.ld 95 false,.d true (.int .i64),.slot 95 false,.ld 115 false,.d true .bool,.slot 115 false,.ldr,.d true (.int .i64),.d false (.sl false (.int .i64)),.d false (.sl false (.int .i64)),.row,.ldr,.d true .str,.d true (.int .i64),.d true (.int .i64),.d false (.sl false (.st 0)),.d false (.sl false (.st 0)),.d false (.sl false (.st 0)),.row])]
def H36:List (Nat×VT):=[]
def p36:List TPlace×List TTrans×Int×List Int×List Int→Option Int:=fun (x:List TPlace×List TTrans×Int×List Int×List Int)=>
  (if (!decide ((↑x.snd.snd.snd.fst.length:Int)=(↑x.fst.length:Int)))=true then some (Sum.inl (0,true,x.fst,x.snd.fst,x.snd.snd.fst,x.snd.snd.snd.fst,x.snd.snd.snd.snd)) else if (!decide ((↑x.snd.snd.snd.snd.length:Int)=(↑x.snd.fst.length:Int)))=true then some (Sum.inl (0,true,x.fst,x.snd.fst,x.snd.snd.fst,x.snd.snd.snd.fst,x.snd.snd.snd.snd)) else if x.snd.snd.fst < 1 then some (Sum.inl (0,true,x.fst,x.snd.fst,x.snd.snd.fst,x.snd.snd.snd.fst,x.snd.snd.snd.snd)) else some (Sum.inl (0,decide (32 < x.snd.snd.fst),x.fst,x.snd.fst,x.snd.snd.fst,x.snd.snd.snd.fst,x.snd.snd.snd.snd))).bind fun (x1:Int×Bool×List TPlace×List TTrans×Int×List Int×List Int⊕Int)=>
    match x1 with
    | Sum.inl x=>
      if x.snd.fst=true then some 1
      else
        (aq
              (fun (x3:Int×Int×List TPlace×List TTrans×Int×List Int×List Int)=>
                if x3.snd.fst < 2 then
                  (idx [x.snd.snd.snd.snd.snd.fst,x.snd.snd.snd.snd.snd.snd] x3.snd.fst).bind fun (l4:List Int)=>
                    (aq
                          (fun (x5:Int×Int×List TPlace×List TTrans×Int×List Int×List Int)=>
                            if x5.snd.fst < (↑l4.length:Int) then
                              (idx l4 x5.snd.fst).bind fun (n6:Int)=>
                                (if n6 < 0 then some (Sum.inl (x5.fst,x5.snd.fst,true,x5.snd.snd.fst,x5.snd.snd.snd.fst,x5.snd.snd.snd.snd.fst,x5.snd.snd.snd.snd.snd.fst,x5.snd.snd.snd.snd.snd.snd)) else some (Sum.inl (x5.fst,x5.snd.fst,decide (x5.snd.snd.snd.snd.fst≤n6),x5.snd.snd.fst,x5.snd.snd.snd.fst,x5.snd.snd.snd.snd.fst,x5.snd.snd.snd.snd.snd.fst,x5.snd.snd.snd.snd.snd.snd))).bind fun (x7:Int×Int×Bool×List TPlace×List TTrans×Int×List Int×List Int⊕Int×Int×List TPlace×List TTrans×Int×List Int×List Int⊕Int×List TPlace×List TTrans×Int×List Int×List Int⊕Int)=>
                                  match x7 with
                                  | Sum.inl x=>if x.snd.snd.fst=true then some (Sum.inr (Sum.inr 1)) else some (Sum.inl (x.fst,IntKind.i64.wrap (x.snd.fst+1),x.snd.snd.snd.fst,x.snd.snd.snd.snd.fst,x.snd.snd.snd.snd.snd.fst,x.snd.snd.snd.snd.snd.snd.fst,x.snd.snd.snd.snd.snd.snd.snd))
                                  | Sum.inr r=>some r
                            else some (Sum.inr (Sum.inl (x5.fst,x5.snd.snd.fst,x5.snd.snd.snd.fst,x5.snd.snd.snd.snd.fst,x5.snd.snd.snd.snd.snd.fst,x5.snd.snd.snd.snd.snd.snd))))
                          (x3.fst,0,x3.snd.snd.fst,x3.snd.snd.snd.fst,x3.snd.snd.snd.snd.fst,x3.snd.snd.snd.snd.snd.fst,x3.snd.snd.snd.snd.snd.snd)).bind
                      fun (x5:Int×List TPlace×List TTrans×Int×List Int×List Int⊕Int)=>
                      match x5 with
                      | Sum.inl x=>some (Sum.inl (x.fst,IntKind.i64.wrap (x3.snd.fst+1),x.snd.fst,x.snd.snd.fst,x.snd.snd.snd.fst,x.snd.snd.snd.snd.fst,x.snd.snd.snd.snd.snd))
                      | Sum.inr y=>some (Sum.inr (Sum.inr y))
                else some (Sum.inr (Sum.inl (x3.fst,x3.snd.snd.fst,x3.snd.snd.snd.fst,x3.snd.snd.snd.snd.fst,x3.snd.snd.snd.snd.snd.fst,x3.snd.snd.snd.snd.snd.snd))))
              (x.fst,0,x.snd.snd.fst,x.snd.snd.snd.fst,x.snd.snd.snd.snd.fst,x.snd.snd.snd.snd.snd.fst,x.snd.snd.snd.snd.snd.snd)).bind
          fun (x3:Int×List TPlace×List TTrans×Int×List Int×List Int⊕Int)=>
          match x3 with
          | Sum.inl x=>
            (aq
                  (fun (x5:Int×Int×Int×List Int×List Int)=>
                    if x5.snd.fst < (↑x.snd.snd.fst.length:Int) then
                      (idx x.snd.snd.fst x5.snd.fst).bind fun (x6:TTrans)=>
                        (p63 (x6.Name,x6.Delay,x6.Prio,x6.In,x6.Not,x6.Out)).bind fun (l7:List Int)=>
                          (aq (fun (x8:Int×Int×Int×List Int×List Int×List UInt8×Int×Int×List TArc×List TArc×List TArc×List Int)=>if x8.snd.fst < (↑l7.length:Int) then (idx x8.snd.snd.snd.snd.snd.snd.snd.snd.snd.snd.snd x8.snd.fst).bind fun (n9:Int)=>(idx x8.snd.snd.snd.fst n9).bind fun (n10:Int)=>(idx x8.snd.snd.snd.snd.fst x5.snd.fst).bind fun (n11:Int)=>if (!decide (n10=n11))=true then some (Sum.inr (Sum.inr 9)) else some (Sum.inl (x8.fst,IntKind.i64.wrap (x8.snd.fst+1),x8.snd.snd.fst,x8.snd.snd.snd.fst,x8.snd.snd.snd.snd.fst,x8.snd.snd.snd.snd.snd.fst,x8.snd.snd.snd.snd.snd.snd.fst,x8.snd.snd.snd.snd.snd.snd.snd.fst,x8.snd.snd.snd.snd.snd.snd.snd.snd.fst,x8.snd.snd.snd.snd.snd.snd.snd.snd.snd.fst,x8.snd.snd.snd.snd.snd.snd.snd.snd.snd.snd.fst,x8.snd.snd.snd.snd.snd.snd.snd.snd.snd.snd.snd)) else some (Sum.inr (Sum.inl (x8.fst,x8.snd.snd.fst,x8.snd.snd.snd.fst,x8.snd.snd.snd.snd.fst,x8.snd.snd.snd.snd.snd.fst,x8.snd.snd.snd.snd.snd.snd.fst,x8.snd.snd.snd.snd.snd.snd.snd.fst,x8.snd.snd.snd.snd.snd.snd.snd.snd.fst,x8.snd.snd.snd.snd.snd.snd.snd.snd.snd.fst,x8.snd.snd.snd.snd.snd.snd.snd.snd.snd.snd.fst)))) (x5.fst,0,x5.snd.snd.fst,x5.snd.snd.snd.fst,x5.snd.snd.snd.snd,x6.Name,x6.Delay,x6.Prio,x6.In,x6.Not,x6.Out,l7)).bind fun (x8:Int×Int×List Int×List Int×List UInt8×Int×Int×List TArc×List TArc×List TArc⊕Int)=>
                            match x8 with
                            | Sum.inl x=>
                              (aq
                                    (fun (x10:Int×Int×Int×List Int×List Int×List UInt8×Int×Int×List TArc×List TArc×List TArc)=>
                                      if x10.snd.fst < (↑x.snd.snd.snd.snd.snd.snd.snd.snd.snd.length:Int) then
                                        (idx x.snd.snd.snd.snd.snd.snd.snd.snd.snd x10.snd.fst).bind fun (x11:TArc)=>
                                          (if x10.snd.snd.snd.snd.snd.snd.fst=0 then (idx x10.snd.snd.snd.fst x11.Place).bind fun (n12:Int)=>(idx x10.snd.snd.snd.snd.fst x5.snd.fst).bind fun (n13:Int)=>some (Sum.inl (x10.fst,x10.snd.fst,!decide (n12=n13),x10.snd.snd.fst,x10.snd.snd.snd.fst,x10.snd.snd.snd.snd.fst,x10.snd.snd.snd.snd.snd.fst,x10.snd.snd.snd.snd.snd.snd.fst,x10.snd.snd.snd.snd.snd.snd.snd.fst,x10.snd.snd.snd.snd.snd.snd.snd.snd.fst,x10.snd.snd.snd.snd.snd.snd.snd.snd.snd.fst,x10.snd.snd.snd.snd.snd.snd.snd.snd.snd.snd)) else some (Sum.inl (x10.fst,x10.snd.fst,false,x10.snd.snd.fst,x10.snd.snd.snd.fst,x10.snd.snd.snd.snd.fst,x10.snd.snd.snd.snd.snd.fst,x10.snd.snd.snd.snd.snd.snd.fst,x10.snd.snd.snd.snd.snd.snd.snd.fst,x10.snd.snd.snd.snd.snd.snd.snd.snd.fst,x10.snd.snd.snd.snd.snd.snd.snd.snd.snd.fst,x10.snd.snd.snd.snd.snd.snd.snd.snd.snd.snd))).bind fun (x12:Int×Int×Bool×Int×List Int×List Int×List UInt8×Int×Int×List TArc×List TArc×List TArc⊕Int×Int×Int×List Int×List Int×List UInt8×Int×Int×List TArc×List TArc×List TArc⊕Int×Int×List Int×List Int⊕Int)=>
                                            match x12 with
                                            | Sum.inl x=>if x.snd.snd.fst=true then some (Sum.inr (Sum.inr 9)) else some (Sum.inl (x.fst,IntKind.i64.wrap (x.snd.fst+1),x.snd.snd.snd.fst,x.snd.snd.snd.snd.fst,x.snd.snd.snd.snd.snd.fst,x.snd.snd.snd.snd.snd.snd.fst,x.snd.snd.snd.snd.snd.snd.snd.fst,x.snd.snd.snd.snd.snd.snd.snd.snd.fst,x.snd.snd.snd.snd.snd.snd.snd.snd.snd.fst,x.snd.snd.snd.snd.snd.snd.snd.snd.snd.snd.fst,x.snd.snd.snd.snd.snd.snd.snd.snd.snd.snd.snd))
                                            | Sum.inr r=>some r
                                      else some (Sum.inr (Sum.inl (x10.fst,x10.snd.snd.fst,x10.snd.snd.snd.fst,x10.snd.snd.snd.snd.fst))))
                                    (x.fst,0,x.snd.fst,x.snd.snd.fst,x.snd.snd.snd.fst,x.snd.snd.snd.snd.fst,x.snd.snd.snd.snd.snd.fst,x.snd.snd.snd.snd.snd.snd.fst,x.snd.snd.snd.snd.snd.snd.snd.fst,x.snd.snd.snd.snd.snd.snd.snd.snd.fst,x.snd.snd.snd.snd.snd.snd.snd.snd.snd)).bind
                                fun (x10:Int×Int×List Int×List Int⊕Int)=>
                                match x10 with
                                | Sum.inl x=>some (Sum.inl (x.fst,IntKind.i64.wrap (x5.snd.fst+1),x.snd.fst,x.snd.snd.fst,x.snd.snd.snd))
                                | Sum.inr y=>some (Sum.inr (Sum.inr y))
                            | Sum.inr y=>some (Sum.inr (Sum.inr y))
                    else some (Sum.inr (Sum.inl ())))
                  (x.fst,0,x.snd.snd.snd.fst,x.snd.snd.snd.snd.fst,x.snd.snd.snd.snd.snd)).bind
              fun (x5:Unit⊕Int)=>
              match x5 with
              | Sum.inl x=>some 0
              | Sum.inr y=>some y
          | Sum.inr y=>some y
    | Sum.inr r=>some r
theorem e36:vfn (T:=tE) lpK H36 (bn [n63]) q36 yY.res (vOf yY.code L36)=p36:=by kernel_rfl
abbrev n36:En tE:=⟨36,[],q36,p36⟩
theorem o36:aC F tE 36 q36 2 p36:=by
 rw [← e36]
 exact au (fn:=yY) (aa (en:=n63) ag o63 rfl) rfl (by kernel_rfl)
def q91:FSp:=⟨[(false,[.d true (.int .u32)])],[],[],[.ld 0 false,.d true (.int .i64),.slot 0 false]⟩
def L91:List (Nat×Lb):=[(1,.j [.ld 0 false,.d true (.int .u32),.slot 0 false,.ld 2 false,.d true (.int .i64),.slot 2 false]),(4,.j [.ld 0 false,.d true (.int .u32),.slot 0 false,.ld 2 false,.d true (.int .i64),.slot 2 false])]
def H91:List (Nat×VT):=[]
def p91:Int→Option Int:=fun (x:Int)=>
  (if 65536≤x then (sW IntKind.u32 x 16).bind fun (n1:Int)=>some (Sum.inl (n1,16)) else some (Sum.inl (x,0))).bind fun (x1:Int×Int⊕Int)=>
    match x1 with
    | Sum.inl x=>
      (if 256≤x.fst then (sW IntKind.u32 x.fst 8).bind fun (n3:Int)=>some (Sum.inl (n3,IntKind.i64.wrap (x.snd+8))) else some (Sum.inl (x.fst,x.snd))).bind fun (x3:Int×Int⊕Int)=>
        match x3 with
        | Sum.inl x=>(yM [0,1,2,2,3,3,3,3,4,4,4,4,4,4,4,4,5,5,5,5,5,5,5,5,5,5,5,5,5,5,5,5,6,6,6,6,6,6,6,6,6,6,6,6,6,6,6,6,6,6,6,6,6,6,6,6,6,6,6,6,6,6,6,6,7,7,7,7,7,7,7,7,7,7,7,7,7,7,7,7,7,7,7,7,7,7,7,7,7,7,7,7,7,7,7,7,7,7,7,7,7,7,7,7,7,7,7,7,7,7,7,7,7,7,7,7,7,7,7,7,7,7,7,7,7,7,7,7,8,8,8,8,8,8,8,8,8,8,8,8,8,8,8,8,8,8,8,8,8,8,8,8,8,8,8,8,8,8,8,8,8,8,8,8,8,8,8,8,8,8,8,8,8,8,8,8,8,8,8,8,8,8,8,8,8,8,8,8,8,8,8,8,8,8,8,8,8,8,8,8,8,8,8,8,8,8,8,8,8,8,8,8,8,8,8,8,8,8,8,8,8,8,8,8,8,8,8,8,8,8,8,8,8,8,8,8,8,8,8,8,8,8,8,8,8,8,8,8,8,8,8,8,8,8,8,8] (IntKind.u8.wrap x.fst)).bind fun (n5:Int)=>some (IntKind.i64.wrap (x.snd+IntKind.i64.wrap n5))
        | Sum.inr r=>some r
    | Sum.inr r=>some r
abbrev n91:En tE:=⟨91,[],q91,p91⟩
def q92:FSp:=⟨[(false,[.d true (.int .u64)])],[],[],[.ld 0 false,.d true (.int .i64),.slot 0 false]⟩
def L92:List (Nat×Lb):=[(1,.j [.ld 0 false,.d true (.int .u64),.slot 0 false,.ld 2 false,.d true (.int .i64),.slot 2 false]),(4,.j [.ld 0 false,.d true (.int .u64),.slot 0 false,.ld 2 false,.d true (.int .i64),.slot 2 false]),(7,.j [.ld 0 false,.d true (.int .u64),.slot 0 false,.ld 2 false,.d true (.int .i64),.slot 2 false])]
def H92:List (Nat×VT):=[]
def p92:Int→Option Int:=fun (x:Int)=>
  (if 4294967296≤x then (sW IntKind.u64 x 32).bind fun (n1:Int)=>some (Sum.inl (n1,32)) else some (Sum.inl (x,0))).bind fun (x1:Int×Int⊕Int)=>
    match x1 with
    | Sum.inl x=>
      (if 65536≤x.fst then (sW IntKind.u64 x.fst 16).bind fun (n3:Int)=>some (Sum.inl (n3,IntKind.i64.wrap (x.snd+16))) else some (Sum.inl (x.fst,x.snd))).bind fun (x3:Int×Int⊕Int)=>
        match x3 with
        | Sum.inl x=>
          (if 256≤x.fst then (sW IntKind.u64 x.fst 8).bind fun (n5:Int)=>some (Sum.inl (n5,IntKind.i64.wrap (x.snd+8))) else some (Sum.inl (x.fst,x.snd))).bind fun (x5:Int×Int⊕Int)=>
            match x5 with
            | Sum.inl x=>(yM [0,1,2,2,3,3,3,3,4,4,4,4,4,4,4,4,5,5,5,5,5,5,5,5,5,5,5,5,5,5,5,5,6,6,6,6,6,6,6,6,6,6,6,6,6,6,6,6,6,6,6,6,6,6,6,6,6,6,6,6,6,6,6,6,7,7,7,7,7,7,7,7,7,7,7,7,7,7,7,7,7,7,7,7,7,7,7,7,7,7,7,7,7,7,7,7,7,7,7,7,7,7,7,7,7,7,7,7,7,7,7,7,7,7,7,7,7,7,7,7,7,7,7,7,7,7,7,7,8,8,8,8,8,8,8,8,8,8,8,8,8,8,8,8,8,8,8,8,8,8,8,8,8,8,8,8,8,8,8,8,8,8,8,8,8,8,8,8,8,8,8,8,8,8,8,8,8,8,8,8,8,8,8,8,8,8,8,8,8,8,8,8,8,8,8,8,8,8,8,8,8,8,8,8,8,8,8,8,8,8,8,8,8,8,8,8,8,8,8,8,8,8,8,8,8,8,8,8,8,8,8,8,8,8,8,8,8,8,8,8,8,8,8,8,8,8,8,8,8,8,8,8,8,8,8,8] (IntKind.u8.wrap x.fst)).bind fun (n7:Int)=>some (IntKind.i64.wrap (x.snd+IntKind.i64.wrap n7))
            | Sum.inr r=>some r
        | Sum.inr r=>some r
    | Sum.inr r=>some r
theorem e92:vfn (T:=tE) lpK H92 (bn []) q92 zd.res (vOf zd.code L92)=p92:=by kernel_rfl
abbrev n92:En tE:=⟨92,[],q92,p92⟩
theorem o92:aC F tE 92 q92 1 p92:=by
 rw [← e92]
 exact au (fn:=zd) ag rfl (by kernel_rfl)
def q70:FSp:=⟨[(false,[.d true (.int .u64)])],[],[],[.ld 0 false,.d true (.int .i64),.slot 0 false]⟩
def L70:List (Nat×Lb):=[]
def H70:List (Nat×VT):=[]
def p70:Int→Option Int:=fun (x:Int)=>(p92 x).bind fun (n1:Int)=>some n1
theorem e70:vfn (T:=tE) lpK H70 (bn [n92]) q70 zK.res (vOf zK.code L70)=p70:=by kernel_rfl
abbrev n70:En tE:=⟨70,[],q70,p70⟩
theorem o70:aC F tE 70 q70 1 p70:=by
 rw [← e70]
 exact au (fn:=zK) (aa (en:=n92) ag o92 rfl) rfl (by kernel_rfl)
def Bw:FSp:=⟨[(false,[.d true (.int .i64)])],[],[],[.ld 0 false,.d true (.int .u64),.slot 0 false]⟩
def Er:List (Nat×Lb):=[]
def C7:List (Nat×VT):=[]
def Av:Int→Option Int:=fun (x:Int)=>(p70 (IntKind.u64.wrap x)).bind fun (n1:Int)=>(xQ IntKind.u64 1 n1).bind fun (n2:Int)=>some n2
theorem DQ:vfn (T:=tE) lpK C7 (bn [n70]) Bw rv.res (vOf rv.code Er)=Av:=by kernel_rfl
abbrev Cv:En tE:=⟨100,[],Bw,Av⟩
theorem El:aC F tE 100 Bw 1 Av:=by
 rw [← DQ]
 exact au (fn:=rv) (aa (en:=n70) ag o70 rfl) rfl (by kernel_rfl)
def BJ:FSp:=⟨[(false,[.ptr 0 0])],[.pr (.int .u64)],[0],[.ld 0 false,.d true (.int .u64),.slot 0 false,.ld 1 false,.ptr 0 0,.slot 1 false,.pr (.int .u64)]⟩
def Dm:List (Nat×Lb):=[]
def Eb:List (Nat×VT):=[]
def Ay:Int→Option (Int×Int):=fun (x:Int)=>(xQ IntKind.u64 x 13).bind fun (n1:Int)=>(sW IntKind.u64 (IntKind.u64.wrap (↑(BitVec.ofInt IntKind.u64.bits x ^^^ BitVec.ofInt IntKind.u64.bits n1).toNat:Int)) 7).bind fun (n2:Int)=>(xQ IntKind.u64 (IntKind.u64.wrap (↑(BitVec.ofInt IntKind.u64.bits (IntKind.u64.wrap (↑(BitVec.ofInt IntKind.u64.bits x ^^^ BitVec.ofInt IntKind.u64.bits n1).toNat:Int)) ^^^ BitVec.ofInt IntKind.u64.bits n2).toNat:Int)) 17).bind fun (n3:Int)=>some (IntKind.u64.wrap (↑(BitVec.ofInt IntKind.u64.bits (IntKind.u64.wrap (↑(BitVec.ofInt IntKind.u64.bits (IntKind.u64.wrap (↑(BitVec.ofInt IntKind.u64.bits x ^^^ BitVec.ofInt IntKind.u64.bits n1).toNat:Int)) ^^^ BitVec.ofInt IntKind.u64.bits n2).toNat:Int)) ^^^ BitVec.ofInt IntKind.u64.bits n3).toNat:Int),IntKind.u64.wrap (↑(BitVec.ofInt IntKind.u64.bits (IntKind.u64.wrap (↑(BitVec.ofInt IntKind.u64.bits (IntKind.u64.wrap (↑(BitVec.ofInt IntKind.u64.bits x ^^^ BitVec.ofInt IntKind.u64.bits n1).toNat:Int)) ^^^ BitVec.ofInt IntKind.u64.bits n2).toNat:Int)) ^^^ BitVec.ofInt IntKind.u64.bits n3).toNat:Int))
theorem Dw:vfn (T:=tE) lpK Eb (bn []) BJ qL.res (vOf qL.code Dm)=Ay:=by kernel_rfl
abbrev Cg:En tE:=⟨101,[],BJ,Ay⟩
theorem Ds:aC F tE 101 BJ 1 Ay:=by
 rw [← Dw]
 exact au (fn:=qL) ag rfl (by kernel_rfl)
def q48:FSp:=⟨[(false,[.d false (.sl false (.int .i64))])],[],[],[.ld 0 false,.d true (.int .i64),.slot 0 false]⟩
def L48:List (Nat×Lb):=[(4,.l [.ld 3 false,.d true (.int .i64),.slot 3 false,.ld 6 false,.d false (.sl false (.int .i64)),.slot 6 false,.ld 7 false,.d true (.int .i64),.slot 7 false] [.ld 2 false,.d true (.int .i64),.slot 2 false,.ld 8 false,.d true (.int .i64),.slot 8 false] [(some 0,[]),(none,[.ld 2 false,.d true (.int .i64),.slot 2 false])])]
def H48:List (Nat×VT):=[]
def p48:List Int→Option Int:=fun (x:List Int)=>
  (aq (fun (x1:Int×Int)=>if x1.snd < (↑x.length:Int) then (idx x x1.snd).bind fun (n2:Int)=>if (!decide (n2=0))=true then some (Sum.inr (Sum.inr n2)) else some (Sum.inl (x1.fst,IntKind.i64.wrap (x1.snd+1))) else some (Sum.inr (Sum.inl ()))) (0,0)).bind fun (x1:Unit⊕Int)=>
    match x1 with
    | Sum.inl x=>some 0
    | Sum.inr y=>some y
theorem e48:vfn (T:=tE) lpK H48 (bn []) q48 yc.res (vOf yc.code L48)=p48:=by kernel_rfl
abbrev n48:En tE:=⟨48,[],q48,p48⟩
theorem o48:aC F tE 48 q48 1 p48:=by
 rw [← e48]
 exact au (fn:=yc) ag rfl (by kernel_rfl)
def q71:FSp:=⟨[(false,[.d true (.int .i64)])],[],[],[.ld 0 false,.d true .bool,.slot 0 false]⟩
def L71:List (Nat×Lb):=[]
def H71:List (Nat×VT):=[]
def p71:Int→Option Bool:=fun (x:Int)=>some !decide (x=x)
theorem e71:vfn (T:=tE) lpK H71 (bn []) q71 zf.res (vOf zf.code L71)=p71:=by kernel_rfl
abbrev n71:En tE:=⟨71,[],q71,p71⟩
theorem o71:aC F tE 71 q71 1 p71:=by
 rw [← e71]
 exact au (fn:=zf) ag rfl (by kernel_rfl)
def q49:FSp:=⟨[(false,[.d true (.int .i64)]),(false,[.d true (.int .i64)])],[],[],[.ld 0 false,.d true (.int .i64),.slot 0 false]⟩
def L49:List (Nat×Lb):=[]
def H49:List (Nat×VT):=[]
def p49:Int×Int→Option Int:=fun (x:Int×Int)=>(p71 x.fst).bind fun (b1:Bool)=>(p71 x.snd).bind fun (b2:Bool)=>if b1=true then if b2=true then some 0 else some (-1) else if b2=true then some 1 else if x.fst < x.snd then some (-1) else if x.snd < x.fst then some 1 else some 0
theorem e49:vfn (T:=tE) lpK H49 (bn [n71]) q49 zy.res (vOf zy.code L49)=p49:=by kernel_rfl
abbrev n49:En tE:=⟨49,[],q49,p49⟩
theorem o49:aC F tE 49 q49 2 p49:=by
 rw [← e49]
 exact au (fn:=zy) (aa (en:=n71) ag o71 rfl) rfl (by kernel_rfl)
def q47:FSp:=⟨[(true,[.d true (.int .i64),.d true (.int .i64),.d true (.int .i64)]),(true,[.d true (.int .i64),.d true (.int .i64),.d true (.int .i64)])],[],[],[.ld 0 false,.d true (.int .i64),.slot 0 false]⟩
def L47:List (Nat×Lb):=[]
def H47:List (Nat×VT):=[(20,(.int .i64))]
def p47:Int×Int×Int×Int×Int×Int→Option Int:=fun (x:Int×Int×Int×Int×Int×Int)=>(p49 (x.fst,x.snd.snd.snd.fst)).bind fun (n1:Int)=>(p49 (x.snd.fst,x.snd.snd.snd.snd.fst)).bind fun (n2:Int)=>(p49 (x.snd.snd.fst,x.snd.snd.snd.snd.snd)).bind fun (n3:Int)=>(p48 [n1,n2,n3]).bind fun (n4:Int)=>some n4
theorem e47:vfn (T:=tE) lpK H47 (bn [n49,n48]) q47 yC.res (vOf yC.code L47)=p47:=by kernel_rfl
abbrev n47:En tE:=⟨47,[],q47,p47⟩
theorem o47:aC F tE 47 q47 2 p47:=by
 rw [← e47]
 exact au (fn:=yC) (aa (en:=n49) (aa (en:=n48) ag o48 rfl) o49 rfl) rfl (by kernel_rfl)
def q51:FSp:=⟨[(true,[.d true (.int .i64),.d true (.int .i64),.d true (.int .i64)]),(true,[.d true (.int .i64),.d true (.int .i64),.d true (.int .i64)])],[],[],[.ld 0 false,.d true .bool,.slot 0 false]⟩
def L51:List (Nat×Lb):=[]
def H51:List (Nat×VT):=[]
def p51:Int×Int×Int×Int×Int×Int→Option Bool:=fun (x:Int×Int×Int×Int×Int×Int)=>if x.fst=x.snd.snd.snd.fst then some (decide (x.snd.fst=x.snd.snd.snd.snd.fst)) else some false
theorem e51:vfn (T:=tE) lpK H51 (bn []) q51 yX.res (vOf yX.code L51)=p51:=by kernel_rfl
abbrev n51:En tE:=⟨51,[],q51,p51⟩
theorem o51:aC F tE 51 q51 2 p51:=by
 rw [← e51]
 exact au (fn:=yX) ag rfl (by kernel_rfl)
def me:FSp:=⟨[(false,[.r 0]),(false,[.d true (.int .i64)]),(false,[.d true (.int .i64)]),(false,[.c (.func 47 [])])],[.sl (.st 5)],[0],[.ld 0 false,.r 0,.slot 0 false,.sl (.st 5)]⟩
def wX:List (Nat×Lb):=[(1,.l [.ld 1 false,.d true (.int .i64),.slot 1 false,.ld 2 false,.d true (.int .i64),.slot 2 false,.ld 3 false,.c (.func 47 []),.slot 3 false] [.ld 0 false,.r 0,.slot 0 false,.ld 8 false,.d true (.int .i64),.slot 8 false,.sl (.st 5)] [(some 0,[.ld 0 false,.r 0,.slot 0 false,.sl (.st 5)])]),(6,.l [.ld 8 false,.d true (.int .i64),.slot 8 false] [.ld 0 false,.r 0,.slot 0 false,.ld 9 false,.d true (.int .i64),.slot 9 false,.sl (.st 5)] [(some 2,[.ld 0 false,.r 0,.slot 0 false,.sl (.st 5)])]),(8,.j [.ld 0 false,.r 0,.slot 0 false,.ld 9 false,.d true (.int .i64),.slot 9 false,.ld 34 false,.d true .bool,.slot 34 false,.sl (.st 5)])]
def xE:List (Nat×VT):=[]
def jm:Int×Int×List TLane→Option (List TLane):=fun (x:Int×Int×List TLane)=>
  (aq
        (fun (x1:Int×List TLane)=>
          if x1.fst < x.snd.fst then
            (aq
                  (fun (x2:Int×List TLane)=>
                    (if x.fst < x2.fst then (idx x2.snd x2.fst).bind fun (x3:TLane)=>(idx x2.snd (IntKind.i64.wrap (x2.fst - 1))).bind fun (x4:TLane)=>(p47 (x3.From,x3.To,x3.Ahead,x4.From,x4.To,x4.Ahead)).bind fun (n5:Int)=>some (Sum.inl (x2.fst,decide (n5 < 0),x2.snd)) else some (Sum.inl (x2.fst,false,x2.snd))).bind fun (x3:Int×Bool×List TLane⊕Int×List TLane⊕List TLane)=>
                      match x3 with
                      | Sum.inl x=>if x.snd.fst=true then (idx x.snd.snd (IntKind.i64.wrap (x.fst - 1))).bind fun (x5:TLane)=>(idx x.snd.snd x.fst).bind fun (x6:TLane)=>(idx x.snd.snd x.fst).bind fun (x7:TLane)=>(idx (x.snd.snd.set x.fst.toNat x5) (IntKind.i64.wrap (x.fst - 1))).bind fun (x8:TLane)=>some (Sum.inl (IntKind.i64.wrap (x.fst - 1),(x.snd.snd.set x.fst.toNat x5).set (IntKind.i64.wrap (x.fst - 1)).toNat x6)) else some (Sum.inr x.snd.snd)
                      | Sum.inr r=>some r)
                  (x1.fst,x1.snd)).bind
              fun (l2:List TLane)=>some (Sum.inl (IntKind.i64.wrap (x1.fst+1),l2))
          else some (Sum.inr x1.snd))
        (IntKind.i64.wrap (x.fst+1),x.snd.snd)).bind
    fun (l1:List TLane)=>some l1
theorem uR:vfn (T:=tE) lpK xE (bn [n47]) me yT.res (vOf yT.code wX)=jm:=by kernel_rfl
abbrev pZ:En tE:=⟨83,[(3,47)],me,jm⟩
theorem vC:aC F tE 83 me 4 jm:=by
 rw [← uR]
 exact au (fn:=yT) (aa (en:=n47) ag o47 rfl) rfl (by kernel_rfl)
def lz:FSp:=⟨[(false,[.r 0]),(false,[.d true (.int .i64)]),(false,[.d true (.int .i64)]),(false,[.d true (.int .i64)]),(false,[.c (.func 47 [])])],[.sl (.st 5)],[0],[.ld 0 false,.r 0,.slot 0 false,.sl (.st 5)]⟩
def w8:List (Nat×Lb):=[(1,.l [.ld 2 false,.d true (.int .i64),.slot 2 false,.ld 3 false,.d true (.int .i64),.slot 3 false,.ld 4 false,.c (.func 47 []),.slot 4 false] [.ld 0 false,.r 0,.slot 0 false,.ld 10 false,.d true (.int .i64),.slot 10 false,.sl (.st 5)] [(some 0,[.ld 0 false,.r 0,.slot 0 false,.sl (.st 5)]),(none,[.ld 0 false,.r 0,.slot 0 false,.sl (.st 5)])]),(5,.j [.ld 0 false,.r 0,.slot 0 false,.ld 10 false,.d true (.int .i64),.slot 10 false,.ld 11 false,.d true (.int .i64),.slot 11 false,.sl (.st 5)]),(6,.j [.ld 0 false,.r 0,.slot 0 false,.ld 10 false,.d true (.int .i64),.slot 10 false,.ld 11 false,.d true (.int .i64),.slot 11 false,.ld 40 false,.d true .bool,.slot 40 false,.sl (.st 5)])]
def xl:List (Nat×VT):=[]
def gX:Int×Int×Int×List TLane→Option (List TLane):=fun (x:Int×Int×Int×List TLane)=>
  (aq
        (fun (x1:Int×List TLane)=>
          if x.snd.fst≤IntKind.i64.wrap (IntKind.i64.wrap (2 * x1.fst)+1) then some (Sum.inr (Sum.inl x1.snd))
          else
            ((if IntKind.i64.wrap (IntKind.i64.wrap (IntKind.i64.wrap (2 * x1.fst)+1)+1) < x.snd.fst then (idx x1.snd (IntKind.i64.wrap (x.snd.snd.fst+IntKind.i64.wrap (IntKind.i64.wrap (2 * x1.fst)+1)))).bind fun (x2:TLane)=>(idx x1.snd (IntKind.i64.wrap (IntKind.i64.wrap (x.snd.snd.fst+IntKind.i64.wrap (IntKind.i64.wrap (2 * x1.fst)+1))+1))).bind fun (x3:TLane)=>(p47 (x2.From,x2.To,x2.Ahead,x3.From,x3.To,x3.Ahead)).bind fun (n4:Int)=>some (Sum.inl (x1.fst,IntKind.i64.wrap (IntKind.i64.wrap (2 * x1.fst)+1),decide (n4 < 0),x1.snd)) else some (Sum.inl (x1.fst,IntKind.i64.wrap (IntKind.i64.wrap (2 * x1.fst)+1),false,x1.snd))).bind fun (x2:Int×Int×Bool×List TLane⊕Int×Int×List TLane⊕Int×List TLane⊕List TLane⊕List TLane)=>
                  match x2 with
                  | Sum.inl x=>if x.snd.snd.fst=true then some (Sum.inl (x.fst,IntKind.i64.wrap (x.snd.fst+1),x.snd.snd.snd)) else some (Sum.inl (x.fst,x.snd.fst,x.snd.snd.snd))
                  | Sum.inr r=>some r).bind
              fun (x2:Int×Int×List TLane⊕Int×List TLane⊕List TLane⊕List TLane)=>
              match x2 with
              | Sum.inl x_1=>(idx x_1.snd.snd (IntKind.i64.wrap (x.snd.snd.fst+x_1.fst))).bind fun (x4:TLane)=>(idx x_1.snd.snd (IntKind.i64.wrap (x.snd.snd.fst+x_1.snd.fst))).bind fun (x5:TLane)=>(p47 (x4.From,x4.To,x4.Ahead,x5.From,x5.To,x5.Ahead)).bind fun (n6:Int)=>if (!decide (n6 < 0))=true then some (Sum.inr (Sum.inr x_1.snd.snd)) else (idx x_1.snd.snd (IntKind.i64.wrap (x.snd.snd.fst+x_1.snd.fst))).bind fun (x7:TLane)=>(idx x_1.snd.snd (IntKind.i64.wrap (x.snd.snd.fst+x_1.fst))).bind fun (x8:TLane)=>(idx x_1.snd.snd (IntKind.i64.wrap (x.snd.snd.fst+x_1.fst))).bind fun (x9:TLane)=>(idx (x_1.snd.snd.set (IntKind.i64.wrap (x.snd.snd.fst+x_1.fst)).toNat x7) (IntKind.i64.wrap (x.snd.snd.fst+x_1.snd.fst))).bind fun (x10:TLane)=>some (Sum.inl (x_1.snd.fst,(x_1.snd.snd.set (IntKind.i64.wrap (x.snd.snd.fst+x_1.fst)).toNat x7).set (IntKind.i64.wrap (x.snd.snd.fst+x_1.snd.fst)).toNat x8))
              | Sum.inr r=>some r)
        (x.fst,x.snd.snd.snd)).bind
    fun (x1:List TLane⊕List TLane)=>
    match x1 with
    | Sum.inl x=>some x
    | Sum.inr y=>some y
theorem uU:vfn (T:=tE) lpK xl (bn [n47]) lz zS.res (vOf zS.code w8)=gX:=by kernel_rfl
abbrev qy:En tE:=⟨99,[(4,47)],lz,gX⟩
theorem wD:aC F tE 99 lz 5 gX:=by
 rw [← uU]
 exact au (fn:=zS) (aa (en:=n47) ag o47 rfl) rfl (by kernel_rfl)
def mt:FSp:=⟨[(false,[.r 0]),(false,[.d true (.int .i64)]),(false,[.d true (.int .i64)]),(false,[.c (.func 47 [])])],[.sl (.st 5)],[0],[.ld 0 false,.r 0,.slot 0 false,.sl (.st 5)]⟩
def vE:List (Nat×Lb):=[(5,.l [.ld 3 false,.c (.func 47 []),.slot 3 false,.ld 8 false,.d true (.int .i64),.slot 8 false,.ld 9 false,.d true (.int .i64),.slot 9 false,.ld 10 false,.d true (.int .i64),.slot 10 false] [.ld 0 false,.r 0,.slot 0 false,.ld 11 false,.d true (.int .i64),.slot 11 false,.sl (.st 5)] [(some 0,[.ld 0 false,.r 0,.slot 0 false,.sl (.st 5)])]),(10,.l [.ld 3 false,.c (.func 47 []),.slot 3 false,.ld 8 false,.d true (.int .i64),.slot 8 false,.ld 9 false,.d true (.int .i64),.slot 9 false] [.ld 0 false,.r 0,.slot 0 false,.ld 12 false,.d true (.int .i64),.slot 12 false,.sl (.st 5)] [(some 2,[.ld 0 false,.r 0,.slot 0 false,.sl (.st 5)])])]
def vU:List (Nat×VT):=[]
def jp:Int×Int×List TLane→Option (List TLane):=fun (x:Int×Int×List TLane)=>(oG IntKind.i64 (IntKind.i64.wrap (IntKind.i64.wrap (x.snd.fst - x.fst) - 1)) 2).bind fun (n1:Int)=>(aq (fun (x2:Int×List TLane)=>if 0≤x2.fst then (gX (x2.fst,IntKind.i64.wrap (x.snd.fst - x.fst),x.fst,x2.snd)).bind fun (l3:List TLane)=>some (Sum.inl (IntKind.i64.wrap (x2.fst - 1),l3)) else some (Sum.inr x2.snd)) (n1,x.snd.snd)).bind fun (l2:List TLane)=>(aq (fun (x3:Int×List TLane)=>if 0≤x3.fst then (idx x3.snd (IntKind.i64.wrap (x.fst+x3.fst))).bind fun (x4:TLane)=>(idx x3.snd x.fst).bind fun (x5:TLane)=>(idx x3.snd x.fst).bind fun (x6:TLane)=>(idx (x3.snd.set x.fst.toNat x4) (IntKind.i64.wrap (x.fst+x3.fst))).bind fun (x7:TLane)=>(gX (0,x3.fst,x.fst,(x3.snd.set x.fst.toNat x4).set (IntKind.i64.wrap (x.fst+x3.fst)).toNat x5)).bind fun (l8:List TLane)=>some (Sum.inl (IntKind.i64.wrap (x3.fst - 1),l8)) else some (Sum.inr x3.snd)) (IntKind.i64.wrap (IntKind.i64.wrap (x.snd.fst - x.fst) - 1),l2)).bind fun (l3:List TLane)=>some l3
theorem uh:vfn (T:=tE) lpK vU (bn [qy]) mt xR.res (vOf xR.code vE)=jp:=by kernel_rfl
abbrev qv:En tE:=⟨84,[(3,47)],mt,jp⟩
theorem we:aC F tE 84 mt 4 jp:=by
 rw [← uh]
 exact au (fn:=xR) (aa (en:=qy) ag wD rfl) rfl (by kernel_rfl)
def ml:FSp:=⟨[(false,[.d false (.sl false (.st 5))]),(false,[.d true (.int .i64)]),(false,[.d true (.int .i64)]),(false,[.ptr 0 0]),(false,[.c (.func 47 [])])],[.pr (.int .i64)],[3],[.ld 0 false,.d true (.int .i64),.slot 0 false,.ld 1 false,.d true (.int .i64),.slot 1 false,.ld 2 false,.ptr 0 0,.slot 2 false,.pr (.int .i64)]⟩
def xr:List (Nat×Lb):=[]
def vM:List (Nat×VT):=[]
def fw:List TLane×Int×Int×Int→Option (Int×Int×Int):=fun (x:List TLane×Int×Int×Int)=>(idx x.fst x.snd.snd.fst).bind fun (x1:TLane)=>(idx x.fst x.snd.fst).bind fun (x2:TLane)=>(p47 (x1.From,x1.To,x1.Ahead,x2.From,x2.To,x2.Ahead)).bind fun (n3:Int)=>if n3 < 0 then some (x.snd.snd.fst,x.snd.fst,IntKind.i64.wrap (x.snd.snd.snd+1)) else some (x.snd.fst,x.snd.snd.fst,x.snd.snd.snd)
theorem wI:vfn (T:=tE) lpK vM (bn [n47]) ml ru.res (vOf ru.code xr)=fw:=by kernel_rfl
abbrev qm:En tE:=⟨109,[(4,47)],ml,fw⟩
theorem vJ:aC F tE 109 ml 5 fw:=by
 rw [← wI]
 exact au (fn:=ru) (aa (en:=n47) ag o47 rfl) rfl (by kernel_rfl)
def mD:FSp:=⟨[(false,[.d false (.sl false (.st 5))]),(false,[.d true (.int .i64)]),(false,[.d true (.int .i64)]),(false,[.d true (.int .i64)]),(false,[.ptr 0 0]),(false,[.c (.func 47 [])])],[.pr (.int .i64)],[4],[.ld 0 false,.d true (.int .i64),.slot 0 false,.ld 1 false,.ptr 0 0,.slot 1 false,.pr (.int .i64)]⟩
def vi:List (Nat×Lb):=[]
def vW:List (Nat×VT):=[]
def gn:List TLane×Int×Int×Int×Int→Option (Int×Int):=fun (x:List TLane×Int×Int×Int×Int)=>(fw (x.fst,x.snd.fst,x.snd.snd.fst,x.snd.snd.snd.snd)).bind fun (x1:Int×Int×Int)=>(fw (x.fst,x1.snd.fst,x.snd.snd.snd.fst,x1.snd.snd)).bind fun (x2:Int×Int×Int)=>(fw (x.fst,x1.fst,x2.fst,x2.snd.snd)).bind fun (x3:Int×Int×Int)=>some (x3.snd.fst,x3.snd.snd)
theorem ud:vfn (T:=tE) lpK vW (bn [qm]) mD qh.res (vOf qh.code vi)=gn:=by kernel_rfl
abbrev jY:En tE:=⟨103,[(5,47)],mD,gn⟩
theorem oN:aC F tE 103 mD 6 gn:=by
 rw [← ud]
 exact au (fn:=qh) (aa (en:=qm) ag vJ rfl) rfl (by kernel_rfl)
def mm:FSp:=⟨[(false,[.d false (.sl false (.st 5))]),(false,[.d true (.int .i64)]),(false,[.ptr 0 0]),(false,[.c (.func 47 [])])],[.pr (.int .i64)],[2],[.ld 0 false,.d true (.int .i64),.slot 0 false,.ld 1 false,.ptr 0 0,.slot 1 false,.pr (.int .i64)]⟩
def xi:List (Nat×Lb):=[]
def wK:List (Nat×VT):=[]
def fh:List TLane×Int×Int→Option (Int×Int):=fun (x:List TLane×Int×Int)=>(gn (x.fst,IntKind.i64.wrap (x.snd.fst - 1),x.snd.fst,IntKind.i64.wrap (x.snd.fst+1),x.snd.snd)).bind fun (x1:Int×Int)=>some (x1.fst,x1.snd)
theorem v9:vfn (T:=tE) lpK wK (bn [jY]) mm pP.res (vOf pP.code xi)=fh:=by kernel_rfl
abbrev qd:En tE:=⟨102,[(3,47)],mm,fh⟩
theorem wL:aC F tE 102 mm 4 fh:=by
 rw [← v9]
 exact au (fn:=pP) (aa (en:=jY) ag oN rfl) rfl (by kernel_rfl)
def mJ:FSp:=⟨[(false,[.d false (.sl false (.st 5))]),(false,[.d true (.int .i64)]),(false,[.d true (.int .i64)]),(false,[.c (.func 47 [])])],[],[],[.ld 0 false,.d true (.int .i64),.slot 0 false,.ld 1 false,.d true (.int .i64),.slot 1 false]⟩
def vK:List (Nat×Lb):=[(6,.j [.ld 11 false,.ptr 0 0,.slot 11 false,.ld 13 false,.d true (.int .i64),.slot 13 false,.pr (.int .i64)]),(8,.j [.ld 0 false,.d false (.sl false (.st 5)),.slot 0 false,.ld 3 false,.c (.func 47 []),.slot 3 false,.ld 11 false,.ptr 0 0,.slot 11 false,.ld 12 false,.d true (.int .i64),.slot 12 false,.ld 13 false,.d true (.int .i64),.slot 13 false,.ld 14 false,.d true (.int .i64),.slot 14 false,.pr (.int .i64)])]
def vI:List (Nat×VT):=[]
def jD:List TLane×Int×Int→Option (Int×Int):=fun (x:List TLane×Int×Int)=>
  (oG IntKind.i64 (IntKind.i64.wrap (x.snd.snd - x.snd.fst)) 4).bind fun (n1:Int)=>
    (oG IntKind.i64 (IntKind.i64.wrap (x.snd.snd - x.snd.fst)) 4).bind fun (n2:Int)=>
      (oG IntKind.i64 (IntKind.i64.wrap (x.snd.snd - x.snd.fst)) 4).bind fun (n3:Int)=>
        (if 8≤IntKind.i64.wrap (x.snd.snd - x.snd.fst) then
              (if 50≤IntKind.i64.wrap (x.snd.snd - x.snd.fst) then (fh (x.fst,IntKind.i64.wrap (x.snd.fst+IntKind.i64.wrap (n1 * 1)),0)).bind fun (x4:Int×Int)=>(fh (x.fst,IntKind.i64.wrap (x.snd.fst+IntKind.i64.wrap (n2 * 2)),x4.snd)).bind fun (x5:Int×Int)=>(fh (x.fst,IntKind.i64.wrap (x.snd.fst+IntKind.i64.wrap (n3 * 3)),x5.snd)).bind fun (x6:Int×Int)=>some (Sum.inl (x.fst,x4.fst,x5.fst,x6.fst,x6.snd)) else some (Sum.inl (x.fst,IntKind.i64.wrap (x.snd.fst+IntKind.i64.wrap (n1 * 1)),IntKind.i64.wrap (x.snd.fst+IntKind.i64.wrap (n2 * 2)),IntKind.i64.wrap (x.snd.fst+IntKind.i64.wrap (n3 * 3)),0))).bind fun (x4:List TLane×Int×Int×Int×Int⊕Int×Int⊕Int×Int)=>
                match x4 with
                | Sum.inl x=>(gn (x.fst,x.snd.fst,x.snd.snd.fst,x.snd.snd.snd.fst,x.snd.snd.snd.snd)).bind fun (x6:Int×Int)=>some (Sum.inl (x6.fst,x6.snd))
                | Sum.inr r=>some r
            else some (Sum.inl (IntKind.i64.wrap (x.snd.fst+IntKind.i64.wrap (n2 * 2)),0))).bind
          fun (x4:Int×Int⊕Int×Int)=>
          match x4 with
          | Sum.inl x=>if x.snd=0 then some (x.fst,1) else if x.snd=12 then some (x.fst,2) else some (x.fst,0)
          | Sum.inr r=>some r
theorem uZ:vfn (T:=tE) lpK vI (bn [qd,jY]) mJ xY.res (vOf xY.code vK)=jD:=by kernel_rfl
abbrev oL:En tE:=⟨86,[(3,47)],mJ,jD⟩
theorem xc:aC F tE 86 mJ 4 jD:=by
 rw [← uZ]
 exact au (fn:=xY) (aa (en:=qd) (aa (en:=jY) ag oN rfl) wL rfl) rfl (by kernel_rfl)
def ma:FSp:=⟨[(false,[.r 0]),(false,[.d true (.int .i64)]),(false,[.d true (.int .i64)]),(false,[.c (.func 47 [])])],[.sl (.st 5)],[0],[.ld 0 false,.r 0,.slot 0 false,.sl (.st 5)]⟩
def uC:List (Nat×Lb):=[(2,.l [] [.ld 0 false,.r 0,.slot 0 false,.ld 8 false,.d true (.int .i64),.slot 8 false,.ld 9 false,.d true (.int .i64),.slot 9 false,.sl (.st 5)] [(some 0,[.ld 0 false,.r 0,.slot 0 false,.sl (.st 5)])])]
def wE:List (Nat×VT):=[]
def jB:Int×Int×List TLane→Option (List TLane):=fun (x:Int×Int×List TLane)=>(aq (fun (x1:Int×Int×List TLane)=>if x1.fst < x1.snd.fst then (idx x1.snd.snd x1.snd.fst).bind fun (x2:TLane)=>(idx x1.snd.snd x1.fst).bind fun (x3:TLane)=>(idx x1.snd.snd x1.fst).bind fun (x4:TLane)=>(idx (x1.snd.snd.set x1.fst.toNat x2) x1.snd.fst).bind fun (x5:TLane)=>some (Sum.inl (IntKind.i64.wrap (x1.fst+1),IntKind.i64.wrap (x1.snd.fst - 1),(x1.snd.snd.set x1.fst.toNat x2).set x1.snd.fst.toNat x3)) else some (Sum.inr x1.snd.snd)) (x.fst,IntKind.i64.wrap (x.snd.fst - 1),x.snd.snd)).bind fun (l1:List TLane)=>some l1
theorem ug:vfn (T:=tE) lpK wE (bn []) ma Ao.res (vOf Ao.code uC)=jB:=by kernel_rfl
abbrev rG:En tE:=⟨87,[(3,47)],ma,jB⟩
theorem uY:aC F tE 87 ma 4 jB:=by
 rw [← ug]
 exact au (fn:=Ao) ag rfl (by kernel_rfl)
def mg:FSp:=⟨[(false,[.r 0]),(false,[.d true (.int .i64)]),(false,[.d true (.int .i64)]),(false,[.c (.func 47 [])])],[.sl (.st 5)],[0],[.ld 0 false,.d true .bool,.slot 0 false,.ld 1 false,.r 0,.slot 1 false,.sl (.st 5)]⟩
def wR:List (Nat×Lb):=[(4,.l [.ld 1 false,.d true (.int .i64),.slot 1 false,.ld 2 false,.d true (.int .i64),.slot 2 false,.ld 3 false,.c (.func 47 []),.slot 3 false] [.ld 0 false,.r 0,.slot 0 false,.ld 8 false,.c (.bool false),.slot 8 false,.ld 9 false,.d true (.int .i64),.slot 9 false,.ld 10 false,.d true (.int .i64),.slot 10 false,.sl (.st 5)] [(some 0,[.ld 0 false,.r 0,.slot 0 false,.sl (.st 5)]),(none,[.ld 0 false,.r 0,.slot 0 false,.ld 8 false,.d true .bool,.slot 8 false,.sl (.st 5)])]),(9,.l [.ld 8 false,.c (.bool false),.slot 8 false,.ld 10 false,.d true (.int .i64),.slot 10 false] [.ld 0 false,.r 0,.slot 0 false,.ld 9 false,.d true (.int .i64),.slot 9 false,.sl (.st 5)] [(some 2,[.ld 0 false,.r 0,.slot 0 false,.ld 9 false,.d true (.int .i64),.slot 9 false,.sl (.st 5)])]),(11,.j [.ld 0 false,.r 0,.slot 0 false,.ld 9 false,.d true (.int .i64),.slot 9 false,.ld 36 false,.d true .bool,.slot 36 false,.sl (.st 5)]),(19,.j [.ld 0 false,.r 0,.slot 0 false,.ld 8 false,.c (.bool false),.slot 8 false,.ld 9 false,.d true (.int .i64),.slot 9 false,.ld 10 false,.d true (.int .i64),.slot 10 false,.sl (.st 5)]),(22,.l [.ld 8 false,.c (.bool false),.slot 8 false,.ld 9 false,.d true (.int .i64),.slot 9 false,.ld 10 false,.d true (.int .i64),.slot 10 false] [.ld 0 false,.r 0,.slot 0 false,.ld 11 false,.d true (.int .i64),.slot 11 false,.sl (.st 5)] [(some 4,[.ld 0 false,.r 0,.slot 0 false,.sl (.st 5)])]),(30,.l [.ld 8 false,.c (.bool false),.slot 8 false,.ld 9 false,.d true (.int .i64),.slot 9 false,.ld 10 false,.d true (.int .i64),.slot 10 false] [.ld 0 false,.r 0,.slot 0 false,.ld 12 false,.d true (.int .i64),.slot 12 false,.sl (.st 5)] [(some 6,[.ld 0 false,.r 0,.slot 0 false,.sl (.st 5)])])]
def xC:List (Nat×VT):=[]
def jE:Int×Int×List TLane→Option (Bool×List TLane):=fun (x:Int×Int×List TLane)=>
  (aq
        (fun (x1:Int×Int×List TLane)=>
          if x1.snd.fst < 5 then
            (aq
                  (fun (x2:Int×List TLane)=>
                    (if x2.fst < x.snd.fst then (idx x2.snd x2.fst).bind fun (x3:TLane)=>(idx x2.snd (IntKind.i64.wrap (x2.fst - 1))).bind fun (x4:TLane)=>(p47 (x3.From,x3.To,x3.Ahead,x4.From,x4.To,x4.Ahead)).bind fun (n5:Int)=>some (Sum.inl (x2.fst,!decide (n5 < 0),x2.snd)) else some (Sum.inl (x2.fst,false,x2.snd))).bind fun (x3:Int×Bool×List TLane⊕Int×List TLane⊕Int×List TLane)=>
                      match x3 with
                      | Sum.inl x=>if x.snd.fst=true then some (Sum.inl (IntKind.i64.wrap (x.fst+1),x.snd.snd)) else some (Sum.inr (x.fst,x.snd.snd))
                      | Sum.inr r=>some r)
                  (x1.fst,x1.snd.snd)).bind
              fun (x2:Int×List TLane)=>
              if x2.fst=x.snd.fst then some (Sum.inr (Sum.inr (true,x2.snd)))
              else
                if IntKind.i64.wrap (x.snd.fst - x.fst) < 50 then some (Sum.inr (Sum.inr (false,x2.snd)))
                else
                  (idx x2.snd (IntKind.i64.wrap (x2.fst - 1))).bind fun (x3:TLane)=>
                    (idx x2.snd x2.fst).bind fun (x4:TLane)=>
                      (idx x2.snd x2.fst).bind fun (x5:TLane)=>
                        (idx (x2.snd.set x2.fst.toNat x3) (IntKind.i64.wrap (x2.fst - 1))).bind fun (x6:TLane)=>
                          (if 2≤IntKind.i64.wrap (x2.fst - x.fst) then (aq (fun (x7:Int×List TLane)=>if 1≤x7.fst then (idx x7.snd x7.fst).bind fun (x8:TLane)=>(idx x7.snd (IntKind.i64.wrap (x7.fst - 1))).bind fun (x9:TLane)=>(p47 (x8.From,x8.To,x8.Ahead,x9.From,x9.To,x9.Ahead)).bind fun (n10:Int)=>if (!decide (n10 < 0))=true then some (Sum.inr x7.snd) else (idx x7.snd (IntKind.i64.wrap (x7.fst - 1))).bind fun (x11:TLane)=>(idx x7.snd x7.fst).bind fun (x12:TLane)=>(idx x7.snd x7.fst).bind fun (x13:TLane)=>(idx (x7.snd.set x7.fst.toNat x11) (IntKind.i64.wrap (x7.fst - 1))).bind fun (x14:TLane)=>some (Sum.inl (IntKind.i64.wrap (x7.fst - 1),(x7.snd.set x7.fst.toNat x11).set (IntKind.i64.wrap (x7.fst - 1)).toNat x12)) else some (Sum.inr x7.snd)) (IntKind.i64.wrap (x2.fst - 1),(x2.snd.set x2.fst.toNat x3).set (IntKind.i64.wrap (x2.fst - 1)).toNat x4)).bind fun (l7:List TLane)=>some (Sum.inl (x2.fst,x1.snd.fst,l7)) else some (Sum.inl (x2.fst,x1.snd.fst,(x2.snd.set x2.fst.toNat x3).set (IntKind.i64.wrap (x2.fst - 1)).toNat x4))).bind fun (x7:Int×Int×List TLane⊕Int×Int×List TLane⊕List TLane⊕Bool×List TLane)=>
                            match x7 with
                            | Sum.inl x_1=>if 2≤IntKind.i64.wrap (x.snd.fst - x_1.fst) then (aq (fun (x9:Int×List TLane)=>if x9.fst < x.snd.fst then (idx x9.snd x9.fst).bind fun (x10:TLane)=>(idx x9.snd (IntKind.i64.wrap (x9.fst - 1))).bind fun (x11:TLane)=>(p47 (x10.From,x10.To,x10.Ahead,x11.From,x11.To,x11.Ahead)).bind fun (n12:Int)=>if (!decide (n12 < 0))=true then some (Sum.inr x9.snd) else (idx x9.snd (IntKind.i64.wrap (x9.fst - 1))).bind fun (x13:TLane)=>(idx x9.snd x9.fst).bind fun (x14:TLane)=>(idx x9.snd x9.fst).bind fun (x15:TLane)=>(idx (x9.snd.set x9.fst.toNat x13) (IntKind.i64.wrap (x9.fst - 1))).bind fun (x16:TLane)=>some (Sum.inl (IntKind.i64.wrap (x9.fst+1),(x9.snd.set x9.fst.toNat x13).set (IntKind.i64.wrap (x9.fst - 1)).toNat x14)) else some (Sum.inr x9.snd)) (IntKind.i64.wrap (x_1.fst+1),x_1.snd.snd)).bind fun (l9:List TLane)=>some (Sum.inl (x_1.fst,IntKind.i64.wrap (x_1.snd.fst+1),l9)) else some (Sum.inl (x_1.fst,IntKind.i64.wrap (x_1.snd.fst+1),x_1.snd.snd))
                            | Sum.inr r=>some r
          else some (Sum.inr (Sum.inl x1.snd.snd)))
        (IntKind.i64.wrap (x.fst+1),0,x.snd.snd)).bind
    fun (x1:List TLane⊕Bool×List TLane)=>
    match x1 with
    | Sum.inl x=>some (false,x)
    | Sum.inr y=>some (y.fst,y.snd)
theorem uG:vfn (T:=tE) lpK xC (bn [n47]) mg Ak.res (vOf Ak.code wR)=jE:=by kernel_rfl
abbrev qF:En tE:=⟨88,[(3,47)],mg,jE⟩
theorem wS:aC F tE 88 mg 4 jE:=by
 rw [← uG]
 exact au (fn:=Ak) (aa (en:=n47) ag o47 rfl) rfl (by kernel_rfl)
def md:FSp:=⟨[(false,[.r 0]),(false,[.d true (.int .i64)]),(false,[.d true (.int .i64)]),(false,[.d true (.int .i64)]),(false,[.c (.func 47 [])])],[.sl (.st 5)],[0],[.ld 0 false,.d true (.int .i64),.slot 0 false,.ld 1 false,.r 0,.slot 1 false,.sl (.st 5)]⟩
def vb:List (Nat×Lb):=[(4,.l [.ld 1 false,.d true (.int .i64),.slot 1 false,.ld 4 false,.c (.func 47 []),.slot 4 false] [.ld 0 false,.r 0,.slot 0 false,.ld 11 false,.d true (.int .i64),.slot 11 false,.ld 12 false,.d true (.int .i64),.slot 12 false,.sl (.st 5)] [(some 0,[.ld 0 false,.r 0,.slot 0 false,.ld 11 false,.d true (.int .i64),.slot 11 false,.sl (.st 5)])]),(6,.l [.ld 12 false,.d true (.int .i64),.slot 12 false] [.ld 0 false,.r 0,.slot 0 false,.ld 11 false,.d true (.int .i64),.slot 11 false,.sl (.st 5)] [(some 2,[.ld 0 false,.r 0,.slot 0 false,.ld 11 false,.d true (.int .i64),.slot 11 false,.sl (.st 5)])]),(8,.j [.ld 0 false,.r 0,.slot 0 false,.ld 11 false,.d true (.int .i64),.slot 11 false,.ld 47 false,.d true .bool,.slot 47 false,.sl (.st 5)]),(10,.l [.ld 11 false,.d true (.int .i64),.slot 11 false] [.ld 0 false,.r 0,.slot 0 false,.ld 12 false,.d true (.int .i64),.slot 12 false,.sl (.st 5)] [(some 4,[.ld 0 false,.r 0,.slot 0 false,.ld 12 false,.d true (.int .i64),.slot 12 false,.sl (.st 5)])]),(12,.j [.ld 0 false,.r 0,.slot 0 false,.ld 12 false,.d true (.int .i64),.slot 12 false,.ld 65 false,.d true .bool,.slot 65 false,.sl (.st 5)])]
def wx:List (Nat×VT):=[]
def i8:Int×Int×Int×List TLane→Option (Int×List TLane):=fun (x:Int×Int×Int×List TLane)=>
  (idx x.snd.snd.snd x.snd.snd.fst).bind fun (x1:TLane)=>
    (idx x.snd.snd.snd x.fst).bind fun (x2:TLane)=>
      (idx x.snd.snd.snd x.fst).bind fun (x3:TLane)=>
        (idx (x.snd.snd.snd.set x.fst.toNat x1) x.snd.snd.fst).bind fun (x4:TLane)=>
          (aq
                (fun (x5:Int×Int×List TLane)=>
                  (aq
                        (fun (x6:Int×List TLane)=>
                          (if x6.fst≤x5.snd.fst then (idx x6.snd x.fst).bind fun (x7:TLane)=>(idx x6.snd x6.fst).bind fun (x8:TLane)=>(p47 (x7.From,x7.To,x7.Ahead,x8.From,x8.To,x8.Ahead)).bind fun (n9:Int)=>some (Sum.inl (x6.fst,!decide (n9 < 0),x6.snd)) else some (Sum.inl (x6.fst,false,x6.snd))).bind fun (x7:Int×Bool×List TLane⊕Int×List TLane⊕Int×List TLane)=>
                            match x7 with
                            | Sum.inl x=>if x.snd.fst=true then some (Sum.inl (IntKind.i64.wrap (x.fst+1),x.snd.snd)) else some (Sum.inr (x.fst,x.snd.snd))
                            | Sum.inr r=>some r)
                        (x5.fst,x5.snd.snd)).bind
                    fun (x6:Int×List TLane)=>
                    (aq
                          (fun (x7:Int×List TLane)=>
                            (if x6.fst≤x7.fst then (idx x7.snd x.fst).bind fun (x8:TLane)=>(idx x7.snd x7.fst).bind fun (x9:TLane)=>(p47 (x8.From,x8.To,x8.Ahead,x9.From,x9.To,x9.Ahead)).bind fun (n10:Int)=>some (Sum.inl (x7.fst,decide (n10 < 0),x7.snd)) else some (Sum.inl (x7.fst,false,x7.snd))).bind fun (x8:Int×Bool×List TLane⊕Int×List TLane⊕Int×List TLane)=>
                              match x8 with
                              | Sum.inl x=>if x.snd.fst=true then some (Sum.inl (IntKind.i64.wrap (x.fst - 1),x.snd.snd)) else some (Sum.inr (x.fst,x.snd.snd))
                              | Sum.inr r=>some r)
                          (x5.snd.fst,x6.snd)).bind
                      fun (x7:Int×List TLane)=>if x7.fst < x6.fst then some (Sum.inr (x6.fst,x7.snd)) else (idx x7.snd x7.fst).bind fun (x8:TLane)=>(idx x7.snd x6.fst).bind fun (x9:TLane)=>(idx x7.snd x6.fst).bind fun (x10:TLane)=>(idx (x7.snd.set x6.fst.toNat x8) x7.fst).bind fun (x11:TLane)=>some (Sum.inl (IntKind.i64.wrap (x6.fst+1),IntKind.i64.wrap (x7.fst - 1),(x7.snd.set x6.fst.toNat x8).set x7.fst.toNat x9)))
                (IntKind.i64.wrap (x.fst+1),IntKind.i64.wrap (x.snd.fst - 1),(x.snd.snd.snd.set x.fst.toNat x1).set x.snd.snd.fst.toNat x2)).bind
            fun (x5:Int×List TLane)=>some (x5.fst,x5.snd)
theorem ut:vfn (T:=tE) lpK wx (bn [n47]) md zu.res (vOf zu.code vb)=i8:=by kernel_rfl
abbrev p5:En tE:=⟨89,[(4,47)],md,i8⟩
theorem xI:aC F tE 89 md 5 i8:=by
 rw [← ut]
 exact au (fn:=zu) (aa (en:=n47) ag o47 rfl) rfl (by kernel_rfl)
def mK:FSp:=⟨[(false,[.r 0]),(false,[.d true (.int .i64)]),(false,[.d true (.int .i64)]),(false,[.d true (.int .i64)]),(false,[.c (.func 47 [])])],[.sl (.st 5)],[0],[.ld 0 false,.d true (.int .i64),.slot 0 false,.ld 1 false,.d true .bool,.slot 1 false,.ld 2 false,.r 0,.slot 2 false,.sl (.st 5)]⟩
def xq:List (Nat×Lb):=[(4,.l [.ld 1 false,.d true (.int .i64),.slot 1 false,.ld 4 false,.c (.func 47 []),.slot 4 false,.ld 13 false,.d true (.int .i64),.slot 13 false] [.ld 0 false,.r 0,.slot 0 false,.ld 12 false,.d true (.int .i64),.slot 12 false,.sl (.st 5)] [(some 0,[.ld 0 false,.r 0,.slot 0 false,.ld 12 false,.d true (.int .i64),.slot 12 false,.sl (.st 5)])]),(6,.j [.ld 0 false,.r 0,.slot 0 false,.ld 12 false,.d true (.int .i64),.slot 12 false,.ld 47 false,.d true .bool,.slot 47 false,.sl (.st 5)]),(8,.l [.ld 1 false,.d true (.int .i64),.slot 1 false,.ld 4 false,.c (.func 47 []),.slot 4 false,.ld 12 false,.d true (.int .i64),.slot 12 false] [.ld 0 false,.r 0,.slot 0 false,.ld 13 false,.d true (.int .i64),.slot 13 false,.sl (.st 5)] [(some 2,[.ld 0 false,.r 0,.slot 0 false,.ld 13 false,.d true (.int .i64),.slot 13 false,.sl (.st 5)])]),(10,.j [.ld 0 false,.r 0,.slot 0 false,.ld 13 false,.d true (.int .i64),.slot 13 false,.ld 66 false,.d true .bool,.slot 66 false,.sl (.st 5)]),(19,.l [.ld 1 false,.d true (.int .i64),.slot 1 false,.ld 4 false,.c (.func 47 []),.slot 4 false] [.ld 0 false,.r 0,.slot 0 false,.ld 12 false,.d true (.int .i64),.slot 12 false,.ld 13 false,.d true (.int .i64),.slot 13 false,.sl (.st 5)] [(some 4,[.ld 0 false,.r 0,.slot 0 false,.ld 13 false,.d true (.int .i64),.slot 13 false,.sl (.st 5)])]),(21,.l [.ld 13 false,.d true (.int .i64),.slot 13 false] [.ld 0 false,.r 0,.slot 0 false,.ld 12 false,.d true (.int .i64),.slot 12 false,.sl (.st 5)] [(some 6,[.ld 0 false,.r 0,.slot 0 false,.ld 12 false,.d true (.int .i64),.slot 12 false,.sl (.st 5)])]),(23,.j [.ld 0 false,.r 0,.slot 0 false,.ld 12 false,.d true (.int .i64),.slot 12 false,.ld 120 false,.d true .bool,.slot 120 false,.sl (.st 5)]),(25,.l [.ld 12 false,.d true (.int .i64),.slot 12 false] [.ld 0 false,.r 0,.slot 0 false,.ld 13 false,.d true (.int .i64),.slot 13 false,.sl (.st 5)] [(some 8,[.ld 0 false,.r 0,.slot 0 false,.ld 13 false,.d true (.int .i64),.slot 13 false,.sl (.st 5)])]),(27,.j [.ld 0 false,.r 0,.slot 0 false,.ld 13 false,.d true (.int .i64),.slot 13 false,.ld 139 false,.d true .bool,.slot 139 false,.sl (.st 5)])]
def uF:List (Nat×VT):=[]
def jV:Int×Int×Int×List TLane→Option (Int×Bool×List TLane):=fun (x:Int×Int×Int×List TLane)=>
  (idx x.snd.snd.snd x.snd.snd.fst).bind fun (x1:TLane)=>
    (idx x.snd.snd.snd x.fst).bind fun (x2:TLane)=>
      (idx x.snd.snd.snd x.fst).bind fun (x3:TLane)=>
        (idx (x.snd.snd.snd.set x.fst.toNat x1) x.snd.snd.fst).bind fun (x4:TLane)=>
          (aq
                (fun (x5:Int×List TLane)=>
                  (if x5.fst≤IntKind.i64.wrap (x.snd.fst - 1) then (idx x5.snd x5.fst).bind fun (x6:TLane)=>(idx x5.snd x.fst).bind fun (x7:TLane)=>(p47 (x6.From,x6.To,x6.Ahead,x7.From,x7.To,x7.Ahead)).bind fun (n8:Int)=>some (Sum.inl (x5.fst,decide (n8 < 0),x5.snd)) else some (Sum.inl (x5.fst,false,x5.snd))).bind fun (x6:Int×Bool×List TLane⊕Int×List TLane⊕Int×List TLane)=>
                    match x6 with
                    | Sum.inl x=>if x.snd.fst=true then some (Sum.inl (IntKind.i64.wrap (x.fst+1),x.snd.snd)) else some (Sum.inr (x.fst,x.snd.snd))
                    | Sum.inr r=>some r)
                (IntKind.i64.wrap (x.fst+1),(x.snd.snd.snd.set x.fst.toNat x1).set x.snd.snd.fst.toNat x2)).bind
            fun (x5:Int×List TLane)=>
            (aq
                  (fun (x6:Int×List TLane)=>
                    (if x5.fst≤x6.fst then (idx x6.snd x6.fst).bind fun (x7:TLane)=>(idx x6.snd x.fst).bind fun (x8:TLane)=>(p47 (x7.From,x7.To,x7.Ahead,x8.From,x8.To,x8.Ahead)).bind fun (n9:Int)=>some (Sum.inl (x6.fst,!decide (n9 < 0),x6.snd)) else some (Sum.inl (x6.fst,false,x6.snd))).bind fun (x7:Int×Bool×List TLane⊕Int×List TLane⊕Int×List TLane)=>
                      match x7 with
                      | Sum.inl x=>if x.snd.fst=true then some (Sum.inl (IntKind.i64.wrap (x.fst - 1),x.snd.snd)) else some (Sum.inr (x.fst,x.snd.snd))
                      | Sum.inr r=>some r)
                  (IntKind.i64.wrap (x.snd.fst - 1),x5.snd)).bind
              fun (x6:Int×List TLane)=>
              if x6.fst < x5.fst then (idx x6.snd x.fst).bind fun (x7:TLane)=>(idx x6.snd x6.fst).bind fun (x8:TLane)=>(idx x6.snd x6.fst).bind fun (x9:TLane)=>(idx (x6.snd.set x6.fst.toNat x7) x.fst).bind fun (x10:TLane)=>some (x6.fst,true,(x6.snd.set x6.fst.toNat x7).set x.fst.toNat x8)
              else
                (idx x6.snd x6.fst).bind fun (x7:TLane)=>
                  (idx x6.snd x5.fst).bind fun (x8:TLane)=>
                    (idx x6.snd x5.fst).bind fun (x9:TLane)=>
                      (idx (x6.snd.set x5.fst.toNat x7) x6.fst).bind fun (x10:TLane)=>
                        (aq
                              (fun (x11:Int×Int×List TLane)=>
                                (aq
                                      (fun (x12:Int×List TLane)=>
                                        (if x12.fst≤x11.snd.fst then (idx x12.snd x12.fst).bind fun (x13:TLane)=>(idx x12.snd x.fst).bind fun (x14:TLane)=>(p47 (x13.From,x13.To,x13.Ahead,x14.From,x14.To,x14.Ahead)).bind fun (n15:Int)=>some (Sum.inl (x12.fst,decide (n15 < 0),x12.snd)) else some (Sum.inl (x12.fst,false,x12.snd))).bind fun (x13:Int×Bool×List TLane⊕Int×List TLane⊕Int×List TLane)=>
                                          match x13 with
                                          | Sum.inl x=>if x.snd.fst=true then some (Sum.inl (IntKind.i64.wrap (x.fst+1),x.snd.snd)) else some (Sum.inr (x.fst,x.snd.snd))
                                          | Sum.inr r=>some r)
                                      (x11.fst,x11.snd.snd)).bind
                                  fun (x12:Int×List TLane)=>
                                  (aq
                                        (fun (x13:Int×List TLane)=>
                                          (if x12.fst≤x13.fst then (idx x13.snd x13.fst).bind fun (x14:TLane)=>(idx x13.snd x.fst).bind fun (x15:TLane)=>(p47 (x14.From,x14.To,x14.Ahead,x15.From,x15.To,x15.Ahead)).bind fun (n16:Int)=>some (Sum.inl (x13.fst,!decide (n16 < 0),x13.snd)) else some (Sum.inl (x13.fst,false,x13.snd))).bind fun (x14:Int×Bool×List TLane⊕Int×List TLane⊕Int×List TLane)=>
                                            match x14 with
                                            | Sum.inl x=>if x.snd.fst=true then some (Sum.inl (IntKind.i64.wrap (x.fst - 1),x.snd.snd)) else some (Sum.inr (x.fst,x.snd.snd))
                                            | Sum.inr r=>some r)
                                        (x11.snd.fst,x12.snd)).bind
                                    fun (x13:Int×List TLane)=>if x13.fst < x12.fst then some (Sum.inr (x13.fst,x13.snd)) else (idx x13.snd x13.fst).bind fun (x14:TLane)=>(idx x13.snd x12.fst).bind fun (x15:TLane)=>(idx x13.snd x12.fst).bind fun (x16:TLane)=>(idx (x13.snd.set x12.fst.toNat x14) x13.fst).bind fun (x17:TLane)=>some (Sum.inl (IntKind.i64.wrap (x12.fst+1),IntKind.i64.wrap (x13.fst - 1),(x13.snd.set x12.fst.toNat x14).set x13.fst.toNat x15)))
                              (IntKind.i64.wrap (x5.fst+1),IntKind.i64.wrap (x6.fst - 1),(x6.snd.set x5.fst.toNat x7).set x6.fst.toNat x8)).bind
                          fun (x11:Int×List TLane)=>(idx x11.snd x.fst).bind fun (x12:TLane)=>(idx x11.snd x11.fst).bind fun (x13:TLane)=>(idx x11.snd x11.fst).bind fun (x14:TLane)=>(idx (x11.snd.set x11.fst.toNat x12) x.fst).bind fun (x15:TLane)=>some (x11.fst,false,(x11.snd.set x11.fst.toNat x12).set x.fst.toNat x13)
theorem uH:vfn (T:=tE) lpK uF (bn [n47]) mK zq.res (vOf zq.code xq)=jV:=by kernel_rfl
abbrev qG:En tE:=⟨90,[(4,47)],mK,jV⟩
theorem wC:aC F tE 90 mK 5 jV:=by
 rw [← uH]
 exact au (fn:=zq) (aa (en:=n47) ag o47 rfl) rfl (by kernel_rfl)
def mH:FSp:=⟨[(false,[.r 0]),(false,[.d true (.int .i64)]),(false,[.d true (.int .i64)]),(false,[.c (.func 47 [])])],[.sl (.st 5)],[0],[.ld 0 false,.r 0,.slot 0 false,.sl (.st 5)]⟩
def w9:List (Nat×Lb):=[(5,.l [.ld 1 false,.d true (.int .i64),.slot 1 false,.ld 8 false,.d true (.int .i64),.slot 8 false,.ld 10 false,.d true (.int .u64),.slot 10 false] [.ld 0 false,.r 0,.slot 0 false,.ld 9 false,.ptr 1 0,.slot 9 false,.ld 11 false,.d true (.int .i64),.slot 11 false,.sl (.st 5),.pr (.int .u64)] [(some 0,[.ld 0 false,.r 0,.slot 0 false,.sl (.st 5)])]),(10,.j [.ld 0 false,.r 0,.slot 0 false,.ld 9 false,.ptr 1 0,.slot 9 false,.ld 11 false,.d true (.int .i64),.slot 11 false,.ld 12 false,.d true (.int .i64),.slot 12 false,.sl (.st 5),.pr (.int .u64)])]
def uN:List (Nat×VT):=[]
def ja:Int×Int×List TLane→Option (List TLane):=fun (x:Int×Int×List TLane)=>
  if 8≤IntKind.i64.wrap (x.snd.fst - x.fst) then
    (Av (IntKind.i64.wrap (x.snd.fst - x.fst))).bind fun (n1:Int)=>
      (oG IntKind.i64 (IntKind.i64.wrap (x.snd.fst - x.fst)) 4).bind fun (n2:Int)=>
        (aq
              (fun (x3:Int×List TLane×Int)=>
                (oG IntKind.i64 (IntKind.i64.wrap (x.snd.fst - x.fst)) 4).bind fun (n4:Int)=>
                  if x3.fst≤IntKind.i64.wrap (IntKind.i64.wrap (x.fst+IntKind.i64.wrap (n4 * 2))+1) then
                    (Ay x3.snd.snd).bind fun (x5:Int×Int)=>
                      (if IntKind.i64.wrap (x.snd.fst - x.fst)≤IntKind.i64.wrap (IntKind.u64.wrap (↑(BitVec.ofInt IntKind.u64.bits x5.fst &&& BitVec.ofInt IntKind.u64.bits (IntKind.u64.wrap (n1 - 1))).toNat:Int)) then some (Sum.inl (x3.fst,IntKind.i64.wrap (IntKind.i64.wrap (IntKind.u64.wrap (↑(BitVec.ofInt IntKind.u64.bits x5.fst &&& BitVec.ofInt IntKind.u64.bits (IntKind.u64.wrap (n1 - 1))).toNat:Int)) - IntKind.i64.wrap (x.snd.fst - x.fst)),x3.snd.fst,x5.snd)) else some (Sum.inl (x3.fst,IntKind.i64.wrap (IntKind.u64.wrap (↑(BitVec.ofInt IntKind.u64.bits x5.fst &&& BitVec.ofInt IntKind.u64.bits (IntKind.u64.wrap (n1 - 1))).toNat:Int)),x3.snd.fst,x5.snd))).bind fun (x6:Int×Int×List TLane×Int⊕Int×List TLane×Int⊕List TLane)=>
                        match x6 with
                        | Sum.inl x_1=>(idx x_1.snd.snd.fst (IntKind.i64.wrap (x.fst+x_1.snd.fst))).bind fun (x8:TLane)=>(idx x_1.snd.snd.fst x_1.fst).bind fun (x9:TLane)=>(idx x_1.snd.snd.fst x_1.fst).bind fun (x10:TLane)=>(idx (x_1.snd.snd.fst.set x_1.fst.toNat x8) (IntKind.i64.wrap (x.fst+x_1.snd.fst))).bind fun (x11:TLane)=>some (Sum.inl (IntKind.i64.wrap (x_1.fst+1),(x_1.snd.snd.fst.set x_1.fst.toNat x8).set (IntKind.i64.wrap (x.fst+x_1.snd.fst)).toNat x9,x_1.snd.snd.snd))
                        | Sum.inr r=>some r
                  else some (Sum.inr x3.snd.fst))
              (IntKind.i64.wrap (IntKind.i64.wrap (x.fst+IntKind.i64.wrap (n2 * 2)) - 1),x.snd.snd,IntKind.u64.wrap (IntKind.i64.wrap (x.snd.fst - x.fst)))).bind
          fun (l3:List TLane)=>some l3
  else some x.snd.snd
theorem uj:vfn (T:=tE) lpK uN (bn [Cv,Cg]) mH yl.res (vOf yl.code w9)=ja:=by kernel_rfl
abbrev pE:En tE:=⟨85,[(3,47)],mH,ja⟩
theorem xu:aC F tE 85 mH 4 ja:=by
 rw [← uj]
 exact au (fn:=yl) (aa (en:=Cv) (aa (en:=Cg) ag Ds rfl) El rfl) rfl (by kernel_rfl)
def je:FSp:=⟨[(false,[.r 0]),(false,[.d true (.int .i64)]),(false,[.d true (.int .i64)]),(false,[.d true (.int .i64)]),(false,[.c (.func 47 [])])],[.sl (.st 5)],[0],[.ld 0 false,.r 0,.slot 0 false,.sl (.st 5)]⟩
def xm:List (Nat×Lb):=[(2,.l [.ld 4 false,.c (.func 47 []),.slot 4 false] [.ld 0 false,.r 0,.slot 0 false,.ld 1 false,.d true (.int .i64),.slot 1 false,.ld 2 false,.d true (.int .i64),.slot 2 false,.ld 3 false,.d true (.int .i64),.slot 3 false,.ld 10 false,.d true .bool,.slot 10 false,.ld 11 false,.d true .bool,.slot 11 false,.sl (.st 5)] [(none,[.ld 0 false,.r 0,.slot 0 false,.sl (.st 5)])]),(10,.j [.ld 0 false,.r 0,.slot 0 false,.ld 1 false,.d true (.int .i64),.slot 1 false,.ld 2 false,.d true (.int .i64),.slot 2 false,.ld 3 false,.d true (.int .i64),.slot 3 false,.ld 10 false,.d true .bool,.slot 10 false,.ld 11 false,.d true .bool,.slot 11 false,.ld 12 false,.d true (.int .i64),.slot 12 false,.sl (.st 5)]),(14,.j [.ld 0 false,.r 0,.slot 0 false,.ld 1 false,.d true (.int .i64),.slot 1 false,.ld 2 false,.d true (.int .i64),.slot 2 false,.ld 3 false,.d true (.int .i64),.slot 3 false,.ld 10 false,.d true .bool,.slot 10 false,.ld 11 false,.d true .bool,.slot 11 false,.ld 12 false,.d true (.int .i64),.slot 12 false,.ld 13 false,.d true (.int .i64),.slot 13 false,.ld 14 false,.d true (.int .i64),.slot 14 false,.sl (.st 5)]),(18,.j [.ld 0 false,.r 0,.slot 0 false,.ld 1 false,.d true (.int .i64),.slot 1 false,.ld 2 false,.d true (.int .i64),.slot 2 false,.ld 3 false,.d true (.int .i64),.slot 3 false,.ld 10 false,.d true .bool,.slot 10 false,.ld 11 false,.d true .bool,.slot 11 false,.ld 12 false,.d true (.int .i64),.slot 12 false,.ld 13 false,.d true (.int .i64),.slot 13 false,.sl (.st 5)]),(19,.j [.ld 0 false,.r 0,.slot 0 false,.ld 1 false,.d true (.int .i64),.slot 1 false,.ld 2 false,.d true (.int .i64),.slot 2 false,.ld 3 false,.d true (.int .i64),.slot 3 false,.ld 10 false,.d true .bool,.slot 10 false,.ld 11 false,.d true .bool,.slot 11 false,.ld 12 false,.d true (.int .i64),.slot 12 false,.ld 13 false,.d true (.int .i64),.slot 13 false,.ld 75 false,.d true .bool,.slot 75 false,.sl (.st 5)]),(22,.j [.ld 0 false,.r 0,.slot 0 false,.ld 1 false,.d true (.int .i64),.slot 1 false,.ld 2 false,.d true (.int .i64),.slot 2 false,.ld 3 false,.d true (.int .i64),.slot 3 false,.ld 10 false,.d true .bool,.slot 10 false,.ld 11 false,.d true .bool,.slot 11 false,.ld 12 false,.d true (.int .i64),.slot 12 false,.ld 13 false,.d true (.int .i64),.slot 13 false,.ld 97 false,.d true .bool,.slot 97 false,.sl (.st 5)])]
def uB:List (Nat×VT):=[]
def pg:(Int×Int×Int×List TLane→Option (List TLane))→Int×Int×Int×List TLane→Option (List TLane):=fun (g:Int×Int×Int×List TLane→Option (List TLane)) (x:Int×Int×Int×List TLane)=>
  (aq
        (fun (x2:Int×Int×Int×Bool×Bool×List TLane)=>
          if IntKind.i64.wrap (x2.snd.fst - x2.fst)≤12 then (jm (x2.fst,x2.snd.fst,x2.snd.snd.snd.snd.snd)).bind fun (l3:List TLane)=>some (Sum.inr l3)
          else
            if x2.snd.snd.fst=0 then (jp (x2.fst,x2.snd.fst,x2.snd.snd.snd.snd.snd)).bind fun (l3:List TLane)=>some (Sum.inr l3)
            else
              (if (!x2.snd.snd.snd.fst)=true then (ja (x2.fst,x2.snd.fst,x2.snd.snd.snd.snd.snd)).bind fun (l3:List TLane)=>some (Sum.inl (x2.fst,x2.snd.fst,IntKind.i64.wrap (x2.snd.snd.fst - 1),x2.snd.snd.snd.fst,x2.snd.snd.snd.snd.fst,IntKind.i64.wrap (x2.snd.fst - x2.fst),l3)) else some (Sum.inl (x2.fst,x2.snd.fst,x2.snd.snd.fst,x2.snd.snd.snd.fst,x2.snd.snd.snd.snd.fst,IntKind.i64.wrap (x2.snd.fst - x2.fst),x2.snd.snd.snd.snd.snd))).bind fun (x3:Int×Int×Int×Bool×Bool×Int×List TLane⊕Int×Int×Int×Bool×Bool×List TLane⊕List TLane)=>
                match x3 with
                | Sum.inl x=>
                  (jD (x.snd.snd.snd.snd.snd.snd,x.fst,x.snd.fst)).bind fun (x5:Int×Int)=>
                    (if x5.snd=2 then (jB (x.fst,x.snd.fst,x.snd.snd.snd.snd.snd.snd)).bind fun (l6:List TLane)=>some (Sum.inl (x.fst,x.snd.fst,x.snd.snd.fst,x.snd.snd.snd.fst,x.snd.snd.snd.snd.fst,x.snd.snd.snd.snd.snd.fst,IntKind.i64.wrap (IntKind.i64.wrap (x.snd.fst - 1) - IntKind.i64.wrap (x5.fst - x.fst)),1,l6)) else some (Sum.inl (x.fst,x.snd.fst,x.snd.snd.fst,x.snd.snd.snd.fst,x.snd.snd.snd.snd.fst,x.snd.snd.snd.snd.snd.fst,x5.fst,x5.snd,x.snd.snd.snd.snd.snd.snd))).bind fun (x6:Int×Int×Int×Bool×Bool×Int×Int×Int×List TLane⊕Int×Int×Int×Bool×Bool×List TLane⊕List TLane)=>
                      match x6 with
                      | Sum.inl x=>
                        ((if x.snd.snd.snd.fst=true then if x.snd.snd.snd.snd.fst=true then some (Sum.inl (x.fst,x.snd.fst,x.snd.snd.fst,x.snd.snd.snd.fst,x.snd.snd.snd.snd.fst,x.snd.snd.snd.snd.snd.fst,x.snd.snd.snd.snd.snd.snd.fst,decide (x.snd.snd.snd.snd.snd.snd.snd.fst=1),x.snd.snd.snd.snd.snd.snd.snd.snd)) else some (Sum.inl (x.fst,x.snd.fst,x.snd.snd.fst,x.snd.snd.snd.fst,x.snd.snd.snd.snd.fst,x.snd.snd.snd.snd.snd.fst,x.snd.snd.snd.snd.snd.snd.fst,false,x.snd.snd.snd.snd.snd.snd.snd.snd)) else some (Sum.inl (x.fst,x.snd.fst,x.snd.snd.fst,x.snd.snd.snd.fst,x.snd.snd.snd.snd.fst,x.snd.snd.snd.snd.snd.fst,x.snd.snd.snd.snd.snd.snd.fst,false,x.snd.snd.snd.snd.snd.snd.snd.snd))).bind fun (x8:Int×Int×Int×Bool×Bool×Int×Int×Bool×List TLane⊕Int×Int×Int×Bool×Bool×Int×Int×List TLane⊕Int×Int×Int×Bool×Bool×List TLane⊕List TLane)=>
                              match x8 with
                              | Sum.inl x=>if x.snd.snd.snd.snd.snd.snd.snd.fst=true then (jE (x.fst,x.snd.fst,x.snd.snd.snd.snd.snd.snd.snd.snd)).bind fun (x10:Bool×List TLane)=>if x10.fst=true then some (Sum.inr (Sum.inr x10.snd)) else some (Sum.inl (x.fst,x.snd.fst,x.snd.snd.fst,x.snd.snd.snd.fst,x.snd.snd.snd.snd.fst,x.snd.snd.snd.snd.snd.fst,x.snd.snd.snd.snd.snd.snd.fst,x10.snd)) else some (Sum.inl (x.fst,x.snd.fst,x.snd.snd.fst,x.snd.snd.snd.fst,x.snd.snd.snd.snd.fst,x.snd.snd.snd.snd.snd.fst,x.snd.snd.snd.snd.snd.snd.fst,x.snd.snd.snd.snd.snd.snd.snd.snd))
                              | Sum.inr r=>some r).bind
                          fun (x8:Int×Int×Int×Bool×Bool×Int×Int×List TLane⊕Int×Int×Int×Bool×Bool×List TLane⊕List TLane)=>
                          match x8 with
                          | Sum.inl x=>
                            (if 0 < x.fst then (idx x.snd.snd.snd.snd.snd.snd.snd (IntKind.i64.wrap (x.fst - 1))).bind fun (x10:TLane)=>(idx x.snd.snd.snd.snd.snd.snd.snd x.snd.snd.snd.snd.snd.snd.fst).bind fun (x11:TLane)=>(p47 (x10.From,x10.To,x10.Ahead,x11.From,x11.To,x11.Ahead)).bind fun (n12:Int)=>some (Sum.inl (x.fst,x.snd.fst,x.snd.snd.fst,x.snd.snd.snd.fst,x.snd.snd.snd.snd.fst,x.snd.snd.snd.snd.snd.fst,x.snd.snd.snd.snd.snd.snd.fst,!decide (n12 < 0),x.snd.snd.snd.snd.snd.snd.snd)) else some (Sum.inl (x.fst,x.snd.fst,x.snd.snd.fst,x.snd.snd.snd.fst,x.snd.snd.snd.snd.fst,x.snd.snd.snd.snd.snd.fst,x.snd.snd.snd.snd.snd.snd.fst,false,x.snd.snd.snd.snd.snd.snd.snd))).bind fun (x10:Int×Int×Int×Bool×Bool×Int×Int×Bool×List TLane⊕Int×Int×Int×Bool×Bool×List TLane⊕List TLane)=>
                              match x10 with
                              | Sum.inl x=>if x.snd.snd.snd.snd.snd.snd.snd.fst=true then (i8 (x.fst,x.snd.fst,x.snd.snd.snd.snd.snd.snd.fst,x.snd.snd.snd.snd.snd.snd.snd.snd)).bind fun (x12:Int×List TLane)=>some (Sum.inl (x12.fst,x.snd.fst,x.snd.snd.fst,x.snd.snd.snd.fst,x.snd.snd.snd.snd.fst,x12.snd)) else (jV (x.fst,x.snd.fst,x.snd.snd.snd.snd.snd.snd.fst,x.snd.snd.snd.snd.snd.snd.snd.snd)).bind fun (x12:Int×Bool×List TLane)=>(oG IntKind.i64 x.snd.snd.snd.snd.snd.fst 8).bind fun (n13:Int)=>if IntKind.i64.wrap (x12.fst - x.fst) < IntKind.i64.wrap (x.snd.fst - x12.fst) then (g (x.fst,x12.fst,x.snd.snd.fst,x12.snd.snd)).bind fun (l14:List TLane)=>some (Sum.inl (IntKind.i64.wrap (x12.fst+1),x.snd.fst,x.snd.snd.fst,decide (n13≤IntKind.i64.wrap (x12.fst - x.fst)),x12.snd.fst,l14)) else (g (IntKind.i64.wrap (x12.fst+1),x.snd.fst,x.snd.snd.fst,x12.snd.snd)).bind fun (l14:List TLane)=>some (Sum.inl (x.fst,x12.fst,x.snd.snd.fst,decide (n13≤IntKind.i64.wrap (x.snd.fst - x12.fst)),x12.snd.fst,l14))
                              | Sum.inr r=>some r
                          | Sum.inr r=>some r
                      | Sum.inr r=>some r
                | Sum.inr r=>some r)
        (x.fst,x.snd.fst,x.snd.snd.fst,true,true,x.snd.snd.snd)).bind
    fun (l2:List TLane)=>some l2
def lI:=AH pg 1099511627776
theorem vX:(fun g=>vfn (T:=tE) lpK uB (bn (⟨69,[(4,47)],je,g⟩::[pZ,qv,oL,rG,qF,p5,qG,pE,n47])) je yJ.res (vOf yJ.code xm))=pg:=by kernel_rfl
abbrev ph:En tE:=⟨69,[(4,47)],je,lI⟩
theorem wA:aC F tE 69 je 5 lI:=vm (fn:=yJ) (aa (en:=pZ) (aa (en:=qv) (aa (en:=oL) (aa (en:=rG) (aa (en:=qF) (aa (en:=p5) (aa (en:=qG) (aa (en:=pE) (aa (en:=n47) ag o47 rfl) xu rfl) wC rfl) xI rfl) wS rfl) uY rfl) xc rfl) we rfl) vC rfl) rfl (by kernel_rfl) rfl vX _
def mz:FSp:=⟨[(false,[.r 0]),(false,[.c (.func 47 [])])],[.sl (.st 5)],[0],[.ld 0 false,.r 0,.slot 0 false,.sl (.st 5)]⟩
def vV:List (Nat×Lb):=[]
def uA:List (Nat×VT):=[]
def jo:List TLane→Option (List TLane):=fun (x:List TLane)=>(p70 (IntKind.u64.wrap (↑x.length:Int))).bind fun (n1:Int)=>(lI (0,(↑x.length:Int),n1,x)).bind fun (l2:List TLane)=>some l2
theorem uz:vfn (T:=tE) lpK uA (bn [ph,n70]) mz zP.res (vOf zP.code vV)=jo:=by kernel_rfl
abbrev pb:En tE:=⟨46,[(1,47)],mz,jo⟩
theorem wv:aC F tE 46 mz 2 jo:=by
 rw [← uz]
 exact au (fn:=zP) (aa (en:=ph) (aa (en:=n70) ag o70 rfl) wA rfl) rfl (by kernel_rfl)
def qS:FSp:=⟨[(false,[.r 0]),(false,[.c (.func 51 [])])],[.sl (.st 5)],[],[.ld 0 false,.r 0,.slot 0 false,.sl (.st 5)]⟩
def q9 (y10:Int) (y11:Int) (y12:List TLane):Option ((Int×Int×(List TLane))⊕(Int×(List TLane))):=some (.inl (y11,(IntKind.wrap .i64 (y10+(1:Int))),y12))
def vF (x0:List TLane) (x1:TLane→TLane→Option Bool) (y13:Int) (st:Int×Int×(List TLane)):Option ((Int×Int×(List TLane))⊕(Int×(List TLane))):=match st with | (y14,y10,y15)=>(slc y15 y13 (x0.length:Int)).bind fun w16=>if y10 < (w16.length:Int) then ((idx w16 y10).bind fun e17=>(idx w16 (IntKind.wrap .i64 (y10 - (1:Int)))).bind fun e18=>(x1 e17 e18).bind fun r19=>if (!r19)=true then ((idx w16 y10).bind fun e20=>(idx y15 y14).bind fun e21=>(some (y15.set (y14:Int).toNat e20)).bind fun y22=>q9 y10 (IntKind.wrap .i64 (y14+(1:Int))) y22) else (q9 y10 y14 y15)) else (some (.inr (y14,y15)))
def uk (x0:List TLane) (x1:TLane→TLane→Option Bool) (y13:Int):Option (Int⊕((List TLane)⊕Unit)):=if y13 < (x0.length:Int) then ((idx x0 y13).bind fun e23=>(idx x0 (IntKind.wrap .i64 (y13 - (1:Int)))).bind fun e24=>(x1 e23 e24).bind fun r25=>if r25=true then ((slc x0 y13 (x0.length:Int)).bind fun y26=>(aq (vF x0 x1 y13) (y13,(1:Int),x0)).bind fun res27=>(match res27 with | (y28,y29)=>(slc y29 y28 (y29.length:Int)).bind fun y30=>(neL y30).bind fun u31=>(slc (wr y29 (y28:Int).toNat (((y29.length:Int):Int).toNat - (y28:Int).toNat) (TLane.mk (0:Int) (0:Int) (0:Int))) (0:Int) y28).bind fun y32=>some (.inr (.inl y32)))) else (some (.inl (IntKind.wrap .i64 (y13+(1:Int)))))) else (some (.inr (.inr ())))
def Cl (x0:List TLane) (x1:TLane→TLane→Option Bool):Option (List TLane):=if (x0.length:Int) < (2:Int) then (some x0) else ((aq (uk x0 x1) (1:Int)).bind fun res33=>(match res33 with | .inl y34=>some y34 | .inr _=>some x0))
theorem xf (l:List TLane) (q:TLane→TLane→Option Bool):Ole (Cl l q) (p50 l q):=by
 refine Ole.ite (Ole.refl _) (Ole.bind (Ole.loop (fun s=>?_) _) fun x=>Ole.refl _)
 refine Ole.ite (Ole.bind (Ole.refl _) fun x=>Ole.bind (Ole.refl _) fun y=>Ole.bind (Ole.refl _) fun z=>Ole.ite ?_ (Ole.refl _)) (Ole.refl _)
 refine Ole.bind (Ole.refl _) fun u=>Ole.bind (Ole.loop (fun s=>?_) _) fun x=>Ole.refl _
 exact Ole.refl _
def mf:List TLane→Option (List TLane):=fun l=>Cl l fun a b=>p51 (a.From,a.To,a.Ahead,b.From,b.To,b.Ahead)
theorem sy (G:Hp) (cs:List AV) (x:TLane):aY.R G cs x↔(tE.r (.st 5)).R G cs x:=by
 constructor
 · intro h
   obtain rfl:=bR h
   exact reR (T:=tE) (t:=.st 5) (⟨[_],_,rfl,rfl,⟨[_],_,rfl,rfl,⟨[_],_,rfl,rfl,rfl⟩⟩⟩)
 intro h
 obtain ⟨_,_,rfl,rfl,⟨_,_,rfl,rfl,⟨_,_,rfl,rfl,rfl⟩⟩⟩:=unR (T:=tE) (t:=.st 5) h
 exact jh
theorem vx:aC F tE 50 qS 2 mf:=sQ (T:=tE) (t:=.st 5) rfl sy rfl fun S hf=>r50 (a1_0:=.func 51 []) S (fun h a b r hr=>show ZC F 51 ([.agg [.int .i64 a.From,.int .i64 a.To,.int .i64 a.Ahead],.agg [.int .i64 b.From,.int .i64 b.To,.int .i64 b.Ahead]]++[]) h _ from sI (xs:=[.agg [.int .i64 a.From,.int .i64 a.To,.int .i64 a.Ahead],.agg [.int .i64 b.From,.int .i64 b.To,.int .i64 b.Ahead]]) o51 (x:=(a.From,a.To,a.Ahead,b.From,b.To,b.Ahead,())) hr rfl (am:=fun _=>.nilPtr) ⟨_,rfl,rfl,_,rfl,rfl,_,rfl,rfl,rfl,_,rfl,rfl,_,rfl,rfl,_,rfl,rfl,rfl,rfl⟩) (xf _ _ _ hf)
abbrev pK:En tE:=⟨50,[(1,51)],qS,mf⟩
def q24:FSp:=⟨[(true,[.d false (.sl false (.st 2)),.d false (.sl false (.st 1))]),(true,[.d true (.int .i64),.d false (.sl false (.int .i64)),.d false (.sl false (.int .i64))])],[],[],[.ld 0 false,.r 0,.slot 0 false,.sl (.st 5)]⟩
def L24:List (Nat×Lb):=[(7,.l [.ld 16 false,.d false (.sl false (.st 1)),.slot 16 false,.ld 17 false,.d true (.int .i64),.slot 17 false] [.ld 3 false,.ptr 0 0,.slot 3 false,.ld 5 false,.r 1,.slot 5 false,.ld 18 false,.d true (.int .i64),.slot 18 false,.ldr,.d true (.int .i64),.d false (.sl false (.int .i64)),.d false (.sl false (.int .i64)),.row,.sl (.st 5)] [(some 0,[.ld 5 false,.r 0,.slot 5 false,.sl (.st 5)])]),(13,.l [.ld 6 false,.d true (.int .i64),.slot 6 false,.ld 18 false,.d true (.int .i64),.slot 18 false,.ld 24 false,.d false (.sl false (.st 0)),.slot 24 false,.ld 25 false,.d true (.int .i64),.slot 25 false] [.ld 3 false,.ptr 0 0,.slot 3 false,.ld 5 false,.r 1,.slot 5 false,.ld 7 false,.ptr 2 0,.slot 7 false,.ld 26 false,.d true (.int .i64),.slot 26 false,.ldr,.d true (.int .i64),.d false (.sl false (.int .i64)),.d false (.sl false (.int .i64)),.row,.sl (.st 5),.ldr,.d true .str,.d true (.int .i64),.d true (.int .i64),.d false (.sl false (.st 0)),.d false (.sl false (.st 0)),.d false (.sl false (.st 0)),.row] [(some 2,[.ld 3 false,.ptr 0 0,.slot 3 false,.ld 5 false,.r 1,.slot 5 false,.ldr,.d true (.int .i64),.d false (.sl false (.int .i64)),.d false (.sl false (.int .i64)),.row,.sl (.st 5)])])]
def H24:List (Nat×VT):=[(51,(.st 5))]
def p24:List TPlace×List TTrans×Int×List Int×List Int→Option (List TLane):=fun (x:List TPlace×List TTrans×Int×List Int×List Int)=>(p36 (x.fst,x.snd.fst,x.snd.snd.fst,x.snd.snd.snd.fst,x.snd.snd.snd.snd)).bind fun (n1:Int)=>if (!decide (n1=0))=true then some [] else (aq (fun (x2:Int×Int×List Int×List Int×List TLane)=>if x2.fst < (↑x.snd.fst.length:Int) then (idx x.snd.fst x2.fst).bind fun (x3:TTrans)=>(aq (fun (x4:Int×Int×List Int×List Int×List TLane×List UInt8×Int×Int×List TArc×List TArc×List TArc)=>if x4.fst < (↑x3.Out.length:Int) then (idx x3.Out x4.fst).bind fun (x5:TArc)=>(idx x4.snd.snd.snd.fst x2.fst).bind fun (n6:Int)=>(idx x4.snd.snd.fst x5.Place).bind fun (n7:Int)=>if (!decide (n6=n7))=true then (app 24 x4.snd.snd.snd.snd.fst [{ From:=n6,To:=n7,Ahead:=x4.snd.snd.snd.snd.snd.snd.fst }]).bind fun (l8:List TLane)=>some (Sum.inl (IntKind.i64.wrap (x4.fst+1),x4.snd.fst,x4.snd.snd.fst,x4.snd.snd.snd.fst,l8,x4.snd.snd.snd.snd.snd.fst,x4.snd.snd.snd.snd.snd.snd.fst,x4.snd.snd.snd.snd.snd.snd.snd.fst,x4.snd.snd.snd.snd.snd.snd.snd.snd.fst,x4.snd.snd.snd.snd.snd.snd.snd.snd.snd.fst,x4.snd.snd.snd.snd.snd.snd.snd.snd.snd.snd)) else some (Sum.inl (IntKind.i64.wrap (x4.fst+1),x4.snd.fst,x4.snd.snd.fst,x4.snd.snd.snd.fst,x4.snd.snd.snd.snd.fst,x4.snd.snd.snd.snd.snd.fst,x4.snd.snd.snd.snd.snd.snd.fst,x4.snd.snd.snd.snd.snd.snd.snd.fst,x4.snd.snd.snd.snd.snd.snd.snd.snd.fst,x4.snd.snd.snd.snd.snd.snd.snd.snd.snd.fst,x4.snd.snd.snd.snd.snd.snd.snd.snd.snd.snd)) else some (Sum.inr (x4.snd.fst,x4.snd.snd.fst,x4.snd.snd.snd.fst,x4.snd.snd.snd.snd.fst))) (0,x2.snd.fst,x2.snd.snd.fst,x2.snd.snd.snd.fst,x2.snd.snd.snd.snd,x3.Name,x3.Delay,x3.Prio,x3.In,x3.Not,x3.Out)).bind fun (x4:Int×List Int×List Int×List TLane)=>some (Sum.inl (IntKind.i64.wrap (x2.fst+1),x4.fst,x4.snd.fst,x4.snd.snd.fst,x4.snd.snd.snd)) else some (Sum.inr x2.snd.snd.snd.snd)) (0,x.snd.snd.fst,x.snd.snd.snd.fst,x.snd.snd.snd.snd,[])).bind fun (l2:List TLane)=>(jo l2).bind fun (l3:List TLane)=>(mf l3).bind fun (l4:List TLane)=>some l4
theorem e24:vfn (T:=tE) lpK H24 (bn [pb,pK,n36]) q24 xS.res (vOf xS.code L24)=p24:=by kernel_rfl
abbrev n24:En tE:=⟨24,[],q24,p24⟩
theorem o24:aC F tE 24 q24 2 p24:=by
 rw [← e24]
 exact au (fn:=xS) (aa (en:=pb) (aa (en:=pK) (aa (en:=n36) ag o36 rfl) vx rfl) wv rfl) rfl (by kernel_rfl)
def q64:FSp:=⟨[(true,[.d false (.sl false (.st 2)),.d false (.sl false (.st 1))])],[],[],[.ld 0 false,.r 0,.slot 0 false,.sl (.int .i64)]⟩
def L64:List (Nat×Lb):=[(4,.l [.ld 11 false,.d false (.sl false (.st 2)),.slot 11 false,.ld 12 false,.d true (.int .i64),.slot 12 false] [.ld 3 false,.r 0,.slot 3 false,.ld 13 false,.d true (.int .i64),.slot 13 false,.sl (.int .i64)] [(some 0,[.ld 3 false,.r 0,.slot 3 false,.sl (.int .i64)])])]
def H64:List (Nat×VT):=[(9,(.int .i64))]
def p64:List TPlace×List TTrans→Option (List Int):=fun (x:List TPlace×List TTrans)=>(mkS 8 (↑x.fst.length:Int) (↑x.fst.length:Int) 0).bind fun (l1:List Int)=>(aq (fun (x2:Int×List Int)=>if x2.fst < (↑x.fst.length:Int) then (idx x.fst x2.fst).bind fun (x3:TPlace)=>(idx x2.snd x2.fst).bind fun (n4:Int)=>some (Sum.inl (IntKind.i64.wrap (x2.fst+1),x2.snd.set x2.fst.toNat x3.Tokens)) else some (Sum.inr x2.snd)) (0,l1)).bind fun (l2:List Int)=>some l2
theorem e64:vfn (T:=tE) lpK H64 (bn []) q64 yx.res (vOf yx.code L64)=p64:=by kernel_rfl
abbrev n64:En tE:=⟨64,[],q64,p64⟩
theorem o64:aC F tE 64 q64 1 p64:=by
 rw [← e64]
 exact au (fn:=yx) ag rfl (by kernel_rfl)
def q65:FSp:=⟨[(false,[.d false (.sl false .bool)]),(false,[.d true (.int .i64)])],[],[],[.ld 0 false,.d true .bool,.slot 0 false]⟩
def L65:List (Nat×Lb):=[]
def H65:List (Nat×VT):=[]
def p65:List Bool×Int→Option Bool:=fun (x:List Bool×Int)=>if x.snd < (↑x.fst.length:Int) then (idx x.fst x.snd).bind fun (b1:Bool)=>some b1 else some false
theorem e65:vfn (T:=tE) lpK H65 (bn []) q65 Al.res (vOf Al.code L65)=p65:=by kernel_rfl
abbrev n65:En tE:=⟨65,[],q65,p65⟩
theorem o65:aC F tE 65 q65 2 p65:=by
 rw [← e65]
 exact au (fn:=Al) ag rfl (by kernel_rfl)
def q66:FSp:=⟨[(true,[.d true .str,.d true (.int .i64),.d true (.int .i64),.d false (.sl false (.st 0)),.d false (.sl false (.st 0)),.d false (.sl false (.st 0))]),(false,[.d false (.sl false (.int .i64))])],[],[],[.ld 0 false,.d true .bool,.slot 0 false]⟩
def L66:List (Nat×Lb):=[(3,.l [.ld 1 false,.d false (.sl false (.int .i64)),.slot 1 false,.ld 10 false,.d false (.sl false (.st 0)),.slot 10 false,.ld 11 false,.d true (.int .i64),.slot 11 false] [.ld 2 false,.ptr 0 0,.slot 2 false,.ld 4 false,.c (.bool false),.slot 4 false,.ld 12 false,.d true (.int .i64),.slot 12 false,.ldr,.d true .str,.d true (.int .i64),.d true (.int .i64),.d false (.sl false (.st 0)),.d false (.sl false (.st 0)),.d false (.sl false (.st 0)),.row] [(some 0,[.ld 2 false,.ptr 0 0,.slot 2 false,.ld 4 false,.c (.bool false),.slot 4 false,.ldr,.d true .str,.d true (.int .i64),.d true (.int .i64),.d false (.sl false (.st 0)),.d false (.sl false (.st 0)),.d false (.sl false (.st 0)),.row]),(none,[.ld 4 false,.c (.bool false),.slot 4 false])]),(12,.l [.ld 1 false,.d false (.sl false (.int .i64)),.slot 1 false,.ld 26 false,.d false (.sl false (.st 0)),.slot 26 false,.ld 27 false,.d true (.int .i64),.slot 27 false] [.ld 4 false,.c (.bool false),.slot 4 false,.ld 28 false,.d true (.int .i64),.slot 28 false] [(some 2,[]),(none,[.ld 4 false,.c (.bool false),.slot 4 false])])]
def H66:List (Nat×VT):=[]
def p66:List UInt8×Int×Int×List TArc×List TArc×List TArc×List Int→Option Bool:=fun (x:List UInt8×Int×Int×List TArc×List TArc×List TArc×List Int)=>
  (aq (fun (x1:Int×List UInt8×Int×Int×List TArc×List TArc×List TArc)=>if x1.fst < (↑x.snd.snd.snd.fst.length:Int) then (idx x.snd.snd.snd.fst x1.fst).bind fun (x2:TArc)=>(idx x.snd.snd.snd.snd.snd.snd x2.Place).bind fun (n3:Int)=>if n3 < x2.N then some (Sum.inr (Sum.inr ())) else some (Sum.inl (IntKind.i64.wrap (x1.fst+1),x1.snd.fst,x1.snd.snd.fst,x1.snd.snd.snd.fst,x1.snd.snd.snd.snd.fst,x1.snd.snd.snd.snd.snd.fst,x1.snd.snd.snd.snd.snd.snd)) else some (Sum.inr (Sum.inl (x1.snd.fst,x1.snd.snd.fst,x1.snd.snd.snd.fst,x1.snd.snd.snd.snd.fst,x1.snd.snd.snd.snd.snd.fst,x1.snd.snd.snd.snd.snd.snd)))) (0,x.fst,x.snd.fst,x.snd.snd.fst,x.snd.snd.snd.fst,x.snd.snd.snd.snd.fst,x.snd.snd.snd.snd.snd.fst)).bind fun (x1:List UInt8×Int×Int×List TArc×List TArc×List TArc⊕Unit)=>
    match x1 with
    | Sum.inl x_1=>
      (aq (fun (n3:Int)=>if n3 < (↑x_1.snd.snd.snd.snd.fst.length:Int) then (idx x_1.snd.snd.snd.snd.fst n3).bind fun (x4:TArc)=>(idx x.snd.snd.snd.snd.snd.snd x4.Place).bind fun (n5:Int)=>if x4.N≤n5 then some (Sum.inr (Sum.inr ())) else some (Sum.inl (IntKind.i64.wrap (n3+1))) else some (Sum.inr (Sum.inl ()))) 0).bind fun (x3:Unit⊕Unit)=>
        match x3 with
        | Sum.inl x=>some true
        | Sum.inr y=>some false
    | Sum.inr y=>some false
theorem e66:vfn (T:=tE) lpK H66 (bn []) q66 xU.res (vOf xU.code L66)=p66:=by kernel_rfl
abbrev n66:En tE:=⟨66,[],q66,p66⟩
theorem o66:aC F tE 66 q66 2 p66:=by
 rw [← e66]
 exact au (fn:=xU) ag rfl (by kernel_rfl)
def q37:FSp:=⟨[(true,[.d true (.sl false (.st 2)),.d true (.sl false (.st 1))]),(false,[.d true (.sl false .bool)]),(false,[.d true (.sl false .bool)])],[],[],[.ld 0 false,.ptr 0 0,.slot 0 false,.pr (.st 10)]⟩
def L37:List (Nat×Lb):=[(4,.l [.ld 1 false,.d true (.sl false .bool),.slot 1 false,.ld 34 false,.d true (.sl false (.st 1)),.slot 34 false,.ld 35 false,.d true (.int .i64),.slot 35 false] [.ld 7 false,.ptr 0 0,.slot 7 false,.ld 36 false,.d true (.int .i64),.slot 36 false,.ldr,.d true (.sl false (.st 2)),.d true (.sl false (.st 1)),.d true (.sl false .bool),.r 1,.r 2,.r 3,.c .nilSlice,.c .nilMap,.c .nilSlice,.r 4,.d true (.int .i64),.c .nilSlice,.d true (.sl false .bool),.d true (.int .i64),.row,.sl (.sl true (.int .i64)),.sl .bool,.sl (.int .i64),.sl (.int .i64)] [(some 0,[.ld 7 false,.ptr 0 0,.slot 7 false,.ldr,.d true (.sl false (.st 2)),.d true (.sl false (.st 1)),.d true (.sl false .bool),.r 1,.r 2,.r 3,.c .nilSlice,.c .nilMap,.c .nilSlice,.r 4,.d true (.int .i64),.c .nilSlice,.d true (.sl false .bool),.d true (.int .i64),.row,.sl (.sl true (.int .i64)),.sl .bool,.sl (.int .i64),.sl (.int .i64)])]),(13,.l [.ld 8 false,.d true (.int .i64),.slot 8 false,.ld 36 false,.d true (.int .i64),.slot 36 false,.ld 50 false,.d true (.int .i64),.slot 50 false] [.ld 7 false,.ptr 0 0,.slot 7 false,.ld 9 false,.ptr 1 0,.slot 9 false,.ld 49 false,.r 2,.slot 49 false,.ld 51 false,.d true (.int .i64),.slot 51 false,.ldr,.d true (.sl false (.st 2)),.d true (.sl false (.st 1)),.d true (.sl false .bool),.r 3,.r 4,.r 5,.c .nilSlice,.c .nilMap,.c .nilSlice,.r 6,.d true (.int .i64),.c .nilSlice,.d true (.sl false .bool),.d true (.int .i64),.row,.pr (.st 1),.sl (.sl false (.st 0)),.sl (.sl true (.int .i64)),.sl .bool,.sl (.int .i64),.sl (.int .i64)] [(some 2,[.ld 7 false,.ptr 0 0,.slot 7 false,.ld 9 false,.ptr 1 0,.slot 9 false,.ldr,.d true (.sl false (.st 2)),.d true (.sl false (.st 1)),.d true (.sl false .bool),.r 2,.r 3,.r 4,.c .nilSlice,.c .nilMap,.c .nilSlice,.r 5,.d true (.int .i64),.c .nilSlice,.d true (.sl false .bool),.d true (.int .i64),.row,.pr (.st 1),.sl (.sl true (.int .i64)),.sl .bool,.sl (.int .i64),.sl (.int .i64)])]),(19,.l [.ld 51 false,.d true (.int .i64),.slot 51 false,.ld 55 false,.d true (.sl false (.st 0)),.slot 55 false,.ld 56 false,.d true (.int .i64),.slot 56 false] [.ld 7 false,.ptr 0 0,.slot 7 false,.ld 9 false,.ptr 1 0,.slot 9 false,.ld 49 false,.r 2,.slot 49 false,.ld 57 false,.d true (.int .i64),.slot 57 false,.ldr,.d true (.sl false (.st 2)),.d true (.sl false (.st 1)),.d true (.sl false .bool),.r 3,.r 4,.r 5,.c .nilSlice,.c .nilMap,.c .nilSlice,.r 6,.d true (.int .i64),.c .nilSlice,.d true (.sl false .bool),.d true (.int .i64),.row,.pr (.st 1),.sl (.sl false (.st 0)),.sl (.sl true (.int .i64)),.sl .bool,.sl (.int .i64),.sl (.int .i64)] [(some 4,[.ld 7 false,.ptr 0 0,.slot 7 false,.ld 9 false,.ptr 1 0,.slot 9 false,.ld 49 false,.r 2,.slot 49 false,.ldr,.d true (.sl false (.st 2)),.d true (.sl false (.st 1)),.d true (.sl false .bool),.r 3,.r 4,.r 5,.c .nilSlice,.c .nilMap,.c .nilSlice,.r 6,.d true (.int .i64),.c .nilSlice,.d true (.sl false .bool),.d true (.int .i64),.row,.pr (.st 1),.sl (.sl false (.st 0)),.sl (.sl true (.int .i64)),.sl .bool,.sl (.int .i64),.sl (.int .i64)])])]
def H37:List (Nat×VT):=[(20,(.sl true (.int .i64))),(24,.bool),(30,(.int .i64)),(49,(.sl false (.st 0))),(76,(.int .i64))]
def p37:List TPlace×List TTrans×List Bool×List Bool→Option TEngine:=fun (x:List TPlace×List TTrans×List Bool×List Bool)=>(mkS 24 (↑x.fst.length:Int) (↑x.fst.length:Int) []).bind fun (l1:List (List Int))=>(mkS 1 (↑x.snd.fst.length:Int) (↑x.snd.fst.length:Int) false).bind fun (l2:List Bool)=>(mkS 8 (↑x.fst.length:Int) (↑x.fst.length:Int) 0).bind fun (l3:List Int)=>(p64 (x.fst,x.snd.fst)).bind fun (l4:List Int)=>(aq (fun (x5:Int×List TPlace×List TTrans×List Bool×Int×List Bool×Int×List (List Int)×List Bool×List Int×List Int)=>if x5.fst < (↑x.snd.fst.length:Int) then (idx x.snd.fst x5.fst).bind fun (x6:TTrans)=>(p65 (x.snd.snd.fst,x5.fst)).bind fun (b7:Bool)=>if (!b7)=true then some (Sum.inl (IntKind.i64.wrap (x5.fst+1),x5.snd.fst,x5.snd.snd.fst,x5.snd.snd.snd.fst,x5.snd.snd.snd.snd.fst,x5.snd.snd.snd.snd.snd.fst,x5.snd.snd.snd.snd.snd.snd.fst,x5.snd.snd.snd.snd.snd.snd.snd.fst,x5.snd.snd.snd.snd.snd.snd.snd.snd.fst,x5.snd.snd.snd.snd.snd.snd.snd.snd.snd.fst,x5.snd.snd.snd.snd.snd.snd.snd.snd.snd.snd)) else (aq (fun (x8:Int×List TPlace×List TTrans×List Bool×Int×List Bool×Int×TTrans×List (List TArc)×List (List Int)×List Bool×List Int×List Int)=>if x8.fst < (↑[x6.In,x6.Not].length:Int) then (idx x8.snd.snd.snd.snd.snd.snd.snd.snd.fst x8.fst).bind fun (l9:List TArc)=>(aq (fun (x10:Int×List TPlace×List TTrans×List Bool×Int×List Bool×Int×TTrans×List (List TArc)×List (List Int)×List Bool×List Int×List Int)=>if x10.fst < (↑l9.length:Int) then (idx l9 x10.fst).bind fun (x11:TArc)=>(idx x10.snd.snd.snd.snd.snd.snd.snd.snd.snd.fst x11.Place).bind fun (l12:List Int)=>(app 8 l12 [x5.fst]).bind fun (l13:List Int)=>(idx x10.snd.snd.snd.snd.snd.snd.snd.snd.snd.fst x11.Place).bind fun (l14:List Int)=>if x11.Place.toNat=x11.Place.toNat then some (Sum.inl (IntKind.i64.wrap (x10.fst+1),x10.snd.fst,x10.snd.snd.fst,x10.snd.snd.snd.fst,x10.snd.snd.snd.snd.fst,x10.snd.snd.snd.snd.snd.fst,x10.snd.snd.snd.snd.snd.snd.fst,x10.snd.snd.snd.snd.snd.snd.snd.fst,x10.snd.snd.snd.snd.snd.snd.snd.snd.fst,x10.snd.snd.snd.snd.snd.snd.snd.snd.snd.fst.set x11.Place.toNat l13,x10.snd.snd.snd.snd.snd.snd.snd.snd.snd.snd.fst,x10.snd.snd.snd.snd.snd.snd.snd.snd.snd.snd.snd.fst,x10.snd.snd.snd.snd.snd.snd.snd.snd.snd.snd.snd.snd)) else none else some (Sum.inr (x10.snd.fst,x10.snd.snd.fst,x10.snd.snd.snd.fst,x10.snd.snd.snd.snd.fst,x10.snd.snd.snd.snd.snd.fst,x10.snd.snd.snd.snd.snd.snd.fst,x10.snd.snd.snd.snd.snd.snd.snd.fst,x10.snd.snd.snd.snd.snd.snd.snd.snd.fst,x10.snd.snd.snd.snd.snd.snd.snd.snd.snd.fst,x10.snd.snd.snd.snd.snd.snd.snd.snd.snd.snd.fst,x10.snd.snd.snd.snd.snd.snd.snd.snd.snd.snd.snd.fst,x10.snd.snd.snd.snd.snd.snd.snd.snd.snd.snd.snd.snd))) (0,x8.snd.fst,x8.snd.snd.fst,x8.snd.snd.snd.fst,x8.snd.snd.snd.snd.fst,x8.snd.snd.snd.snd.snd.fst,x8.snd.snd.snd.snd.snd.snd.fst,x8.snd.snd.snd.snd.snd.snd.snd.fst,x8.snd.snd.snd.snd.snd.snd.snd.snd.fst,x8.snd.snd.snd.snd.snd.snd.snd.snd.snd.fst,x8.snd.snd.snd.snd.snd.snd.snd.snd.snd.snd.fst,x8.snd.snd.snd.snd.snd.snd.snd.snd.snd.snd.snd.fst,x8.snd.snd.snd.snd.snd.snd.snd.snd.snd.snd.snd.snd)).bind fun (x10:List TPlace×List TTrans×List Bool×Int×List Bool×Int×TTrans×List (List TArc)×List (List Int)×List Bool×List Int×List Int)=>some (Sum.inl (IntKind.i64.wrap (x8.fst+1),x10.fst,x10.snd.fst,x10.snd.snd.fst,x10.snd.snd.snd.fst,x10.snd.snd.snd.snd.fst,x10.snd.snd.snd.snd.snd.fst,x10.snd.snd.snd.snd.snd.snd.fst,x10.snd.snd.snd.snd.snd.snd.snd.fst,x10.snd.snd.snd.snd.snd.snd.snd.snd.fst,x10.snd.snd.snd.snd.snd.snd.snd.snd.snd.fst,x10.snd.snd.snd.snd.snd.snd.snd.snd.snd.snd.fst,x10.snd.snd.snd.snd.snd.snd.snd.snd.snd.snd.snd)) else some (Sum.inr (x8.snd.fst,x8.snd.snd.fst,x8.snd.snd.snd.fst,x8.snd.snd.snd.snd.fst,x8.snd.snd.snd.snd.snd.fst,x8.snd.snd.snd.snd.snd.snd.fst,x8.snd.snd.snd.snd.snd.snd.snd.fst,x8.snd.snd.snd.snd.snd.snd.snd.snd.snd.fst,x8.snd.snd.snd.snd.snd.snd.snd.snd.snd.snd.fst,x8.snd.snd.snd.snd.snd.snd.snd.snd.snd.snd.snd.fst,x8.snd.snd.snd.snd.snd.snd.snd.snd.snd.snd.snd.snd))) (0,x5.snd.fst,x5.snd.snd.fst,x5.snd.snd.snd.fst,x5.snd.snd.snd.snd.fst,x5.snd.snd.snd.snd.snd.fst,x5.snd.snd.snd.snd.snd.snd.fst,x6,[x6.In,x6.Not],x5.snd.snd.snd.snd.snd.snd.snd.fst,x5.snd.snd.snd.snd.snd.snd.snd.snd.fst,x5.snd.snd.snd.snd.snd.snd.snd.snd.snd.fst,x5.snd.snd.snd.snd.snd.snd.snd.snd.snd.snd)).bind fun (x8:List TPlace×List TTrans×List Bool×Int×List Bool×Int×TTrans×List (List Int)×List Bool×List Int×List Int)=>(p66 (x8.snd.snd.snd.snd.snd.snd.fst.Name,x8.snd.snd.snd.snd.snd.snd.fst.Delay,x8.snd.snd.snd.snd.snd.snd.fst.Prio,x8.snd.snd.snd.snd.snd.snd.fst.In,x8.snd.snd.snd.snd.snd.snd.fst.Not,x8.snd.snd.snd.snd.snd.snd.fst.Out,x8.snd.snd.snd.snd.snd.snd.snd.snd.snd.fst)).bind fun (b9:Bool)=>(idx x8.snd.snd.snd.snd.snd.snd.snd.snd.fst x5.fst).bind fun (b10:Bool)=>some (Sum.inl (IntKind.i64.wrap (x5.fst+1),x8.fst,x8.snd.fst,x8.snd.snd.fst,x8.snd.snd.snd.fst,x8.snd.snd.snd.snd.fst,x8.snd.snd.snd.snd.snd.fst,x8.snd.snd.snd.snd.snd.snd.snd.fst,x8.snd.snd.snd.snd.snd.snd.snd.snd.fst.set x5.fst.toNat b9,x8.snd.snd.snd.snd.snd.snd.snd.snd.snd.fst,x8.snd.snd.snd.snd.snd.snd.snd.snd.snd.snd)) else some (Sum.inr (x5.snd.fst,x5.snd.snd.fst,x5.snd.snd.snd.fst,x5.snd.snd.snd.snd.fst,x5.snd.snd.snd.snd.snd.fst,x5.snd.snd.snd.snd.snd.snd.fst,x5.snd.snd.snd.snd.snd.snd.snd.fst,x5.snd.snd.snd.snd.snd.snd.snd.snd.fst,x5.snd.snd.snd.snd.snd.snd.snd.snd.snd.fst,x5.snd.snd.snd.snd.snd.snd.snd.snd.snd.snd))) (0,x.fst,x.snd.fst,x.snd.snd.fst,0,x.snd.snd.snd,0,l1,l2,l4,l3)).bind fun (x5:List TPlace×List TTrans×List Bool×Int×List Bool×Int×List (List Int)×List Bool×List Int×List Int)=>some { n:={ Places:=x5.fst,Trans:=x5.snd.fst },mine:=x5.snd.snd.fst,near:=x5.snd.snd.snd.snd.snd.snd.fst,ready:=x5.snd.snd.snd.snd.snd.snd.snd.fst,marks:=x5.snd.snd.snd.snd.snd.snd.snd.snd.fst,wait:={ l:=[] },in_:=none,log:=[],way:=x5.snd.snd.snd.snd.snd.snd.snd.snd.snd,time:=x5.snd.snd.snd.fst,out:=[],away:=x5.snd.snd.snd.snd.fst,count:=x5.snd.snd.snd.snd.snd.fst }
theorem e37:vfn (T:=tE) lpK H37 (bn [n64,n65,n66]) q37 yE.res (vOf yE.code L37)=p37:=by kernel_rfl
abbrev n37:En tE:=⟨37,[],q37,p37⟩
theorem o37:aC F tE 37 q37 3 p37:=by
 rw [← e37]
 exact au (fn:=yE) (aa (en:=n64) (aa (en:=n65) (aa (en:=n66) ag o66 rfl) o65 rfl) o64 rfl) rfl (by kernel_rfl)
def q14:FSp:=⟨[(true,[.d true (.sl false (.st 2)),.d true (.sl false (.st 1))]),(true,[.d true (.int .i64),.d true (.sl false (.int .i64)),.d true (.sl false (.int .i64))]),(false,[.d true (.int .i64)]),(false,[.d true (.int .i64)])],[],[],[.ld 0 false,.r 0,.slot 0 false,.ld 1 false,.d true (.int .i64),.slot 1 false,.po (.st 11)]⟩
def L14:List (Nat×Lb):=[(6,.j [.ld 2 false,.d true (.int .i64),.slot 2 false,.ld 3 false,.d true (.int .i64),.slot 3 false,.ld 4 false,.ptr 0 0,.slot 4 false,.ld 5 false,.ptr 1 0,.slot 5 false,.ld 33 false,.d true .bool,.slot 33 false,.ldr,.d true (.sl false (.st 2)),.d true (.sl false (.st 1)),.row,.ldr,.d true (.int .i64),.d true (.sl false (.int .i64)),.d true (.sl false (.int .i64)),.row]),(12,.l [.ld 2 false,.d true (.int .i64),.slot 2 false,.ld 49 false,.d true (.sl false (.int .i64)),.slot 49 false,.ld 50 false,.d true (.int .i64),.slot 50 false] [.ld 4 false,.ptr 0 0,.slot 4 false,.ld 5 false,.ptr 1 0,.slot 5 false,.ld 11 false,.ptr 2 0,.slot 11 false,.ld 12 false,.r 3,.slot 12 false,.ld 13 false,.r 4,.slot 13 false,.ld 51 false,.d true (.int .i64),.slot 51 false,.ldr,.d true (.sl false (.st 2)),.d true (.sl false (.st 1)),.row,.ldr,.d true (.int .i64),.d true (.sl false (.int .i64)),.d true (.sl false (.int .i64)),.row,.pr (.st 11),.sl .bool,.sl .bool] [(some 0,[.ld 4 false,.ptr 0 0,.slot 4 false,.ld 5 false,.ptr 1 0,.slot 5 false,.ld 11 false,.ptr 2 0,.slot 11 false,.ld 12 false,.r 3,.slot 12 false,.ld 13 false,.r 4,.slot 13 false,.ldr,.d true (.sl false (.st 2)),.d true (.sl false (.st 1)),.row,.ldr,.d true (.int .i64),.d true (.sl false (.int .i64)),.d true (.sl false (.int .i64)),.row,.pr (.st 11),.sl .bool,.sl .bool])]),(19,.l [.ld 2 false,.d true (.int .i64),.slot 2 false,.ld 64 false,.d true (.sl false (.int .i64)),.slot 64 false,.ld 65 false,.d true (.int .i64),.slot 65 false] [.ld 4 false,.ptr 0 0,.slot 4 false,.ld 5 false,.ptr 1 0,.slot 5 false,.ld 11 false,.ptr 2 0,.slot 11 false,.ld 12 false,.r 3,.slot 12 false,.ld 13 false,.r 4,.slot 13 false,.ld 66 false,.d true (.int .i64),.slot 66 false,.ldr,.d true (.sl false (.st 2)),.d true (.sl false (.st 1)),.row,.ldr,.d true (.int .i64),.d true (.sl false (.int .i64)),.d true (.sl false (.int .i64)),.row,.pr (.st 11),.sl .bool,.sl .bool] [(some 2,[.ld 4 false,.ptr 0 0,.slot 4 false,.ld 5 false,.ptr 1 0,.slot 5 false,.ld 11 false,.ptr 2 0,.slot 11 false,.ld 12 false,.r 3,.slot 12 false,.ld 13 false,.r 4,.slot 13 false,.ldr,.d true (.sl false (.st 2)),.d true (.sl false (.st 1)),.row,.ldr,.d true (.int .i64),.d true (.sl false (.int .i64)),.d true (.sl false (.int .i64)),.row,.pr (.st 11),.sl .bool,.sl .bool])]),(27,.l [.ld 2 false,.d true (.int .i64),.slot 2 false,.ld 89 false,.d true (.int .i64),.slot 89 false] [.ld 11 false,.ptr 0 0,.slot 11 false,.ld 88 false,.r 1,.slot 88 false,.ld 90 false,.d true (.int .i64),.slot 90 false,.pr (.st 11),.sl (.st 5)] [(some 4,[.ld 11 false,.ptr 0 0,.slot 11 false,.pr (.st 11)])]),(32,.j [.ld 11 false,.ptr 0 0,.slot 11 false,.ld 19 false,.ptr 1 0,.slot 19 false,.ld 88 false,.r 2,.slot 88 false,.ld 90 false,.d true (.int .i64),.slot 90 false,.pr (.st 11),.pr (.st 5),.sl (.st 5)])]
def H14:List (Nat×VT):=[(43,.bool),(47,.bool),(105,(.st 5)),(111,(.int .i64)),(128,(.st 5)),(134,(.int .i64))]
def p14:List TPlace×List TTrans×Int×List Int×List Int×Int×Int→Option (Int×Option TProcess):=fun (x:List TPlace×List TTrans×Int×List Int×List Int×Int×Int)=>
  (p36 (x.fst,x.snd.fst,x.snd.snd.fst,x.snd.snd.snd.fst,x.snd.snd.snd.snd.fst)).bind fun (n1:Int)=>
    if (!decide (n1=0))=true then some (n1,none)
    else
      (if x.snd.snd.snd.snd.snd.fst < 0 then some (Sum.inl (x.snd.snd.snd.snd.snd.fst,x.snd.snd.snd.snd.snd.snd,true,x.fst,x.snd.fst,x.snd.snd.fst,x.snd.snd.snd.fst,x.snd.snd.snd.snd.fst)) else some (Sum.inl (x.snd.snd.snd.snd.snd.fst,x.snd.snd.snd.snd.snd.snd,decide (x.snd.snd.fst≤x.snd.snd.snd.snd.snd.fst),x.fst,x.snd.fst,x.snd.snd.fst,x.snd.snd.snd.fst,x.snd.snd.snd.snd.fst))).bind fun (x2:Int×Int×Bool×List TPlace×List TTrans×Int×List Int×List Int⊕Int×Option TProcess)=>
        match x2 with
        | Sum.inl x=>
          if x.snd.snd.fst=true then some (1,none)
          else
            (mkS 1 (↑x.snd.snd.snd.snd.fst.length:Int) (↑x.snd.snd.snd.snd.fst.length:Int) false).bind fun (l4:List Bool)=>
              (mkS 1 (↑x.snd.snd.snd.fst.length:Int) (↑x.snd.snd.snd.fst.length:Int) false).bind fun (l5:List Bool)=>
                (aq (fun (x6:Int×List TPlace×List TTrans×Int×List Int×List Int×TProcess×List Bool×List Bool)=>if x6.fst < (↑x.snd.snd.snd.snd.snd.snd.snd.length:Int) then (idx x.snd.snd.snd.snd.snd.snd.snd x6.fst).bind fun (n7:Int)=>(idx x6.snd.snd.snd.snd.snd.snd.snd.fst x6.fst).bind fun (b8:Bool)=>some (Sum.inl (IntKind.i64.wrap (x6.fst+1),x6.snd.fst,x6.snd.snd.fst,x6.snd.snd.snd.fst,x6.snd.snd.snd.snd.fst,x6.snd.snd.snd.snd.snd.fst,x6.snd.snd.snd.snd.snd.snd.fst,x6.snd.snd.snd.snd.snd.snd.snd.fst.set x6.fst.toNat (decide (n7=x.fst)),x6.snd.snd.snd.snd.snd.snd.snd.snd)) else some (Sum.inr (x6.snd.fst,x6.snd.snd.fst,x6.snd.snd.snd.fst,x6.snd.snd.snd.snd.fst,x6.snd.snd.snd.snd.snd.fst,x6.snd.snd.snd.snd.snd.snd.fst,x6.snd.snd.snd.snd.snd.snd.snd.fst,x6.snd.snd.snd.snd.snd.snd.snd.snd))) (0,x.snd.snd.snd.fst,x.snd.snd.snd.snd.fst,x.snd.snd.snd.snd.snd.fst,x.snd.snd.snd.snd.snd.snd.fst,x.snd.snd.snd.snd.snd.snd.snd,{ id:=x.fst,x:=none,p:={ N:=x.snd.snd.snd.snd.snd.fst,Places:=x.snd.snd.snd.snd.snd.snd.fst,Trans:=x.snd.snd.snd.snd.snd.snd.snd },in_:=[],out:=[],clocks:=[],sent:=[],horizon:=if 1099511627777 < x.snd.fst then 1099511627777 else x.snd.fst,began:=false,done:=false },l4,l5)).bind fun (x6:List TPlace×List TTrans×Int×List Int×List Int×TProcess×List Bool×List Bool)=>
                  (aq (fun (x7:Int×List TPlace×List TTrans×Int×List Int×List Int×TProcess×List Bool×List Bool)=>if x7.fst < (↑x6.snd.snd.snd.fst.length:Int) then (idx x6.snd.snd.snd.fst x7.fst).bind fun (n8:Int)=>(idx x7.snd.snd.snd.snd.snd.snd.snd.snd x7.fst).bind fun (b9:Bool)=>some (Sum.inl (IntKind.i64.wrap (x7.fst+1),x7.snd.fst,x7.snd.snd.fst,x7.snd.snd.snd.fst,x7.snd.snd.snd.snd.fst,x7.snd.snd.snd.snd.snd.fst,x7.snd.snd.snd.snd.snd.snd.fst,x7.snd.snd.snd.snd.snd.snd.snd.fst,x7.snd.snd.snd.snd.snd.snd.snd.snd.set x7.fst.toNat !decide (n8=x.fst))) else some (Sum.inr (x7.snd.fst,x7.snd.snd.fst,x7.snd.snd.snd.fst,x7.snd.snd.snd.snd.fst,x7.snd.snd.snd.snd.snd.fst,x7.snd.snd.snd.snd.snd.snd.fst,x7.snd.snd.snd.snd.snd.snd.snd.fst,x7.snd.snd.snd.snd.snd.snd.snd.snd))) (0,x6.fst,x6.snd.fst,x6.snd.snd.fst,x6.snd.snd.snd.fst,x6.snd.snd.snd.snd.fst,x6.snd.snd.snd.snd.snd.fst,x6.snd.snd.snd.snd.snd.snd.fst,x6.snd.snd.snd.snd.snd.snd.snd)).bind fun (x7:List TPlace×List TTrans×Int×List Int×List Int×TProcess×List Bool×List Bool)=>
                    (p37 (x7.fst,x7.snd.fst,x7.snd.snd.snd.snd.snd.snd.fst,x7.snd.snd.snd.snd.snd.snd.snd)).bind fun (x8:TEngine)=>
                      (p24 (x7.fst,x7.snd.fst,x7.snd.snd.fst,x7.snd.snd.snd.fst,x7.snd.snd.snd.snd.fst)).bind fun (l9:List TLane)=>
                        (aq
                              (fun (x10:Int×TProcess×List TLane)=>
                                if x10.fst < (↑l9.length:Int) then
                                  (idx x10.snd.snd x10.fst).bind fun (x11:TLane)=>
                                    (if x11.To=x.fst then (app 24 x10.snd.fst.in_ [x11]).bind fun (l12:List TLane)=>(app 8 x10.snd.fst.clocks [0]).bind fun (l13:List Int)=>some (Sum.inl (x10.fst,{ id:=x10.snd.fst.id,x:=x10.snd.fst.x,p:=x10.snd.fst.p,in_:=l12,out:=x10.snd.fst.out,clocks:=l13,sent:=x10.snd.fst.sent,horizon:=x10.snd.fst.horizon,began:=x10.snd.fst.began,done:=x10.snd.fst.done },x11,x10.snd.snd)) else some (Sum.inl (x10.fst,x10.snd.fst,x11,x10.snd.snd))).bind fun (x12:Int×TProcess×TLane×List TLane⊕Int×TProcess×List TLane⊕TProcess)=>
                                      match x12 with
                                      | Sum.inl x_1=>if x_1.snd.snd.fst.From=x.fst then (app 24 x_1.snd.fst.out [x_1.snd.snd.fst]).bind fun (l14:List TLane)=>(app 8 x_1.snd.fst.sent [0]).bind fun (l15:List Int)=>some (Sum.inl (IntKind.i64.wrap (x_1.fst+1),{ id:=x_1.snd.fst.id,x:=x_1.snd.fst.x,p:=x_1.snd.fst.p,in_:=x_1.snd.fst.in_,out:=l14,clocks:=x_1.snd.fst.clocks,sent:=l15,horizon:=x_1.snd.fst.horizon,began:=x_1.snd.fst.began,done:=x_1.snd.fst.done },x_1.snd.snd.snd)) else some (Sum.inl (IntKind.i64.wrap (x_1.fst+1),x_1.snd.fst,x_1.snd.snd.snd))
                                      | Sum.inr r=>some r
                                else some (Sum.inr x10.snd.fst))
                              (0,{ id:=x7.snd.snd.snd.snd.snd.fst.id,x:=some x8,p:=x7.snd.snd.snd.snd.snd.fst.p,in_:=x7.snd.snd.snd.snd.snd.fst.in_,out:=x7.snd.snd.snd.snd.snd.fst.out,clocks:=x7.snd.snd.snd.snd.snd.fst.clocks,sent:=x7.snd.snd.snd.snd.snd.fst.sent,horizon:=x7.snd.snd.snd.snd.snd.fst.horizon,began:=x7.snd.snd.snd.snd.snd.fst.began,done:=x7.snd.snd.snd.snd.snd.fst.done },l9)).bind
                          fun (x10:TProcess)=>some (0,some x10)
        | Sum.inr r=>some r
theorem e14:vfn (T:=tE) lpK H14 (bn [n36,n37,n24]) q14 zh.res (vOf zh.code L14)=p14:=by kernel_rfl
abbrev n14:En tE:=⟨14,[],q14,p14⟩
theorem o14:aC F tE 14 q14 4 p14:=by
 rw [← e14]
 exact au (fn:=zh) (aa (en:=n36) (aa (en:=n37) (aa (en:=n24) ag o24 rfl) o37 rfl) o36 rfl) rfl (by kernel_rfl)
def my:FSp:=⟨[(false,[.e false (.st 10) 6])],[],[],[.ld 0 true,.d true (.int .i64),.d true (.int .i64),.d true (.int .i64),.d true (.int .i64),.slot 0 true,.ld 1 false,.d true .bool,.slot 1 false]⟩
def vw:List (Nat×Lb):=[]
def vD:List (Nat×VT):=[]
def jA:TEngine→Option (Int×Int×Int×Int×Bool):=fun (x:TEngine)=>if (↑x.wait.l.length:Int)=0 then some (0,0,0,0,false) else (idx x.wait.l 0).bind fun (x1:TKey)=>some (x1.Time,x1.Prio,x1.ID,x1.N,true)
theorem uK:vfn (T:=tE) lpK vD (bn []) my kV.res (vOf kV.code vw)=jA:=by kernel_rfl
abbrev rC:En tE:=⟨132,[(0,6)],my,jA⟩
theorem vY:aC F tE 132 my 1 jA:=by
 rw [← uK]
 exact au (fn:=kV) ag rfl (by kernel_rfl)
def Bq:FSp:=⟨[(false,[.e false (.st 10) 0])],[],[],[.ld 0 false,.d true (.int .i64),.slot 0 false]⟩
def Dq:List (Nat×Lb):=[]
def Db:List (Nat×VT):=[]
def AL:TEngine→Option Int:=fun (x:TEngine)=>(jA x).bind fun (x1:Int×Int×Int×Int×Bool)=>if (!x1.snd.snd.snd.snd)=true then some (-1) else some x1.fst
theorem Dv:vfn (T:=tE) lpK Db (bn [rC]) Bq oW.res (vOf oW.code Dq)=AL:=by kernel_rfl
abbrev Cf:En tE:=⟨128,[],Bq,AL⟩
theorem CH:aC F tE 128 Bq 1 AL:=by
 rw [← Dv]
 exact au (fn:=oW) (aa (en:=rC) ag vY rfl) rfl (by kernel_rfl)
def q23:FSp:=⟨[(false,[.e false (.st 11) 0])],[],[],[.ld 0 false,.d true (.int .i64),.slot 0 false]⟩
def L23:List (Nat×Lb):=[(7,.l [.ld 11 false,.d false (.sl true (.int .i64)),.slot 11 false,.ld 12 false,.d true (.int .i64),.slot 12 false] [.ld 3 false,.d true (.int .i64),.slot 3 false,.ld 13 false,.d true (.int .i64),.slot 13 false] [(some 0,[.ld 3 false,.d true (.int .i64),.slot 3 false])])]
def H23:List (Nat×VT):=[]
def p23:TProcess→Option Int:=fun (x:TProcess)=>(aq (fun (x1:Int×Int)=>if x1.snd < (↑x.clocks.length:Int) then (idx x.clocks x1.snd).bind fun (n2:Int)=>some (Sum.inl (if n2 < x1.fst then n2 else x1.fst,IntKind.i64.wrap (x1.snd+1))) else some (Sum.inr x1.fst)) (2305843009213693952,0)).bind fun (n1:Int)=>some n1
theorem e23:vfn (T:=tE) lpK H23 (bn []) q23 zA.res (vOf zA.code L23)=p23:=by kernel_rfl
abbrev n23:En tE:=⟨23,[],q23,p23⟩
theorem o23:aC F tE 23 q23 1 p23:=by
 rw [← e23]
 exact au (fn:=zA) ag rfl (by kernel_rfl)
def q42:FSp:=⟨[(false,[.e false (.st 11) 0])],[],[],[.ld 0 false,.d true (.int .i64),.slot 0 false]⟩
def L42:List (Nat×Lb):=[]
def H42:List (Nat×VT):=[]
def p42:TProcess→Option Int:=fun (x:TProcess)=>x.x.bind fun (x1:TEngine)=>(AL x1).bind fun (n2:Int)=>if (!x.began)=true then some 0 else if 0≤n2 then some n2 else some 2305843009213693952
theorem e42:vfn (T:=tE) lpK H42 (bn [Cf]) q42 xV.res (vOf xV.code L42)=p42:=by kernel_rfl
abbrev n42:En tE:=⟨42,[],q42,p42⟩
theorem o42:aC F tE 42 q42 1 p42:=by
 rw [← e42]
 exact au (fn:=xV) (aa (en:=Cf) ag CH rfl) rfl (by kernel_rfl)
def q39:FSp:=⟨[(false,[.e false (.st 11) 0])],[],[],[.ld 0 false,.d true .bool,.slot 0 false]⟩
def L39:List (Nat×Lb):=[]
def H39:List (Nat×VT):=[]
def p39:TProcess→Option Bool:=fun (x:TProcess)=>(p42 x).bind fun (n1:Int)=>if n1≤x.horizon then (p42 x).bind fun (n2:Int)=>(p23 x).bind fun (n3:Int)=>some (decide (n2 < n3)) else some false
theorem e39:vfn (T:=tE) lpK H39 (bn [n42,n23]) q39 zi.res (vOf zi.code L39)=p39:=by kernel_rfl
abbrev n39:En tE:=⟨39,[],q39,p39⟩
theorem o39:aC F tE 39 q39 1 p39:=by
 rw [← e39]
 exact au (fn:=zi) (aa (en:=n42) (aa (en:=n23) ag o23 rfl) o42 rfl) rfl (by kernel_rfl)
def q40:FSp:=⟨[(false,[.e false (.st 11) 0])],[],[],[.ld 0 false,.d true .bool,.slot 0 false]⟩
def L40:List (Nat×Lb):=[]
def H40:List (Nat×VT):=[]
def p40:TProcess→Option Bool:=fun (x:TProcess)=>(p42 x).bind fun (n1:Int)=>if x.horizon < n1 then (p23 x).bind fun (n2:Int)=>some (decide (x.horizon < n2)) else some false
theorem e40:vfn (T:=tE) lpK H40 (bn [n42,n23]) q40 zj.res (vOf zj.code L40)=p40:=by kernel_rfl
abbrev n40:En tE:=⟨40,[],q40,p40⟩
theorem o40:aC F tE 40 q40 1 p40:=by
 rw [← e40]
 exact au (fn:=zj) (aa (en:=n42) (aa (en:=n23) ag o23 rfl) o42 rfl) rfl (by kernel_rfl)
def q41:FSp:=⟨[(false,[.e false (.st 11) 0]),(true,[.d true (.int .i64),.d true (.int .i64),.d true (.int .i64)])],[],[],[.ld 0 false,.d true (.int .i64),.slot 0 false]⟩
def L41:List (Nat×Lb):=[]
def H41:List (Nat×VT):=[]
def p41:TProcess×Int×Int×Int→Option Int:=fun (x:TProcess×Int×Int×Int)=>(p42 x.fst).bind fun (n1:Int)=>(p23 x.fst).bind fun (n2:Int)=>some (if IntKind.i64.wrap ((if x.fst.horizon < -1 then -1 else x.fst.horizon)+1) < IntKind.i64.wrap ((if n2 < n1 then n2 else n1)+x.snd.snd.snd) then IntKind.i64.wrap ((if x.fst.horizon < -1 then -1 else x.fst.horizon)+1) else IntKind.i64.wrap ((if n2 < n1 then n2 else n1)+x.snd.snd.snd))
theorem e41:vfn (T:=tE) lpK H41 (bn [n42,n23]) q41 zD.res (vOf zD.code L41)=p41:=by kernel_rfl
abbrev n41:En tE:=⟨41,[],q41,p41⟩
theorem o41:aC F tE 41 q41 2 p41:=by
 rw [← e41]
 exact au (fn:=zD) (aa (en:=n42) (aa (en:=n23) ag o23 rfl) o42 rfl) rfl (by kernel_rfl)
def q16:FSp:=⟨[(false,[.e false (.st 11) 0])],[],[],[.ld 0 false,.d true .bool,.slot 0 false]⟩
def L16:List (Nat×Lb):=[(5,.j [.ld 0 false,.e false (.st 11) 0,.slot 0 false,.ld 2 false,.c (.bool false),.slot 2 false,.ld 18 false,.d true .bool,.slot 18 false]),(9,.l [.ld 0 false,.e false (.st 11) 0,.slot 0 false,.ld 22 false,.d false (.sl true (.st 5)),.slot 22 false,.ld 23 false,.d true (.int .i64),.slot 23 false] [.ld 2 false,.c (.bool false),.slot 2 false,.ld 24 false,.d true (.int .i64),.slot 24 false] [(some 0,[]),(none,[.ld 2 false,.c (.bool true),.slot 2 false])])]
def H16:List (Nat×VT):=[]
def p16:TProcess→Option Bool:=fun (x:TProcess)=>
  if x.done=true then some false
  else
    ((p39 x).bind fun (b1:Bool)=>if b1=true then some (Sum.inl (x,true)) else (p40 x).bind fun (b2:Bool)=>some (Sum.inl (x,b2))).bind fun (x1:TProcess×Bool⊕Bool)=>
      match x1 with
      | Sum.inl x=>
        if x.snd=true then some true
        else
          (aq (fun (n3:Int)=>if n3 < (↑x.fst.out.length:Int) then (idx x.fst.out n3).bind fun (x4:TLane)=>(p41 (x.fst,x4.From,x4.To,x4.Ahead)).bind fun (n5:Int)=>(idx x.fst.sent n3).bind fun (n6:Int)=>if n6 < n5 then some (Sum.inr (Sum.inr ())) else some (Sum.inl (IntKind.i64.wrap (n3+1))) else some (Sum.inr (Sum.inl ()))) 0).bind fun (x3:Unit⊕Unit)=>
            match x3 with
            | Sum.inl x=>some false
            | Sum.inr y=>some true
      | Sum.inr r=>some r
theorem e16:vfn (T:=tE) lpK H16 (bn [n39,n40,n41]) q16 yG.res (vOf yG.code L16)=p16:=by kernel_rfl
abbrev n16:En tE:=⟨16,[],q16,p16⟩
theorem o16:aC F tE 16 q16 1 p16:=by
 rw [← e16]
 exact au (fn:=yG) (aa (en:=n39) (aa (en:=n40) (aa (en:=n41) ag o41 rfl) o40 rfl) o39 rfl) rfl (by kernel_rfl)
def Dk:FSp:=⟨[(false,[.e false (.st 7) 0])],[],[],[.ld 0 true,.d true (.int .i64),.d true (.int .i64),.d true (.int .i64),.d true (.int .i64),.slot 0 true,.ld 1 false,.d true .bool,.slot 1 false]⟩
def EL:List (Nat×Lb):=[]
def EE:List (Nat×VT):=[]
def Ci:THeap→Option (Int×Int×Int×Int×Bool):=fun (x:THeap)=>if (↑x.l.length:Int)=0 then some (0,0,0,0,false) else (idx x.l 0).bind fun (x1:TKey)=>some (x1.Time,x1.Prio,x1.ID,x1.N,true)
abbrev EM:En tE:=⟨132,[],Dk,Ci⟩
def BL:FSp:=⟨[(true,[.d true (.int .i64),.d true (.int .i64),.d true (.int .i64),.d true (.int .i64)]),(true,[.d true (.int .i64),.d true (.int .i64),.d true (.int .i64),.d true (.int .i64)])],[],[],[.ld 0 false,.d true .bool,.slot 0 false]⟩
def DP:List (Nat×Lb):=[]
def Ef:List (Nat×VT):=[(25,(.int .i64))]
def uD:Int×Int×Int×Int×Int×Int×Int×Int→Option Bool:=fun (x:Int×Int×Int×Int×Int×Int×Int×Int)=>(p49 (x.fst,x.snd.snd.snd.snd.fst)).bind fun (n1:Int)=>(p49 (x.snd.fst,x.snd.snd.snd.snd.snd.fst)).bind fun (n2:Int)=>(p49 (x.snd.snd.fst,x.snd.snd.snd.snd.snd.snd.fst)).bind fun (n3:Int)=>(p49 (x.snd.snd.snd.fst,x.snd.snd.snd.snd.snd.snd.snd)).bind fun (n4:Int)=>(p48 [n1,n2,n3,n4]).bind fun (n5:Int)=>some (decide (n5 < 0))
theorem Ev:vfn (T:=tE) lpK Ef (bn [n49,n48]) BL qw.res (vOf qw.code DP)=uD:=by kernel_rfl
abbrev AF:En tE:=⟨138,[],BL,uD⟩
theorem Ca:aC F tE 138 BL 2 uD:=by
 rw [← Ev]
 exact au (fn:=qw) (aa (en:=n49) (aa (en:=n48) ag o48 rfl) o49 rfl) rfl (by kernel_rfl)
def Df:FSp:=⟨[(false,[.ptr 0 0])],[.pr (.st 7)],[0],[.ld 0 false,.ptr 0 0,.slot 0 false,.pr (.st 7)]⟩
def EA:List (Nat×Lb):=[(1,.l [] [.ld 0 false,.ptr 0 0,.slot 0 false,.ld 2 false,.d true (.int .i64),.slot 2 false,.pr (.st 7)] [(none,[.ld 0 false,.ptr 0 0,.slot 0 false,.pr (.st 7)])]),(5,.l [.ld 2 false,.d true (.int .i64),.slot 2 false,.ld 13 true,.d true (.int .i64),.d true (.int .i64),.slot 13 true] [.ld 0 false,.ptr 0 0,.slot 0 false,.ld 3 false,.d true (.int .i64),.slot 3 false,.ld 14 false,.d true (.int .i64),.slot 14 false,.pr (.st 7)] [(some 2,[.ld 0 false,.ptr 0 0,.slot 0 false,.ld 3 false,.d true (.int .i64),.slot 3 false,.pr (.st 7)])]),(10,.j [.ld 0 false,.ptr 0 0,.slot 0 false,.ld 3 false,.d true (.int .i64),.slot 3 false,.ld 5 false,.d true (.int .i64),.slot 5 false,.ld 14 false,.d true (.int .i64),.slot 14 false,.ld 40 false,.d true .bool,.slot 40 false,.pr (.st 7)])]
def EJ:List (Nat×VT):=[]
def Cb:THeap→Option THeap:=fun (x:THeap)=>
  (aq
        (fun (x1:Int×THeap)=>
          (aq
                (fun (x2:Int×Int×THeap)=>
                  if x2.snd.fst < 2 then
                    (idx [IntKind.i64.wrap (IntKind.i64.wrap (2 * x1.fst)+1),IntKind.i64.wrap (IntKind.i64.wrap (2 * x1.fst)+2)] x2.snd.fst).bind fun (n3:Int)=>
                      (if n3 < (↑x2.snd.snd.l.length:Int) then (idx x2.snd.snd.l n3).bind fun (x4:TKey)=>(idx x2.snd.snd.l x2.fst).bind fun (x5:TKey)=>(uD (x4.Time,x4.Prio,x4.ID,x4.N,x5.Time,x5.Prio,x5.ID,x5.N)).bind fun (b6:Bool)=>some (Sum.inl (x2.fst,n3,x2.snd.fst,b6,x2.snd.snd)) else some (Sum.inl (x2.fst,n3,x2.snd.fst,false,x2.snd.snd))).bind fun (x4:Int×Int×Int×Bool×THeap⊕Int×Int×THeap⊕Int×THeap)=>
                        match x4 with
                        | Sum.inl x=>if x.snd.snd.snd.fst=true then some (Sum.inl (x.snd.fst,IntKind.i64.wrap (x.snd.snd.fst+1),x.snd.snd.snd.snd)) else some (Sum.inl (x.fst,IntKind.i64.wrap (x.snd.snd.fst+1),x.snd.snd.snd.snd))
                        | Sum.inr r=>some r
                  else some (Sum.inr (x2.fst,x2.snd.snd)))
                (x1.fst,0,x1.snd)).bind
            fun (x2:Int×THeap)=>if x2.fst=x1.fst then some (Sum.inr x2.snd) else (idx x2.snd.l x2.fst).bind fun (x3:TKey)=>(idx x2.snd.l x1.fst).bind fun (x4:TKey)=>(idx x2.snd.l x1.fst).bind fun (x5:TKey)=>(idx (x2.snd.l.set x1.fst.toNat x3) x2.fst).bind fun (x6:TKey)=>some (Sum.inl (x2.fst,{ l:=(x2.snd.l.set x1.fst.toNat x3).set x2.fst.toNat x4 })))
        (0,x)).bind
    fun (x1:THeap)=>some x1
abbrev EH:En tE:=⟨139,[],Df,Cb⟩
def D7:FSp:=⟨[(false,[.ptr 0 0])],[.pr (.st 7)],[0],[.ld 0 true,.d true (.int .i64),.d true (.int .i64),.d true (.int .i64),.d true (.int .i64),.slot 0 true,.ld 1 false,.d true .bool,.slot 1 false,.ld 2 false,.ptr 0 0,.slot 2 false,.pr (.st 7)]⟩
def EI:List (Nat×Lb):=[]
def EK:List (Nat×VT):=[]
def D8:THeap→Option (Int×Int×Int×Int×Bool×THeap):=fun (x:THeap)=>(Ci x).bind fun (x1:Int×Int×Int×Int×Bool)=>if (!x1.snd.snd.snd.snd)=true then some (x1.fst,x1.snd.fst,x1.snd.snd.fst,x1.snd.snd.snd.fst,false,x) else (idx x.l (IntKind.i64.wrap ((↑x.l.length:Int) - 1))).bind fun (x2:TKey)=>(idx x.l 0).bind fun (x3:TKey)=>(slc (x.l.set (Int.toNat 0) x2) 0 (IntKind.i64.wrap ((↑x.l.length:Int) - 1))).bind fun (l4:List TKey)=>(Cb { l:=l4 }).bind fun (x5:THeap)=>some (x1.fst,x1.snd.fst,x1.snd.snd.fst,x1.snd.snd.snd.fst,true,x5)
abbrev EG:En tE:=⟨133,[],D7,D8⟩
def AR:FSp:=⟨[(false,[.r 0]),(false,[.d true (.int .i64)]),(false,[.d true (.int .i64)])],[.sl (.int .i64)],[0],[.ld 0 false,.d true .bool,.slot 0 false,.ld 1 false,.r 0,.slot 1 false,.sl (.int .i64)]⟩
def Ek:List (Nat×Lb):=[]
def Dn:List (Nat×VT):=[]
def yi:Int×Int×List Int→Option (Bool×List Int):=fun (x:Int×Int×List Int)=>(idx x.snd.snd x.fst).bind fun (n1:Int)=>(idx x.snd.snd x.fst).bind fun (n2:Int)=>(idx (x.snd.snd.set x.fst.toNat (IntKind.i64.wrap (n1+x.snd.fst))) x.fst).bind fun (n3:Int)=>some (decide (n3≤1099511627776),x.snd.snd.set x.fst.toNat (IntKind.i64.wrap (n1+x.snd.fst)))
theorem CR:vfn (T:=tE) lpK Dn (bn []) AR pj.res (vOf pj.code Ek)=yi:=by kernel_rfl
abbrev AI:En tE:=⟨134,[],AR,yi⟩
theorem CB:aC F tE 134 AR 3 yi:=by
 rw [← CR]
 exact au (fn:=pj) ag rfl (by kernel_rfl)
def B2:FSp:=⟨[(false,[.ptr 0 0]),(false,[.d true (.int .i64)])],[.pr (.st 10)],[0],[.ld 0 false,.ptr 0 0,.slot 0 false,.pr (.st 10)]⟩
def Dp:List (Nat×Lb):=[(1,.l [.ld 12 false,.d true (.sl false (.int .i64)),.slot 12 false,.ld 13 false,.d true (.int .i64),.slot 13 false] [.ld 0 false,.ptr 0 0,.slot 0 false,.ld 14 false,.d true (.int .i64),.slot 14 false,.pr (.st 10)] [(some 0,[.ld 0 false,.ptr 0 0,.slot 0 false,.pr (.st 10)])])]
def DJ:List (Nat×VT):=[]
def tQ:Int×TEngine→Option TEngine:=fun (x:Int×TEngine)=>(idx x.snd.near x.fst).bind fun (l1:List Int)=>(aq (fun (x2:Int×TEngine)=>if x2.fst < (↑l1.length:Int) then (idx l1 x2.fst).bind fun (n3:Int)=>(idx x2.snd.n.Trans n3).bind fun (x4:TTrans)=>(p66 (x4.Name,x4.Delay,x4.Prio,x4.In,x4.Not,x4.Out,x2.snd.marks)).bind fun (b5:Bool)=>(idx x2.snd.ready n3).bind fun (b6:Bool)=>some (Sum.inl (IntKind.i64.wrap (x2.fst+1),{ n:=x2.snd.n,mine:=x2.snd.mine,near:=x2.snd.near,ready:=x2.snd.ready.set n3.toNat b5,marks:=x2.snd.marks,wait:=x2.snd.wait,in_:=x2.snd.in_,log:=x2.snd.log,way:=x2.snd.way,time:=x2.snd.time,out:=x2.snd.out,away:=x2.snd.away,count:=x2.snd.count })) else some (Sum.inr x2.snd)) (0,x.snd)).bind fun (x2:TEngine)=>some x2
theorem Es:vfn (T:=tE) lpK DJ (bn [n66]) B2 oS.res (vOf oS.code Dp)=tQ:=by kernel_rfl
abbrev Ax:En tE:=⟨135,[],B2,tQ⟩
theorem Ct:aC F tE 135 B2 2 tQ:=by
 rw [← Es]
 exact au (fn:=oS) (aa (en:=n66) ag o66 rfl) rfl (by kernel_rfl)
def BD:FSp:=⟨[(true,[.d false (.sl false (.st 2)),.d false (.sl false (.st 1))]),(false,[.d true (.int .i64)]),(false,[.d true (.int .i64)])],[],[],[.ld 0 false,.d true .bool,.slot 0 false]⟩
def D5:List (Nat×Lb):=[]
def C0:List (Nat×VT):=[]
def Az:List TPlace×List TTrans×Int×Int→Option Bool:=fun (x:List TPlace×List TTrans×Int×Int)=>(idx x.snd.fst x.snd.snd.fst).bind fun (x1:TTrans)=>(idx x.snd.fst x.snd.snd.snd).bind fun (x2:TTrans)=>if (!decide (x1.Prio=x2.Prio))=true then (idx x.snd.fst x.snd.snd.fst).bind fun (x3:TTrans)=>(idx x.snd.fst x.snd.snd.snd).bind fun (x4:TTrans)=>some (decide (x3.Prio < x4.Prio)) else some (decide (x.snd.snd.fst < x.snd.snd.snd))
theorem Dy:vfn (T:=tE) lpK C0 (bn []) BD pv.res (vOf pv.code D5)=Az:=by kernel_rfl
abbrev Cd:En tE:=⟨136,[],BD,Az⟩
theorem Dz:aC F tE 136 BD 3 Az:=by
 rw [← Dy]
 exact au (fn:=pv) ag rfl (by kernel_rfl)
def Du:FSp:=⟨[(false,[.ptr 0 0]),(true,[.d true (.int .i64),.d true (.int .i64),.d true (.int .i64),.d true (.int .i64)])],[.pr (.st 7)],[0],[.ld 0 false,.ptr 0 0,.slot 0 false,.pr (.st 7)]⟩
def EO:List (Nat×Lb):=[(5,.l [] [.ld 0 false,.ptr 0 0,.slot 0 false,.ld 4 false,.d true (.int .i64),.slot 4 false,.pr (.st 7)] [(some 0,[.ld 0 false,.ptr 0 0,.slot 0 false,.pr (.st 7)])])]
def Ey:List (Nat×VT):=[(14,(.st 6))]
def DH:Int×Int×Int×Int×THeap→Option THeap:=fun (x:Int×Int×Int×Int×THeap)=>(app 32 x.snd.snd.snd.snd.l [{ Time:=x.fst,Prio:=x.snd.fst,ID:=x.snd.snd.fst,N:=x.snd.snd.snd.fst }]).bind fun (l1:List TKey)=>(aq (fun (x2:Int×THeap)=>if 0 < x2.fst then (oG IntKind.i64 (IntKind.i64.wrap (x2.fst - 1)) 2).bind fun (n3:Int)=>(idx x2.snd.l x2.fst).bind fun (x4:TKey)=>(idx x2.snd.l n3).bind fun (x5:TKey)=>(uD (x4.Time,x4.Prio,x4.ID,x4.N,x5.Time,x5.Prio,x5.ID,x5.N)).bind fun (b6:Bool)=>if (!b6)=true then some (Sum.inr x2.snd) else (idx x2.snd.l n3).bind fun (x7:TKey)=>(idx x2.snd.l x2.fst).bind fun (x8:TKey)=>(idx x2.snd.l x2.fst).bind fun (x9:TKey)=>(idx (x2.snd.l.set x2.fst.toNat x7) n3).bind fun (x10:TKey)=>some (Sum.inl (n3,{ l:=(x2.snd.l.set x2.fst.toNat x7).set n3.toNat x8 })) else some (Sum.inr x2.snd)) (IntKind.i64.wrap ((↑l1.length:Int) - 1),{ l:=l1 })).bind fun (x2:THeap)=>some x2
abbrev Ez:En tE:=⟨131,[],Du,DH⟩
def mF:FSp:=⟨[(false,[.ptr 0 6]),(true,[.d true (.int .i64),.d true (.int .i64),.d true (.int .i64),.d true (.int .i64)])],[.pr (.st 10)],[0],[.ld 0 false,.ptr 0 6,.slot 0 false,.pr (.st 10)]⟩
def wh:List (Nat×Lb):=[(5,.l [] [.ld 0 false,.ptr 0 6,.slot 0 false,.ld 4 false,.d true (.int .i64),.slot 4 false,.pr (.st 10)] [(some 0,[.ld 0 false,.ptr 0 6,.slot 0 false,.pr (.st 10)])])]
def ww:List (Nat×VT):=[(14,(.st 6))]
def jl:Int×Int×Int×Int×TEngine→Option TEngine:=fun (x:Int×Int×Int×Int×TEngine)=>(app 32 x.snd.snd.snd.snd.wait.l [{ Time:=x.fst,Prio:=x.snd.fst,ID:=x.snd.snd.fst,N:=x.snd.snd.snd.fst }]).bind fun (l1:List TKey)=>(aq (fun (x2:Int×TEngine)=>if 0 < x2.fst then (oG IntKind.i64 (IntKind.i64.wrap (x2.fst - 1)) 2).bind fun (n3:Int)=>(idx x2.snd.wait.l x2.fst).bind fun (x4:TKey)=>(idx x2.snd.wait.l n3).bind fun (x5:TKey)=>(uD (x4.Time,x4.Prio,x4.ID,x4.N,x5.Time,x5.Prio,x5.ID,x5.N)).bind fun (b6:Bool)=>if (!b6)=true then some (Sum.inr x2.snd) else (idx x2.snd.wait.l n3).bind fun (x7:TKey)=>(idx x2.snd.wait.l x2.fst).bind fun (x8:TKey)=>(idx x2.snd.wait.l x2.fst).bind fun (x9:TKey)=>(idx (x2.snd.wait.l.set x2.fst.toNat x7) n3).bind fun (x10:TKey)=>some (Sum.inl (n3,{ n:=x2.snd.n,mine:=x2.snd.mine,near:=x2.snd.near,ready:=x2.snd.ready,marks:=x2.snd.marks,wait:={ l:=(x2.snd.wait.l.set x2.fst.toNat x7).set n3.toNat x8 },in_:=x2.snd.in_,log:=x2.snd.log,way:=x2.snd.way,time:=x2.snd.time,out:=x2.snd.out,away:=x2.snd.away,count:=x2.snd.count })) else some (Sum.inr x2.snd)) (IntKind.i64.wrap ((↑l1.length:Int) - 1),{ n:=x.snd.snd.snd.snd.n,mine:=x.snd.snd.snd.snd.mine,near:=x.snd.snd.snd.snd.near,ready:=x.snd.snd.snd.snd.ready,marks:=x.snd.snd.snd.snd.marks,wait:={ l:=l1 },in_:=x.snd.snd.snd.snd.in_,log:=x.snd.snd.snd.snd.log,way:=x.snd.snd.snd.snd.way,time:=x.snd.snd.snd.snd.time,out:=x.snd.snd.snd.snd.out,away:=x.snd.snd.snd.snd.away,count:=x.snd.snd.snd.snd.count })).bind fun (x2:TEngine)=>some x2
theorem vn:vfn (T:=tE) lpK ww (bn [AF]) mF qq.res (vOf qq.code wh)=jl:=by kernel_rfl
abbrev pS:En tE:=⟨131,[(0,6)],mF,jl⟩
theorem vp:aC F tE 131 mF 2 jl:=by
 rw [← vn]
 exact au (fn:=qq) (aa (en:=AF) ag Ca rfl) rfl (by kernel_rfl)
def B7:FSp:=⟨[(false,[.ptr 0 0]),(true,[.d true (.int .i64),.d true (.int .i64),.d true (.int .i64)])],[.pr (.st 10)],[0],[.ld 0 false,.ptr 0 0,.slot 0 false,.pr (.st 10)]⟩
def DD:List (Nat×Lb):=[(2,.j [.ld 0 false,.ptr 0 0,.slot 0 false,.ld 3 false,.ptr 1 0,.slot 3 false,.ld 20 false,.d true .bool,.slot 20 false,.pr (.st 10),.pr (.st 9)])]
def Dh:List (Nat×VT):=[]
def zL:Int×Int×Int×TEngine→Option TEngine:=fun (x:Int×Int×Int×TEngine)=>
  (if x.snd.fst < 0 then some (Sum.inl (true,x.snd.snd.snd,{ Time:=x.fst,Place:=x.snd.fst,N:=x.snd.snd.fst })) else some (Sum.inl (decide ((↑x.snd.snd.snd.marks.length:Int)≤x.snd.fst),x.snd.snd.snd,{ Time:=x.fst,Place:=x.snd.fst,N:=x.snd.snd.fst }))).bind fun (x1:Bool×TEngine×TEvent⊕TEngine)=>
    match x1 with
    | Sum.inl x=>if x.fst=true then some x.snd.fst else (jl (x.snd.snd.Time,x.snd.snd.N,x.snd.snd.Place,IntKind.i64.wrap (x.snd.fst.count+1),{ n:=x.snd.fst.n,mine:=x.snd.fst.mine,near:=x.snd.fst.near,ready:=x.snd.fst.ready,marks:=x.snd.fst.marks,wait:=x.snd.fst.wait,in_:=x.snd.fst.in_,log:=x.snd.fst.log,way:=x.snd.fst.way,time:=x.snd.fst.time,out:=x.snd.fst.out,away:=x.snd.fst.away,count:=IntKind.i64.wrap (x.snd.fst.count+1) })).bind fun (x3:TEngine)=>(idx x3.way x.snd.snd.Place).bind fun (n4:Int)=>(idx x3.way x.snd.snd.Place).bind fun (n5:Int)=>some { n:=x3.n,mine:=x3.mine,near:=x3.near,ready:=x3.ready,marks:=x3.marks,wait:=x3.wait,in_:=x3.in_,log:=x3.log,way:=x3.way.set x.snd.snd.Place.toNat (IntKind.i64.wrap (n4+x.snd.snd.N)),time:=x3.time,out:=x3.out,away:=x3.away,count:=x3.count }
    | Sum.inr r=>some r
theorem CD:vfn (T:=tE) lpK Dh (bn [pS]) B7 rD.res (vOf rD.code DD)=zL:=by kernel_rfl
abbrev AG:En tE:=⟨126,[],B7,zL⟩
theorem Cc:aC F tE 126 B7 2 zL:=by
 rw [← CD]
 exact au (fn:=rD) (aa (en:=pS) ag vp rfl) rfl (by kernel_rfl)
def BW:FSp:=⟨[(true,[.d true .str,.d true (.int .i64),.d true (.int .i64),.d false (.sl false (.st 0)),.d false (.sl false (.st 0)),.d false (.sl false (.st 0))]),(false,[.r 0])],[.sl (.int .i64)],[1],[.ld 0 false,.r 0,.slot 0 false,.sl (.int .i64)]⟩
def DR:List (Nat×Lb):=[(2,.l [.ld 7 false,.d false (.sl false (.st 0)),.slot 7 false,.ld 8 false,.d true (.int .i64),.slot 8 false] [.ld 1 false,.r 0,.slot 1 false,.ld 9 false,.d true (.int .i64),.slot 9 false,.sl (.int .i64)] [(some 0,[.ld 1 false,.r 0,.slot 1 false,.sl (.int .i64)])])]
def Eo:List (Nat×VT):=[]
def AA:List UInt8×Int×Int×List TArc×List TArc×List TArc×List Int→Option (List Int):=fun (x:List UInt8×Int×Int×List TArc×List TArc×List TArc×List Int)=>(aq (fun (x1:Int×List Int)=>if x1.fst < (↑x.snd.snd.snd.fst.length:Int) then (idx x.snd.snd.snd.fst x1.fst).bind fun (x2:TArc)=>(idx x1.snd x2.Place).bind fun (n3:Int)=>(idx x1.snd x2.Place).bind fun (n4:Int)=>some (Sum.inl (IntKind.i64.wrap (x1.fst+1),x1.snd.set x2.Place.toNat (IntKind.i64.wrap (n3 - x2.N)))) else some (Sum.inr x1.snd)) (0,x.snd.snd.snd.snd.snd.snd)).bind fun (l1:List Int)=>some l1
theorem D0:vfn (T:=tE) lpK Eo (bn []) BW rt.res (vOf rt.code DR)=AA:=by kernel_rfl
abbrev Cy:En tE:=⟨140,[],BW,AA⟩
theorem CJ:aC F tE 140 BW 2 AA:=by
 rw [← D0]
 exact au (fn:=rt) ag rfl (by kernel_rfl)
def Ba:FSp:=⟨[(false,[.ptr 0 0]),(false,[.d true (.int .i64)])],[.pr (.st 10)],[0],[.ld 0 false,.d true (.int .i64),.slot 0 false,.ld 1 false,.ptr 0 0,.slot 1 false,.pr (.st 10)]⟩
def DU:List (Nat×Lb):=[(7,.j [.ld 0 false,.ptr 0 0,.slot 0 false,.ld 1 false,.d true (.int .i64),.slot 1 false,.ld 5 false,.ptr 1 0,.slot 5 false,.ld 35 false,.d true .bool,.slot 35 false,.pr (.st 10),.pr (.st 1)]),(14,.l [.ld 79 false,.d true (.sl false (.st 0)),.slot 79 false,.ld 80 false,.d true (.int .i64),.slot 80 false] [.ld 0 false,.ptr 0 0,.slot 0 false,.ld 5 false,.ptr 1 0,.slot 5 false,.ld 81 false,.d true (.int .i64),.slot 81 false,.pr (.st 10),.pr (.st 1)] [(some 1,[.ld 0 false,.ptr 0 0,.slot 0 false,.ld 5 false,.ptr 1 0,.slot 5 false,.pr (.st 10),.pr (.st 1)])]),(22,.l [.ld 91 false,.d true (.sl false (.st 0)),.slot 91 false,.ld 92 false,.d true (.int .i64),.slot 92 false] [.ld 0 false,.ptr 0 0,.slot 0 false,.ld 5 false,.ptr 1 0,.slot 5 false,.ld 8 false,.d true .bool,.slot 8 false,.ld 93 false,.d true (.int .i64),.slot 93 false,.pr (.st 10),.pr (.st 1)] [(some 3,[.ld 0 false,.ptr 0 0,.slot 0 false,.ld 8 false,.d true .bool,.slot 8 false,.pr (.st 10)])])]
def Et:List (Nat×VT):=[(68,(.st 8)),(140,(.st 9))]
def As:Int×TEngine→Option (Int×TEngine):=fun (x:Int×TEngine)=>
  (idx x.snd.n.Trans x.fst).bind fun (x1:TTrans)=>
    if (x.snd.in_.bind fun (l2:List (Int×Int))=>qT (keI IntKind.i64) l2 x.fst).getD 0=20 then some (4,x.snd)
    else
      if (↑x.snd.log.length:Int)=2000 then some (5,x.snd)
      else
        (if 0 < (↑x1.Out.length:Int) then some (Sum.inl (x.fst,decide (1099511627776 < IntKind.i64.wrap (x.snd.time+x1.Delay)),x.snd,x1)) else some (Sum.inl (x.fst,false,x.snd,x1))).bind fun (x2:Int×Bool×TEngine×TTrans⊕Int×TEngine)=>
          match x2 with
          | Sum.inl x=>if x.snd.fst=true then some (3,x.snd.snd.fst) else x.snd.snd.fst.in_.bind fun (l4:List (Int×Int))=>(app 16 x.snd.snd.fst.log [{ Time:=x.snd.snd.fst.time,Trans:=x.fst }]).bind fun (l5:List TFire)=>(AA (x.snd.snd.snd.Name,x.snd.snd.snd.Delay,x.snd.snd.snd.Prio,x.snd.snd.snd.In,x.snd.snd.snd.Not,x.snd.snd.snd.Out,x.snd.snd.fst.marks)).bind fun (l6:List Int)=>(aq (fun (x7:Int×TEngine×TTrans)=>if x7.fst < (↑x.snd.snd.snd.In.length:Int) then (idx x.snd.snd.snd.In x7.fst).bind fun (x8:TArc)=>(tQ (x8.Place,x7.snd.fst)).bind fun (x9:TEngine)=>some (Sum.inl (IntKind.i64.wrap (x7.fst+1),x9,x7.snd.snd)) else some (Sum.inr (x7.snd.fst,x7.snd.snd))) (0,{ n:=x.snd.snd.fst.n,mine:=x.snd.snd.fst.mine,near:=x.snd.snd.fst.near,ready:=x.snd.snd.fst.ready,marks:=l6,wait:=x.snd.snd.fst.wait,in_:=some (ov (keI IntKind.i64) l4 x.fst (IntKind.i64.wrap ((x.snd.snd.fst.in_.bind fun (l7:List (Int×Int))=>qT (keI IntKind.i64) l7 x.fst).getD 0+1))),log:=l5,way:=x.snd.snd.fst.way,time:=x.snd.snd.fst.time,out:=x.snd.snd.fst.out,away:=x.snd.snd.fst.away,count:=x.snd.snd.fst.count },x.snd.snd.snd)).bind fun (x7:TEngine×TTrans)=>(aq (fun (x8:Bool×Int×TEngine×TTrans)=>if x8.snd.fst < (↑x7.snd.Out.length:Int) then (idx x7.snd.Out x8.snd.fst).bind fun (x9:TArc)=>(p65 (x8.snd.snd.fst.away,x9.Place)).bind fun (b10:Bool)=>if b10=true then (app 24 x8.snd.snd.fst.out [{ Time:=IntKind.i64.wrap (x8.snd.snd.fst.time+x8.snd.snd.snd.Delay),Place:=x9.Place,N:=x9.N }]).bind fun (l11:List TEvent)=>some (Sum.inl (x8.fst,IntKind.i64.wrap (x8.snd.fst+1),{ n:=x8.snd.snd.fst.n,mine:=x8.snd.snd.fst.mine,near:=x8.snd.snd.fst.near,ready:=x8.snd.snd.fst.ready,marks:=x8.snd.snd.fst.marks,wait:=x8.snd.snd.fst.wait,in_:=x8.snd.snd.fst.in_,log:=x8.snd.snd.fst.log,way:=x8.snd.snd.fst.way,time:=x8.snd.snd.fst.time,out:=l11,away:=x8.snd.snd.fst.away,count:=x8.snd.snd.fst.count },x8.snd.snd.snd)) else if 0 < x8.snd.snd.snd.Delay then (zL (IntKind.i64.wrap (x8.snd.snd.fst.time+x8.snd.snd.snd.Delay),x9.Place,x9.N,x8.snd.snd.fst)).bind fun (x11:TEngine)=>some (Sum.inl (x8.fst,IntKind.i64.wrap (x8.snd.fst+1),x11,x8.snd.snd.snd)) else (yi (x9.Place,x9.N,x8.snd.snd.fst.marks)).bind fun (x11:Bool×List Int)=>if (!x11.fst)=true then (tQ (x9.Place,{ n:=x8.snd.snd.fst.n,mine:=x8.snd.snd.fst.mine,near:=x8.snd.snd.fst.near,ready:=x8.snd.snd.fst.ready,marks:=x11.snd,wait:=x8.snd.snd.fst.wait,in_:=x8.snd.snd.fst.in_,log:=x8.snd.snd.fst.log,way:=x8.snd.snd.fst.way,time:=x8.snd.snd.fst.time,out:=x8.snd.snd.fst.out,away:=x8.snd.snd.fst.away,count:=x8.snd.snd.fst.count })).bind fun (x12:TEngine)=>some (Sum.inl (true,IntKind.i64.wrap (x8.snd.fst+1),x12,x8.snd.snd.snd)) else (tQ (x9.Place,{ n:=x8.snd.snd.fst.n,mine:=x8.snd.snd.fst.mine,near:=x8.snd.snd.fst.near,ready:=x8.snd.snd.fst.ready,marks:=x11.snd,wait:=x8.snd.snd.fst.wait,in_:=x8.snd.snd.fst.in_,log:=x8.snd.snd.fst.log,way:=x8.snd.snd.fst.way,time:=x8.snd.snd.fst.time,out:=x8.snd.snd.fst.out,away:=x8.snd.snd.fst.away,count:=x8.snd.snd.fst.count })).bind fun (x12:TEngine)=>some (Sum.inl (x8.fst,IntKind.i64.wrap (x8.snd.fst+1),x12,x8.snd.snd.snd)) else some (Sum.inr (x8.fst,x8.snd.snd.fst))) (false,0,x7.fst,x7.snd)).bind fun (x8:Bool×TEngine)=>if x8.fst=true then some (3,x8.snd) else some (0,x8.snd)
          | Sum.inr r=>some r
theorem Eu:vfn (T:=tE) lpK Et (bn [Cy,Ax,n65,AG,AI]) Ba rp.res (vOf rp.code DU)=As:=by kernel_rfl
abbrev Cp:En tE:=⟨137,[],Ba,As⟩
theorem DK:aC F tE 137 Ba 2 As:=by
 rw [← Eu]
 exact au (fn:=rp) (aa (en:=Cy) (aa (en:=Ax) (aa (en:=n65) (aa (en:=AG) (aa (en:=AI) ag CB rfl) Cc rfl) o65 rfl) Ct rfl) CJ rfl) rfl (by kernel_rfl)
def lJ:FSp:=⟨[(false,[.ptr 0 6])],[.pr (.st 10)],[0],[.ld 0 true,.d true (.int .i64),.d true (.int .i64),.d true (.int .i64),.d true (.int .i64),.slot 0 true,.ld 1 false,.d true .bool,.slot 1 false,.ld 2 false,.ptr 0 6,.slot 2 false,.pr (.st 10)]⟩
def uT:List (Nat×Lb):=[]
def um:List (Nat×VT):=[]
def fm:TEngine→Option (Int×Int×Int×Int×Bool×TEngine):=fun (x:TEngine)=>if (↑x.wait.l.length:Int)=0 then some (0,0,0,0,false,x) else (idx x.wait.l 0).bind fun (x1:TKey)=>some (x1.Time,x1.Prio,x1.ID,x1.N,true,x)
theorem vZ:vfn (T:=tE) lpK um (bn []) lJ kV.res (vOf kV.code uT)=fm:=by kernel_rfl
abbrev ju:En tE:=⟨132,[(0,6)],lJ,fm⟩
theorem ri:aC F tE 132 lJ 1 fm:=by
 rw [← vZ]
 exact au (fn:=kV) ag rfl (by kernel_rfl)
def lB:FSp:=⟨[(false,[.ptr 0 6])],[.pr (.st 10)],[0],[.ld 0 false,.ptr 0 6,.slot 0 false,.pr (.st 10)]⟩
def vQ:List (Nat×Lb):=[(1,.l [] [.ld 0 false,.ptr 0 6,.slot 0 false,.ld 2 false,.d true (.int .i64),.slot 2 false,.pr (.st 10)] [(none,[.ld 0 false,.ptr 0 6,.slot 0 false,.pr (.st 10)])]),(5,.l [.ld 2 false,.d true (.int .i64),.slot 2 false,.ld 13 true,.d true (.int .i64),.d true (.int .i64),.slot 13 true] [.ld 0 false,.ptr 0 6,.slot 0 false,.ld 3 false,.d true (.int .i64),.slot 3 false,.ld 14 false,.d true (.int .i64),.slot 14 false,.pr (.st 10)] [(some 2,[.ld 0 false,.ptr 0 6,.slot 0 false,.ld 3 false,.d true (.int .i64),.slot 3 false,.pr (.st 10)])]),(10,.j [.ld 0 false,.ptr 0 6,.slot 0 false,.ld 3 false,.d true (.int .i64),.slot 3 false,.ld 5 false,.d true (.int .i64),.slot 5 false,.ld 14 false,.d true (.int .i64),.slot 14 false,.ld 40 false,.d true .bool,.slot 40 false,.pr (.st 10)])]
def xG:List (Nat×VT):=[]
def i6:TEngine→Option TEngine:=fun (x:TEngine)=>
  (aq
        (fun (x1:Int×TEngine)=>
          (aq
                (fun (x2:Int×Int×TEngine)=>
                  if x2.snd.fst < 2 then
                    (idx [IntKind.i64.wrap (IntKind.i64.wrap (2 * x1.fst)+1),IntKind.i64.wrap (IntKind.i64.wrap (2 * x1.fst)+2)] x2.snd.fst).bind fun (n3:Int)=>
                      (if n3 < (↑x2.snd.snd.wait.l.length:Int) then (idx x2.snd.snd.wait.l n3).bind fun (x4:TKey)=>(idx x2.snd.snd.wait.l x2.fst).bind fun (x5:TKey)=>(uD (x4.Time,x4.Prio,x4.ID,x4.N,x5.Time,x5.Prio,x5.ID,x5.N)).bind fun (b6:Bool)=>some (Sum.inl (x2.fst,n3,x2.snd.fst,b6,x2.snd.snd)) else some (Sum.inl (x2.fst,n3,x2.snd.fst,false,x2.snd.snd))).bind fun (x4:Int×Int×Int×Bool×TEngine⊕Int×Int×TEngine⊕Int×TEngine)=>
                        match x4 with
                        | Sum.inl x=>if x.snd.snd.snd.fst=true then some (Sum.inl (x.snd.fst,IntKind.i64.wrap (x.snd.snd.fst+1),x.snd.snd.snd.snd)) else some (Sum.inl (x.fst,IntKind.i64.wrap (x.snd.snd.fst+1),x.snd.snd.snd.snd))
                        | Sum.inr r=>some r
                  else some (Sum.inr (x2.fst,x2.snd.snd)))
                (x1.fst,0,x1.snd)).bind
            fun (x2:Int×TEngine)=>if x2.fst=x1.fst then some (Sum.inr x2.snd) else (idx x2.snd.wait.l x2.fst).bind fun (x3:TKey)=>(idx x2.snd.wait.l x1.fst).bind fun (x4:TKey)=>(idx x2.snd.wait.l x1.fst).bind fun (x5:TKey)=>(idx (x2.snd.wait.l.set x1.fst.toNat x3) x2.fst).bind fun (x6:TKey)=>some (Sum.inl (x2.fst,{ n:=x2.snd.n,mine:=x2.snd.mine,near:=x2.snd.near,ready:=x2.snd.ready,marks:=x2.snd.marks,wait:={ l:=(x2.snd.wait.l.set x1.fst.toNat x3).set x2.fst.toNat x4 },in_:=x2.snd.in_,log:=x2.snd.log,way:=x2.snd.way,time:=x2.snd.time,out:=x2.snd.out,away:=x2.snd.away,count:=x2.snd.count })))
        (0,x)).bind
    fun (x1:TEngine)=>some x1
theorem vk:vfn (T:=tE) lpK xG (bn [AF]) lB qJ.res (vOf qJ.code vQ)=i6:=by kernel_rfl
abbrev pf:En tE:=⟨139,[(0,6)],lB,i6⟩
theorem wb:aC F tE 139 lB 1 i6:=by
 rw [← vk]
 exact au (fn:=qJ) (aa (en:=AF) ag Ca rfl) rfl (by kernel_rfl)
def lH:FSp:=⟨[(false,[.ptr 0 6])],[.pr (.st 10)],[0],[.ld 0 true,.d true (.int .i64),.d true (.int .i64),.d true (.int .i64),.d true (.int .i64),.slot 0 true,.ld 1 false,.d true .bool,.slot 1 false,.ld 2 false,.ptr 0 6,.slot 2 false,.pr (.st 10)]⟩
def wg:List (Nat×Lb):=[]
def xo:List (Nat×VT):=[]
def jK:TEngine→Option (Int×Int×Int×Int×Bool×TEngine):=fun (x:TEngine)=>(fm x).bind fun (x1:Int×Int×Int×Int×Bool×TEngine)=>if (!x1.snd.snd.snd.snd.fst)=true then some (x1.fst,x1.snd.fst,x1.snd.snd.fst,x1.snd.snd.snd.fst,false,x1.snd.snd.snd.snd.snd) else (idx x1.snd.snd.snd.snd.snd.wait.l (IntKind.i64.wrap ((↑x1.snd.snd.snd.snd.snd.wait.l.length:Int) - 1))).bind fun (x2:TKey)=>(idx x1.snd.snd.snd.snd.snd.wait.l 0).bind fun (x3:TKey)=>(slc (x1.snd.snd.snd.snd.snd.wait.l.set (Int.toNat 0) x2) 0 (IntKind.i64.wrap ((↑x1.snd.snd.snd.snd.snd.wait.l.length:Int) - 1))).bind fun (l4:List TKey)=>(i6 { n:=x1.snd.snd.snd.snd.snd.n,mine:=x1.snd.snd.snd.snd.snd.mine,near:=x1.snd.snd.snd.snd.snd.near,ready:=x1.snd.snd.snd.snd.snd.ready,marks:=x1.snd.snd.snd.snd.snd.marks,wait:={ l:=l4 },in_:=x1.snd.snd.snd.snd.snd.in_,log:=x1.snd.snd.snd.snd.snd.log,way:=x1.snd.snd.snd.snd.snd.way,time:=x1.snd.snd.snd.snd.snd.time,out:=x1.snd.snd.snd.snd.snd.out,away:=x1.snd.snd.snd.snd.snd.away,count:=x1.snd.snd.snd.snd.snd.count }).bind fun (x5:TEngine)=>some (x1.fst,x1.snd.fst,x1.snd.snd.fst,x1.snd.snd.snd.fst,true,x5)
theorem uX:vfn (T:=tE) lpK xo (bn [ju,pf]) lH oK.res (vOf oK.code wg)=jK:=by kernel_rfl
abbrev qn:En tE:=⟨133,[(0,6)],lH,jK⟩
theorem wM:aC F tE 133 lH 1 jK:=by
 rw [← uX]
 exact au (fn:=oK) (aa (en:=ju) (aa (en:=pf) ag wb rfl) ri rfl) rfl (by kernel_rfl)
def BV:FSp:=⟨[(false,[.ptr 0 0]),(false,[.d true (.int .i64)])],[.pr (.st 10)],[0],[.ld 0 false,.d true (.int .i64),.slot 0 false,.ld 1 false,.ptr 0 0,.slot 1 false,.pr (.st 10)]⟩
def Eg:List (Nat×Lb):=[(8,.l [.ld 1 false,.d true (.int .i64),.slot 1 false,.ld 4 false,.d true (.int .i64),.slot 4 false] [.ld 0 false,.ptr 0 0,.slot 0 false,.ld 5 false,.d true .bool,.slot 5 false,.ld 6 false,.ptr 1 0,.slot 6 false,.ld 7 false,.d true .bool,.slot 7 false,.pr (.st 10),.pr (.st 6)] [(some 0,[.ld 0 false,.ptr 0 0,.slot 0 false,.ld 5 false,.d true .bool,.slot 5 false,.pr (.st 10)])]),(10,.j [.ld 0 false,.ptr 0 0,.slot 0 false,.ld 5 false,.d true .bool,.slot 5 false,.ld 6 false,.ptr 1 0,.slot 6 false,.ld 35 false,.d true .bool,.slot 35 false,.pr (.st 10),.pr (.st 6)]),(11,.j [.ld 0 false,.ptr 0 0,.slot 0 false,.ld 5 false,.d true .bool,.slot 5 false,.ld 6 false,.ptr 1 0,.slot 6 false,.pr (.st 10),.pr (.st 6)]),(20,.l [] [.ld 0 false,.ptr 0 0,.slot 0 false,.ld 4 false,.d true (.int .i64),.slot 4 false,.pr (.st 10)] [(none,[.ld 0 false,.ptr 0 0,.slot 0 false,.ld 4 false,.d true (.int .i64),.slot 4 false,.pr (.st 10)])]),(24,.l [.ld 4 false,.d true (.int .i64),.slot 4 false,.ld 82 false,.d true (.int .i64),.slot 82 false] [.ld 0 false,.ptr 0 0,.slot 0 false,.ld 8 false,.d true (.int .i64),.slot 8 false,.ld 81 false,.r 1,.slot 81 false,.ld 83 false,.d true (.int .i64),.slot 83 false,.ldr,.d true (.sl false (.st 2)),.d true (.sl false (.st 1)),.d true (.sl false .bool),.r 2,.r 1,.r 3,.r 4,.r 5,.r 6,.r 7,.d true (.int .i64),.r 8,.d true (.sl false .bool),.d true (.int .i64),.row,.sl .bool,.sl (.sl false (.int .i64)),.sl (.int .i64),.sl (.st 6),.mp (.int .i64) (.int .i64),.sl (.st 8),.sl (.int .i64),.sl (.st 9)] [(some 4,[.ld 0 false,.ptr 0 0,.slot 0 false,.ld 8 false,.d true (.int .i64),.slot 8 false,.pr (.st 10)])]),(29,.j [.ld 0 false,.ptr 0 0,.slot 0 false,.ld 8 false,.d true (.int .i64),.slot 8 false,.ld 9 false,.d true (.int .i64),.slot 9 false,.ld 81 false,.r 1,.slot 81 false,.ld 83 false,.d true (.int .i64),.slot 83 false,.ld 101 false,.d true .bool,.slot 101 false,.ldr,.d true (.sl false (.st 2)),.d true (.sl false (.st 1)),.d true (.sl false .bool),.r 2,.r 1,.r 3,.r 4,.r 5,.r 6,.r 7,.d true (.int .i64),.r 8,.d true (.sl false .bool),.d true (.int .i64),.row,.sl .bool,.sl (.sl false (.int .i64)),.sl (.int .i64),.sl (.st 6),.mp (.int .i64) (.int .i64),.sl (.st 8),.sl (.int .i64),.sl (.st 9)])]
def Ee:List (Nat×VT):=[(17,(.mp (.int .i64) (.int .i64)))]
def AP:Int×TEngine→Option (Int×TEngine):=fun (x:Int×TEngine)=>
  (fm { n:=x.snd.n,mine:=x.snd.mine,near:=x.snd.near,ready:=x.snd.ready,marks:=x.snd.marks,wait:=x.snd.wait,in_:=some [],log:=x.snd.log,way:=x.snd.way,time:=x.fst,out:=x.snd.out,away:=x.snd.away,count:=x.snd.count }).bind fun (x1:Int×Int×Int×Int×Bool×TEngine)=>
    (aq
          (fun (x2:Bool×Bool×TEngine×TKey)=>
            (if x2.snd.fst=true then some (Sum.inl (x2.fst,decide (x2.snd.snd.snd.Time≤x.fst),x2.snd.snd.fst,x2.snd.snd.snd)) else some (Sum.inl (x2.fst,false,x2.snd.snd.fst,x2.snd.snd.snd))).bind fun (x3:Bool×Bool×TEngine×TKey⊕Bool×Bool×TEngine×TKey⊕Bool×TEngine)=>
              match x3 with
              | Sum.inl x=>
                if x.snd.fst=true then
                  ((jK x.snd.snd.fst).bind fun (x5:Int×Int×Int×Int×Bool×TEngine)=>(idx x5.snd.snd.snd.snd.snd.way x.snd.snd.snd.ID).bind fun (n6:Int)=>(idx x5.snd.snd.snd.snd.snd.way x.snd.snd.snd.ID).bind fun (n7:Int)=>(yi (x.snd.snd.snd.ID,x.snd.snd.snd.Prio,x5.snd.snd.snd.snd.snd.marks)).bind fun (x8:Bool×List Int)=>if (!x8.fst)=true then (tQ (x.snd.snd.snd.ID,{ n:=x5.snd.snd.snd.snd.snd.n,mine:=x5.snd.snd.snd.snd.snd.mine,near:=x5.snd.snd.snd.snd.snd.near,ready:=x5.snd.snd.snd.snd.snd.ready,marks:=x8.snd,wait:=x5.snd.snd.snd.snd.snd.wait,in_:=x5.snd.snd.snd.snd.snd.in_,log:=x5.snd.snd.snd.snd.snd.log,way:=x5.snd.snd.snd.snd.snd.way.set x.snd.snd.snd.ID.toNat (IntKind.i64.wrap (n6 - x.snd.snd.snd.Prio)),time:=x5.snd.snd.snd.snd.snd.time,out:=x5.snd.snd.snd.snd.snd.out,away:=x5.snd.snd.snd.snd.snd.away,count:=x5.snd.snd.snd.snd.snd.count })).bind fun (x9:TEngine)=>some (Sum.inl (true,x9,x.snd.snd.snd)) else (tQ (x.snd.snd.snd.ID,{ n:=x5.snd.snd.snd.snd.snd.n,mine:=x5.snd.snd.snd.snd.snd.mine,near:=x5.snd.snd.snd.snd.snd.near,ready:=x5.snd.snd.snd.snd.snd.ready,marks:=x8.snd,wait:=x5.snd.snd.snd.snd.snd.wait,in_:=x5.snd.snd.snd.snd.snd.in_,log:=x5.snd.snd.snd.snd.snd.log,way:=x5.snd.snd.snd.snd.snd.way.set x.snd.snd.snd.ID.toNat (IntKind.i64.wrap (n6 - x.snd.snd.snd.Prio)),time:=x5.snd.snd.snd.snd.snd.time,out:=x5.snd.snd.snd.snd.snd.out,away:=x5.snd.snd.snd.snd.snd.away,count:=x5.snd.snd.snd.snd.snd.count })).bind fun (x9:TEngine)=>some (Sum.inl (x.fst,x9,x.snd.snd.snd))).bind fun (x5:Bool×TEngine×TKey⊕Bool×Bool×TEngine×TKey⊕Bool×TEngine)=>
                    match x5 with
                    | Sum.inl x=>(fm x.snd.fst).bind fun (x7:Int×Int×Int×Int×Bool×TEngine)=>some (Sum.inl (x.fst,x7.snd.snd.snd.snd.fst,x7.snd.snd.snd.snd.snd,{ Time:=x7.fst,Prio:=x7.snd.fst,ID:=x7.snd.snd.fst,N:=x7.snd.snd.snd.fst }))
                    | Sum.inr r=>some r
                else some (Sum.inr (x.fst,x.snd.snd.fst))
              | Sum.inr r=>some r)
          (false,x1.snd.snd.snd.snd.fst,x1.snd.snd.snd.snd.snd,{ Time:=x1.fst,Prio:=x1.snd.fst,ID:=x1.snd.snd.fst,N:=x1.snd.snd.snd.fst })).bind
      fun (x2:Bool×TEngine)=>
      if x2.fst=true then some (3,x2.snd)
      else
        (aq
              (fun (x3:Int×TEngine)=>
                (aq
                      (fun (x4:Int×Int×List TPlace×List TTrans×List Bool×Int×List Bool×Int×List Bool×List (List Int)×List Int×List TKey×Option (List (Int×Int))×List TFire×List Int×List TEvent)=>
                        if x4.snd.fst < (↑x3.snd.ready.length:Int) then
                          (idx x4.snd.snd.snd.snd.snd.snd.snd.snd.fst x4.snd.fst).bind fun (b5:Bool)=>
                            (if b5=true then if x4.fst < 0 then some (Sum.inl (x4.fst,x4.snd.fst,x4.snd.fst,true,x4.snd.snd.fst,x4.snd.snd.snd.fst,x4.snd.snd.snd.snd.fst,x4.snd.snd.snd.snd.snd.fst,x4.snd.snd.snd.snd.snd.snd.fst,x4.snd.snd.snd.snd.snd.snd.snd.fst,x4.snd.snd.snd.snd.snd.snd.snd.snd.fst,x4.snd.snd.snd.snd.snd.snd.snd.snd.snd.fst,x4.snd.snd.snd.snd.snd.snd.snd.snd.snd.snd.fst,x4.snd.snd.snd.snd.snd.snd.snd.snd.snd.snd.snd.fst,x4.snd.snd.snd.snd.snd.snd.snd.snd.snd.snd.snd.snd.fst,x4.snd.snd.snd.snd.snd.snd.snd.snd.snd.snd.snd.snd.snd.fst,x4.snd.snd.snd.snd.snd.snd.snd.snd.snd.snd.snd.snd.snd.snd.fst,x4.snd.snd.snd.snd.snd.snd.snd.snd.snd.snd.snd.snd.snd.snd.snd)) else (Az (x4.snd.snd.fst,x4.snd.snd.snd.fst,x4.snd.fst,x4.fst)).bind fun (b6:Bool)=>some (Sum.inl (x4.fst,x4.snd.fst,x4.snd.fst,b6,x4.snd.snd.fst,x4.snd.snd.snd.fst,x4.snd.snd.snd.snd.fst,x4.snd.snd.snd.snd.snd.fst,x4.snd.snd.snd.snd.snd.snd.fst,x4.snd.snd.snd.snd.snd.snd.snd.fst,x4.snd.snd.snd.snd.snd.snd.snd.snd.fst,x4.snd.snd.snd.snd.snd.snd.snd.snd.snd.fst,x4.snd.snd.snd.snd.snd.snd.snd.snd.snd.snd.fst,x4.snd.snd.snd.snd.snd.snd.snd.snd.snd.snd.snd.fst,x4.snd.snd.snd.snd.snd.snd.snd.snd.snd.snd.snd.snd.fst,x4.snd.snd.snd.snd.snd.snd.snd.snd.snd.snd.snd.snd.snd.fst,x4.snd.snd.snd.snd.snd.snd.snd.snd.snd.snd.snd.snd.snd.snd.fst,x4.snd.snd.snd.snd.snd.snd.snd.snd.snd.snd.snd.snd.snd.snd.snd)) else some (Sum.inl (x4.fst,x4.snd.fst,x4.snd.fst,false,x4.snd.snd.fst,x4.snd.snd.snd.fst,x4.snd.snd.snd.snd.fst,x4.snd.snd.snd.snd.snd.fst,x4.snd.snd.snd.snd.snd.snd.fst,x4.snd.snd.snd.snd.snd.snd.snd.fst,x4.snd.snd.snd.snd.snd.snd.snd.snd.fst,x4.snd.snd.snd.snd.snd.snd.snd.snd.snd.fst,x4.snd.snd.snd.snd.snd.snd.snd.snd.snd.snd.fst,x4.snd.snd.snd.snd.snd.snd.snd.snd.snd.snd.snd.fst,x4.snd.snd.snd.snd.snd.snd.snd.snd.snd.snd.snd.snd.fst,x4.snd.snd.snd.snd.snd.snd.snd.snd.snd.snd.snd.snd.snd.fst,x4.snd.snd.snd.snd.snd.snd.snd.snd.snd.snd.snd.snd.snd.snd.fst,x4.snd.snd.snd.snd.snd.snd.snd.snd.snd.snd.snd.snd.snd.snd.snd))).bind fun (x6:Int×Int×Int×Bool×List TPlace×List TTrans×List Bool×Int×List Bool×Int×List Bool×List (List Int)×List Int×List TKey×Option (List (Int×Int))×List TFire×List Int×List TEvent⊕Int×Int×List TPlace×List TTrans×List Bool×Int×List Bool×Int×List Bool×List (List Int)×List Int×List TKey×Option (List (Int×Int))×List TFire×List Int×List TEvent⊕Int×TEngine)=>
                              match x6 with
                              | Sum.inl x=>if x.snd.snd.snd.fst=true then some (Sum.inl (x.snd.fst,IntKind.i64.wrap (x.snd.snd.fst+1),x.snd.snd.snd.snd.fst,x.snd.snd.snd.snd.snd.fst,x.snd.snd.snd.snd.snd.snd.fst,x.snd.snd.snd.snd.snd.snd.snd.fst,x.snd.snd.snd.snd.snd.snd.snd.snd.fst,x.snd.snd.snd.snd.snd.snd.snd.snd.snd.fst,x.snd.snd.snd.snd.snd.snd.snd.snd.snd.snd.fst,x.snd.snd.snd.snd.snd.snd.snd.snd.snd.snd.snd.fst,x.snd.snd.snd.snd.snd.snd.snd.snd.snd.snd.snd.snd.fst,x.snd.snd.snd.snd.snd.snd.snd.snd.snd.snd.snd.snd.snd.fst,x.snd.snd.snd.snd.snd.snd.snd.snd.snd.snd.snd.snd.snd.snd.fst,x.snd.snd.snd.snd.snd.snd.snd.snd.snd.snd.snd.snd.snd.snd.snd.fst,x.snd.snd.snd.snd.snd.snd.snd.snd.snd.snd.snd.snd.snd.snd.snd.snd.fst,x.snd.snd.snd.snd.snd.snd.snd.snd.snd.snd.snd.snd.snd.snd.snd.snd.snd)) else some (Sum.inl (x.fst,IntKind.i64.wrap (x.snd.snd.fst+1),x.snd.snd.snd.snd.fst,x.snd.snd.snd.snd.snd.fst,x.snd.snd.snd.snd.snd.snd.fst,x.snd.snd.snd.snd.snd.snd.snd.fst,x.snd.snd.snd.snd.snd.snd.snd.snd.fst,x.snd.snd.snd.snd.snd.snd.snd.snd.snd.fst,x.snd.snd.snd.snd.snd.snd.snd.snd.snd.snd.fst,x.snd.snd.snd.snd.snd.snd.snd.snd.snd.snd.snd.fst,x.snd.snd.snd.snd.snd.snd.snd.snd.snd.snd.snd.snd.fst,x.snd.snd.snd.snd.snd.snd.snd.snd.snd.snd.snd.snd.snd.fst,x.snd.snd.snd.snd.snd.snd.snd.snd.snd.snd.snd.snd.snd.snd.fst,x.snd.snd.snd.snd.snd.snd.snd.snd.snd.snd.snd.snd.snd.snd.snd.fst,x.snd.snd.snd.snd.snd.snd.snd.snd.snd.snd.snd.snd.snd.snd.snd.snd.fst,x.snd.snd.snd.snd.snd.snd.snd.snd.snd.snd.snd.snd.snd.snd.snd.snd.snd))
                              | Sum.inr r=>some r
                        else some (Sum.inr (x4.fst,{ n:={ Places:=x4.snd.snd.fst,Trans:=x4.snd.snd.snd.fst },mine:=x4.snd.snd.snd.snd.fst,near:=x4.snd.snd.snd.snd.snd.snd.snd.snd.snd.fst,ready:=x4.snd.snd.snd.snd.snd.snd.snd.snd.fst,marks:=x4.snd.snd.snd.snd.snd.snd.snd.snd.snd.snd.fst,wait:={ l:=x4.snd.snd.snd.snd.snd.snd.snd.snd.snd.snd.snd.fst },in_:=x4.snd.snd.snd.snd.snd.snd.snd.snd.snd.snd.snd.snd.fst,log:=x4.snd.snd.snd.snd.snd.snd.snd.snd.snd.snd.snd.snd.snd.fst,way:=x4.snd.snd.snd.snd.snd.snd.snd.snd.snd.snd.snd.snd.snd.snd.fst,time:=x4.snd.snd.snd.snd.snd.fst,out:=x4.snd.snd.snd.snd.snd.snd.snd.snd.snd.snd.snd.snd.snd.snd.snd,away:=x4.snd.snd.snd.snd.snd.snd.fst,count:=x4.snd.snd.snd.snd.snd.snd.snd.fst })))
                      (-1,0,x3.snd.n.Places,x3.snd.n.Trans,x3.snd.mine,x3.snd.time,x3.snd.away,x3.snd.count,x3.snd.ready,x3.snd.near,x3.snd.marks,x3.snd.wait.l,x3.snd.in_,x3.snd.log,x3.snd.way,x3.snd.out)).bind
                  fun (x4:Int×TEngine)=>if x4.fst < 0 then some (Sum.inr (0,x4.snd)) else (As (x4.fst,x4.snd)).bind fun (x5:Int×TEngine)=>if (!decide (x5.fst=0))=true then some (Sum.inr (x5.fst,x5.snd)) else some (Sum.inl (x3.fst,x5.snd)))
              (0,x2.snd)).bind
          fun (x3:Int×TEngine)=>some (x3.fst,x3.snd)
theorem Dg:vfn (T:=tE) lpK Ee (bn [ju,qn,AI,Ax,Cd,Cp]) BV pW.res (vOf pW.code Eg)=AP:=by kernel_rfl
abbrev CA:En tE:=⟨127,[],BV,AP⟩
theorem Em:aC F tE 127 BV 2 AP:=by
 rw [← Dg]
 exact au (fn:=pW) (aa (en:=ju) (aa (en:=qn) (aa (en:=AI) (aa (en:=Ax) (aa (en:=Cd) (aa (en:=Cp) ag DK rfl) Dz rfl) Ct rfl) CB rfl) wM rfl) ri rfl) rfl (by kernel_rfl)
def Bf:FSp:=⟨[(false,[.ptr 0 0])],[.pr (.st 10)],[0],[.ld 0 false,.r 0,.slot 0 false,.ld 1 false,.ptr 1 0,.slot 1 false,.sl (.st 9),.pr (.st 10)]⟩
def De:List (Nat×Lb):=[]
def DI:List (Nat×VT):=[]
def Ar:TEngine→Option (List TEvent×TEngine):=fun (x:TEngine)=>some (x.out,{ n:=x.n,mine:=x.mine,near:=x.near,ready:=x.ready,marks:=x.marks,wait:=x.wait,in_:=x.in_,log:=x.log,way:=x.way,time:=x.time,out:=[],away:=x.away,count:=x.count })
theorem Eh:vfn (T:=tE) lpK DI (bn []) Bf qo.res (vOf qo.code De)=Ar:=by kernel_rfl
abbrev Cw:En tE:=⟨130,[],Bf,Ar⟩
theorem Dr:aC F tE 130 Bf 1 Ar:=by
 rw [← Eh]
 exact au (fn:=qo) ag rfl (by kernel_rfl)
def q17:FSp:=⟨[(false,[.ptr 0 0])],[.pr (.st 11)],[0],[.ld 0 false,.r 0,.slot 0 false,.ld 1 false,.d true (.int .i64),.slot 1 false,.ld 2 false,.ptr 1 0,.slot 2 false,.sl (.st 12),.pr (.st 11)]⟩
def L17:List (Nat×Lb):=[(5,.j [.ld 0 false,.ptr 0 0,.slot 0 false,.ld 4 false,.r 1,.slot 4 false,.pr (.st 11),.sl (.st 12)]),(14,.l [.ld 36 false,.d true (.int .i64),.slot 36 false] [.ld 0 false,.ptr 0 0,.slot 0 false,.ld 4 false,.r 1,.slot 4 false,.ld 35 false,.r 2,.slot 35 false,.ld 37 false,.d true (.int .i64),.slot 37 false,.pr (.st 11),.sl (.st 12),.sl (.st 9)] [(some 0,[.ld 0 false,.ptr 0 0,.slot 0 false,.ld 4 false,.r 1,.slot 4 false,.pr (.st 11),.sl (.st 12)])]),(21,.l [.ld 64 false,.d true (.int .i64),.slot 64 false] [.ld 0 false,.ptr 0 0,.slot 0 false,.ld 4 false,.r 1,.slot 4 false,.ld 63 false,.r 2,.slot 63 false,.ld 65 false,.d true (.int .i64),.slot 65 false,.ldr,.d true (.int .i64),.r 3,.d true (.int .i64),.d true (.sl false (.int .i64)),.d true (.sl false (.int .i64)),.r 4,.r 2,.r 5,.r 6,.d true (.int .i64),.d true .bool,.d true .bool,.row,.sl (.st 12),.sl (.st 5),.io 101 (.st 10),.sl (.st 5),.sl (.int .i64),.sl (.int .i64)] [(some 2,[.ld 0 false,.ptr 0 0,.slot 0 false,.ld 4 false,.r 1,.slot 4 false,.pr (.st 11),.sl (.st 12)])])]
def H17:List (Nat×VT):=[(57,(.st 12)),(97,(.st 12))]
def p17:TProcess→Option (Int×List TMail×TProcess):=fun (x:TProcess)=>
  (p16 x).bind fun (b1:Bool)=>
    if (!b1)=true then some (0,[],x)
    else
      ((p39 x).bind fun (b2:Bool)=>if b2=true then (p42 x).bind fun (n3:Int)=>x.x.bind fun (x4:TEngine)=>(AP (n3,x4)).bind fun (x5:Int×TEngine)=>if (!decide (x5.fst=0))=true then Option.map (fun (x6:Int×List TMail×TProcess)=>Sum.inr x6) (some (x5.fst,[],{ id:=x.id,x:=some x5.snd,p:=x.p,in_:=x.in_,out:=x.out,clocks:=x.clocks,sent:=x.sent,horizon:=x.horizon,began:=true,done:=x.done })) else (Ar x5.snd).bind fun (x6:List TEvent×TEngine)=>(aq (fun (x7:Int×TProcess×List TMail×List TEvent)=>if x7.fst < (↑x6.fst.length:Int) then (idx x7.snd.snd.snd x7.fst).bind fun (x8:TEvent)=>(idx x7.snd.fst.p.Places x8.Place).bind fun (n9:Int)=>(app 40 x7.snd.snd.fst [{ From:=x7.snd.fst.id,To:=n9,E:=x8 }]).bind fun (l10:List TMail)=>some (Sum.inl (IntKind.i64.wrap (x7.fst+1),x7.snd.fst,l10,x7.snd.snd.snd)) else some (Sum.inr (x7.snd.fst,x7.snd.snd.fst))) (0,{ id:=x.id,x:=some x6.snd,p:=x.p,in_:=x.in_,out:=x.out,clocks:=x.clocks,sent:=x.sent,horizon:=x.horizon,began:=true,done:=x.done },[],x6.fst)).bind fun (x7:TProcess×List TMail)=>some (Sum.inl (x7.fst,x7.snd)) else some (Sum.inl (x,[]))).bind fun (x2:TProcess×List TMail⊕Int×List TMail×TProcess)=>
        match x2 with
        | Sum.inl x=>(aq (fun (x4:Int×Int×Int×List Int×List Int×Int×Bool×Bool×List TMail×List TLane×Option TEngine×List TLane×List Int×List Int)=>if x4.fst < (↑x.fst.out.length:Int) then (idx x4.snd.snd.snd.snd.snd.snd.snd.snd.snd.fst x4.fst).bind fun (x5:TLane)=>(p41 ({ id:=x4.snd.fst,x:=x4.snd.snd.snd.snd.snd.snd.snd.snd.snd.snd.fst,p:={ N:=x4.snd.snd.fst,Places:=x4.snd.snd.snd.fst,Trans:=x4.snd.snd.snd.snd.fst },in_:=x4.snd.snd.snd.snd.snd.snd.snd.snd.snd.snd.snd.fst,out:=x4.snd.snd.snd.snd.snd.snd.snd.snd.snd.fst,clocks:=x4.snd.snd.snd.snd.snd.snd.snd.snd.snd.snd.snd.snd.fst,sent:=x4.snd.snd.snd.snd.snd.snd.snd.snd.snd.snd.snd.snd.snd,horizon:=x4.snd.snd.snd.snd.snd.fst,began:=x4.snd.snd.snd.snd.snd.snd.fst,done:=x4.snd.snd.snd.snd.snd.snd.snd.fst },x5.From,x5.To,x5.Ahead)).bind fun (n6:Int)=>(idx x4.snd.snd.snd.snd.snd.snd.snd.snd.snd.snd.snd.snd.snd x4.fst).bind fun (n7:Int)=>if n7 < n6 then (idx x4.snd.snd.snd.snd.snd.snd.snd.snd.snd.snd.snd.snd.snd x4.fst).bind fun (n8:Int)=>(app 40 x4.snd.snd.snd.snd.snd.snd.snd.snd.fst [{ From:=x5.From,To:=x5.To,E:={ Time:=n6,Place:=0,N:=0 } }]).bind fun (l9:List TMail)=>some (Sum.inl (IntKind.i64.wrap (x4.fst+1),x4.snd.fst,x4.snd.snd.fst,x4.snd.snd.snd.fst,x4.snd.snd.snd.snd.fst,x4.snd.snd.snd.snd.snd.fst,x4.snd.snd.snd.snd.snd.snd.fst,x4.snd.snd.snd.snd.snd.snd.snd.fst,l9,x4.snd.snd.snd.snd.snd.snd.snd.snd.snd.fst,x4.snd.snd.snd.snd.snd.snd.snd.snd.snd.snd.fst,x4.snd.snd.snd.snd.snd.snd.snd.snd.snd.snd.snd.fst,x4.snd.snd.snd.snd.snd.snd.snd.snd.snd.snd.snd.snd.fst,x4.snd.snd.snd.snd.snd.snd.snd.snd.snd.snd.snd.snd.snd.set x4.fst.toNat n6)) else some (Sum.inl (IntKind.i64.wrap (x4.fst+1),x4.snd.fst,x4.snd.snd.fst,x4.snd.snd.snd.fst,x4.snd.snd.snd.snd.fst,x4.snd.snd.snd.snd.snd.fst,x4.snd.snd.snd.snd.snd.snd.fst,x4.snd.snd.snd.snd.snd.snd.snd.fst,x4.snd.snd.snd.snd.snd.snd.snd.snd.fst,x4.snd.snd.snd.snd.snd.snd.snd.snd.snd.fst,x4.snd.snd.snd.snd.snd.snd.snd.snd.snd.snd.fst,x4.snd.snd.snd.snd.snd.snd.snd.snd.snd.snd.snd.fst,x4.snd.snd.snd.snd.snd.snd.snd.snd.snd.snd.snd.snd.fst,x4.snd.snd.snd.snd.snd.snd.snd.snd.snd.snd.snd.snd.snd)) else some (Sum.inr ({ id:=x4.snd.fst,x:=x4.snd.snd.snd.snd.snd.snd.snd.snd.snd.snd.fst,p:={ N:=x4.snd.snd.fst,Places:=x4.snd.snd.snd.fst,Trans:=x4.snd.snd.snd.snd.fst },in_:=x4.snd.snd.snd.snd.snd.snd.snd.snd.snd.snd.snd.fst,out:=x4.snd.snd.snd.snd.snd.snd.snd.snd.snd.fst,clocks:=x4.snd.snd.snd.snd.snd.snd.snd.snd.snd.snd.snd.snd.fst,sent:=x4.snd.snd.snd.snd.snd.snd.snd.snd.snd.snd.snd.snd.snd,horizon:=x4.snd.snd.snd.snd.snd.fst,began:=x4.snd.snd.snd.snd.snd.snd.fst,done:=x4.snd.snd.snd.snd.snd.snd.snd.fst },x4.snd.snd.snd.snd.snd.snd.snd.snd.fst))) (0,x.fst.id,x.fst.p.N,x.fst.p.Places,x.fst.p.Trans,x.fst.horizon,x.fst.began,x.fst.done,x.snd,x.fst.out,x.fst.x,x.fst.in_,x.fst.clocks,x.fst.sent)).bind fun (x4:TProcess×List TMail)=>(p40 x4.fst).bind fun (b5:Bool)=>some (0,x4.snd,{ id:=x4.fst.id,x:=x4.fst.x,p:=x4.fst.p,in_:=x4.fst.in_,out:=x4.fst.out,clocks:=x4.fst.clocks,sent:=x4.fst.sent,horizon:=x4.fst.horizon,began:=x4.fst.began,done:=b5 })
        | Sum.inr r=>some r
theorem e17:vfn (T:=tE) lpK H17 (bn [n16,n39,n42,CA,Cw,n41,n40]) q17 zt.res (vOf zt.code L17)=p17:=by kernel_rfl
abbrev n17:En tE:=⟨17,[],q17,p17⟩
theorem o17:aC F tE 17 q17 1 p17:=by
 rw [← e17]
 exact au (fn:=zt) (aa (en:=n16) (aa (en:=n39) (aa (en:=n42) (aa (en:=CA) (aa (en:=Cw) (aa (en:=n41) (aa (en:=n40) ag o40 rfl) o41 rfl) Dr rfl) Em rfl) o42 rfl) o39 rfl) o16 rfl) rfl (by kernel_rfl)
def q18:FSp:=⟨[(false,[.e false (.st 11) 0])],[],[],[.ld 0 false,.d true .bool,.slot 0 false]⟩
def L18:List (Nat×Lb):=[]
def H18:List (Nat×VT):=[]
def p18:TProcess→Option Bool:=fun (x:TProcess)=>some x.done
theorem e18:vfn (T:=tE) lpK H18 (bn []) q18 Ae.res (vOf Ae.code L18)=p18:=by kernel_rfl
abbrev n18:En tE:=⟨18,[],q18,p18⟩
theorem o18:aC F tE 18 q18 1 p18:=by
 rw [← e18]
 exact au (fn:=Ae) ag rfl (by kernel_rfl)
def Bu:FSp:=⟨[(false,[.e false (.st 10) 0])],[],[],[.ld 0 true,.r 0,.r 1,.r 2,.d true (.int .i64),.slot 0 true,.sl (.st 8),.sl (.int .i64),.sl (.int .i64)]⟩
def CF:List (Nat×Lb):=[]
def C4:List (Nat×VT):=[]
def AE:TEngine→Option (Int×List TFire×List Int×List Int):=fun (x:TEngine)=>(app 16 [] x.log).bind fun (l1:List TFire)=>(app 8 [] x.marks).bind fun (l2:List Int)=>(app 8 [] x.way).bind fun (l3:List Int)=>some (x.time,l1,l2,l3)
theorem DV:vfn (T:=tE) lpK C4 (bn []) Bu qX.res (vOf qX.code CF)=AE:=by kernel_rfl
abbrev Cq:En tE:=⟨129,[],Bu,AE⟩
theorem Di:aC F tE 129 Bu 1 AE:=by
 rw [← DV]
 exact au (fn:=qX) ag rfl (by kernel_rfl)
def q20:FSp:=⟨[(false,[.e false (.st 11) 0])],[],[],[.ld 0 true,.r 0,.r 1,.r 2,.d true (.int .i64),.slot 0 true,.sl (.st 8),.sl (.int .i64),.sl (.int .i64)]⟩
def L20:List (Nat×Lb):=[]
def H20:List (Nat×VT):=[]
def p20:TProcess→Option (Int×List TFire×List Int×List Int):=fun (x:TProcess)=>x.x.bind fun (x1:TEngine)=>(AE x1).bind fun (x2:Int×List TFire×List Int×List Int)=>some (x2.fst,x2.snd.fst,x2.snd.snd.fst,x2.snd.snd.snd)
theorem e20:vfn (T:=tE) lpK H20 (bn [Cq]) q20 yr.res (vOf yr.code L20)=p20:=by kernel_rfl
abbrev n20:En tE:=⟨20,[],q20,p20⟩
theorem o20:aC F tE 20 q20 1 p20:=by
 rw [← e20]
 exact au (fn:=yr) (aa (en:=Cq) ag Di rfl) rfl (by kernel_rfl)
def q22:FSp:=⟨[(false,[.ptr 0 0]),(true,[.d true (.int .i64),.d true (.int .i64),.d true (.int .i64),.d true (.int .i64),.d true (.int .i64)])],[.pr (.st 11)],[0],[.ld 0 false,.ptr 0 0,.slot 0 false,.pr (.st 11)]⟩
def L22:List (Nat×Lb):=[(7,.l [.ld 23 false,.d true (.int .i64),.slot 23 false] [.ld 0 false,.ptr 0 0,.slot 0 false,.ld 3 false,.ptr 1 0,.slot 3 false,.ld 22 false,.r 2,.slot 22 false,.ld 24 false,.d true (.int .i64),.slot 24 false,.ldr,.d true (.int .i64),.r 3,.d true (.int .i64),.d true (.sl false (.int .i64)),.d true (.sl false (.int .i64)),.r 2,.r 4,.r 5,.r 6,.d true (.int .i64),.d true .bool,.d true .bool,.row,.pr (.st 12),.sl (.st 5),.io 101 (.st 10),.sl (.st 5),.sl (.int .i64),.sl (.int .i64)] [(some 0,[.ld 0 false,.ptr 0 0,.slot 0 false,.pr (.st 11)])]),(12,.j [.ld 0 false,.ptr 0 0,.slot 0 false,.ld 3 false,.ptr 1 0,.slot 3 false,.ld 4 false,.d true (.int .i64),.slot 4 false,.ld 22 false,.r 2,.slot 22 false,.ld 24 false,.d true (.int .i64),.slot 24 false,.ld 40 false,.d true .bool,.slot 40 false,.ldr,.d true (.int .i64),.r 3,.d true (.int .i64),.d true (.sl false (.int .i64)),.d true (.sl false (.int .i64)),.r 2,.r 4,.r 5,.r 6,.d true (.int .i64),.d true .bool,.d true .bool,.row,.pr (.st 12),.sl (.st 5),.io 101 (.st 10),.sl (.st 5),.sl (.int .i64),.sl (.int .i64)])]
def H22:List (Nat×VT):=[]
def p22:Int×Int×Int×Int×Int×TProcess→Option TProcess:=fun (x:Int×Int×Int×Int×Int×TProcess)=>
  if 0 < x.snd.snd.snd.snd.fst then x.snd.snd.snd.snd.snd.x.bind fun (x1:TEngine)=>(zL (x.snd.snd.fst,x.snd.snd.snd.fst,x.snd.snd.snd.snd.fst,x1)).bind fun (x2:TEngine)=>some { id:=x.snd.snd.snd.snd.snd.id,x:=some x2,p:=x.snd.snd.snd.snd.snd.p,in_:=x.snd.snd.snd.snd.snd.in_,out:=x.snd.snd.snd.snd.snd.out,clocks:=x.snd.snd.snd.snd.snd.clocks,sent:=x.snd.snd.snd.snd.snd.sent,horizon:=x.snd.snd.snd.snd.snd.horizon,began:=x.snd.snd.snd.snd.snd.began,done:=x.snd.snd.snd.snd.snd.done }
  else
    (aq
          (fun (x1:Int×Int×Int×List Int×List Int×Int×Bool×Bool×TMail×List TLane×Option TEngine×List TLane×List Int×List Int)=>
            if x1.fst < (↑x.snd.snd.snd.snd.snd.in_.length:Int) then
              (idx x1.snd.snd.snd.snd.snd.snd.snd.snd.snd.fst x1.fst).bind fun (x2:TLane)=>
                (if x2.From=x1.snd.snd.snd.snd.snd.snd.snd.snd.fst.From then some (Sum.inl (x1.fst,x1.fst,decide (x2.To=x1.snd.snd.snd.snd.snd.snd.snd.snd.fst.To),x1.snd.fst,x1.snd.snd.fst,x1.snd.snd.snd.fst,x1.snd.snd.snd.snd.fst,x1.snd.snd.snd.snd.snd.fst,x1.snd.snd.snd.snd.snd.snd.fst,x1.snd.snd.snd.snd.snd.snd.snd.fst,x1.snd.snd.snd.snd.snd.snd.snd.snd.fst,x1.snd.snd.snd.snd.snd.snd.snd.snd.snd.fst,x1.snd.snd.snd.snd.snd.snd.snd.snd.snd.snd.fst,x1.snd.snd.snd.snd.snd.snd.snd.snd.snd.snd.snd.fst,x1.snd.snd.snd.snd.snd.snd.snd.snd.snd.snd.snd.snd.fst,x1.snd.snd.snd.snd.snd.snd.snd.snd.snd.snd.snd.snd.snd)) else some (Sum.inl (x1.fst,x1.fst,false,x1.snd.fst,x1.snd.snd.fst,x1.snd.snd.snd.fst,x1.snd.snd.snd.snd.fst,x1.snd.snd.snd.snd.snd.fst,x1.snd.snd.snd.snd.snd.snd.fst,x1.snd.snd.snd.snd.snd.snd.snd.fst,x1.snd.snd.snd.snd.snd.snd.snd.snd.fst,x1.snd.snd.snd.snd.snd.snd.snd.snd.snd.fst,x1.snd.snd.snd.snd.snd.snd.snd.snd.snd.snd.fst,x1.snd.snd.snd.snd.snd.snd.snd.snd.snd.snd.snd.fst,x1.snd.snd.snd.snd.snd.snd.snd.snd.snd.snd.snd.snd.fst,x1.snd.snd.snd.snd.snd.snd.snd.snd.snd.snd.snd.snd.snd))).bind fun (x3:Int×Int×Bool×Int×Int×List Int×List Int×Int×Bool×Bool×TMail×List TLane×Option TEngine×List TLane×List Int×List Int⊕Int×Int×Int×List Int×List Int×Int×Bool×Bool×TMail×List TLane×Option TEngine×List TLane×List Int×List Int⊕TProcess)=>
                  match x3 with
                  | Sum.inl x=>if x.snd.snd.fst=true then (idx x.snd.snd.snd.snd.snd.snd.snd.snd.snd.snd.snd.snd.snd.snd.fst x.fst).bind fun (n5:Int)=>(idx x.snd.snd.snd.snd.snd.snd.snd.snd.snd.snd.snd.snd.snd.snd.fst x.fst).bind fun (n6:Int)=>some (Sum.inl (IntKind.i64.wrap (x.snd.fst+1),x.snd.snd.snd.fst,x.snd.snd.snd.snd.fst,x.snd.snd.snd.snd.snd.fst,x.snd.snd.snd.snd.snd.snd.fst,x.snd.snd.snd.snd.snd.snd.snd.fst,x.snd.snd.snd.snd.snd.snd.snd.snd.fst,x.snd.snd.snd.snd.snd.snd.snd.snd.snd.fst,x.snd.snd.snd.snd.snd.snd.snd.snd.snd.snd.fst,x.snd.snd.snd.snd.snd.snd.snd.snd.snd.snd.snd.fst,x.snd.snd.snd.snd.snd.snd.snd.snd.snd.snd.snd.snd.fst,x.snd.snd.snd.snd.snd.snd.snd.snd.snd.snd.snd.snd.snd.fst,x.snd.snd.snd.snd.snd.snd.snd.snd.snd.snd.snd.snd.snd.snd.fst.set x.fst.toNat (if n5 < x.snd.snd.snd.snd.snd.snd.snd.snd.snd.snd.fst.E.Time then x.snd.snd.snd.snd.snd.snd.snd.snd.snd.snd.fst.E.Time else n5),x.snd.snd.snd.snd.snd.snd.snd.snd.snd.snd.snd.snd.snd.snd.snd)) else some (Sum.inl (IntKind.i64.wrap (x.snd.fst+1),x.snd.snd.snd.fst,x.snd.snd.snd.snd.fst,x.snd.snd.snd.snd.snd.fst,x.snd.snd.snd.snd.snd.snd.fst,x.snd.snd.snd.snd.snd.snd.snd.fst,x.snd.snd.snd.snd.snd.snd.snd.snd.fst,x.snd.snd.snd.snd.snd.snd.snd.snd.snd.fst,x.snd.snd.snd.snd.snd.snd.snd.snd.snd.snd.fst,x.snd.snd.snd.snd.snd.snd.snd.snd.snd.snd.snd.fst,x.snd.snd.snd.snd.snd.snd.snd.snd.snd.snd.snd.snd.fst,x.snd.snd.snd.snd.snd.snd.snd.snd.snd.snd.snd.snd.snd.fst,x.snd.snd.snd.snd.snd.snd.snd.snd.snd.snd.snd.snd.snd.snd.fst,x.snd.snd.snd.snd.snd.snd.snd.snd.snd.snd.snd.snd.snd.snd.snd))
                  | Sum.inr r=>some r
            else some (Sum.inr { id:=x1.snd.fst,x:=x1.snd.snd.snd.snd.snd.snd.snd.snd.snd.snd.fst,p:={ N:=x1.snd.snd.fst,Places:=x1.snd.snd.snd.fst,Trans:=x1.snd.snd.snd.snd.fst },in_:=x1.snd.snd.snd.snd.snd.snd.snd.snd.snd.fst,out:=x1.snd.snd.snd.snd.snd.snd.snd.snd.snd.snd.snd.fst,clocks:=x1.snd.snd.snd.snd.snd.snd.snd.snd.snd.snd.snd.snd.fst,sent:=x1.snd.snd.snd.snd.snd.snd.snd.snd.snd.snd.snd.snd.snd,horizon:=x1.snd.snd.snd.snd.snd.fst,began:=x1.snd.snd.snd.snd.snd.snd.fst,done:=x1.snd.snd.snd.snd.snd.snd.snd.fst }))
          (0,x.snd.snd.snd.snd.snd.id,x.snd.snd.snd.snd.snd.p.N,x.snd.snd.snd.snd.snd.p.Places,x.snd.snd.snd.snd.snd.p.Trans,x.snd.snd.snd.snd.snd.horizon,x.snd.snd.snd.snd.snd.began,x.snd.snd.snd.snd.snd.done,{ From:=x.fst,To:=x.snd.fst,E:={ Time:=x.snd.snd.fst,Place:=x.snd.snd.snd.fst,N:=x.snd.snd.snd.snd.fst } },x.snd.snd.snd.snd.snd.in_,x.snd.snd.snd.snd.snd.x,x.snd.snd.snd.snd.snd.out,x.snd.snd.snd.snd.snd.clocks,x.snd.snd.snd.snd.snd.sent)).bind
      fun (x1:TProcess)=>some x1
theorem e22:vfn (T:=tE) lpK H22 (bn [AG]) q22 z8.res (vOf z8.code L22)=p22:=by kernel_rfl
abbrev n22:En tE:=⟨22,[],q22,p22⟩
theorem o22:aC F tE 22 q22 2 p22:=by
 rw [← e22]
 exact au (fn:=z8) (aa (en:=AG) ag Cc rfl) rfl (by kernel_rfl)
def q11:FSp:=⟨[],[],[],[.ld 0 false,.d true .bool,.slot 0 false]⟩
def L11:List (Nat×Lb):=[(4,.j [.ld 2 false,.r 0,.slot 2 false,.ld 27 false,.d true .bool,.slot 27 false,.po (.st 11)]),(8,.l [] [.ld 2 false,.r 0,.slot 2 false,.ld 4 false,.d true (.int .i64),.slot 4 false,.po (.st 11)] [(some 0,[.ld 2 false,.r 0,.slot 2 false,.po (.st 11)])])]
def H11:List (Nat×VT):=[(6,(.st 2)),(8,(.st 0)),(10,(.st 0)),(12,(.st 1)),(16,(.int .i64)),(17,(.int .i64))]
def p11:Unit→Option Bool:=fun (x:Unit)=>
  (p14 ([{ Name:=[112],Tokens:=1 }],[{ Name:=[116],Delay:=2,Prio:=0,In:=[{ Place:=0,N:=1 }],Not:=[],Out:=[{ Place:=0,N:=1 }] }],1,[0],[0],0,5)).bind fun (x1:Int×Option TProcess)=>
    (if (!decide (x1.fst=0))=true then some (Sum.inl (true,x1.snd)) else some (Sum.inl (x1.snd.isNone,x1.snd))).bind fun (x2:Bool×Option TProcess⊕Bool)=>
      match x2 with
      | Sum.inl x=>if x.fst=true then some false else (aq (fun (x4:Int×Option TProcess)=>if x4.fst < 5 then x4.snd.bind fun (x5:TProcess)=>(p17 x5).bind fun (x6:Int×List TMail×TProcess)=>some (Sum.inl (IntKind.i64.wrap (x4.fst+1),some x6.snd.snd)) else some (Sum.inr x4.snd)) (0,x.snd)).bind fun (x4:Option TProcess)=>x4.bind fun (x5:TProcess)=>(p18 x5).bind fun (b6:Bool)=>if b6=true then x4.bind fun (x7:TProcess)=>(p20 x7).bind fun (x8:Int×List TFire×List Int×List Int)=>if (↑x8.snd.fst.length:Int)=3 then x4.bind fun (x9:TProcess)=>(p23 x9).bind fun (n10:Int)=>some (decide (n10=2305843009213693952)) else some false else some false
      | Sum.inr r=>some r
theorem e11:vfn (T:=tE) lpK H11 (bn [n14,n17,n18,n20,n23]) q11 Ab.res (vOf Ab.code L11)=p11:=by kernel_rfl
abbrev n11:En tE:=⟨11,[],q11,p11⟩
theorem o11:aC F tE 11 q11 0 p11:=by
 rw [← e11]
 exact au (fn:=Ab) (aa (en:=n14) (aa (en:=n17) (aa (en:=n18) (aa (en:=n20) (aa (en:=n23) ag o23 rfl) o20 rfl) o18 rfl) o17 rfl) o14 rfl) rfl (by kernel_rfl)
def q6:FSp:=⟨[(false,[.d true (.int .u8)]),(false,[.d false (.sl false (.int .u8))])],[],[],[.ld 0 false,.d true .bool,.slot 0 false]⟩
def L6:List (Nat×Lb):=[(2,.j [.ld 0 false,.d true (.int .u8),.slot 0 false,.ld 1 false,.d false (.sl false (.int .u8)),.slot 1 false,.ld 4 false,.c (.bool false),.slot 4 false,.ld 22 false,.d true .bool,.slot 22 false]),(9,.l [.ld 1 false,.d false (.sl false (.int .u8)),.slot 1 false,.ld 4 false,.c (.bool false),.slot 4 false,.ld 5 false,.d true (.int .i64),.slot 5 false] [.ld 6 false,.ptr 0 0,.slot 6 false,.ld 7 false,.ptr 1 0,.slot 7 false,.ld 8 false,.d true (.int .i64),.slot 8 false,.pr (.st 3),.pr (.st 4)] [(some 0,[.ld 6 false,.ptr 0 0,.slot 6 false,.ld 7 false,.ptr 1 0,.slot 7 false,.pr (.st 3),.pr (.st 4)])]),(18,.j [.ld 1 false,.d false (.sl false (.int .u8)),.slot 1 false,.ld 4 false,.c (.bool false),.slot 4 false,.ld 5 false,.d true (.int .i64),.slot 5 false,.ld 9 false,.r 0,.slot 9 false,.ld 95 false,.d true .bool,.slot 95 false,.po (.st 11)]),(23,.l [.ld 1 false,.d false (.sl false (.int .u8)),.slot 1 false,.ld 5 false,.d true (.int .i64),.slot 5 false] [.ld 4 false,.c (.bool false),.slot 4 false,.ld 9 false,.r 0,.slot 9 false,.ld 11 false,.r 1,.slot 11 false,.ld 12 false,.d true (.int .i64),.slot 12 false,.po (.st 11),.sl (.int .i64)] [(some 2,[]),(none,[.ld 4 false,.c (.bool false),.slot 4 false])]),(29,.j [.ld 4 false,.c (.bool false),.slot 4 false,.ld 9 false,.r 0,.slot 9 false,.ld 11 false,.r 1,.slot 11 false,.ld 12 false,.d true (.int .i64),.slot 12 false,.pr (.st 11),.sl (.int .i64)]),(30,.j [.ld 4 false,.c (.bool false),.slot 4 false,.ld 9 false,.r 0,.slot 9 false,.ld 11 false,.r 1,.slot 11 false,.ld 12 false,.d true (.int .i64),.slot 12 false,.ld 13 false,.d true (.int .i64),.slot 13 false,.ld 137 false,.d true .bool,.slot 137 false,.pr (.st 11),.sl (.int .i64)]),(34,.l [.ld 4 false,.c (.bool false),.slot 4 false,.ld 12 false,.d true (.int .i64),.slot 12 false] [.ld 9 false,.r 0,.slot 9 false,.ld 11 false,.r 1,.slot 11 false,.ld 14 false,.d true (.int .i64),.slot 14 false,.ld 15 false,.d true (.int .i64),.slot 15 false,.pr (.st 11),.sl (.int .i64)] [(some 4,[.ld 9 false,.r 0,.slot 9 false,.ld 11 false,.r 1,.slot 11 false,.ld 14 false,.d true (.int .i64),.slot 14 false,.pr (.st 11),.sl (.int .i64)])])]
def H6:List (Nat×VT):=[(29,(.st 2)),(34,(.int .i64)),(46,(.int .u8)),(50,(.st 2)),(58,(.int .u8)),(64,(.st 0)),(66,(.st 0)),(68,(.st 1)),(74,(.int .i64)),(80,(.int .i64)),(97,(.int .i64))]
def p6:Int×List Int→Option Bool:=fun (x:Int×List Int)=>
  ((p11 ()).bind fun (b1:Bool)=>if (!b1)=true then some (Sum.inl (x.fst,x.snd,true)) else some (Sum.inl (x.fst,x.snd,decide (20 < (↑x.snd.length:Int))))).bind fun (x1:Int×List Int×Bool⊕Bool)=>
    match x1 with
    | Sum.inl x=>
      if x.snd.snd=true then (p11 ()).bind fun (b3:Bool)=>some b3
      else
        (iE IntKind.u8 x.fst 5).bind fun (n3:Int)=>
          (aq (fun (x4:Int×TNet×TPart)=>if x4.fst < IntKind.i64.wrap (1+IntKind.i64.wrap n3) then (sV [112] (u8 (IntKind.u8.wrap (IntKind.i64.wrap (97+x4.fst)))::[])).bind fun (l5:List UInt8)=>(app 24 x4.snd.fst.Places [{ Name:=l5,Tokens:=0 }]).bind fun (l6:List TPlace)=>(sV [116] (u8 (IntKind.u8.wrap (IntKind.i64.wrap (97+x4.fst)))::[])).bind fun (l7:List UInt8)=>(app 104 x4.snd.fst.Trans [{ Name:=l7,Delay:=1,Prio:=0,In:=[{ Place:=IntKind.i64.wrap (x4.fst+1),N:=1 }],Not:=[],Out:=[{ Place:=0,N:=1 }] }]).bind fun (l8:List TTrans)=>(app 8 x4.snd.snd.Places [x4.fst]).bind fun (l9:List Int)=>(app 8 x4.snd.snd.Trans [x4.fst]).bind fun (l10:List Int)=>some (Sum.inl (IntKind.i64.wrap (x4.fst+1),{ Places:=l6,Trans:=l8 },{ N:=x4.snd.snd.N,Places:=l9,Trans:=l10 })) else some (Sum.inr (x4.snd.fst,x4.snd.snd))) (0,{ Places:=[{ Name:=[122],Tokens:=0 }],Trans:=[] },{ N:=IntKind.i64.wrap (IntKind.i64.wrap (1+IntKind.i64.wrap n3)+1),Places:=[IntKind.i64.wrap (1+IntKind.i64.wrap n3)],Trans:=[] })).bind fun (x4:TNet×TPart)=>
            (p14 (x4.fst.Places,x4.fst.Trans,x4.snd.N,x4.snd.Places,x4.snd.Trans,IntKind.i64.wrap (1+IntKind.i64.wrap n3),1000)).bind fun (x5:Int×Option TProcess)=>
              (if (!decide (x5.fst=0))=true then some (Sum.inl (x.snd.fst,IntKind.i64.wrap (1+IntKind.i64.wrap n3),true,x5.snd)) else some (Sum.inl (x.snd.fst,IntKind.i64.wrap (1+IntKind.i64.wrap n3),x5.snd.isNone,x5.snd))).bind fun (x6:List Int×Int×Bool×Option TProcess⊕Bool)=>
                match x6 with
                | Sum.inl x=>
                  if x.snd.snd.fst=true then some false
                  else
                    (mkS 8 x.snd.fst x.snd.fst 0).bind fun (l8:List Int)=>
                      (aq
                            (fun (x9:Int×Option TProcess×List Int)=>
                              if x9.fst < (↑x.fst.length:Int) then
                                (idx x.fst x9.fst).bind fun (n10:Int)=>
                                  (iE IntKind.i64 (IntKind.i64.wrap n10) (IntKind.i64.wrap (x.snd.fst+1))).bind fun (n11:Int)=>
                                    (idx x.fst x9.fst).bind fun (n12:Int)=>
                                      x9.snd.fst.bind fun (x13:TProcess)=>
                                        (p22 (n11,x.snd.fst,IntKind.i64.wrap n12,0,0,x13)).bind fun (x14:TProcess)=>
                                          ((if n11 < x.snd.fst then (idx x.fst x9.fst).bind fun (n15:Int)=>(idx x9.snd.snd n11).bind fun (n16:Int)=>some (Sum.inl (x9.fst,n11,decide (n16 < IntKind.i64.wrap n15),x14,x9.snd.snd)) else some (Sum.inl (x9.fst,n11,false,x14,x9.snd.snd))).bind fun (x15:Int×Int×Bool×TProcess×List Int⊕Int×TProcess×List Int⊕Int×Option TProcess×List Int⊕Unit⊕Unit)=>
                                                match x15 with
                                                | Sum.inl x_1=>if x_1.snd.snd.fst=true then (idx x.fst x_1.fst).bind fun (n17:Int)=>(idx x_1.snd.snd.snd.snd x_1.snd.fst).bind fun (n18:Int)=>some (Sum.inl (x_1.fst,x_1.snd.snd.snd.fst,x_1.snd.snd.snd.snd.set x_1.snd.fst.toNat (IntKind.i64.wrap n17))) else some (Sum.inl (x_1.fst,x_1.snd.snd.snd.fst,x_1.snd.snd.snd.snd))
                                                | Sum.inr r=>some r).bind
                                            fun (x15:Int×TProcess×List Int⊕Int×Option TProcess×List Int⊕Unit⊕Unit)=>
                                            match x15 with
                                            | Sum.inl x_1=>(idx x_1.snd.snd 0).bind fun (n17:Int)=>(aq (fun (x18:Int×Int×TProcess×List Int)=>if x18.snd.fst < x.snd.fst then (idx x18.snd.snd.snd x18.snd.fst).bind fun (n19:Int)=>some (Sum.inl (if n19 < x18.fst then n19 else x18.fst,IntKind.i64.wrap (x18.snd.fst+1),x18.snd.snd.fst,x18.snd.snd.snd)) else some (Sum.inr (x18.fst,x18.snd.snd.fst,x18.snd.snd.snd))) (n17,0,x_1.snd.fst,x_1.snd.snd)).bind fun (x18:Int×TProcess×List Int)=>(p23 x18.snd.fst).bind fun (n19:Int)=>if (!decide (n19=x18.fst))=true then some (Sum.inr (Sum.inr ())) else some (Sum.inl (IntKind.i64.wrap (x_1.fst+1),some x18.snd.fst,x18.snd.snd))
                                            | Sum.inr r=>some r
                              else some (Sum.inr (Sum.inl ())))
                            (0,x.snd.snd.snd,l8)).bind
                        fun (x9:Unit⊕Unit)=>
                        match x9 with
                        | Sum.inl x=>some true
                        | Sum.inr y=>some false
                | Sum.inr r=>some r
    | Sum.inr r=>some r
theorem e6:vfn (T:=tE) lpK H6 (bn [n11,n14,n22,n23]) q6 fn6.res (vOf fn6.code L6)=p6:=by kernel_rfl
abbrev n6:En tE:=⟨6,[],q6,p6⟩
theorem o6:aC F tE 6 q6 2 p6:=by
 rw [← e6]
 exact au (fn:=fn6) (aa (en:=n11) (aa (en:=n14) (aa (en:=n22) (aa (en:=n23) ag o23 rfl) o22 rfl) o14 rfl) o11 rfl) rfl (by kernel_rfl)
end
end Go.Proofs.Ytmchbhheoieepaa
