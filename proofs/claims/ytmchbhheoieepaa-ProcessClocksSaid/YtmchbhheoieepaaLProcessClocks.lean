/- The law ProcessClocks: its pure function answers true, whatever it is called with; so does the machine's function. No condition. Own work. -/
import Derived.Test.YtmchbhheoieepaaGProcessClocks
import Derived.Test.YtmchbhheoieepaaPm2ProcessClocks
import Derived.KernelRfl
set_option linter.unusedSimpArgs false
set_option linter.unusedVariables false
namespace Go.Proofs.Ytmchbhheoieepaa
open Go Go.Am
noncomputable section
def p6r (n3:Int) (x:Int×List Int×Bool):Option Bool:=
 (aq (fun (x4:Int×TNet×TPart)=>if x4.fst < IntKind.i64.wrap (1+IntKind.i64.wrap n3) then (sV [112] (u8 (IntKind.u8.wrap (IntKind.i64.wrap (97+x4.fst)))::[])).bind fun (l5:List UInt8)=>(app 24 x4.snd.fst.Places [{ Name:=l5,Tokens:=0 }]).bind fun (l6:List TPlace)=>(sV [116] (u8 (IntKind.u8.wrap (IntKind.i64.wrap (97+x4.fst)))::[])).bind fun (l7:List UInt8)=>(app 104 x4.snd.fst.Trans [{ Name:=l7,Delay:=1,Prio:=0,In:=[{ Place:=IntKind.i64.wrap (x4.fst+1),N:=1 }],Not:=[],Out:=[{ Place:=0,N:=1 }] }]).bind fun (l8:List TTrans)=>(app 8 x4.snd.snd.Places [x4.fst]).bind fun (l9:List Int)=>(app 8 x4.snd.snd.Trans [x4.fst]).bind fun (l10:List Int)=>some (Sum.inl (IntKind.i64.wrap (x4.fst+1),{ Places:=l6,Trans:=l8 },{ N:=x4.snd.snd.N,Places:=l9,Trans:=l10 })) else some (Sum.inr (x4.snd.fst,x4.snd.snd))) (0,{ Places:=[{ Name:=[122],Tokens:=0 }],Trans:=[] },{ N:=IntKind.i64.wrap (IntKind.i64.wrap (1+IntKind.i64.wrap n3)+1),Places:=[IntKind.i64.wrap (1+IntKind.i64.wrap n3)],Trans:=[] })).bind fun (x4:TNet×TPart)=>
  (p14 (x4.fst.Places,x4.fst.Trans,x4.snd.N,x4.snd.Places,x4.snd.Trans,IntKind.i64.wrap (1+IntKind.i64.wrap n3),1000)).bind fun (x5:Int×Option TProcess)=>
   (if (!decide (x5.fst=0))=true then some (Sum.inl (x.snd.fst,IntKind.i64.wrap (1+IntKind.i64.wrap n3),true,x5.snd)) else some (Sum.inl (x.snd.fst,IntKind.i64.wrap (1+IntKind.i64.wrap n3),x5.snd.isNone,x5.snd))).bind fun (x6:List Int×Int×Bool×Option TProcess⊕Bool)=>
    match x6 with
    | Sum.inl x=>
     if x.snd.snd.fst=true then some false
     else
      (mkS 8 x.snd.fst x.snd.fst 0).bind fun (l8:List Int)=>
       (aq
          (fun (x9:Int×Option TProcess×List Int)=>
           if x9.fst < (↑x.fst.length:Int) then
            (idx x.fst x9.fst).bind fun (n10:Int)=>
             (iE IntKind.i64 (IntKind.i64.wrap n10) (IntKind.i64.wrap (x.snd.fst+1))).bind fun (n11:Int)=>
              (idx x.fst x9.fst).bind fun (n12:Int)=>
               x9.snd.fst.bind fun (x13:TProcess)=>
                (p22 (n11,x.snd.fst,IntKind.i64.wrap n12,0,0,x13)).bind fun (x14:TProcess)=>
                 ((if n11 < x.snd.fst then (idx x.fst x9.fst).bind fun (n15:Int)=>(idx x9.snd.snd n11).bind fun (n16:Int)=>some (Sum.inl (x9.fst,n11,decide (n16 < IntKind.i64.wrap n15),x14,x9.snd.snd)) else some (Sum.inl (x9.fst,n11,false,x14,x9.snd.snd))).bind fun (x15:Int×Int×Bool×TProcess×List Int⊕Int×TProcess×List Int⊕Int×Option TProcess×List Int⊕Unit⊕Unit)=>
                    match x15 with
                    | Sum.inl x_1=>if x_1.snd.snd.fst=true then (idx x.fst x_1.fst).bind fun (n17:Int)=>(idx x_1.snd.snd.snd.snd x_1.snd.fst).bind fun (n18:Int)=>some (Sum.inl (x_1.fst,x_1.snd.snd.snd.fst,x_1.snd.snd.snd.snd.set x_1.snd.fst.toNat (IntKind.i64.wrap n17))) else some (Sum.inl (x_1.fst,x_1.snd.snd.snd.fst,x_1.snd.snd.snd.snd))
                    | Sum.inr r=>some r).bind
                  fun (x15:Int×TProcess×List Int⊕Int×Option TProcess×List Int⊕Unit⊕Unit)=>
                  match x15 with
                  | Sum.inl x_1=>(idx x_1.snd.snd 0).bind fun (n17:Int)=>(aq (fun (x18:Int×Int×TProcess×List Int)=>if x18.snd.fst < x.snd.fst then (idx x18.snd.snd.snd x18.snd.fst).bind fun (n19:Int)=>some (Sum.inl (if n19 < x18.fst then n19 else x18.fst,IntKind.i64.wrap (x18.snd.fst+1),x18.snd.snd.fst,x18.snd.snd.snd)) else some (Sum.inr (x18.fst,x18.snd.snd.fst,x18.snd.snd.snd))) (n17,0,x_1.snd.fst,x_1.snd.snd)).bind fun (x18:Int×TProcess×List Int)=>(p23 x18.snd.fst).bind fun (n19:Int)=>if (!decide (n19=x18.fst))=true then some (Sum.inr (Sum.inr ())) else some (Sum.inl (IntKind.i64.wrap (x_1.fst+1),some x18.snd.fst,x18.snd.snd))
                  | Sum.inr r=>some r
           else some (Sum.inr (Sum.inl ())))
          (0,x.snd.snd.snd,l8)).bind
        fun (x9:Unit⊕Unit)=>
        match x9 with
        | Sum.inl x=>some true
        | Sum.inr y=>some false
    | Sum.inr r=>some r
def CC (n3:Int):Option (TNet×TPart):=(aq (fun (x4:Int×TNet×TPart)=>if x4.fst < IntKind.i64.wrap (1+IntKind.i64.wrap n3) then (sV [112] (u8 (IntKind.u8.wrap (IntKind.i64.wrap (97+x4.fst)))::[])).bind fun (l5:List UInt8)=>(app 24 x4.snd.fst.Places [{ Name:=l5,Tokens:=0 }]).bind fun (l6:List TPlace)=>(sV [116] (u8 (IntKind.u8.wrap (IntKind.i64.wrap (97+x4.fst)))::[])).bind fun (l7:List UInt8)=>(app 104 x4.snd.fst.Trans [{ Name:=l7,Delay:=1,Prio:=0,In:=[{ Place:=IntKind.i64.wrap (x4.fst+1),N:=1 }],Not:=[],Out:=[{ Place:=0,N:=1 }] }]).bind fun (l8:List TTrans)=>(app 8 x4.snd.snd.Places [x4.fst]).bind fun (l9:List Int)=>(app 8 x4.snd.snd.Trans [x4.fst]).bind fun (l10:List Int)=>some (Sum.inl (IntKind.i64.wrap (x4.fst+1),{ Places:=l6,Trans:=l8 },{ N:=x4.snd.snd.N,Places:=l9,Trans:=l10 })) else some (Sum.inr (x4.snd.fst,x4.snd.snd))) (0,{ Places:=[{ Name:=[122],Tokens:=0 }],Trans:=[] },{ N:=IntKind.i64.wrap (IntKind.i64.wrap (1+IntKind.i64.wrap n3)+1),Places:=[IntKind.i64.wrap (1+IntKind.i64.wrap n3)],Trans:=[] }))
def kE (x:List Int×Int×Bool×Option TProcess):Int×Option TProcess×List Int→Option ((Int×Option TProcess×List Int)⊕(Unit⊕Unit)):=
 (fun (x9:Int×Option TProcess×List Int)=>
  if x9.fst < (↑x.fst.length:Int) then
   (idx x.fst x9.fst).bind fun (n10:Int)=>
    (iE IntKind.i64 (IntKind.i64.wrap n10) (IntKind.i64.wrap (x.snd.fst+1))).bind fun (n11:Int)=>
     (idx x.fst x9.fst).bind fun (n12:Int)=>
      x9.snd.fst.bind fun (x13:TProcess)=>
       (p22 (n11,x.snd.fst,IntKind.i64.wrap n12,0,0,x13)).bind fun (x14:TProcess)=>
        ((if n11 < x.snd.fst then (idx x.fst x9.fst).bind fun (n15:Int)=>(idx x9.snd.snd n11).bind fun (n16:Int)=>some (Sum.inl (x9.fst,n11,decide (n16 < IntKind.i64.wrap n15),x14,x9.snd.snd)) else some (Sum.inl (x9.fst,n11,false,x14,x9.snd.snd))).bind fun (x15:Int×Int×Bool×TProcess×List Int⊕Int×TProcess×List Int⊕Int×Option TProcess×List Int⊕Unit⊕Unit)=>
           match x15 with
           | Sum.inl x_1=>if x_1.snd.snd.fst=true then (idx x.fst x_1.fst).bind fun (n17:Int)=>(idx x_1.snd.snd.snd.snd x_1.snd.fst).bind fun (n18:Int)=>some (Sum.inl (x_1.fst,x_1.snd.snd.snd.fst,x_1.snd.snd.snd.snd.set x_1.snd.fst.toNat (IntKind.i64.wrap n17))) else some (Sum.inl (x_1.fst,x_1.snd.snd.snd.fst,x_1.snd.snd.snd.snd))
           | Sum.inr r=>some r).bind
         fun (x15:Int×TProcess×List Int⊕Int×Option TProcess×List Int⊕Unit⊕Unit)=>
         match x15 with
         | Sum.inl x_1=>(idx x_1.snd.snd 0).bind fun (n17:Int)=>(aq (fun (x18:Int×Int×TProcess×List Int)=>if x18.snd.fst < x.snd.fst then (idx x18.snd.snd.snd x18.snd.fst).bind fun (n19:Int)=>some (Sum.inl (if n19 < x18.fst then n19 else x18.fst,IntKind.i64.wrap (x18.snd.fst+1),x18.snd.snd.fst,x18.snd.snd.snd)) else some (Sum.inr (x18.fst,x18.snd.snd.fst,x18.snd.snd.snd))) (n17,0,x_1.snd.fst,x_1.snd.snd)).bind fun (x18:Int×TProcess×List Int)=>(p23 x18.snd.fst).bind fun (n19:Int)=>if (!decide (n19=x18.fst))=true then some (Sum.inr (Sum.inr ())) else some (Sum.inl (IntKind.i64.wrap (x_1.fst+1),some x18.snd.fst,x18.snd.snd))
         | Sum.inr r=>some r
  else some (Sum.inr (Sum.inl ())))
def XM (n3:Int):TProcess:=match (CC n3).bind fun x4=>p14 (x4.fst.Places,x4.fst.Trans,x4.snd.N,x4.snd.Places,x4.snd.Trans,IntKind.i64.wrap (1+IntKind.i64.wrap n3),1000) with
 | some (_,some x)=>x
 | _=>⟨0,none,⟨0,[],[]⟩,[],[],[],[],0,false,false⟩
def XC (n3:Int) (l:List Int):TProcess:={ XM n3 with clocks:=l }
def Ap:Unit⊕Unit→Option Bool
 | .inl _=>some true
 | .inr _=>some false
theorem zp:(fun (k:Int) (tm:List Int) (z:Bool)=>p6r 0 (k,tm,z))=fun k tm z=>(aq (kE (tm,1,false,none)) (0,some (XC 0 [0]),[0])).bind Ap:=by kernel_rfl
theorem wo:(fun (t a:Int)=>p22 (0,1,t,0,0,XC 0 [a]))=fun t a=>some (XC 0 [if a < t then t else a]):=by kernel_rfl
theorem va:(fun (t a:Int)=>p22 (1,1,t,0,0,XC 0 [a]))=fun t a=>some (XC 0 [a]):=by kernel_rfl
theorem BK:(fun (a:Int)=>p23 (XC 0 [a]))=fun a=>some (if a < 2305843009213693952 then a else 2305843009213693952):=by kernel_rfl
theorem zo:(fun (k:Int) (tm:List Int) (z:Bool)=>p6r 1 (k,tm,z))=fun k tm z=>(aq (kE (tm,2,false,none)) (0,some (XC 1 [0,0]),[0,0])).bind Ap:=by kernel_rfl
theorem uP:(fun (t a b:Int)=>p22 (0,2,t,0,0,XC 1 [a,b]))=fun t a b=>some (XC 1 [if a < t then t else a,b]):=by kernel_rfl
theorem vB:(fun (t a b:Int)=>p22 (1,2,t,0,0,XC 1 [a,b]))=fun t a b=>some (XC 1 [a,if b < t then t else b]):=by kernel_rfl
theorem wd:(fun (t a b:Int)=>p22 (2,2,t,0,0,XC 1 [a,b]))=fun t a b=>some (XC 1 [a,b]):=by kernel_rfl
theorem BI:(fun (a b:Int)=>p23 (XC 1 [a,b]))=fun a b=>some (if b < (if a < 2305843009213693952 then a else 2305843009213693952) then b else (if a < 2305843009213693952 then a else 2305843009213693952)):=by kernel_rfl
theorem yQ:(fun (k:Int) (tm:List Int) (z:Bool)=>p6r 2 (k,tm,z))=fun k tm z=>(aq (kE (tm,3,false,none)) (0,some (XC 2 [0,0,0]),[0,0,0])).bind Ap:=by kernel_rfl
theorem vO:(fun (t a b c:Int)=>p22 (0,3,t,0,0,XC 2 [a,b,c]))=fun t a b c=>some (XC 2 [if a < t then t else a,b,c]):=by kernel_rfl
theorem wq:(fun (t a b c:Int)=>p22 (1,3,t,0,0,XC 2 [a,b,c]))=fun t a b c=>some (XC 2 [a,if b < t then t else b,c]):=by kernel_rfl
theorem ur:(fun (t a b c:Int)=>p22 (2,3,t,0,0,XC 2 [a,b,c]))=fun t a b c=>some (XC 2 [a,b,if c < t then t else c]):=by kernel_rfl
theorem wi:(fun (t a b c:Int)=>p22 (3,3,t,0,0,XC 2 [a,b,c]))=fun t a b c=>some (XC 2 [a,b,c]):=by kernel_rfl
theorem Bb:(fun (a b c:Int)=>p23 (XC 2 [a,b,c]))=fun a b c=>some (if c < (if b < (if a < 2305843009213693952 then a else 2305843009213693952) then b else (if a < 2305843009213693952 then a else 2305843009213693952)) then c else (if b < (if a < 2305843009213693952 then a else 2305843009213693952) then b else (if a < 2305843009213693952 then a else 2305843009213693952))):=by kernel_rfl
theorem zx:(fun (k:Int) (tm:List Int) (z:Bool)=>p6r 3 (k,tm,z))=fun k tm z=>(aq (kE (tm,4,false,none)) (0,some (XC 3 [0,0,0,0]),[0,0,0,0])).bind Ap:=by kernel_rfl
theorem uL:(fun (t a b c d:Int)=>p22 (0,4,t,0,0,XC 3 [a,b,c,d]))=fun t a b c d=>some (XC 3 [if a < t then t else a,b,c,d]):=by kernel_rfl
theorem xw:(fun (t a b c d:Int)=>p22 (1,4,t,0,0,XC 3 [a,b,c,d]))=fun t a b c d=>some (XC 3 [a,if b < t then t else b,c,d]):=by kernel_rfl
theorem vv:(fun (t a b c d:Int)=>p22 (2,4,t,0,0,XC 3 [a,b,c,d]))=fun t a b c d=>some (XC 3 [a,b,if c < t then t else c,d]):=by kernel_rfl
theorem xz:(fun (t a b c d:Int)=>p22 (3,4,t,0,0,XC 3 [a,b,c,d]))=fun t a b c d=>some (XC 3 [a,b,c,if d < t then t else d]):=by kernel_rfl
theorem wV:(fun (t a b c d:Int)=>p22 (4,4,t,0,0,XC 3 [a,b,c,d]))=fun t a b c d=>some (XC 3 [a,b,c,d]):=by kernel_rfl
theorem A2:(fun (a b c d:Int)=>p23 (XC 3 [a,b,c,d]))=fun a b c d=>some (if d < (if c < (if b < (if a < 2305843009213693952 then a else 2305843009213693952) then b else (if a < 2305843009213693952 then a else 2305843009213693952)) then c else (if b < (if a < 2305843009213693952 then a else 2305843009213693952) then b else (if a < 2305843009213693952 then a else 2305843009213693952))) then d else (if c < (if b < (if a < 2305843009213693952 then a else 2305843009213693952) then b else (if a < 2305843009213693952 then a else 2305843009213693952)) then c else (if b < (if a < 2305843009213693952 then a else 2305843009213693952) then b else (if a < 2305843009213693952 then a else 2305843009213693952)))):=by kernel_rfl
theorem yj:(fun (k:Int) (tm:List Int) (z:Bool)=>p6r 4 (k,tm,z))=fun k tm z=>(aq (kE (tm,5,false,none)) (0,some (XC 4 [0,0,0,0,0]),[0,0,0,0,0])).bind Ap:=by kernel_rfl
theorem uJ:(fun (t a b c d e:Int)=>p22 (0,5,t,0,0,XC 4 [a,b,c,d,e]))=fun t a b c d e=>some (XC 4 [if a < t then t else a,b,c,d,e]):=by kernel_rfl
theorem vz:(fun (t a b c d e:Int)=>p22 (1,5,t,0,0,XC 4 [a,b,c,d,e]))=fun t a b c d e=>some (XC 4 [a,if b < t then t else b,c,d,e]):=by kernel_rfl
theorem wP:(fun (t a b c d e:Int)=>p22 (2,5,t,0,0,XC 4 [a,b,c,d,e]))=fun t a b c d e=>some (XC 4 [a,b,if c < t then t else c,d,e]):=by kernel_rfl
theorem xb:(fun (t a b c d e:Int)=>p22 (3,5,t,0,0,XC 4 [a,b,c,d,e]))=fun t a b c d e=>some (XC 4 [a,b,c,if d < t then t else d,e]):=by kernel_rfl
theorem wG:(fun (t a b c d e:Int)=>p22 (4,5,t,0,0,XC 4 [a,b,c,d,e]))=fun t a b c d e=>some (XC 4 [a,b,c,d,if e < t then t else e]):=by kernel_rfl
theorem vd:(fun (t a b c d e:Int)=>p22 (5,5,t,0,0,XC 4 [a,b,c,d,e]))=fun t a b c d e=>some (XC 4 [a,b,c,d,e]):=by kernel_rfl
theorem BT:(fun (a b c d e:Int)=>p23 (XC 4 [a,b,c,d,e]))=fun a b c d e=>some (if e < (if d < (if c < (if b < (if a < 2305843009213693952 then a else 2305843009213693952) then b else (if a < 2305843009213693952 then a else 2305843009213693952)) then c else (if b < (if a < 2305843009213693952 then a else 2305843009213693952) then b else (if a < 2305843009213693952 then a else 2305843009213693952))) then d else (if c < (if b < (if a < 2305843009213693952 then a else 2305843009213693952) then b else (if a < 2305843009213693952 then a else 2305843009213693952)) then c else (if b < (if a < 2305843009213693952 then a else 2305843009213693952) then b else (if a < 2305843009213693952 then a else 2305843009213693952)))) then e else (if d < (if c < (if b < (if a < 2305843009213693952 then a else 2305843009213693952) then b else (if a < 2305843009213693952 then a else 2305843009213693952)) then c else (if b < (if a < 2305843009213693952 then a else 2305843009213693952) then b else (if a < 2305843009213693952 then a else 2305843009213693952))) then d else (if c < (if b < (if a < 2305843009213693952 then a else 2305843009213693952) then b else (if a < 2305843009213693952 then a else 2305843009213693952)) then c else (if b < (if a < 2305843009213693952 then a else 2305843009213693952) then b else (if a < 2305843009213693952 then a else 2305843009213693952))))):=by kernel_rfl
end
noncomputable def bK (m:Int):Int×Int×TProcess×List Int→Option ((Int×Int×TProcess×List Int)⊕(Int×TProcess×List Int)):=fun (x18:Int×Int×TProcess×List Int)=>if x18.snd.fst < m then (idx x18.snd.snd.snd x18.snd.fst).bind fun (n19:Int)=>some (Sum.inl (if n19 < x18.fst then n19 else x18.fst,IntKind.i64.wrap (x18.snd.fst+1),x18.snd.snd.fst,x18.snd.snd.snd)) else some (Sum.inr (x18.fst,x18.snd.snd.fst,x18.snd.snd.snd))
theorem du {σ ρ:Type} {f:σ→Option (σ⊕ρ)} (I:Nat→σ→Prop) (N:Nat) (r:ρ) (step:∀ i s,i < N→I i s→∃ s',f s=some (.inl s')∧I (i+1) s') (fin:∀ s,I N s→f s=some (.inr r)) {s:σ} (h:I 0 s) (hN:N < 1099511627776):aq f s=some r:=by
 have key:∀ (k i:Nat) (s:σ),i+k=N→I i s→iter f (k+1) s=some r:=by
  intro k
  induction k with
  | zero=>
   intro i s e hI
   have e:i=N:=by omega
   subst e
   show (match f s with
    | none=>none
    | some (.inl s')=>iter f 0 s'
    | some (.inr r)=>some r)=_
   rw [fin s hI]
  | succ k ih=>
   intro i s e hI
   obtain ⟨s',h1,h2⟩:=step i s (by omega) hI
   show (match f s with
    | none=>none
    | some (.inl s')=>iter f (k+1) s'
    | some (.inr r)=>some r)=_
   rw [h1]
   exact ih (i+1) s' (by omega) h2
 unfold aq
 exact jI (by omega) (key N 0 s (by omega) h)
theorem aP {n:Int} (h0 : -1000≤n) (h1:n≤1000):IntKind.i64.wrap n=n:=zB (by omega) (by omega)
theorem aG {tm:List Int} {m:Int} {i:Nat} {t fr:Int} {X X':TProcess} {l l':List Int} {n0 mn:Int} (hi:(i:Int) < (tm.length:Int)) (hs:(i:Int) < 100) (ht:idx tm i=some t) (hw:IntKind.i64.wrap t=t) (hr:iE .i64 t (IntKind.i64.wrap (m+1))=some fr)
  (h22:p22 (fr,m,t,0,0,X)=some X') (hl:(fr < m∧∃ c,idx l fr=some c∧l'=if c < t then l.set fr.toNat t else l)∨(¬ fr < m∧l'=l))
  (h0:idx l' 0=some n0) (hm:aq (bK m) (n0,0,X',l')=some (mn,X',l')) (h23:p23 X'=some mn):kE (tm,m,false,none) ((i:Int),some X,l)=some (.inl (((i+1:Nat):Int),some X',l')):=by
 have hw1:IntKind.i64.wrap ((i:Int)+1)=((i+1:Nat):Int):=by rw [aP (by omega) (by omega)]; omega
 have fin:((idx l' 0).bind fun (n17:Int)=>(aq (bK m) (n17,0,X',l')).bind fun (x18:Int×TProcess×List Int)=>(p23 x18.snd.fst).bind fun (n19:Int)=>if (!decide (n19=x18.fst))=true then (some (Sum.inr (Sum.inr ())):Option ((Int×Option TProcess×List Int)⊕(Unit⊕Unit))) else some (Sum.inl (IntKind.i64.wrap ((i:Int)+1),some x18.snd.fst,x18.snd.snd)))=some (.inl (((i+1:Nat):Int),some X',l')):=by
  rw [h0]
  show ((aq (bK m) (n0,0,X',l')).bind _)=_
  rw [hm]
  show ((p23 X').bind _)=_
  rw [h23,← hw1]
  show (if (!decide (mn=mn))=true then _ else _)=_
  rw [if_neg (by simp)]
 unfold kE
 dsimp only
 rw [if_pos hi,ht]
 simp only [Option.bind_some,hw,hr,h22]
 rcases hl with ⟨h1,c,hc,rfl⟩ | ⟨h1,rfl⟩
 ·rw [if_pos h1]
  simp only [hc,Option.bind_some]
  by_cases hct:c < t
  ·rw [if_pos hct] at fin ⊢
   simp only [hct,decide_true,if_true,ht,hc,Option.bind_some,hw]
   exact fin
  rw [if_neg hct] at fin ⊢
  simp only [hct,decide_false,Bool.false_eq_true,if_false,Option.bind_some]
  exact fin
 rw [if_neg h1]
 simp only [Option.bind_some,Bool.false_eq_true,if_false]
 exact fin
theorem zr:(fun (X:TProcess) (a:Int)=>aq (bK 1) (a,0,X,[a]))=fun X a=>some ((if a < a then a else a),X,[a]):=by kernel_rfl
theorem s9 (X:TProcess) {a:Int} (ba:0≤a∧a≤255):aq (bK 1) (a,0,X,[a])=some (a,X,[a])∧p23 (XC 0 [a])=some a:=by
 have h1:aq (bK 1) (a,0,X,[a])=_:=congrFun (congrFun zr X) a
 have h2:p23 (XC 0 [a])=_:=congrFun BK a
 rw [ite_self] at h1
 rw [if_pos (show a < 2305843009213693952 by omega)] at h2
 exact ⟨h1,h2⟩
theorem C1 {tm:List Int} (hb:∀ (i:Nat) t,tm[i]? = some t→0≤t∧t≤255) (hn:tm.length≤20):aq (kE (tm,1,false,none)) (0,some (XC 0 [0]),[0])=some (.inl ()):=by
 refine du (fun i s=>∃ a:Int,s=((i:Int),some (XC 0 [a]),[a])∧(0≤a∧a≤255)) tm.length (Sum.inl ():Unit⊕Unit) ?_ ?_ ⟨0,rfl,⟨by omega,by omega⟩⟩ (by omega)
 ·rintro i s hlt ⟨a,rfl,ba⟩
  have hg:tm[i]? = some tm[i]:=List.getElem?_eq_getElem hlt
  obtain ⟨t,et⟩:∃ t,tm[i]=t:=⟨_,rfl⟩
  rw [et] at hg
  obtain ⟨t0,t1⟩:=hb i t hg
  have hi:(i:Int) < (tm.length:Int):=by omega
  have ht:idx tm (i:Int)=some t:=kL hg
  have hw:IntKind.i64.wrap t=t:=aP (by omega) (by omega)
  have hr:iE .i64 t (IntKind.i64.wrap (1+1))=some (t % 2):=by
   rw [aP (by omega) (by omega)]
   unfold iE
   rw [if_neg (by omega),Int.tmod_eq_emod_of_nonneg t0]
   rfl
  have hc:t % 2=0∨t % 2=1:=by omega
  rcases hc with hf | hf
  ·refine ⟨_,aG (X':=XC 0 [(if a < t then t else a)]) (l':=[(if a < t then t else a)]) (n0:=(if a < t then t else a)) (mn:=(if a < t then t else a)) hi (by omega) ht hw (by rw [hr,hf]) (congrFun (congrFun (wo) t) a) (.inl ⟨by omega,a,rfl,by split<;>rfl⟩) rfl (s9 _ ⟨by split<;>omega,by split<;>omega⟩).1 (s9 (XC 0 []) ⟨by split<;>omega,by split<;>omega⟩).2,?_⟩
   exact ⟨(if a < t then t else a),rfl,⟨by split<;>omega,by split<;>omega⟩⟩
  refine ⟨_,aG (X':=XC 0 [a]) (l':=[a]) (n0:=a) (mn:=a) hi (by omega) ht hw (by rw [hr,hf]) (congrFun (congrFun (va) t) a) (.inr ⟨by omega,rfl⟩) rfl (s9 _ ba).1 (s9 (XC 0 []) ba).2,?_⟩
  exact ⟨a,rfl,ba⟩
 rintro s ⟨a,rfl,_⟩
 unfold kE
 dsimp only
 rw [if_neg (by omega)]
theorem yK:(fun (X:TProcess) (a b:Int)=>aq (bK 2) (a,0,X,[a,b]))=fun X a b=>some ((if b < (if a < a then a else a) then b else (if a < a then a else a)),X,[a,b]):=by kernel_rfl
theorem nQ (X:TProcess) {a b:Int} (ba:0≤a∧a≤255):aq (bK 2) (a,0,X,[a,b])=some ((if b < a then b else a),X,[a,b])∧p23 (XC 1 [a,b])=some (if b < a then b else a):=by
 have h1:aq (bK 2) (a,0,X,[a,b])=_:=congrFun (congrFun (congrFun yK X) a) b
 have h2:p23 (XC 1 [a,b])=_:=congrFun (congrFun BI a) b
 rw [ite_self] at h1
 rw [if_pos (show a < 2305843009213693952 by omega)] at h2
 exact ⟨h1,h2⟩
theorem D2 {tm:List Int} (hb:∀ (i:Nat) t,tm[i]? = some t→0≤t∧t≤255) (hn:tm.length≤20):aq (kE (tm,2,false,none)) (0,some (XC 1 [0,0]),[0,0])=some (.inl ()):=by
 refine du (fun i s=>∃ a b:Int,s=((i:Int),some (XC 1 [a,b]),[a,b])∧(0≤a∧a≤255)∧(0≤b∧b≤255)) tm.length (Sum.inl ():Unit⊕Unit) ?_ ?_ ⟨0,0,rfl,⟨by omega,by omega⟩,⟨by omega,by omega⟩⟩ (by omega)
 ·rintro i s hlt ⟨a,b,rfl,ba,bb⟩
  have hg:tm[i]? = some tm[i]:=List.getElem?_eq_getElem hlt
  obtain ⟨t,et⟩:∃ t,tm[i]=t:=⟨_,rfl⟩
  rw [et] at hg
  obtain ⟨t0,t1⟩:=hb i t hg
  have hi:(i:Int) < (tm.length:Int):=by omega
  have ht:idx tm (i:Int)=some t:=kL hg
  have hw:IntKind.i64.wrap t=t:=aP (by omega) (by omega)
  have hr:iE .i64 t (IntKind.i64.wrap (2+1))=some (t % 3):=by
   rw [aP (by omega) (by omega)]
   unfold iE
   rw [if_neg (by omega),Int.tmod_eq_emod_of_nonneg t0]
   rfl
  have hc:t % 3=0∨t % 3=1∨t % 3=2:=by omega
  rcases hc with hf | hf | hf
  ·refine ⟨_,aG (X':=XC 1 [(if a < t then t else a),b]) (l':=[(if a < t then t else a),b]) (n0:=(if a < t then t else a)) (mn:=(if b < (if a < t then t else a) then b else (if a < t then t else a))) hi (by omega) ht hw (by rw [hr,hf]) (congrFun (congrFun (congrFun (uP) t) a) b) (.inl ⟨by omega,a,rfl,by split<;>rfl⟩) rfl (nQ _ ⟨by split<;>omega,by split<;>omega⟩).1 (nQ (XC 0 []) ⟨by split<;>omega,by split<;>omega⟩).2,?_⟩
   exact ⟨(if a < t then t else a),b,rfl,⟨by split<;>omega,by split<;>omega⟩,bb⟩
  ·refine ⟨_,aG (X':=XC 1 [a,(if b < t then t else b)]) (l':=[a,(if b < t then t else b)]) (n0:=a) (mn:=(if (if b < t then t else b) < a then (if b < t then t else b) else a)) hi (by omega) ht hw (by rw [hr,hf]) (congrFun (congrFun (congrFun (vB) t) a) b) (.inl ⟨by omega,b,rfl,by split<;>rfl⟩) rfl (nQ _ ba).1 (nQ (XC 0 []) ba).2,?_⟩
   exact ⟨a,(if b < t then t else b),rfl,ba,⟨by split<;>omega,by split<;>omega⟩⟩
  refine ⟨_,aG (X':=XC 1 [a,b]) (l':=[a,b]) (n0:=a) (mn:=(if b < a then b else a)) hi (by omega) ht hw (by rw [hr,hf]) (congrFun (congrFun (congrFun (wd) t) a) b) (.inr ⟨by omega,rfl⟩) rfl (nQ _ ba).1 (nQ (XC 0 []) ba).2,?_⟩
  exact ⟨a,b,rfl,ba,bb⟩
 rintro s ⟨a,b,rfl,_⟩
 unfold kE
 dsimp only
 rw [if_neg (by omega)]
theorem zN:(fun (X:TProcess) (a b c:Int)=>aq (bK 3) (a,0,X,[a,b,c]))=fun X a b c=>some ((if c < (if b < (if a < a then a else a) then b else (if a < a then a else a)) then c else (if b < (if a < a then a else a) then b else (if a < a then a else a))),X,[a,b,c]):=by kernel_rfl
theorem kg (X:TProcess) {a b c:Int} (ba:0≤a∧a≤255):aq (bK 3) (a,0,X,[a,b,c])=some ((if c < (if b < a then b else a) then c else (if b < a then b else a)),X,[a,b,c])∧p23 (XC 2 [a,b,c])=some (if c < (if b < a then b else a) then c else (if b < a then b else a)):=by
 have h1:aq (bK 3) (a,0,X,[a,b,c])=_:=congrFun (congrFun (congrFun (congrFun zN X) a) b) c
 have h2:p23 (XC 2 [a,b,c])=_:=congrFun (congrFun (congrFun Bb a) b) c
 rw [ite_self] at h1
 rw [if_pos (show a < 2305843009213693952 by omega)] at h2
 exact ⟨h1,h2⟩
theorem DX {tm:List Int} (hb:∀ (i:Nat) t,tm[i]? = some t→0≤t∧t≤255) (hn:tm.length≤20):aq (kE (tm,3,false,none)) (0,some (XC 2 [0,0,0]),[0,0,0])=some (.inl ()):=by
 refine du (fun i s=>∃ a b c:Int,s=((i:Int),some (XC 2 [a,b,c]),[a,b,c])∧(0≤a∧a≤255)∧(0≤b∧b≤255)∧(0≤c∧c≤255)) tm.length (Sum.inl ():Unit⊕Unit) ?_ ?_ ⟨0,0,0,rfl,⟨by omega,by omega⟩,⟨by omega,by omega⟩,⟨by omega,by omega⟩⟩ (by omega)
 ·rintro i s hlt ⟨a,b,c,rfl,ba,bb,bc⟩
  have hg:tm[i]? = some tm[i]:=List.getElem?_eq_getElem hlt
  obtain ⟨t,et⟩:∃ t,tm[i]=t:=⟨_,rfl⟩
  rw [et] at hg
  obtain ⟨t0,t1⟩:=hb i t hg
  have hi:(i:Int) < (tm.length:Int):=by omega
  have ht:idx tm (i:Int)=some t:=kL hg
  have hw:IntKind.i64.wrap t=t:=aP (by omega) (by omega)
  have hr:iE .i64 t (IntKind.i64.wrap (3+1))=some (t % 4):=by
   rw [aP (by omega) (by omega)]
   unfold iE
   rw [if_neg (by omega),Int.tmod_eq_emod_of_nonneg t0]
   rfl
  have hc:t % 4=0∨t % 4=1∨t % 4=2∨t % 4=3:=by omega
  rcases hc with hf | hf | hf | hf
  ·refine ⟨_,aG (X':=XC 2 [(if a < t then t else a),b,c]) (l':=[(if a < t then t else a),b,c]) (n0:=(if a < t then t else a)) (mn:=(if c < (if b < (if a < t then t else a) then b else (if a < t then t else a)) then c else (if b < (if a < t then t else a) then b else (if a < t then t else a)))) hi (by omega) ht hw (by rw [hr,hf]) (congrFun (congrFun (congrFun (congrFun (vO) t) a) b) c) (.inl ⟨by omega,a,rfl,by split<;>rfl⟩) rfl (kg _ ⟨by split<;>omega,by split<;>omega⟩).1 (kg (XC 0 []) ⟨by split<;>omega,by split<;>omega⟩).2,?_⟩
   exact ⟨(if a < t then t else a),b,c,rfl,⟨by split<;>omega,by split<;>omega⟩,bb,bc⟩
  ·refine ⟨_,aG (X':=XC 2 [a,(if b < t then t else b),c]) (l':=[a,(if b < t then t else b),c]) (n0:=a) (mn:=(if c < (if (if b < t then t else b) < a then (if b < t then t else b) else a) then c else (if (if b < t then t else b) < a then (if b < t then t else b) else a))) hi (by omega) ht hw (by rw [hr,hf]) (congrFun (congrFun (congrFun (congrFun (wq) t) a) b) c) (.inl ⟨by omega,b,rfl,by split<;>rfl⟩) rfl (kg _ ba).1 (kg (XC 0 []) ba).2,?_⟩
   exact ⟨a,(if b < t then t else b),c,rfl,ba,⟨by split<;>omega,by split<;>omega⟩,bc⟩
  ·refine ⟨_,aG (X':=XC 2 [a,b,(if c < t then t else c)]) (l':=[a,b,(if c < t then t else c)]) (n0:=a) (mn:=(if (if c < t then t else c) < (if b < a then b else a) then (if c < t then t else c) else (if b < a then b else a))) hi (by omega) ht hw (by rw [hr,hf]) (congrFun (congrFun (congrFun (congrFun (ur) t) a) b) c) (.inl ⟨by omega,c,rfl,by split<;>rfl⟩) rfl (kg _ ba).1 (kg (XC 0 []) ba).2,?_⟩
   exact ⟨a,b,(if c < t then t else c),rfl,ba,bb,⟨by split<;>omega,by split<;>omega⟩⟩
  refine ⟨_,aG (X':=XC 2 [a,b,c]) (l':=[a,b,c]) (n0:=a) (mn:=(if c < (if b < a then b else a) then c else (if b < a then b else a))) hi (by omega) ht hw (by rw [hr,hf]) (congrFun (congrFun (congrFun (congrFun (wi) t) a) b) c) (.inr ⟨by omega,rfl⟩) rfl (kg _ ba).1 (kg (XC 0 []) ba).2,?_⟩
  exact ⟨a,b,c,rfl,ba,bb,bc⟩
 rintro s ⟨a,b,c,rfl,_⟩
 unfold kE
 dsimp only
 rw [if_neg (by omega)]
theorem ze:(fun (X:TProcess) (a b c d:Int)=>aq (bK 4) (a,0,X,[a,b,c,d]))=fun X a b c d=>some ((if d < (if c < (if b < (if a < a then a else a) then b else (if a < a then a else a)) then c else (if b < (if a < a then a else a) then b else (if a < a then a else a))) then d else (if c < (if b < (if a < a then a else a) then b else (if a < a then a else a)) then c else (if b < (if a < a then a else a) then b else (if a < a then a else a)))),X,[a,b,c,d]):=by kernel_rfl
theorem iz (X:TProcess) {a b c d:Int} (ba:0≤a∧a≤255):aq (bK 4) (a,0,X,[a,b,c,d])=some ((if d < (if c < (if b < a then b else a) then c else (if b < a then b else a)) then d else (if c < (if b < a then b else a) then c else (if b < a then b else a))),X,[a,b,c,d])∧p23 (XC 3 [a,b,c,d])=some (if d < (if c < (if b < a then b else a) then c else (if b < a then b else a)) then d else (if c < (if b < a then b else a) then c else (if b < a then b else a))):=by
 have h1:aq (bK 4) (a,0,X,[a,b,c,d])=_:=congrFun (congrFun (congrFun (congrFun (congrFun ze X) a) b) c) d
 have h2:p23 (XC 3 [a,b,c,d])=_:=congrFun (congrFun (congrFun (congrFun A2 a) b) c) d
 rw [ite_self] at h1
 rw [if_pos (show a < 2305843009213693952 by omega)] at h2
 exact ⟨h1,h2⟩
theorem DA {tm:List Int} (hb:∀ (i:Nat) t,tm[i]? = some t→0≤t∧t≤255) (hn:tm.length≤20):aq (kE (tm,4,false,none)) (0,some (XC 3 [0,0,0,0]),[0,0,0,0])=some (.inl ()):=by
 refine du (fun i s=>∃ a b c d:Int,s=((i:Int),some (XC 3 [a,b,c,d]),[a,b,c,d])∧(0≤a∧a≤255)∧(0≤b∧b≤255)∧(0≤c∧c≤255)∧(0≤d∧d≤255)) tm.length (Sum.inl ():Unit⊕Unit) ?_ ?_ ⟨0,0,0,0,rfl,⟨by omega,by omega⟩,⟨by omega,by omega⟩,⟨by omega,by omega⟩,⟨by omega,by omega⟩⟩ (by omega)
 ·rintro i s hlt ⟨a,b,c,d,rfl,ba,bb,bc,bd⟩
  have hg:tm[i]? = some tm[i]:=List.getElem?_eq_getElem hlt
  obtain ⟨t,et⟩:∃ t,tm[i]=t:=⟨_,rfl⟩
  rw [et] at hg
  obtain ⟨t0,t1⟩:=hb i t hg
  have hi:(i:Int) < (tm.length:Int):=by omega
  have ht:idx tm (i:Int)=some t:=kL hg
  have hw:IntKind.i64.wrap t=t:=aP (by omega) (by omega)
  have hr:iE .i64 t (IntKind.i64.wrap (4+1))=some (t % 5):=by
   rw [aP (by omega) (by omega)]
   unfold iE
   rw [if_neg (by omega),Int.tmod_eq_emod_of_nonneg t0]
   rfl
  have hc:t % 5=0∨t % 5=1∨t % 5=2∨t % 5=3∨t % 5=4:=by omega
  rcases hc with hf | hf | hf | hf | hf
  ·refine ⟨_,aG (X':=XC 3 [(if a < t then t else a),b,c,d]) (l':=[(if a < t then t else a),b,c,d]) (n0:=(if a < t then t else a)) (mn:=(if d < (if c < (if b < (if a < t then t else a) then b else (if a < t then t else a)) then c else (if b < (if a < t then t else a) then b else (if a < t then t else a))) then d else (if c < (if b < (if a < t then t else a) then b else (if a < t then t else a)) then c else (if b < (if a < t then t else a) then b else (if a < t then t else a))))) hi (by omega) ht hw (by rw [hr,hf]) (congrFun (congrFun (congrFun (congrFun (congrFun (uL) t) a) b) c) d) (.inl ⟨by omega,a,rfl,by split<;>rfl⟩) rfl (iz _ ⟨by split<;>omega,by split<;>omega⟩).1 (iz (XC 0 []) ⟨by split<;>omega,by split<;>omega⟩).2,?_⟩
   exact ⟨(if a < t then t else a),b,c,d,rfl,⟨by split<;>omega,by split<;>omega⟩,bb,bc,bd⟩
  ·refine ⟨_,aG (X':=XC 3 [a,(if b < t then t else b),c,d]) (l':=[a,(if b < t then t else b),c,d]) (n0:=a) (mn:=(if d < (if c < (if (if b < t then t else b) < a then (if b < t then t else b) else a) then c else (if (if b < t then t else b) < a then (if b < t then t else b) else a)) then d else (if c < (if (if b < t then t else b) < a then (if b < t then t else b) else a) then c else (if (if b < t then t else b) < a then (if b < t then t else b) else a)))) hi (by omega) ht hw (by rw [hr,hf]) (congrFun (congrFun (congrFun (congrFun (congrFun (xw) t) a) b) c) d) (.inl ⟨by omega,b,rfl,by split<;>rfl⟩) rfl (iz _ ba).1 (iz (XC 0 []) ba).2,?_⟩
   exact ⟨a,(if b < t then t else b),c,d,rfl,ba,⟨by split<;>omega,by split<;>omega⟩,bc,bd⟩
  ·refine ⟨_,aG (X':=XC 3 [a,b,(if c < t then t else c),d]) (l':=[a,b,(if c < t then t else c),d]) (n0:=a) (mn:=(if d < (if (if c < t then t else c) < (if b < a then b else a) then (if c < t then t else c) else (if b < a then b else a)) then d else (if (if c < t then t else c) < (if b < a then b else a) then (if c < t then t else c) else (if b < a then b else a)))) hi (by omega) ht hw (by rw [hr,hf]) (congrFun (congrFun (congrFun (congrFun (congrFun (vv) t) a) b) c) d) (.inl ⟨by omega,c,rfl,by split<;>rfl⟩) rfl (iz _ ba).1 (iz (XC 0 []) ba).2,?_⟩
   exact ⟨a,b,(if c < t then t else c),d,rfl,ba,bb,⟨by split<;>omega,by split<;>omega⟩,bd⟩
  ·refine ⟨_,aG (X':=XC 3 [a,b,c,(if d < t then t else d)]) (l':=[a,b,c,(if d < t then t else d)]) (n0:=a) (mn:=(if (if d < t then t else d) < (if c < (if b < a then b else a) then c else (if b < a then b else a)) then (if d < t then t else d) else (if c < (if b < a then b else a) then c else (if b < a then b else a)))) hi (by omega) ht hw (by rw [hr,hf]) (congrFun (congrFun (congrFun (congrFun (congrFun (xz) t) a) b) c) d) (.inl ⟨by omega,d,rfl,by split<;>rfl⟩) rfl (iz _ ba).1 (iz (XC 0 []) ba).2,?_⟩
   exact ⟨a,b,c,(if d < t then t else d),rfl,ba,bb,bc,⟨by split<;>omega,by split<;>omega⟩⟩
  refine ⟨_,aG (X':=XC 3 [a,b,c,d]) (l':=[a,b,c,d]) (n0:=a) (mn:=(if d < (if c < (if b < a then b else a) then c else (if b < a then b else a)) then d else (if c < (if b < a then b else a) then c else (if b < a then b else a)))) hi (by omega) ht hw (by rw [hr,hf]) (congrFun (congrFun (congrFun (congrFun (congrFun (wV) t) a) b) c) d) (.inr ⟨by omega,rfl⟩) rfl (iz _ ba).1 (iz (XC 0 []) ba).2,?_⟩
  exact ⟨a,b,c,d,rfl,ba,bb,bc,bd⟩
 rintro s ⟨a,b,c,d,rfl,_⟩
 unfold kE
 dsimp only
 rw [if_neg (by omega)]
theorem yg:(fun (X:TProcess) (a b c d e:Int)=>aq (bK 5) (a,0,X,[a,b,c,d,e]))=fun X a b c d e=>some ((if e < (if d < (if c < (if b < (if a < a then a else a) then b else (if a < a then a else a)) then c else (if b < (if a < a then a else a) then b else (if a < a then a else a))) then d else (if c < (if b < (if a < a then a else a) then b else (if a < a then a else a)) then c else (if b < (if a < a then a else a) then b else (if a < a then a else a)))) then e else (if d < (if c < (if b < (if a < a then a else a) then b else (if a < a then a else a)) then c else (if b < (if a < a then a else a) then b else (if a < a then a else a))) then d else (if c < (if b < (if a < a then a else a) then b else (if a < a then a else a)) then c else (if b < (if a < a then a else a) then b else (if a < a then a else a))))),X,[a,b,c,d,e]):=by kernel_rfl
theorem fQ (X:TProcess) {a b c d e:Int} (ba:0≤a∧a≤255):aq (bK 5) (a,0,X,[a,b,c,d,e])=some ((if e < (if d < (if c < (if b < a then b else a) then c else (if b < a then b else a)) then d else (if c < (if b < a then b else a) then c else (if b < a then b else a))) then e else (if d < (if c < (if b < a then b else a) then c else (if b < a then b else a)) then d else (if c < (if b < a then b else a) then c else (if b < a then b else a)))),X,[a,b,c,d,e])∧p23 (XC 4 [a,b,c,d,e])=some (if e < (if d < (if c < (if b < a then b else a) then c else (if b < a then b else a)) then d else (if c < (if b < a then b else a) then c else (if b < a then b else a))) then e else (if d < (if c < (if b < a then b else a) then c else (if b < a then b else a)) then d else (if c < (if b < a then b else a) then c else (if b < a then b else a)))):=by
 have h1:aq (bK 5) (a,0,X,[a,b,c,d,e])=_:=congrFun (congrFun (congrFun (congrFun (congrFun (congrFun yg X) a) b) c) d) e
 have h2:p23 (XC 4 [a,b,c,d,e])=_:=congrFun (congrFun (congrFun (congrFun (congrFun BT a) b) c) d) e
 rw [ite_self] at h1
 rw [if_pos (show a < 2305843009213693952 by omega)] at h2
 exact ⟨h1,h2⟩
theorem C8 {tm:List Int} (hb:∀ (i:Nat) t,tm[i]? = some t→0≤t∧t≤255) (hn:tm.length≤20):aq (kE (tm,5,false,none)) (0,some (XC 4 [0,0,0,0,0]),[0,0,0,0,0])=some (.inl ()):=by
 refine du (fun i s=>∃ a b c d e:Int,s=((i:Int),some (XC 4 [a,b,c,d,e]),[a,b,c,d,e])∧(0≤a∧a≤255)∧(0≤b∧b≤255)∧(0≤c∧c≤255)∧(0≤d∧d≤255)∧(0≤e∧e≤255)) tm.length (Sum.inl ():Unit⊕Unit) ?_ ?_ ⟨0,0,0,0,0,rfl,⟨by omega,by omega⟩,⟨by omega,by omega⟩,⟨by omega,by omega⟩,⟨by omega,by omega⟩,⟨by omega,by omega⟩⟩ (by omega)
 ·rintro i s hlt ⟨a,b,c,d,e,rfl,ba,bb,bc,bd,be⟩
  have hg:tm[i]? = some tm[i]:=List.getElem?_eq_getElem hlt
  obtain ⟨t,et⟩:∃ t,tm[i]=t:=⟨_,rfl⟩
  rw [et] at hg
  obtain ⟨t0,t1⟩:=hb i t hg
  have hi:(i:Int) < (tm.length:Int):=by omega
  have ht:idx tm (i:Int)=some t:=kL hg
  have hw:IntKind.i64.wrap t=t:=aP (by omega) (by omega)
  have hr:iE .i64 t (IntKind.i64.wrap (5+1))=some (t % 6):=by
   rw [aP (by omega) (by omega)]
   unfold iE
   rw [if_neg (by omega),Int.tmod_eq_emod_of_nonneg t0]
   rfl
  have hc:t % 6=0∨t % 6=1∨t % 6=2∨t % 6=3∨t % 6=4∨t % 6=5:=by omega
  rcases hc with hf | hf | hf | hf | hf | hf
  ·refine ⟨_,aG (X':=XC 4 [(if a < t then t else a),b,c,d,e]) (l':=[(if a < t then t else a),b,c,d,e]) (n0:=(if a < t then t else a)) (mn:=(if e < (if d < (if c < (if b < (if a < t then t else a) then b else (if a < t then t else a)) then c else (if b < (if a < t then t else a) then b else (if a < t then t else a))) then d else (if c < (if b < (if a < t then t else a) then b else (if a < t then t else a)) then c else (if b < (if a < t then t else a) then b else (if a < t then t else a)))) then e else (if d < (if c < (if b < (if a < t then t else a) then b else (if a < t then t else a)) then c else (if b < (if a < t then t else a) then b else (if a < t then t else a))) then d else (if c < (if b < (if a < t then t else a) then b else (if a < t then t else a)) then c else (if b < (if a < t then t else a) then b else (if a < t then t else a)))))) hi (by omega) ht hw (by rw [hr,hf]) (congrFun (congrFun (congrFun (congrFun (congrFun (congrFun (uJ) t) a) b) c) d) e) (.inl ⟨by omega,a,rfl,by split<;>rfl⟩) rfl (fQ _ ⟨by split<;>omega,by split<;>omega⟩).1 (fQ (XC 0 []) ⟨by split<;>omega,by split<;>omega⟩).2,?_⟩
   exact ⟨(if a < t then t else a),b,c,d,e,rfl,⟨by split<;>omega,by split<;>omega⟩,bb,bc,bd,be⟩
  ·refine ⟨_,aG (X':=XC 4 [a,(if b < t then t else b),c,d,e]) (l':=[a,(if b < t then t else b),c,d,e]) (n0:=a) (mn:=(if e < (if d < (if c < (if (if b < t then t else b) < a then (if b < t then t else b) else a) then c else (if (if b < t then t else b) < a then (if b < t then t else b) else a)) then d else (if c < (if (if b < t then t else b) < a then (if b < t then t else b) else a) then c else (if (if b < t then t else b) < a then (if b < t then t else b) else a))) then e else (if d < (if c < (if (if b < t then t else b) < a then (if b < t then t else b) else a) then c else (if (if b < t then t else b) < a then (if b < t then t else b) else a)) then d else (if c < (if (if b < t then t else b) < a then (if b < t then t else b) else a) then c else (if (if b < t then t else b) < a then (if b < t then t else b) else a))))) hi (by omega) ht hw (by rw [hr,hf]) (congrFun (congrFun (congrFun (congrFun (congrFun (congrFun (vz) t) a) b) c) d) e) (.inl ⟨by omega,b,rfl,by split<;>rfl⟩) rfl (fQ _ ba).1 (fQ (XC 0 []) ba).2,?_⟩
   exact ⟨a,(if b < t then t else b),c,d,e,rfl,ba,⟨by split<;>omega,by split<;>omega⟩,bc,bd,be⟩
  ·refine ⟨_,aG (X':=XC 4 [a,b,(if c < t then t else c),d,e]) (l':=[a,b,(if c < t then t else c),d,e]) (n0:=a) (mn:=(if e < (if d < (if (if c < t then t else c) < (if b < a then b else a) then (if c < t then t else c) else (if b < a then b else a)) then d else (if (if c < t then t else c) < (if b < a then b else a) then (if c < t then t else c) else (if b < a then b else a))) then e else (if d < (if (if c < t then t else c) < (if b < a then b else a) then (if c < t then t else c) else (if b < a then b else a)) then d else (if (if c < t then t else c) < (if b < a then b else a) then (if c < t then t else c) else (if b < a then b else a))))) hi (by omega) ht hw (by rw [hr,hf]) (congrFun (congrFun (congrFun (congrFun (congrFun (congrFun (wP) t) a) b) c) d) e) (.inl ⟨by omega,c,rfl,by split<;>rfl⟩) rfl (fQ _ ba).1 (fQ (XC 0 []) ba).2,?_⟩
   exact ⟨a,b,(if c < t then t else c),d,e,rfl,ba,bb,⟨by split<;>omega,by split<;>omega⟩,bd,be⟩
  ·refine ⟨_,aG (X':=XC 4 [a,b,c,(if d < t then t else d),e]) (l':=[a,b,c,(if d < t then t else d),e]) (n0:=a) (mn:=(if e < (if (if d < t then t else d) < (if c < (if b < a then b else a) then c else (if b < a then b else a)) then (if d < t then t else d) else (if c < (if b < a then b else a) then c else (if b < a then b else a))) then e else (if (if d < t then t else d) < (if c < (if b < a then b else a) then c else (if b < a then b else a)) then (if d < t then t else d) else (if c < (if b < a then b else a) then c else (if b < a then b else a))))) hi (by omega) ht hw (by rw [hr,hf]) (congrFun (congrFun (congrFun (congrFun (congrFun (congrFun (xb) t) a) b) c) d) e) (.inl ⟨by omega,d,rfl,by split<;>rfl⟩) rfl (fQ _ ba).1 (fQ (XC 0 []) ba).2,?_⟩
   exact ⟨a,b,c,(if d < t then t else d),e,rfl,ba,bb,bc,⟨by split<;>omega,by split<;>omega⟩,be⟩
  ·refine ⟨_,aG (X':=XC 4 [a,b,c,d,(if e < t then t else e)]) (l':=[a,b,c,d,(if e < t then t else e)]) (n0:=a) (mn:=(if (if e < t then t else e) < (if d < (if c < (if b < a then b else a) then c else (if b < a then b else a)) then d else (if c < (if b < a then b else a) then c else (if b < a then b else a))) then (if e < t then t else e) else (if d < (if c < (if b < a then b else a) then c else (if b < a then b else a)) then d else (if c < (if b < a then b else a) then c else (if b < a then b else a))))) hi (by omega) ht hw (by rw [hr,hf]) (congrFun (congrFun (congrFun (congrFun (congrFun (congrFun (wG) t) a) b) c) d) e) (.inl ⟨by omega,e,rfl,by split<;>rfl⟩) rfl (fQ _ ba).1 (fQ (XC 0 []) ba).2,?_⟩
   exact ⟨a,b,c,d,(if e < t then t else e),rfl,ba,bb,bc,bd,⟨by split<;>omega,by split<;>omega⟩⟩
  refine ⟨_,aG (X':=XC 4 [a,b,c,d,e]) (l':=[a,b,c,d,e]) (n0:=a) (mn:=(if e < (if d < (if c < (if b < a then b else a) then c else (if b < a then b else a)) then d else (if c < (if b < a then b else a) then c else (if b < a then b else a))) then e else (if d < (if c < (if b < a then b else a) then c else (if b < a then b else a)) then d else (if c < (if b < a then b else a) then c else (if b < a then b else a))))) hi (by omega) ht hw (by rw [hr,hf]) (congrFun (congrFun (congrFun (congrFun (congrFun (congrFun (vd) t) a) b) c) d) e) (.inr ⟨by omega,rfl⟩) rfl (fQ _ ba).1 (fQ (XC 0 []) ba).2,?_⟩
  exact ⟨a,b,c,d,e,rfl,ba,bb,bc,bd,be⟩
 rintro s ⟨a,b,c,d,e,rfl,_⟩
 unfold kE
 dsimp only
 rw [if_neg (by omega)]
theorem sD:p11 ()=some true:=by kernel_rfl
theorem vG {k:Int} {tm:List Int} (hk:0≤k) (hb:∀ (i:Nat) t,tm[i]? = some t→0≤t∧t≤255):p6 (k,tm)=some true:=by
 have e:p6 (k,tm)=if decide (20 < (tm.length:Int))=true then some true else (iE .u8 k 5).bind fun n3=>p6r n3 (k,tm,decide (20 < (tm.length:Int))):=by
  unfold p6
  rw [sD]
  rfl
 rw [e]
 by_cases hn:20 < (tm.length:Int)
 ·rw [if_pos (by simpa using hn)]
 rw [if_neg (by simpa using hn)]
 have hr:iE .u8 k 5=some (k % 5):=by
  unfold iE
  rw [if_neg (by omega),Int.tmod_eq_emod_of_nonneg hk]
 rw [hr]
 show p6r (k % 5) (k,tm,_)=_
 have hc:k % 5=0∨k % 5=1∨k % 5=2∨k % 5=3∨k % 5=4:=by omega
 have hn':tm.length≤20:=by omega
 rcases hc with h | h | h | h | h
 ·rw [h]
  have s:p6r 0 (k,tm,_)=_:=congrFun (congrFun (congrFun zp k) tm) (decide (20 < (tm.length:Int)))
  rw [s,C1 hb hn']
  rfl
 ·rw [h]
  have s:p6r 1 (k,tm,_)=_:=congrFun (congrFun (congrFun zo k) tm) (decide (20 < (tm.length:Int)))
  rw [s,D2 hb hn']
  rfl
 ·rw [h]
  have s:p6r 2 (k,tm,_)=_:=congrFun (congrFun (congrFun yQ k) tm) (decide (20 < (tm.length:Int)))
  rw [s,DX hb hn']
  rfl
 ·rw [h]
  have s:p6r 3 (k,tm,_)=_:=congrFun (congrFun (congrFun zx k) tm) (decide (20 < (tm.length:Int)))
  rw [s,DA hb hn']
  rfl
 rw [h]
 have s:p6r 4 (k,tm,_)=_:=congrFun (congrFun (congrFun yj k) tm) (decide (20 < (tm.length:Int)))
 rw [s,C8 hb hn']
 rfl
theorem wf8 {n:Int} (h:(Lit.int .u8 n).wf=true):0≤n∧n≤255:=by
 simp only [Lit.wf,Bool.and_eq_true,decide_eq_true_eq] at h
 exact h
theorem law_processClocks:∀ h xs,rK [(.int .u8),(.sl (.int .u8))] h xs→cP F 6 xs h fun v _=>v=.bool true:=by
 intro h xs ht
 obtain ⟨a,b,rfl,⟨n1,e1,w1⟩,c,d,rfl,h2,h4⟩:=ht
 simp only [rK] at h4
 subst h4
 cases e1
 obtain ⟨s1,l1,e2,k1,k2,_⟩:=vR (r:=rI .u8) (ok:=fun n=>0≤n∧n≤255) (cs:=[c]) rfl (fun c hc=>by obtain ⟨n,q1,q2⟩:=sF hc; exact ⟨n,q1,wf8 q2⟩) h2
 obtain rfl:c=s1:=by injection e2
 have k3:SlR (rI .u8) (Bo h eX) c l1:=k1.mono fun o cs v hf=>.inl hf
 exact law_bool o6 (x:=(n1,l1,())) (vG (wf8 w1).1 fun i t hi=>k2 t (List.mem_of_getElem? hi)) rfl (Fz.refl h) (am:=fun _=>.nilPtr) ⟨_,rfl,rfl,⟨_,rfl,rfl⟩,c,jL k3.is,⟨c,rfl,k3⟩,⟨_,rfl,rfl⟩,rfl⟩
end Go.Proofs.Ytmchbhheoieepaa
