/- Pure functions, and that the machine's functions answer as they do. No condition. Own work. -/
import Derived.Test.YtgbkpiaonlabgaaPaLaneRing
set_option linter.unusedSimpArgs false
set_option linter.unusedVariables false
namespace Go.Proofs.Ytgbkpiaonlabgaa
open Go Go.Am
noncomputable section
def p14_l0 (x0:List Int) (st:Int×Int×(List TPlace)×(List TTrans)×(List Int)×(List Int)):Option ((Int×Int×(List TPlace)×(List TTrans)×(List Int)×(List Int))⊕(Int×(List TPlace)×(List TTrans)×(List Int)×(List Int))):=match st with | (y10,y11,c12,c13,c14,c15)=>if y11 < (x0.length:Int) then ((app 24 c12 [(TPlace.mk ([]:List UInt8) 0)]).bind fun c16=>(idx x0 y11).bind fun e17=>(remI .i64 (IntKind.wrap .i64 (y11+1)) (x0.length:Int)).bind fun d18=>(app 104 c13 [(TTrans.mk ([]:List UInt8) (IntKind.wrap .i64 (1+(IntKind.wrap .i64 e17))) 0 [(TArc.mk y11 1)] [] [(TArc.mk d18 1)])]).bind fun c19=>(app 8 c14 [y11]).bind fun c20=>(app 8 c15 [y11]).bind fun c21=>(idx x0 y11).bind fun e22=>some (.inl ((IntKind.wrap .i64 (y10+(IntKind.wrap .i64 (1+(IntKind.wrap .i64 e22))))),(IntKind.wrap .i64 (y11+1)),c16,c19,c20,c21))) else (some (.inr (y10,c12,c13,c14,c15)))
def p14_j0 (y23:Int) (b24:Bool):Option (Int⊕(Unit⊕Unit)):=if b24=true then (some (.inr (.inl ()))) else (some (.inl (IntKind.wrap .i64 (y23+1))))
def p14_l1 (x0:List Int) (y25:(List TLane)) (y23:Int):Option (Int⊕(Unit⊕Unit)):=if y23 < (x0.length:Int) then ((remI .i64 (IntKind.wrap .i64 (y23+1)) (x0.length:Int)).bind fun d26=>(p37 y25 y23 d26).bind fun y27=>if y27 < 0 then (p14_j0 y23 true) else ((idx y25 y27).bind fun e28=>(idx x0 y23).bind fun e29=>p14_j0 y23 (!decide (e28.Ahead=(IntKind.wrap .i64 (1+(IntKind.wrap .i64 e29))))))) else (some (.inr (.inr ())))
def p14_j1 (x0:List Int) (c30:List Int) (c31:List Int) (y32:TNet) (y25:(List TLane)) (b33:Bool):Option Bool:=if b33=true then (some false) else ((loopC (p14_l1 x0 y25) 0).bind fun res34=>(match res34 with | .inl _=>some false | .inr _=>(idx y32.Trans 0).bind fun e35=>(some (y32.Trans.set (0:Int).toNat (TTrans.mk e35.Name e35.Delay e35.Prio e35.In e35.Not []))).bind fun y36=>(p35 (TNet.mk y32.Places y36) (TPart.mk (x0.length:Int) c30 c31)).bind fun y37=>(p38 y37 (x0.length:Int)).bind fun y38=>some (decide (y38=((-1):Int)))))
def p14_j2 (x0:List Int) (b39:Bool):Option Bool:=if b39=true then ((p32 ).bind fun y40=>some y40) else ((loopC (p14_l0 x0) (0,0,[],[],[],[])).bind fun res41=>(match res41 with | (y42,c43,c44,c30,c31)=>(p23 (TNet.mk c43 c44)).bind fun y32=>(p35 y32 (TPart.mk (x0.length:Int) c30 c31)).bind fun y25=>if (!decide ((y25.length:Int)=(x0.length:Int)))=true then (p14_j1 x0 c30 c31 y32 y25 true) else ((p38 y25 (x0.length:Int)).bind fun y45=>p14_j1 x0 c30 c31 y32 y25 (!decide (y45=y42)))))
def p14_j3 (x0:List Int) (b46:Bool):Option Bool:=if b46=true then (p14_j2 x0 true) else (p14_j2 x0 (decide (15 < (x0.length:Int))))
def p14 (x0:List Int):Option Bool:=(p32 ).bind fun y47=>if (!y47)=true then (p14_j3 x0 true) else (p14_j3 x0 (decide ((x0.length:Int) < 2)))
theorem r14 {h:Heap} {a0_0:AV} {x0:List Int} (f0_0:SlR (rI .u8) (Snap h) a0_0 x0) {r:Bool} (hf:p14 x0=some r):ZC F 14 [a0_0] h fun v h'=>v=.bool r∧St h none' [] h':=by
 refine w14 ?_
 unfold W14
 unfold p14 at hf
 have S:St h none' [] h:=St.refl _ _
 obtain ⟨y47,hy47,hf⟩:=oB hf
 refine ⟨_,Fz.refl _,?_⟩
 refine (r32  hy47).mono fun v48 h49 T=>?_
 obtain ⟨rfl,T⟩:=T
 have S:St _ _ [] _:=S.comp T
 refine ⟨y47,rfl,?_⟩
 intro jjj3
 have hjj3:∀ (b46:Bool) (h50:Heap),p14_j3 x0 b46=some r→h49=h50→St h none' [] h49→jjj3 b46 h50:=by
  rintro b46 h50 hf rfl S
  unfold p14_j3 at hf
  unfold jjj3
  intro jjj2
  have hjj2:∀ (b39:Bool) (h51:Heap),p14_j2 x0 b39=some r→h49=h51→St h none' [] h49→jjj2 b39 h51:=by
   rintro b39 h51 hf rfl S
   unfold p14_j2 at hf
   unfold jjj2
   refine bI (fun hc=>?_) (fun hc=>?_)
   ·rw [ifT hc] at hf
    obtain ⟨y40,hy40,hf⟩:=oB hf
    refine ⟨_,Fz.refl _,?_⟩
    refine (r32  hy40).mono fun v52 h53 T=>?_
    obtain ⟨rfl,T⟩:=T
    have S:St _ _ [] _:=S.comp T
    refine ⟨y40,rfl,?_⟩
    obtain rfl:=oi hf
    exact ⟨rfl,S.sel [] rfl⟩
   rw [ifF hc] at hf
   intro h54
   have S:St _ _ [rowC h49.n [.nilSlice,.nilSlice] 0] _:=S.pushRow [.nilSlice,.nilSlice]
   refine iI.2 ⟨(f0_0).is,?_⟩
   try rw [show (a0_0).slen=_ from (f0_0).slen]
   intro h55
   have S:St _ _ [rowC h54.n [(.int .i64 0),.nilSlice,.nilSlice] 0,_] _:=S.pushRow [(.int .i64 0),.nilSlice,.nilSlice]
   obtain ⟨h56,e57,S⟩:=S.store (off:=0) (n:=3) (x:=(.agg [(.int .i64 (x0.length:Int)),.nilSlice,.nilSlice])) (cs':=[(.int .i64 (x0.length:Int)),.nilSlice,.nilSlice]) (nl rfl) rfl rfl rfl
   refine ⟨h56,e57,?_⟩
   obtain ⟨res41,hL,hf⟩:=oB hf
   obtain ⟨n58,hL⟩:=loopC_iff.1 hL
   have S:St _ _ [own (oSl (fz rPlace)) [.nilSlice] [],_,_] _:=S.addE (oSl_nil _ _)
   have S:St _ _ [own (oSl oTrans) [.nilSlice] [],_,_,_] _:=S.addE (oSl_nil _ _)
   have S:St _ _ [own (oSl (fz (rI .i64))) [.nilSlice] [],_,_,_,_] _:=S.addE (oSl_nil _ _)
   have S:St _ _ [own (oSl (fz (rI .i64))) [.nilSlice] [],_,_,_,_,_] _:=S.addE (oSl_nil _ _)
   have S:=S.sel [5,4,3,2,1,0] rfl
   refine loopm14_0 (X0:=fun (y59:AV) (y60:Bool) (y61:AV) (y62:AV) (y42:Int) (y63:Int) (h64:Heap)=>∃ (c65:AV),∃ (c66:AV),∃ (c67:AV),∃ (c68:AV),∃ (c43:List TPlace),∃ (c44:List TTrans),∃ (c30:List Int),∃ (c31:List Int),a0_0=y59∧false=y60∧AV.ptr h49.n 0 0=y61∧AV.ptr h54.n 0 0=y62∧St h none' [rowC h49.n [c65,c66] 0,rowC h54.n [(.int .i64 (x0.length:Int)),c67,c68] 0,own (oSl (fz rPlace)) [c65] c43,own (oSl oTrans) [c66] c44,own (oSl (fz (rI .i64))) [c67] c30,own (oSl (fz (rI .i64))) [c68] c31] h64∧(y42,c43,c44,c30,c31)=res41) ?_ (loop14_0 (I:=fun (m69:Nat) (y70:AV) (y71:Bool) (y72:AV) (y73:AV) (y10:Int) (y11:Int) (h74:Heap)=>∃ (c75:AV),∃ (c76:AV),∃ (c77:AV),∃ (c78:AV),∃ (c12:List TPlace),∃ (c13:List TTrans),∃ (c14:List Int),∃ (c15:List Int),a0_0=y70∧false=y71∧AV.ptr h49.n 0 0=y72∧AV.ptr h54.n 0 0=y73∧St h none' [rowC h49.n [c75,c76] 0,rowC h54.n [(.int .i64 (x0.length:Int)),c77,c78] 0,own (oSl (fz rPlace)) [c75] c12,own (oSl oTrans) [c76] c13,own (oSl (fz (rI .i64))) [c77] c14,own (oSl (fz (rI .i64))) [c78] c15] h74∧iter (p14_l0 x0) m69 (y10,y11,c12,c13,c14,c15)=some res41) ?_ (m:=n58) ?_)
   ·rintro y59 y60 y61 y62 y42 y63 h64 ⟨c65,c66,c67,c68,c43,c44,c30,c31,rfl,rfl,rfl,rfl,S,rfl⟩
    try dsimp only at hf
    refine ⟨c65,c66,S.rdN m0 (nl rfl) rfl,?_⟩
    obtain ⟨y32,hy32,hf⟩:=oB hf
    have S:=S.sel [3,0,1,2,4,5] rfl
    obtain ⟨h79,z80,S⟩:=St.freeze S
    refine ⟨_,z80,?_⟩
    refine (r23 (x0:=(TNet.mk c43 c44)) (f0_0:=(S.sl (r:=(fz rPlace)) m3)) (f0_1:=S.slz (r:=rTrans) m0) hy32).mono fun v81 h82 T=>?_
    obtain ⟨w83,w84,rfl,T⟩:=T
    have S:St _ _ [own (oSl (fz rPlace)) [w83] y32.Places,own (oSl (fz rTrans)) [w84] y32.Trans,_,_,_,_,_,_] _:=S.comp T
    have S:=S.sel [3,0,1,2,4,5,6,7] rfl
    obtain ⟨h85,e86,S⟩:=S.store (off:=0) (n:=2) (x:=(.agg [w83,w84])) (cs':=[w83,w84]) (nl rfl) rfl rfl rfl
    refine ⟨h85,e86,?_⟩
    refine ⟨w83,w84,S.rdN m0 (nl rfl) rfl,?_⟩
    refine ⟨(.int .i64 (x0.length:Int)),c67,c68,S.rdN m4 (nl rfl) rfl,?_⟩
    obtain ⟨y25,hy25,hf⟩:=oB hf
    refine ⟨_,Fz.refl _,?_⟩
    refine (r35 (n0:=y32) (p1:=(TPart.mk (x0.length:Int) c30 c31)) (f0_0:=(S.sl (r:=(fz rPlace)) m1)) (f0_1:=(S.sl (r:=(fz rTrans)) m2)) (f1_1:=(S.sl (r:=(fz (rI .i64))) m6)) (f1_2:=(S.sl (r:=(fz (rI .i64))) m7)) hy25).mono fun v87 h88 T=>?_
    have S:St _ _ [own (oSl (fz rLane)) [v87] y25,_,_,_,_,_,_,_,_] _:=S.comp T
    refine iI.2 ⟨((S.sl (r:=(fz rLane)) m0)).is,?_⟩
    try rw [show (v87).slen=_ from ((S.sl (r:=(fz rLane)) m0)).slen]
    refine iI.2 ⟨(f0_0).is,?_⟩
    try rw [show (a0_0).slen=_ from (f0_0).slen]
    intro jjj1
    have hjj1:∀ (b33:Bool) (h89:Heap),p14_j1 x0 c30 c31 y32 y25 b33=some r→St h none' [rowC h49.n [w83,w84] 0,rowC h54.n [(.int .i64 (x0.length:Int)),c67,c68] 0,own (oSl (fz rLane)) [v87] y25,own (oSl (fz rPlace)) [w83] y32.Places,own (oSl (fz rTrans)) [w84] y32.Trans,own (oSl (fz (rI .i64))) [c67] c30,own (oSl (fz (rI .i64))) [c68] c31] h89→jjj1 b33 h89:=by
     rintro b33 h89 hf S
     unfold p14_j1 at hf
     unfold jjj1
     refine bI (fun hc=>?_) (fun hc=>?_)
     ·rw [ifT hc] at hf
      obtain rfl:=oi hf
      exact ⟨rfl,S.sel [] rfl⟩
     rw [ifF hc] at hf
     obtain ⟨res34,hL,hf⟩:=oB hf
     obtain ⟨n90,hL⟩:=loopC_iff.1 hL
     refine loopm14_1 (R:=fun (y91:AV) (y92:Bool) (y93:AV) (y94:AV) (y95:AV) (y96:Int) (h97:Heap)=>false=y92∧St h none' [] h97∧(.inl ())=res34) (X2:=fun (y98:AV) (y99:Bool) (y100:AV) (y101:AV) (y102:AV) (y103:Int) (h104:Heap)=>a0_0=y98∧AV.ptr h49.n 0 0=y100∧AV.ptr h54.n 0 0=y101∧St h none' [rowC h49.n [w83,w84] 0,rowC h54.n [(.int .i64 (x0.length:Int)),c67,c68] 0,own (oSl (fz rPlace)) [w83] y32.Places,own (oSl (fz rTrans)) [w84] y32.Trans,own (oSl (fz (rI .i64))) [c67] c30,own (oSl (fz (rI .i64))) [c68] c31] h104∧(.inr ())=res34) ?_ ?_ (loop14_1 (I:=fun (m105:Nat) (y106:AV) (y107:Bool) (y108:AV) (y109:AV) (y110:AV) (y23:Int) (h111:Heap)=>a0_0=y106∧AV.ptr h49.n 0 0=y108∧AV.ptr h54.n 0 0=y109∧v87=y110∧St h none' [rowC h49.n [w83,w84] 0,rowC h54.n [(.int .i64 (x0.length:Int)),c67,c68] 0,own (oSl (fz rLane)) [v87] y25,own (oSl (fz rPlace)) [w83] y32.Places,own (oSl (fz rTrans)) [w84] y32.Trans,own (oSl (fz (rI .i64))) [c67] c30,own (oSl (fz (rI .i64))) [c68] c31] h111∧iter (p14_l1 x0 y25) m105 y23=some res34) ?_ (m:=n90) ?_)
     ·rintro y91 y92 y93 y94 y95 y96 h97 ⟨rfl,S,rfl⟩
      try dsimp only at hf
      obtain rfl:=oi hf
      exact ⟨rfl,S.sel [] rfl⟩
     ·rintro y98 y99 y100 y101 y102 y103 h104 ⟨rfl,rfl,rfl,S,rfl⟩
      try dsimp only at hf
      refine iI.2 ⟨rfl,?_⟩
      refine ⟨w84,S.rd1 m0 rfl,?_⟩
      obtain ⟨e35,he35,hf⟩:=oB hf
      refine ix_go (S.sl (r:=(fz rTrans)) m3) (Hp.le_refl _) he35 fun pe35=>?_
      refine iI.2 ⟨pe35,?_⟩
      obtain ⟨y36,hy36,hf⟩:=oB hf
      have S:=S.sel [3,0,1,2,4,5] rfl
      obtain ⟨h112,e113,S⟩:=St.setE (r:=rTrans) (x':=(TTrans.mk e35.Name e35.Delay e35.Prio e35.In e35.Not [])) (k:=5) (n:=1) (y:=.nilSlice) S he35 rfl rfl (nl rfl) (by rintro _ h; obtain ⟨c3,c4,c5,rfl,F3,F4,F5⟩:=rTrans_open h; exact rTrans_mk (x:=(TTrans.mk e35.Name e35.Delay e35.Prio e35.In e35.Not [])) F3 F4 (SlR.nil _ _))
      have S:St _ _ [own (oSl (fz rTrans)) [w84] y36,_,_,_,_,_] _:=S.cast1 (by rw [← oi hy36]<;>rfl)
      have hqy36:idx y36 0=some (TTrans.mk e35.Name e35.Delay e35.Prio e35.In e35.Not []):=oi hy36▸idx_set he35
      refine ⟨h112,e113,?_⟩
      refine ⟨w83,w84,S.rdN m1 (nl rfl) rfl,?_⟩
      refine ⟨(.int .i64 (x0.length:Int)),c67,c68,S.rdN m2 (nl rfl) rfl,?_⟩
      obtain ⟨y37,hy37,hf⟩:=oB hf
      refine ⟨_,Fz.refl _,?_⟩
      refine (r35 (n0:=(TNet.mk y32.Places y36)) (p1:=(TPart.mk (x0.length:Int) c30 c31)) (f0_0:=(S.sl (r:=(fz rPlace)) m3)) (f0_1:=(S.sl (r:=(fz rTrans)) m0)) (f1_1:=(S.sl (r:=(fz (rI .i64))) m4)) (f1_2:=(S.sl (r:=(fz (rI .i64))) m5)) hy37).mono fun v114 h115 T=>?_
      have S:St _ _ [own (oSl (fz rLane)) [v114] y37,_,_,_,_,_,_] _:=S.comp T
      refine iI.2 ⟨(f0_0).is,?_⟩
      try rw [show (a0_0).slen=_ from (f0_0).slen]
      obtain ⟨y38,hy38,hf⟩:=oB hf
      refine ⟨_,Fz.refl _,?_⟩
      refine (r38 (x0:=y37) (x1:=(x0.length:Int)) (f0_0:=(S.sl (r:=(fz rLane)) m0)) hy38).mono fun v116 h117 T=>?_
      obtain ⟨rfl,T⟩:=T
      have S:St _ _ [_,_,_,_,_,_,_] _:=S.comp T
      refine ⟨y38,rfl,?_⟩
      obtain rfl:=oi hf
      exact ⟨rfl,S.sel [] rfl⟩
     ·rintro m118 y106 y107 y108 y109 y110 y23 h111 ⟨rfl,rfl,rfl,rfl,S,hit⟩
      obtain ⟨m105,q119,rfl,hf,hk⟩:=iter_some hit
      clear hit
      unfold B14_1
      unfold p14_l1 at hf
      try dsimp only at hf
      refine iI.2 ⟨(f0_0).is,?_⟩
      try rw [show (a0_0).slen=_ from (f0_0).slen]
      refine bI (fun hc=>?_) (fun hc=>?_)
      ·rw [ifD hc] at hf
       refine iI.2 ⟨(f0_0).is,?_⟩
       try rw [show (a0_0).slen=_ from (f0_0).slen]
       obtain ⟨d26,hd26,hf⟩:=oB hf
       refine oI (.int .i64 d26) (remI_ev hd26) ⟨d26,rfl,?_⟩
       obtain ⟨y27,hy27,hf⟩:=oB hf
       refine ⟨_,Fz.refl _,?_⟩
       refine (r37 (l0:=y25) (from1:=y23) (to2:=d26) (f0_0:=(S.sl (r:=(fz rLane)) m2)) hy27).mono fun v120 h121 T=>?_
       obtain ⟨rfl,T⟩:=T
       have S:St _ _ [_,_,_,_,_,_,_] _:=S.comp T
       refine ⟨y27,rfl,?_⟩
       intro jjj0
       have hjj0:∀ (b24:Bool) (h122:Heap),p14_j0 y23 b24=some q119→h121=h122→St h none' [rowC h49.n [w83,w84] 0,rowC h54.n [(.int .i64 (x0.length:Int)),c67,c68] 0,own (oSl (fz rLane)) [v87] y25,own (oSl (fz rPlace)) [w83] y32.Places,own (oSl (fz rTrans)) [w84] y32.Trans,own (oSl (fz (rI .i64))) [c67] c30,own (oSl (fz (rI .i64))) [c68] c31] h121→jjj0 b24 h122:=by
        rintro b24 h122 hf rfl S
        unfold p14_j0 at hf
        unfold jjj0
        refine bI (fun hc=>?_) (fun hc=>?_)
        ·rw [ifT hc] at hf
         have S:=S.sel [] rfl
         obtain rfl:=oi hf
         obtain rfl:=hk
         exact ⟨rfl,S,rfl⟩
        rw [ifF hc] at hf
        obtain rfl:=oi hf
        exact ⟨m105,Nat.lt_succ_self _,rfl,rfl,rfl,rfl,S,hk⟩
       refine bI (fun hc=>?_) (fun hc=>?_)
       ·rw [ifD hc] at hf
        exact hjj0 _ _  hf rfl S
       rw [ifE hc] at hf
       obtain ⟨e28,he28,hf⟩:=oB hf
       refine ix_go (S.sl (r:=(fz rLane)) m2) (Hp.le_refl _) he28 fun pe28=>?_
       refine iI.2 ⟨pe28,?_⟩
       obtain ⟨_,cr123,Rr123,Nr123,Or123,Zr123⟩:=St.idxO (r:=rLane) S m2 he28
       obtain rfl:=rLane_open Rr123
       refine ⟨e28.Ahead,Or123 2 _ rfl,?_⟩
       obtain ⟨e29,he29,hf⟩:=oB hf
       refine ix_go f0_0 (sM S.le) he29 fun pe29=>?_
       obtain ⟨_,cr124,Rr124,Nr124,Or124,Zr124⟩:=SlR.idx f0_0 (sM S.le) he29
       obtain rfl:cr124=[(.int .u8 e29)]:=Rr124
       refine ⟨e29,Zr124 _ rfl,?_⟩
       exact hjj0 _ _  hf rfl S
      rw [ifE hc] at hf
      have S:=S.sel [0,1,3,4,5,6] rfl
      obtain rfl:=oi hf
      obtain rfl:=hk
      exact ⟨rfl,rfl,rfl,S,rfl⟩
     exact ⟨rfl,rfl,rfl,rfl,S,hL⟩
    refine bI (fun hc=>?_) (fun hc=>?_)
    ·rw [ifT hc] at hf
     have S:=S.sel [1,5,0,2,3,7,8] rfl
     exact hjj1 _ _  hf  S
    rw [ifF hc] at hf
    refine iI.2 ⟨(f0_0).is,?_⟩
    try rw [show (a0_0).slen=_ from (f0_0).slen]
    obtain ⟨y45,hy45,hf⟩:=oB hf
    refine ⟨_,Fz.refl _,?_⟩
    refine (r38 (x0:=y25) (x1:=(x0.length:Int)) (f0_0:=(S.sl (r:=(fz rLane)) m0)) hy45).mono fun v125 h126 T=>?_
    obtain ⟨rfl,T⟩:=T
    have S:St _ _ [_,_,_,_,_,_,_,_,_] _:=S.comp T
    refine ⟨y45,rfl,?_⟩
    have S:=S.sel [1,5,0,2,3,7,8] rfl
    exact hjj1 _ _  hf  S
   ·rintro m127 y70 y71 y72 y73 y10 y11 h74 ⟨c75,c76,c77,c78,c12,c13,c14,c15,rfl,rfl,rfl,rfl,S,hit⟩
    obtain ⟨m69,q128,rfl,hf,hk⟩:=iter_some hit
    clear hit
    unfold B14_0
    unfold p14_l0 at hf
    try dsimp only at hf
    refine iI.2 ⟨(f0_0).is,?_⟩
    try rw [show (a0_0).slen=_ from (f0_0).slen]
    refine bI (fun hc=>?_) (fun hc=>?_)
    ·rw [ifD hc] at hf
     refine iI.2 ⟨rfl,?_⟩
     refine ⟨c75,S.rd1 m0 rfl,?_⟩
     intro h129
     have S:St _ _ [rowC h74.n [(.str ([]:List UInt8)),(.int .i64 0)] 0,_,_,_,_,_,_] _:=S.pushRow [(.str ([]:List UInt8)),(.int .i64 0)]
     obtain ⟨c16,hc16,hf⟩:=oB hf
     have S:St _ _ [own (fz rPlace) [(.str ([]:List UInt8)),(.int .i64 0)] (TPlace.mk ([]:List UInt8) 0),_,_,_,_,_,_,_] _:=S.add (r:=rPlace) (x:=(TPlace.mk ([]:List UInt8) 0)) (rPlace_mk (x:=(TPlace.mk ([]:List UInt8) 0)))
     have S:=S.sel [4,0,1,2,3,5,6,7] rfl
     have mc16:=app_some hc16
     obtain ⟨v130,h131,e132,S⟩:=St.app1R (r:=(fz rPlace)) (b:=24) S mc16.1
     have S:St _ _ [own (oSl (fz rPlace)) [v130] c16,_,_,_,_,_] _:=S.cast1 (by rw [← mc16.2]<;>rfl)
     refine ⟨v130,h131,e132,?_⟩
     refine iI.2 ⟨rfl,?_⟩
     have S:=S.sel [1,0,2,3,4,5] rfl
     obtain ⟨h133,e134,S⟩:=S.storeS (off:=0) (x:=v130) (cs':=[v130,c76]) (nl rfl) ((S.sl (r:=(fz rPlace)) m1)).is rfl
     refine ⟨h133,e134,?_⟩
     refine iI.2 ⟨rfl,?_⟩
     refine ⟨c76,S.rd1 m0 rfl,?_⟩
     obtain ⟨e17,he17,hf⟩:=oB hf
     refine ix_go f0_0 (sM S.le) he17 fun pe17=>?_
     obtain ⟨_,cr135,Rr135,Nr135,Or135,Zr135⟩:=SlR.idx f0_0 (sM S.le) he17
     obtain rfl:cr135=[(.int .u8 e17)]:=Rr135
     refine ⟨e17,Zr135 _ rfl,?_⟩
     intro h136
     have S:St _ _ [rowC h133.n [(.int .i64 y11),(.int .i64 1)] 0,_,_,_,_,_,_] _:=S.pushRow [(.int .i64 y11),(.int .i64 1)]
     refine iI.2 ⟨(f0_0).is,?_⟩
     try rw [show (a0_0).slen=_ from (f0_0).slen]
     obtain ⟨d18,hd18,hf⟩:=oB hf
     refine oI (.int .i64 d18) (remI_ev hd18) ⟨d18,rfl,?_⟩
     intro h137
     have S:St _ _ [rowC h136.n [(.int .i64 d18),(.int .i64 1)] 0,_,_,_,_,_,_,_] _:=S.pushRow [(.int .i64 d18),(.int .i64 1)]
     intro h138
     have S:St _ _ [rowC h137.n [(.str ([]:List UInt8)),(.int .i64 (IntKind.wrap .i64 (1+(IntKind.wrap .i64 e17)))),(.int .i64 0),(.slice h133.n 0 0 1 2),.nilSlice,(.slice h136.n 0 0 1 2)] 0,_,_,_,_,_,_,_,_] _:=S.pushRow [(.str ([]:List UInt8)),(.int .i64 (IntKind.wrap .i64 (1+(IntKind.wrap .i64 e17)))),(.int .i64 0),(.slice h133.n 0 0 1 2),.nilSlice,(.slice h136.n 0 0 1 2)]
     obtain ⟨c19,hc19,hf⟩:=oB hf
     have S:=S.sel [2,0,1,3,4,5,6,7,8] rfl
     have S:St _ _ [own (oSl (fz rArc)) [(.slice h133.n 0 0 1 2)] [(TArc.mk y11 1)],_,_,_,_,_,_,_,_] _:=St.lit (r:=rArc) (els:=[[(.int .i64 y11),(.int .i64 1)]]) (l:=[(TArc.mk y11 1)]) (n:=1) S rfl (.cons (rArc_mk (x:=(TArc.mk y11 1))) (.nil)) rfl
     have S:St _ _ [own (oSl (fz rArc)) [.nilSlice] [],_,_,_,_,_,_,_,_,_] _:=S.addE (oSl_nil _ _)
     have S:=S.sel [3,0,1,2,4,5,6,7,8,9] rfl
     have S:St _ _ [own (oSl (fz rArc)) [(.slice h136.n 0 0 1 2)] [(TArc.mk d18 1)],_,_,_,_,_,_,_,_,_] _:=St.lit (r:=rArc) (els:=[[(.int .i64 d18),(.int .i64 1)]]) (l:=[(TArc.mk d18 1)]) (n:=1) S rfl (.cons (rArc_mk (x:=(TArc.mk d18 1))) (.nil)) rfl
     have S:=S.sel [2,1,0,3,4,5,6,7,8,9] rfl
     have S:St _ _ [own oTrans [(.str ([]:List UInt8)),(.int .i64 (IntKind.wrap .i64 (1+(IntKind.wrap .i64 e17)))),(.int .i64 0),(.slice h133.n 0 0 1 2),.nilSlice,(.slice h136.n 0 0 1 2)] (TTrans.mk ([]:List UInt8) (IntKind.wrap .i64 (1+(IntKind.wrap .i64 e17))) 0 [(TArc.mk y11 1)] [] [(TArc.mk d18 1)]),_,_,_,_,_,_,_] _:=oTrans_close (x:=(TTrans.mk ([]:List UInt8) (IntKind.wrap .i64 (1+(IntKind.wrap .i64 e17))) 0 [(TArc.mk y11 1)] [] [(TArc.mk d18 1)])) S
     have S:=S.sel [5,0,1,2,3,4,6,7] rfl
     have mc19:=app_some hc19
     obtain ⟨v139,h140,e141,S⟩:=St.app1R (r:=oTrans) (b:=104) S mc19.1
     have S:St _ _ [own (oSl oTrans) [v139] c19,_,_,_,_,_] _:=S.cast1 (by rw [← mc19.2]<;>rfl)
     refine ⟨v139,h140,e141,?_⟩
     refine iI.2 ⟨rfl,?_⟩
     have S:=S.sel [1,0,2,3,4,5] rfl
     obtain ⟨h142,e143,S⟩:=S.storeS (off:=1) (x:=v139) (cs':=[v130,v139]) (nl rfl) ((S.sl (r:=oTrans) m1)).is rfl
     refine ⟨h142,e143,?_⟩
     refine iI.2 ⟨rfl,?_⟩
     refine ⟨c77,S.rd1 m3 rfl,?_⟩
     intro h144
     have S:St _ _ [rowC h142.n [(.int .i64 y11)] 0,_,_,_,_,_,_] _:=S.pushRow [(.int .i64 y11)]
     obtain ⟨c20,hc20,hf⟩:=oB hf
     have S:St _ _ [own (fz (rI .i64)) [(.int .i64 y11)] y11,_,_,_,_,_,_,_] _:=S.add (r:=(rI .i64)) (x:=y11) rfl
     have S:=S.sel [6,0,1,2,3,4,5,7] rfl
     have mc20:=app_some hc20
     obtain ⟨v145,h146,e147,S⟩:=St.app1R (r:=(fz (rI .i64))) (b:=8) S mc20.1
     have S:St _ _ [own (oSl (fz (rI .i64))) [v145] c20,_,_,_,_,_] _:=S.cast1 (by rw [← mc20.2]<;>rfl)
     refine ⟨v145,h146,e147,?_⟩
     refine iI.2 ⟨rfl,?_⟩
     have S:=S.sel [4,0,1,2,3,5] rfl
     obtain ⟨h148,e149,S⟩:=S.storeS (off:=1) (x:=v145) (cs':=[(.int .i64 (x0.length:Int)),v145,c78]) (nl rfl) ((S.sl (r:=(fz (rI .i64))) m1)).is rfl
     refine ⟨h148,e149,?_⟩
     refine iI.2 ⟨rfl,?_⟩
     refine ⟨c78,S.rd1 m0 rfl,?_⟩
     intro h150
     have S:St _ _ [rowC h148.n [(.int .i64 y11)] 0,_,_,_,_,_,_] _:=S.pushRow [(.int .i64 y11)]
     obtain ⟨c21,hc21,hf⟩:=oB hf
     have S:St _ _ [own (fz (rI .i64)) [(.int .i64 y11)] y11,_,_,_,_,_,_,_] _:=S.add (r:=(rI .i64)) (x:=y11) rfl
     have S:=S.sel [7,0,1,2,3,4,5,6] rfl
     have mc21:=app_some hc21
     obtain ⟨v151,h152,e153,S⟩:=St.app1R (r:=(fz (rI .i64))) (b:=8) S mc21.1
     have S:St _ _ [own (oSl (fz (rI .i64))) [v151] c21,_,_,_,_,_] _:=S.cast1 (by rw [← mc21.2]<;>rfl)
     refine ⟨v151,h152,e153,?_⟩
     refine iI.2 ⟨rfl,?_⟩
     have S:=S.sel [1,0,2,3,4,5] rfl
     obtain ⟨h154,e155,S⟩:=S.storeS (off:=2) (x:=v151) (cs':=[(.int .i64 (x0.length:Int)),v145,v151]) (nl rfl) ((S.sl (r:=(fz (rI .i64))) m1)).is rfl
     refine ⟨h154,e155,?_⟩
     obtain ⟨e22,he22,hf⟩:=oB hf
     refine ix_go f0_0 (sM S.le) he22 fun pe22=>?_
     obtain ⟨_,cr156,Rr156,Nr156,Or156,Zr156⟩:=SlR.idx f0_0 (sM S.le) he22
     obtain rfl:cr156=[(.int .u8 e22)]:=Rr156
     refine ⟨e22,Zr156 _ rfl,?_⟩
     have S:=S.sel [3,0,5,4,2,1] rfl
     obtain rfl:=oi hf
     exact ⟨m69,Nat.lt_succ_self _,v130,v139,v145,v151,c16,c19,c20,c21,rfl,rfl,rfl,rfl,S,hk⟩
    rw [ifE hc] at hf
    obtain rfl:=oi hf
    obtain rfl:=hk
    exact ⟨c75,c76,c77,c78,c12,c13,c14,c15,rfl,rfl,rfl,rfl,S,rfl⟩
   exact ⟨.nilSlice,.nilSlice,.nilSlice,.nilSlice,[],[],[],[],rfl,rfl,rfl,rfl,S,hL⟩
  refine bI (fun hc=>?_) (fun hc=>?_)
  ·rw [ifT hc] at hf
   exact hjj2 _ _  hf rfl S
  rw [ifF hc] at hf
  refine iI.2 ⟨(f0_0).is,?_⟩
  try rw [show (a0_0).slen=_ from (f0_0).slen]
  exact hjj2 _ _  hf rfl S
 refine bI (fun hc=>?_) (fun hc=>?_)
 ·rw [ifT hc] at hf
  exact hjj3 _ _  hf rfl S
 rw [ifF hc] at hf
 refine iI.2 ⟨(f0_0).is,?_⟩
 try rw [show (a0_0).slen=_ from (f0_0).slen]
 exact hjj3 _ _  hf rfl S
end
end Go.Proofs.Ytgbkpiaonlabgaa
