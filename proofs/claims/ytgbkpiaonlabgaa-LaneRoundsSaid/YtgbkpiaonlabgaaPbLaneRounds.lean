/- Pure functions, and that the machine's functions answer as they do. No condition. Own work. -/
import Derived.Test.YtgbkpiaonlabgaaPaLaneRounds
set_option linter.unusedSimpArgs false
set_option linter.unusedVariables false
namespace Go.Proofs.Ytgbkpiaonlabgaa
open Go Go.Am
noncomputable section
def p55_l0 (x0:Int) (st:Int×(List Int)):Option ((Int×(List Int))⊕(List Int)):=match st with | (y10,y11)=>if y10 < x0 then ((idx y11 y10).bind fun e12=>(some (y11.set (y10:Int).toNat y10)).bind fun y13=>some (.inl ((IntKind.wrap .i64 (y10+1)),y13))) else (some (.inr y11))
def p55_j0 (y14:Int) (y15:List Int):Option ((Int×(List Int))⊕(List Int)):=some (.inl ((IntKind.wrap .i64 (y14+1)),y15))
def p55_j1 (y14:Int) (y16:List Int) (e17:TArr2_Int) (e18:TArr2_Int) (b19:Bool):Option ((Int×(List Int))⊕(List Int)):=if b19=true then (some (.inl ((IntKind.wrap .i64 (y14+1)),y16))) else ((idx y16 e17.e0).bind fun e20=>(idx y16 e18.e1).bind fun e21=>if e20 < e21 then ((idx y16 e17.e0).bind fun e22=>(idx y16 e18.e1).bind fun e23=>(some (y16.set (e18.e1:Int).toNat e22)).bind fun y24=>p55_j0 y14 y24) else ((idx y16 e18.e1).bind fun e25=>(idx y16 e17.e0).bind fun e26=>(some (y16.set (e17.e0:Int).toNat e25)).bind fun y27=>p55_j0 y14 y27))
def p55_j2 (x0:Int) (y14:Int) (y16:List Int) (e17:TArr2_Int) (e18:TArr2_Int) (b28:Bool):Option ((Int×(List Int))⊕(List Int)):=if b28=true then (p55_j1 y14 y16 e17 e18 true) else (p55_j1 y14 y16 e17 e18 (decide (x0≤e18.e1)))
def p55_j3 (x0:Int) (y14:Int) (y16:List Int) (e17:TArr2_Int) (e18:TArr2_Int) (b29:Bool):Option ((Int×(List Int))⊕(List Int)):=if b29=true then (p55_j2 x0 y14 y16 e17 e18 true) else (p55_j2 x0 y14 y16 e17 e18 (decide (e18.e1 < 0)))
def p55_l1 (x0:Int) (x1:List TArr2_Int) (st:Int×(List Int)):Option ((Int×(List Int))⊕(List Int)):=match st with | (y14,y16)=>if y14 < (x1.length:Int) then ((idx x1 y14).bind fun e17=>(idx x1 y14).bind fun e18=>if e17.e0 < 0 then (p55_j3 x0 y14 y16 e17 e18 true) else (p55_j3 x0 y14 y16 e17 e18 (decide (x0≤e17.e0)))) else (some (.inr y16))
def p55_l2 (x0:Int) (x1:List TArr2_Int) (st:Int×(List Int)):Option ((Int×(List Int))⊕(List Int)):=match st with | (y30,y31)=>if y30 < x0 then ((loopC (p55_l1 x0 x1) (0,y31)).bind fun res32=>((fun (y33:List Int)=>some (.inl ((IntKind.wrap .i64 (y30+1)),y33))) res32)) else (some (.inr y31))
def p55_j4 (y34:Int) (y35:List Int):Option ((Int×(List Int))⊕(List Int)):=some (.inl ((IntKind.wrap .i64 (y34+1)),y35))
def p55_l3 (x0:Int) (y36:List Int) (y37:Int) (st:Int×(List Int)):Option ((Int×(List Int))⊕(List Int)):=match st with | (y34,y38)=>if y34 < x0 then ((idx y36 y34).bind fun e39=>if e39=y37 then ((app 8 y38 [y34]).bind fun y40=>p55_j4 y34 y40) else (p55_j4 y34 y38)) else (some (.inr y38))
def p55_j5 (y37:Int) (y41:List (List Int)):Option ((Int×(List (List Int)))⊕(List (List Int))):=some (.inl ((IntKind.wrap .i64 (y37+1)),y41))
def p55_l4 (x0:Int) (y36:List Int) (st:Int×(List (List Int))):Option ((Int×(List (List Int)))⊕(List (List Int))):=match st with | (y37,y42)=>if y37 < x0 then ((loopC (p55_l3 x0 y36 y37) (0,[])).bind fun res43=>((fun (y44:List Int)=>if 0 < (y44.length:Int) then ((app 24 y42 [y44]).bind fun y45=>p55_j5 y37 y45) else (p55_j5 y37 y42)) res43)) else (some (.inr y42))
def p55 (x0:Int) (x1:List TArr2_Int):Option (List (List Int)):=(mkS 8 x0 x0 0).bind fun y46=>(loopC (p55_l0 x0) (0,y46)).bind fun res47=>((fun (y48:List Int)=>(loopC (p55_l2 x0 x1) (0,y48)).bind fun res49=>((fun (y36:List Int)=>(loopC (p55_l4 x0 y36) (0,[])).bind fun res50=>((fun (y51:List (List Int))=>some y51) res50)) res49)) res47)
theorem r55 {h:Heap} {a1_0:AV} {x0:Int} {x1:List TArr2_Int} (f1_0:SlR rArr2_Int (Snap h) a1_0 x1) {r:(List (List Int))} (hf:p55 x0 x1=some r):ZC F 55 [(.int .i64 x0),a1_0] h fun v h'=>St h none' [own (oSl (oSl (fz (rI .i64)))) [v] r] h':=by
 refine w55 ?_
 unfold W55
 unfold p55 at hf
 have S:St h none' [] h:=St.refl _ _
 obtain ⟨y46,hy46,hf⟩:=oB hf
 obtain ⟨my46,ey46⟩:=mkS_some hy46
 refine ⟨my46,?_⟩
 intro h52
 have S:St _ _ [own (oSl (fz (rI .i64))) [(.slice h.n 0 0 (x0:Int).toNat 1)] y46] _:=(S.make (r:=(fz (rI .i64))) (zero:=[(.int .i64 0)]) (x:=0) (fun _=>⟨rfl,rfl⟩) _).cast1 (by rw [ey46]; rfl)
 obtain ⟨res47,hL,hf⟩:=oB hf
 obtain ⟨n53,hL⟩:=loopC_iff.1 hL
 refine loopm55_0 (X0:=fun (y54:Int) (y55:AV) (y56:AV) (y57:Int) (h58:Heap)=>∃ (y48:List Int),x0=y54∧a1_0=y55∧(AV.slice h.n 0 0 (x0:Int).toNat 1)=y56∧St h none' [own (oSl (fz (rI .i64))) [(.slice h.n 0 0 (x0:Int).toNat 1)] y48] h58∧y48=res47) ?_ (loop55_0 (I:=fun (m59:Nat) (y60:Int) (y61:AV) (y62:AV) (y10:Int) (h63:Heap)=>∃ (y11:List Int),x0=y60∧a1_0=y61∧(AV.slice h.n 0 0 (x0:Int).toNat 1)=y62∧St h none' [own (oSl (fz (rI .i64))) [(.slice h.n 0 0 (x0:Int).toNat 1)] y11] h63∧iter (p55_l0 x0) m59 (y10,y11)=some res47) ?_ (m:=n53) ?_)
 ·rintro y54 y55 y56 y57 h58 ⟨y48,rfl,rfl,rfl,S,rfl⟩
  try dsimp only at hf
  obtain ⟨res49,hL,hf⟩:=oB hf
  obtain ⟨n64,hL⟩:=loopC_iff.1 hL
  refine loopm55_2 (X2:=fun (y65:Int) (y66:AV) (y67:AV) (y68:Int) (h69:Heap)=>∃ (y36:List Int),x0=y65∧(AV.slice h.n 0 0 (x0:Int).toNat 1)=y67∧St h none' [own (oSl (fz (rI .i64))) [(.slice h.n 0 0 (x0:Int).toNat 1)] y36] h69∧y36=res49) ?_ (loop55_2 (I:=fun (m70:Nat) (y71:Int) (y72:AV) (y73:AV) (y30:Int) (h74:Heap)=>∃ (y31:List Int),x0=y71∧a1_0=y72∧(AV.slice h.n 0 0 (x0:Int).toNat 1)=y73∧St h none' [own (oSl (fz (rI .i64))) [(.slice h.n 0 0 (x0:Int).toNat 1)] y31] h74∧iter (p55_l2 x0 x1) m70 (y30,y31)=some res49) ?_ (m:=n64) ?_)
  ·rintro y65 y66 y67 y68 h69 ⟨y36,rfl,rfl,S,rfl⟩
   try dsimp only at hf
   obtain ⟨res50,hL,hf⟩:=oB hf
   obtain ⟨n75,hL⟩:=loopC_iff.1 hL
   have S:St _ _ [own (oSl (oSl (fz (rI .i64)))) [.nilSlice] [],_] _:=S.addE (oSl_nil _ _)
   have S:=S.sel [1,0] rfl
   refine loopm55_4 (X6:=fun (y76:Int) (y77:AV) (y78:AV) (y79:Int) (h80:Heap)=>∃ (y51:List (List Int)),St h none' [own (oSl (oSl (fz (rI .i64)))) [y78] y51] h80∧y51=res50) ?_ (loop55_4 (I:=fun (m81:Nat) (y82:Int) (y83:AV) (y84:AV) (y37:Int) (h85:Heap)=>∃ (y42:List (List Int)),x0=y82∧(AV.slice h.n 0 0 (x0:Int).toNat 1)=y83∧St h none' [own (oSl (fz (rI .i64))) [(.slice h.n 0 0 (x0:Int).toNat 1)] y36,own (oSl (oSl (fz (rI .i64)))) [y84] y42] h85∧iter (p55_l4 x0 y36) m81 (y37,y42)=some res50) ?_ (m:=n75) ?_)
   ·rintro y76 y77 y78 y79 h80 ⟨y51,S,rfl⟩
    try dsimp only at hf
    obtain rfl:=oi hf
    exact S.sel [0] rfl
   ·rintro m86 y82 y83 y84 y37 h85 ⟨y42,rfl,rfl,S,hit⟩
    obtain ⟨m81,q87,rfl,hf,hk⟩:=iter_some hit
    clear hit
    unfold B55_4
    unfold p55_l4 at hf
    try dsimp only at hf
    refine bI (fun hc=>?_) (fun hc=>?_)
    ·rw [ifD hc] at hf
     obtain ⟨res43,hL,hf⟩:=oB hf
     obtain ⟨n88,hL⟩:=loopC_iff.1 hL
     have S:St _ _ [own (oSl (fz (rI .i64))) [.nilSlice] [],_,_] _:=S.addE (oSl_nil _ _)
     have S:=S.sel [1,2,0] rfl
     refine loopm55_3 (X8:=fun (y89:Int) (y90:AV) (y91:AV) (y92:Int) (y93:AV) (y94:Int) (h95:Heap)=>∃ (y44:List Int),x0=y89∧(AV.slice h.n 0 0 (x0:Int).toNat 1)=y90∧y84=y91∧y37=y92∧St h none' [own (oSl (fz (rI .i64))) [(.slice h.n 0 0 (x0:Int).toNat 1)] y36,own (oSl (oSl (fz (rI .i64)))) [y84] y42,own (oSl (fz (rI .i64))) [y93] y44] h95∧y44=res43) ?_ (loop55_3 (I:=fun (m96:Nat) (y97:Int) (y98:AV) (y99:AV) (y100:Int) (y101:AV) (y34:Int) (h102:Heap)=>∃ (y38:List Int),x0=y97∧(AV.slice h.n 0 0 (x0:Int).toNat 1)=y98∧y84=y99∧y37=y100∧St h none' [own (oSl (fz (rI .i64))) [(.slice h.n 0 0 (x0:Int).toNat 1)] y36,own (oSl (oSl (fz (rI .i64)))) [y84] y42,own (oSl (fz (rI .i64))) [y101] y38] h102∧iter (p55_l3 x0 y36 y37) m96 (y34,y38)=some res43) ?_ (m:=n88) ?_)
     ·rintro y89 y90 y91 y92 y93 y94 h95 ⟨y44,rfl,rfl,rfl,rfl,S,rfl⟩
      try dsimp only at hf
      refine iI.2 ⟨((S.sl (r:=(fz (rI .i64))) m2)).is,?_⟩
      try rw [show (y93).slen=_ from ((S.sl (r:=(fz (rI .i64))) m2)).slen]
      intro jjj5
      have hjj5:∀ (y103:AV) (h104:Heap) (y41:List (List Int)),p55_j5 y37 y41=some q87→St h none' [own (oSl (fz (rI .i64))) [(.slice h.n 0 0 (x0:Int).toNat 1)] y36,own (oSl (oSl (fz (rI .i64)))) [y103] y41] h104→jjj5 y103 h104:=by
       rintro y103 h104 y41 hf S
       unfold p55_j5 at hf
       unfold jjj5
       obtain rfl:=oi hf
       exact ⟨m81,Nat.lt_succ_self _,y41,rfl,rfl,S,hk⟩
      refine bI (fun hc=>?_) (fun hc=>?_)
      ·rw [ifD hc] at hf
       refine oI (.row [y93] 0 true) (by simp only [NOp.ob,place,sl_cells ((S.sl (r:=(fz (rI .i64))) m2)).is,sl_tup ((S.sl (r:=(fz (rI .i64))) m2)).is]<;>first | rfl | (simp [AV.cells,AV.isTup,splice]; done) | (simp [AV.cells,AV.isTup,splice]; rfl)) ?_
       intro h105
       have S:St _ _ [rowC h95.n [y93] 0,_,_,_] _:=S.pushRow [y93]
       obtain ⟨y45,hy45,hf⟩:=oB hf
       have S:=S.sel [2,3,0,1] rfl
       have my45:=app_some hy45
       obtain ⟨v106,h107,e108,S⟩:=St.app1R (r:=(oSl (fz (rI .i64)))) (b:=24) S my45.1
       have S:St _ _ [own (oSl (oSl (fz (rI .i64)))) [v106] y45,_] _:=S.cast1 (by rw [← my45.2]<;>rfl)
       refine ⟨v106,h107,e108,?_⟩
       have S:=S.sel [1,0] rfl
       exact hjj5 _ _ y45 hf  S
      rw [ifE hc] at hf
      have S:=S.sel [0,1] rfl
      exact hjj5 _ _ y42 hf  S
     ·rintro m109 y97 y98 y99 y100 y101 y34 h102 ⟨y38,rfl,rfl,rfl,rfl,S,hit⟩
      obtain ⟨m96,q110,rfl,hf,hk⟩:=iter_some hit
      clear hit
      unfold B55_3
      unfold p55_l3 at hf
      try dsimp only at hf
      refine bI (fun hc=>?_) (fun hc=>?_)
      ·rw [ifD hc] at hf
       obtain ⟨e39,he39,hf⟩:=oB hf
       refine ix_go (S.sl (r:=(fz (rI .i64))) m0) (Hp.le_refl _) he39 fun pe39=>?_
       obtain ⟨_,cr111,Rr111,Nr111,Or111,Zr111⟩:=St.idxO (r:=(rI .i64)) S m0 he39
       obtain rfl:cr111=[(.int .i64 e39)]:=Rr111
       refine ⟨e39,Zr111 _ rfl,?_⟩
       intro jjj4
       have hjj4:∀ (y112:AV) (h113:Heap) (y35:List Int),p55_j4 y34 y35=some q110→St h none' [own (oSl (fz (rI .i64))) [(.slice h.n 0 0 (x0:Int).toNat 1)] y36,own (oSl (oSl (fz (rI .i64)))) [y84] y42,own (oSl (fz (rI .i64))) [y112] y35] h113→jjj4 y112 h113:=by
        rintro y112 h113 y35 hf S
        unfold p55_j4 at hf
        unfold jjj4
        obtain rfl:=oi hf
        exact ⟨m96,Nat.lt_succ_self _,y35,rfl,rfl,rfl,rfl,S,hk⟩
       refine bI (fun hc=>?_) (fun hc=>?_)
       ·rw [ifD hc] at hf
        intro h114
        have S:St _ _ [rowC h102.n [(.int .i64 y34)] 0,_,_,_] _:=S.pushRow [(.int .i64 y34)]
        obtain ⟨y40,hy40,hf⟩:=oB hf
        have S:St _ _ [own (fz (rI .i64)) [(.int .i64 y34)] y34,_,_,_,_] _:=S.add (r:=(rI .i64)) (x:=y34) rfl
        have S:=S.sel [4,0,1,2,3] rfl
        have my40:=app_some hy40
        obtain ⟨v115,h116,e117,S⟩:=St.app1R (r:=(fz (rI .i64))) (b:=8) S my40.1
        have S:St _ _ [own (oSl (fz (rI .i64))) [v115] y40,_,_] _:=S.cast1 (by rw [← my40.2]<;>rfl)
        refine ⟨v115,h116,e117,?_⟩
        have S:=S.sel [1,2,0] rfl
        exact hjj4 _ _ y40 hf  S
       rw [ifE hc] at hf
       exact hjj4 _ _ y38 hf  S
      rw [ifE hc] at hf
      obtain rfl:=oi hf
      obtain rfl:=hk
      exact ⟨y38,rfl,rfl,rfl,rfl,S,rfl⟩
     exact ⟨[],rfl,rfl,rfl,rfl,S,hL⟩
    rw [ifE hc] at hf
    have S:=S.sel [1] rfl
    obtain rfl:=oi hf
    obtain rfl:=hk
    exact ⟨y42,S,rfl⟩
   exact ⟨[],rfl,rfl,S,hL⟩
  ·rintro m118 y71 y72 y73 y30 h74 ⟨y31,rfl,rfl,rfl,S,hit⟩
   obtain ⟨m70,q119,rfl,hf,hk⟩:=iter_some hit
   clear hit
   unfold B55_2
   unfold p55_l2 at hf
   try dsimp only at hf
   refine bI (fun hc=>?_) (fun hc=>?_)
   ·rw [ifD hc] at hf
    obtain ⟨res32,hL,hf⟩:=oB hf
    obtain ⟨n120,hL⟩:=loopC_iff.1 hL
    refine loopm55_1 (X4:=fun (y121:Int) (y122:AV) (y123:AV) (y124:Int) (y125:Int) (h126:Heap)=>∃ (y33:List Int),x0=y121∧a1_0=y122∧(AV.slice h.n 0 0 (x0:Int).toNat 1)=y123∧y30=y124∧St h none' [own (oSl (fz (rI .i64))) [(.slice h.n 0 0 (x0:Int).toNat 1)] y33] h126∧y33=res32) ?_ (loop55_1 (I:=fun (m127:Nat) (y128:Int) (y129:AV) (y130:AV) (y131:Int) (y14:Int) (h132:Heap)=>∃ (y16:List Int),x0=y128∧a1_0=y129∧(AV.slice h.n 0 0 (x0:Int).toNat 1)=y130∧y30=y131∧St h none' [own (oSl (fz (rI .i64))) [(.slice h.n 0 0 (x0:Int).toNat 1)] y16] h132∧iter (p55_l1 x0 x1) m127 (y14,y16)=some res32) ?_ (m:=n120) ?_)
    ·rintro y121 y122 y123 y124 y125 h126 ⟨y33,rfl,rfl,rfl,rfl,S,rfl⟩
     try dsimp only at hf
     obtain rfl:=oi hf
     exact ⟨m70,Nat.lt_succ_self _,y33,rfl,rfl,rfl,S,hk⟩
    ·rintro m133 y128 y129 y130 y131 y14 h132 ⟨y16,rfl,rfl,rfl,rfl,S,hit⟩
     obtain ⟨m127,q134,rfl,hf,hk⟩:=iter_some hit
     clear hit
     unfold B55_1
     unfold p55_l1 at hf
     try dsimp only at hf
     refine iI.2 ⟨(f1_0).is,?_⟩
     try rw [show (a1_0).slen=_ from (f1_0).slen]
     refine bI (fun hc=>?_) (fun hc=>?_)
     ·rw [ifD hc] at hf
      obtain ⟨e17,he17,hf⟩:=oB hf
      refine ix_go f1_0 (sM S.le) he17 fun pe17=>?_
      refine oI _ (arrAddr_ev (q:=0) pe17 (by decide) rfl) ?_
      obtain ⟨_,cr135,Rr135,Nr135,Or135,Zr135⟩:=SlR.idx f1_0 (sM S.le) he17
      obtain rfl:=rArr2_Int_open Rr135
      refine ⟨e17.e0,Or135 0 _ rfl,?_⟩
      obtain ⟨e18,he18,hf⟩:=oB hf
      refine ix_go f1_0 (sM S.le) he18 fun pe18=>?_
      refine oI _ (arrAddr_ev (q:=1) pe18 (by decide) rfl) ?_
      obtain ⟨_,cr136,Rr136,Nr136,Or136,Zr136⟩:=SlR.idx f1_0 (sM S.le) he18
      obtain rfl:=rArr2_Int_open Rr136
      refine ⟨e18.e1,Or136 1 _ rfl,?_⟩
      intro jjj3
      have hjj3:∀ (b29:Bool) (h137:Heap),p55_j3 x0 y14 y16 e17 e18 b29=some q134→h132=h137→St h none' [own (oSl (fz (rI .i64))) [(.slice h.n 0 0 (x0:Int).toNat 1)] y16] h132→jjj3 b29 h137:=by
       rintro b29 h137 hf rfl S
       unfold p55_j3 at hf
       unfold jjj3
       intro jjj2
       have hjj2:∀ (b28:Bool) (h138:Heap),p55_j2 x0 y14 y16 e17 e18 b28=some q134→h132=h138→St h none' [own (oSl (fz (rI .i64))) [(.slice h.n 0 0 (x0:Int).toNat 1)] y16] h132→jjj2 b28 h138:=by
        rintro b28 h138 hf rfl S
        unfold p55_j2 at hf
        unfold jjj2
        intro jjj1
        have hjj1:∀ (b19:Bool) (h139:Heap),p55_j1 y14 y16 e17 e18 b19=some q134→h132=h139→St h none' [own (oSl (fz (rI .i64))) [(.slice h.n 0 0 (x0:Int).toNat 1)] y16] h132→jjj1 b19 h139:=by
         rintro b19 h139 hf rfl S
         unfold p55_j1 at hf
         unfold jjj1
         refine bI (fun hc=>?_) (fun hc=>?_)
         ·rw [ifT hc] at hf
          obtain rfl:=oi hf
          exact ⟨m127,Nat.lt_succ_self _,y16,rfl,rfl,rfl,rfl,S,hk⟩
         rw [ifF hc] at hf
         obtain ⟨e20,he20,hf⟩:=oB hf
         refine ix_go (S.sl (r:=(fz (rI .i64))) m0) (Hp.le_refl _) he20 fun pe20=>?_
         obtain ⟨_,cr140,Rr140,Nr140,Or140,Zr140⟩:=St.idxO (r:=(rI .i64)) S m0 he20
         obtain rfl:cr140=[(.int .i64 e20)]:=Rr140
         refine ⟨e20,Zr140 _ rfl,?_⟩
         obtain ⟨e21,he21,hf⟩:=oB hf
         refine ix_go (S.sl (r:=(fz (rI .i64))) m0) (Hp.le_refl _) he21 fun pe21=>?_
         obtain ⟨_,cr141,Rr141,Nr141,Or141,Zr141⟩:=St.idxO (r:=(rI .i64)) S m0 he21
         obtain rfl:cr141=[(.int .i64 e21)]:=Rr141
         refine ⟨e21,Zr141 _ rfl,?_⟩
         intro jjj0
         have hjj0:∀  (h142:Heap) (y15:List Int),p55_j0 y14 y15=some q134→St h none' [own (oSl (fz (rI .i64))) [(.slice h.n 0 0 (x0:Int).toNat 1)] y15] h142→jjj0 h142:=by
          rintro h142 y15 hf S
          unfold p55_j0 at hf
          unfold jjj0
          obtain rfl:=oi hf
          exact ⟨m127,Nat.lt_succ_self _,y15,rfl,rfl,rfl,rfl,S,hk⟩
         refine bI (fun hc=>?_) (fun hc=>?_)
         ·rw [ifD hc] at hf
          obtain ⟨e22,he22,hf⟩:=oB hf
          refine ix_go (S.sl (r:=(fz (rI .i64))) m0) (Hp.le_refl _) he22 fun pe22=>?_
          obtain ⟨_,cr143,Rr143,Nr143,Or143,Zr143⟩:=St.idxO (r:=(rI .i64)) S m0 he22
          obtain rfl:cr143=[(.int .i64 e22)]:=Rr143
          refine ⟨e22,Zr143 _ rfl,?_⟩
          obtain ⟨e23,he23,hf⟩:=oB hf
          refine ix_go (S.sl (r:=(fz (rI .i64))) m0) (Hp.le_refl _) he23 fun pe23=>?_
          obtain ⟨y24,hy24,hf⟩:=oB hf
          obtain ⟨h144,e145,S⟩:=St.setE (r:=(rI .i64)) (x':=e22) (k:=0) (n:=1) (y:=(.int .i64 e22)) S he23 rfl rfl (nl rfl) (by rintro _ h; obtain rfl:=h; exact rfl)
          rw [padd_zero] at e145
          have S:St _ _ [own (oSl (fz (rI .i64))) [(.slice h.n 0 0 (x0:Int).toNat 1)] y24] _:=S.cast1 (by rw [← oi hy24]<;>rfl)
          have hqy24:idx y24 e18.e1=some e22:=oi hy24▸idx_set he23
          refine ⟨h144,e145,?_⟩
          exact hjj0  _ y24 hf  S
         rw [ifE hc] at hf
         obtain ⟨e25,he25,hf⟩:=oB hf
         refine ix_go (S.sl (r:=(fz (rI .i64))) m0) (Hp.le_refl _) he25 fun pe25=>?_
         obtain ⟨_,cr146,Rr146,Nr146,Or146,Zr146⟩:=St.idxO (r:=(rI .i64)) S m0 he25
         obtain rfl:cr146=[(.int .i64 e25)]:=Rr146
         refine ⟨e25,Zr146 _ rfl,?_⟩
         obtain ⟨e26,he26,hf⟩:=oB hf
         refine ix_go (S.sl (r:=(fz (rI .i64))) m0) (Hp.le_refl _) he26 fun pe26=>?_
         obtain ⟨y27,hy27,hf⟩:=oB hf
         obtain ⟨h147,e148,S⟩:=St.setE (r:=(rI .i64)) (x':=e25) (k:=0) (n:=1) (y:=(.int .i64 e25)) S he26 rfl rfl (nl rfl) (by rintro _ h; obtain rfl:=h; exact rfl)
         rw [padd_zero] at e148
         have S:St _ _ [own (oSl (fz (rI .i64))) [(.slice h.n 0 0 (x0:Int).toNat 1)] y27] _:=S.cast1 (by rw [← oi hy27]<;>rfl)
         have hqy27:idx y27 e17.e0=some e25:=oi hy27▸idx_set he26
         refine ⟨h147,e148,?_⟩
         exact hjj0  _ y27 hf  S
        refine bI (fun hc=>?_) (fun hc=>?_)
        ·rw [ifT hc] at hf
         exact hjj1 _ _  hf rfl S
        rw [ifF hc] at hf
        exact hjj1 _ _  hf rfl S
       refine bI (fun hc=>?_) (fun hc=>?_)
       ·rw [ifT hc] at hf
        exact hjj2 _ _  hf rfl S
       rw [ifF hc] at hf
       exact hjj2 _ _  hf rfl S
      refine bI (fun hc=>?_) (fun hc=>?_)
      ·rw [ifD hc] at hf
       exact hjj3 _ _  hf rfl S
      rw [ifE hc] at hf
      exact hjj3 _ _  hf rfl S
     rw [ifE hc] at hf
     obtain rfl:=oi hf
     obtain rfl:=hk
     exact ⟨y16,rfl,rfl,rfl,rfl,S,rfl⟩
    exact ⟨y31,rfl,rfl,rfl,rfl,S,hL⟩
   rw [ifE hc] at hf
   obtain rfl:=oi hf
   obtain rfl:=hk
   exact ⟨y31,rfl,rfl,S,rfl⟩
  exact ⟨y48,rfl,rfl,rfl,S,hL⟩
 ·rintro m149 y60 y61 y62 y10 h63 ⟨y11,rfl,rfl,rfl,S,hit⟩
  obtain ⟨m59,q150,rfl,hf,hk⟩:=iter_some hit
  clear hit
  unfold B55_0
  unfold p55_l0 at hf
  try dsimp only at hf
  refine bI (fun hc=>?_) (fun hc=>?_)
  ·rw [ifD hc] at hf
   obtain ⟨e12,he12,hf⟩:=oB hf
   refine ix_go (S.sl (r:=(fz (rI .i64))) m0) (Hp.le_refl _) he12 fun pe12=>?_
   obtain ⟨y13,hy13,hf⟩:=oB hf
   obtain ⟨h151,e152,S⟩:=St.setE (r:=(rI .i64)) (x':=y10) (k:=0) (n:=1) (y:=(.int .i64 y10)) S he12 rfl rfl (nl rfl) (by rintro _ h; obtain rfl:=h; exact rfl)
   rw [padd_zero] at e152
   have S:St _ _ [own (oSl (fz (rI .i64))) [(.slice h.n 0 0 (x0:Int).toNat 1)] y13] _:=S.cast1 (by rw [← oi hy13]<;>rfl)
   have hqy13:idx y13 y10=some y10:=oi hy13▸idx_set he12
   refine ⟨h151,e152,?_⟩
   obtain rfl:=oi hf
   exact ⟨m59,Nat.lt_succ_self _,y13,rfl,rfl,rfl,S,hk⟩
  rw [ifE hc] at hf
  obtain rfl:=oi hf
  obtain rfl:=hk
  exact ⟨y11,rfl,rfl,rfl,S,rfl⟩
 exact ⟨y46,rfl,rfl,rfl,S,hL⟩
def p42_j0 (p10:Int) (pairs11:List TArr2_Int):Option ((Int×(List TArr2_Int))⊕(List TArr2_Int)):=some (.inl ((IntKind.wrap .i64 (p10+1)),pairs11))
def p42_j1 (n0:TNet) (t12:Int) (p10:Int) (pairs13:List TArr2_Int) (b14:Bool):Option ((Int×(List TArr2_Int))⊕(List TArr2_Int)):=if b14=true then ((app 16 pairs13 [(TArr2_Int.mk p10 (IntKind.wrap .i64 ((n0.Places.length:Int)+t12)))]).bind fun pairs15=>p42_j0 p10 pairs15) else (p42_j0 p10 pairs13)
def p42_j2 (n0:TNet) (t12:Int) (p10:Int) (pairs13:List TArr2_Int) (b16:Bool):Option ((Int×(List TArr2_Int))⊕(List TArr2_Int)):=p42_j1 n0 t12 p10 pairs13 b16
def p42_l0 (n0:TNet) (t12:Int) (st:Int×(List TArr2_Int)):Option ((Int×(List TArr2_Int))⊕(List TArr2_Int)):=match st with | (p10,pairs13)=>if p10 < (n0.Places.length:Int) then ((idx n0.Trans t12).bind fun e17=>(p54 e17 p10).bind fun y18=>if y18=true then (p42_j1 n0 t12 p10 pairs13 true) else ((idx n0.Trans t12).bind fun e19=>if e19.Delay=0 then ((idx n0.Trans t12).bind fun e20=>(p18 e20 p10).bind fun y21=>p42_j2 n0 t12 p10 pairs13 y21) else (p42_j2 n0 t12 p10 pairs13 false))) else (some (.inr pairs13))
def p42_l1 (n0:TNet) (st:Int×(List TArr2_Int)):Option ((Int×(List TArr2_Int))⊕(List TArr2_Int)):=match st with | (t12,pairs22)=>if t12 < (n0.Trans.length:Int) then ((loopC (p42_l0 n0 t12) (0,pairs22)).bind fun res23=>((fun (pairs24:List TArr2_Int)=>some (.inl ((IntKind.wrap .i64 (t12+1)),pairs24))) res23)) else (some (.inr pairs22))
def p42 (n0:TNet):Option (List (List Int)):=(loopC (p42_l1 n0) (0,[])).bind fun res25=>((fun (pairs26:List TArr2_Int)=>(p55 (IntKind.wrap .i64 ((n0.Places.length:Int)+(n0.Trans.length:Int))) pairs26).bind fun y27=>some y27) res25)
theorem r42 {h:Heap} {a0_0:AV} {a0_1:AV} {n0:TNet} (f0_0:SlR rPlace (Snap h) a0_0 n0.Places) (f0_1:SlR rTrans (Snap h) a0_1 n0.Trans) {r:(List (List Int))} (hf:p42 n0=some r):ZC F 42 [(.agg [a0_0,a0_1])] h fun v h'=>St h none' [own (oSl (oSl (fz (rI .i64)))) [v] r] h':=by
 refine w42 ?_
 unfold W42
 unfold p42 at hf
 have S:St h none' [] h:=St.refl _ _
 intro h28
 have S:St _ _ [rowC h.n [a0_0,a0_1] 0] _:=S.pushRow [a0_0,a0_1]
 obtain ⟨res25,hL,hf⟩:=oB hf
 obtain ⟨n29,hL⟩:=loopC_iff.1 hL
 have S:St _ _ [own (oSl (fz rArr2_Int)) [.nilSlice] [],_] _:=S.addE (oSl_nil _ _)
 have S:=S.sel [1,0] rfl
 refine loopm42_1 (X0:=fun (n30:AV) (pairs31:AV) (t32:Int) (h33:Heap)=>∃ (pairs26:List TArr2_Int),AV.ptr h.n 0 0=n30∧St h none' [rowC h.n [a0_0,a0_1] 0,own (oSl (fz rArr2_Int)) [pairs31] pairs26] h33∧pairs26=res25) ?_ (loop42_1 (I:=fun (m34:Nat) (n35:AV) (pairs36:AV) (t12:Int) (h37:Heap)=>∃ (pairs22:List TArr2_Int),AV.ptr h.n 0 0=n35∧St h none' [rowC h.n [a0_0,a0_1] 0,own (oSl (fz rArr2_Int)) [pairs36] pairs22] h37∧iter (p42_l1 n0) m34 (t12,pairs22)=some res25) ?_ (m:=n29) ?_)
 ·rintro n30 pairs31 t32 h33 ⟨pairs26,rfl,S,rfl⟩
  try dsimp only at hf
  refine iI.2 ⟨rfl,?_⟩
  refine ⟨a0_0,S.rd1 m0 rfl,?_⟩
  refine iI.2 ⟨(f0_0).is,?_⟩
  try rw [show (a0_0).slen=_ from (f0_0).slen]
  refine iI.2 ⟨rfl,?_⟩
  refine ⟨a0_1,S.rd1 m0 rfl,?_⟩
  refine iI.2 ⟨(f0_1).is,?_⟩
  try rw [show (a0_1).slen=_ from (f0_1).slen]
  obtain ⟨y27,hy27,hf⟩:=oB hf
  refine ⟨_,Fz.refl _,?_⟩
  refine (r55 (x0:=(IntKind.wrap .i64 ((n0.Places.length:Int)+(n0.Trans.length:Int)))) (x1:=pairs26) (f1_0:=(S.sl (r:=(fz rArr2_Int)) m1)) hy27).mono fun v38 h39 T=>?_
  have S:St _ _ [own (oSl (oSl (fz (rI .i64)))) [v38] y27,_,_] _:=S.comp T
  obtain rfl:=oi hf
  exact S.sel [0] rfl
 ·rintro m40 n35 pairs36 t12 h37 ⟨pairs22,rfl,S,hit⟩
  obtain ⟨m34,q41,rfl,hf,hk⟩:=iter_some hit
  clear hit
  unfold B42_1
  unfold p42_l1 at hf
  try dsimp only at hf
  refine iI.2 ⟨rfl,?_⟩
  refine ⟨a0_1,S.rd1 m0 rfl,?_⟩
  refine iI.2 ⟨(f0_1).is,?_⟩
  try rw [show (a0_1).slen=_ from (f0_1).slen]
  refine bI (fun hc=>?_) (fun hc=>?_)
  ·rw [ifD hc] at hf
   obtain ⟨res23,hL,hf⟩:=oB hf
   obtain ⟨n42,hL⟩:=loopC_iff.1 hL
   refine loopm42_0 (X2:=fun (n43:AV) (pairs44:AV) (t45:Int) (p46:Int) (h47:Heap)=>∃ (pairs24:List TArr2_Int),AV.ptr h.n 0 0=n43∧t12=t45∧St h none' [rowC h.n [a0_0,a0_1] 0,own (oSl (fz rArr2_Int)) [pairs44] pairs24] h47∧pairs24=res23) ?_ (loop42_0 (I:=fun (m48:Nat) (n49:AV) (pairs50:AV) (t51:Int) (p10:Int) (h52:Heap)=>∃ (pairs13:List TArr2_Int),AV.ptr h.n 0 0=n49∧t12=t51∧St h none' [rowC h.n [a0_0,a0_1] 0,own (oSl (fz rArr2_Int)) [pairs50] pairs13] h52∧iter (p42_l0 n0 t12) m48 (p10,pairs13)=some res23) ?_ (m:=n42) ?_)
   ·rintro n43 pairs44 t45 p46 h47 ⟨pairs24,rfl,rfl,S,rfl⟩
    try dsimp only at hf
    obtain rfl:=oi hf
    exact ⟨m34,Nat.lt_succ_self _,pairs24,rfl,S,hk⟩
   ·rintro m53 n49 pairs50 t51 p10 h52 ⟨pairs13,rfl,rfl,S,hit⟩
    obtain ⟨m48,q54,rfl,hf,hk⟩:=iter_some hit
    clear hit
    unfold B42_0
    unfold p42_l0 at hf
    try dsimp only at hf
    refine iI.2 ⟨rfl,?_⟩
    refine ⟨a0_0,S.rd1 m0 rfl,?_⟩
    refine iI.2 ⟨(f0_0).is,?_⟩
    try rw [show (a0_0).slen=_ from (f0_0).slen]
    refine bI (fun hc=>?_) (fun hc=>?_)
    ·rw [ifD hc] at hf
     refine iI.2 ⟨rfl,?_⟩
     refine ⟨a0_1,S.rd1 m0 rfl,?_⟩
     obtain ⟨e17,he17,hf⟩:=oB hf
     refine ix_go f0_1 (sM S.le) he17 fun pe17=>?_
     obtain ⟨_,cr55,Rr55,Nr55,Or55,Zr55⟩:=SlR.idx f0_1 (sM S.le) he17
     obtain ⟨cr55_3,cr55_4,cr55_5,rfl,Fr55_3,Fr55_4,Fr55_5⟩:=rTrans_open Rr55
     refine ⟨(.str e17.Name),(.int .i64 e17.Delay),(.int .i64 e17.Prio),cr55_3,cr55_4,cr55_5,Nr55,?_⟩
     obtain ⟨y18,hy18,hf⟩:=oB hf
     refine ⟨_,Fz.refl _,?_⟩
     refine (r54 (t0:=e17) (place1:=p10) (f0_3:=(SlR.mono (sM S.le) Fr55_3)) (f0_4:=(SlR.mono (sM S.le) Fr55_4)) (f0_5:=(SlR.mono (sM S.le) Fr55_5)) hy18).mono fun v56 h57 T=>?_
     obtain ⟨rfl,T⟩:=T
     have S:St _ _ [_,_] _:=S.comp T
     refine ⟨y18,rfl,?_⟩
     intro jjj1
     have hjj1:∀ (b14:Bool) (h58:Heap),p42_j1 n0 t12 p10 pairs13 b14=some q54→St h none' [rowC h.n [a0_0,a0_1] 0,own (oSl (fz rArr2_Int)) [pairs50] pairs13] h58→jjj1 b14 h58:=by
      rintro b14 h58 hf S
      unfold p42_j1 at hf
      unfold jjj1
      intro jjj0
      have hjj0:∀ (pairs59:AV) (h60:Heap) (pairs11:List TArr2_Int),p42_j0 p10 pairs11=some q54→St h none' [rowC h.n [a0_0,a0_1] 0,own (oSl (fz rArr2_Int)) [pairs59] pairs11] h60→jjj0 pairs59 h60:=by
       rintro pairs59 h60 pairs11 hf S
       unfold p42_j0 at hf
       unfold jjj0
       obtain rfl:=oi hf
       exact ⟨m48,Nat.lt_succ_self _,pairs11,rfl,rfl,S,hk⟩
      refine bI (fun hc=>?_) (fun hc=>?_)
      ·rw [ifT hc] at hf
       refine iI.2 ⟨rfl,?_⟩
       refine ⟨a0_0,S.rd1 m0 rfl,?_⟩
       refine iI.2 ⟨(f0_0).is,?_⟩
       try rw [show (a0_0).slen=_ from (f0_0).slen]
       intro h61
       have S:St _ _ [rowC h58.n [(.int .i64 p10),(.int .i64 (IntKind.wrap .i64 ((n0.Places.length:Int)+t12)))] 0,_,_] _:=S.pushRow [(.int .i64 p10),(.int .i64 (IntKind.wrap .i64 ((n0.Places.length:Int)+t12)))]
       obtain ⟨pairs15,hpairs15,hf⟩:=oB hf
       have S:St _ _ [own (fz rArr2_Int) [(.int .i64 p10),(.int .i64 (IntKind.wrap .i64 ((n0.Places.length:Int)+t12)))] (TArr2_Int.mk p10 (IntKind.wrap .i64 ((n0.Places.length:Int)+t12))),_,_,_] _:=S.add (r:=rArr2_Int) (x:=(TArr2_Int.mk p10 (IntKind.wrap .i64 ((n0.Places.length:Int)+t12)))) (rArr2_Int_mk (x:=(TArr2_Int.mk p10 (IntKind.wrap .i64 ((n0.Places.length:Int)+t12)))))
       have S:=S.sel [3,0,1,2] rfl
       have mpairs15:=app_some hpairs15
       obtain ⟨v62,h63,e64,S⟩:=St.app1R (r:=(fz rArr2_Int)) (b:=16) S mpairs15.1
       have S:St _ _ [own (oSl (fz rArr2_Int)) [v62] pairs15,_] _:=S.cast1 (by rw [← mpairs15.2]<;>rfl)
       refine ⟨v62,h63,e64,?_⟩
       have S:=S.sel [1,0] rfl
       exact hjj0 _ _ pairs15 hf  S
      rw [ifF hc] at hf
      exact hjj0 _ _ pairs13 hf  S
     refine bI (fun hc=>?_) (fun hc=>?_)
     ·rw [ifT hc] at hf
      exact hjj1 _ _  hf  S
     rw [ifF hc] at hf
     refine iI.2 ⟨rfl,?_⟩
     refine ⟨a0_1,S.rd1 m0 rfl,?_⟩
     obtain ⟨e19,he19,hf⟩:=oB hf
     refine ix_go f0_1 (sM S.le) he19 fun pe19=>?_
     refine iI.2 ⟨pe19,?_⟩
     obtain ⟨_,cr65,Rr65,Nr65,Or65,Zr65⟩:=SlR.idx f0_1 (sM S.le) he19
     obtain ⟨cr65_3,cr65_4,cr65_5,rfl,Fr65_3,Fr65_4,Fr65_5⟩:=rTrans_open Rr65
     refine ⟨e19.Delay,Or65 1 _ rfl,?_⟩
     intro jjj2
     have hjj2:∀ (b16:Bool) (h66:Heap),p42_j2 n0 t12 p10 pairs13 b16=some q54→St h none' [rowC h.n [a0_0,a0_1] 0,own (oSl (fz rArr2_Int)) [pairs50] pairs13] h66→jjj2 b16 h66:=by
      rintro b16 h66 hf S
      unfold p42_j2 at hf
      unfold jjj2
      exact hjj1 _ _  hf  S
     refine bI (fun hc=>?_) (fun hc=>?_)
     ·rw [ifD hc] at hf
      refine iI.2 ⟨rfl,?_⟩
      refine ⟨a0_1,S.rd1 m0 rfl,?_⟩
      obtain ⟨e20,he20,hf⟩:=oB hf
      refine ix_go f0_1 (sM S.le) he20 fun pe20=>?_
      obtain ⟨_,cr67,Rr67,Nr67,Or67,Zr67⟩:=SlR.idx f0_1 (sM S.le) he20
      obtain ⟨cr67_3,cr67_4,cr67_5,rfl,Fr67_3,Fr67_4,Fr67_5⟩:=rTrans_open Rr67
      refine ⟨(.str e20.Name),(.int .i64 e20.Delay),(.int .i64 e20.Prio),cr67_3,cr67_4,cr67_5,Nr67,?_⟩
      obtain ⟨y21,hy21,hf⟩:=oB hf
      refine ⟨_,Fz.refl _,?_⟩
      refine (r18 (t0:=e20) (place1:=p10) (f0_3:=(SlR.mono (sM S.le) Fr67_3)) (f0_4:=(SlR.mono (sM S.le) Fr67_4)) (f0_5:=(SlR.mono (sM S.le) Fr67_5)) hy21).mono fun v68 h69 T=>?_
      obtain ⟨rfl,T⟩:=T
      have S:St _ _ [_,_] _:=S.comp T
      refine ⟨y21,rfl,?_⟩
      exact hjj2 _ _  hf  S
     rw [ifE hc] at hf
     exact hjj2 _ _  hf  S
    rw [ifE hc] at hf
    obtain rfl:=oi hf
    obtain rfl:=hk
    exact ⟨pairs13,rfl,rfl,S,rfl⟩
   exact ⟨pairs22,rfl,rfl,S,hL⟩
  rw [ifE hc] at hf
  obtain rfl:=oi hf
  obtain rfl:=hk
  exact ⟨pairs22,rfl,S,rfl⟩
 exact ⟨[],rfl,S,hL⟩
def p34_j0 (y10:Int) (y11:List Int) (y12:List Int):Option ((Int×(List Int)×(List Int))⊕((List Int)×(List Int))):=some (.inl ((IntKind.wrap .i64 (y10+1)),y11,y12))
def p34_l0 (y13:(List (List Int))) (y14:Int) (y15:Int) (st:Int×(List Int)×(List Int)):Option ((Int×(List Int)×(List Int))⊕((List Int)×(List Int))):=match st with | (y10,y16,y17)=>(idx y13 y14).bind fun e18=>if y10 < (e18.length:Int) then ((idx y13 y14).bind fun e19=>(idx e19 y10).bind fun e20=>if e20 < (y16.length:Int) then ((idx y16 e20).bind fun e21=>(some (y16.set (e20:Int).toNat y15)).bind fun y22=>p34_j0 y10 y22 y17) else ((idx y17 (IntKind.wrap .i64 (e20 - (y16.length:Int)))).bind fun e23=>(some (y17.set ((IntKind.wrap .i64 (e20 - (y16.length:Int))):Int).toNat y15)).bind fun y24=>p34_j0 y10 y16 y24)) else (some (.inr (y16,y17)))
def p34_j1 (y13:(List (List Int))) (y14:Int) (y25:List Int) (y26:List Int) (y15:Int):Option ((Int×(List Int)×(List Int))⊕((List Int)×(List Int))):=(loopC (p34_l0 y13 y14 y15) (0,y25,y26)).bind fun res27=>(match res27 with | (y28,y29)=>some (.inl ((IntKind.wrap .i64 (y14+1)),y28,y29)))
def p34_l1 (x1:Int) (x2:List Int) (y13:(List (List Int))) (st:Int×(List Int)×(List Int)):Option ((Int×(List Int)×(List Int))⊕((List Int)×(List Int))):=match st with | (y14,y25,y26)=>if y14 < (y13.length:Int) then ((remI .i64 y14 (IntKind.wrap .i64 (1+(IntKind.wrap .i64 (Int.tmod x1 5))))).bind fun d30=>if y14 < (x2.length:Int) then ((idx x2 y14).bind fun e31=>(remI .i64 (IntKind.wrap .i64 e31) (IntKind.wrap .i64 (1+(IntKind.wrap .i64 (Int.tmod x1 5))))).bind fun d32=>p34_j1 y13 y14 y25 y26 d32) else (p34_j1 y13 y14 y25 y26 d30)) else (some (.inr (y25,y26)))
def p34 (x0:TNet) (x1:Int) (x2:List Int):Option (Int×(List Int)×(List Int)):=(mkS 8 (x0.Places.length:Int) (x0.Places.length:Int) 0).bind fun y33=>(mkS 8 (x0.Trans.length:Int) (x0.Trans.length:Int) 0).bind fun y34=>(p42 x0).bind fun y13=>(loopC (p34_l1 x1 x2 y13) (0,y33,y34)).bind fun res35=>(match res35 with | (y36,y37)=>some ((IntKind.wrap .i64 (1+(IntKind.wrap .i64 (Int.tmod x1 5)))),y36,y37))
theorem r34 {h:Heap} {a0_0:AV} {a0_1:AV} {a2_0:AV} {x0:TNet} {x1:Int} {x2:List Int} (f0_0:SlR rPlace (Snap h) a0_0 x0.Places) (f0_1:SlR rTrans (Snap h) a0_1 x0.Trans) (f2_0:SlR (rI .u8) (Snap h) a2_0 x2) {r:Int×(List Int)×(List Int)} (hf:p34 x0 x1 x2=some r):ZC F 34 [(.agg [a0_0,a0_1]),(.int .u8 x1),a2_0] h fun v h'=>∃ w1,∃ w2,v=.tuple [.int .i64 r.1,w1,w2]∧St h none' [own (oSl (fz (rI .i64))) [w1] r.2.1,own (oSl (fz (rI .i64))) [w2] r.2.2] h':=by
 refine w34 ?_
 unfold W34
 unfold p34 at hf
 have S:St h none' [] h:=St.refl _ _
 intro h38
 have S:St _ _ [rowC h.n [a0_0,a0_1] 0] _:=S.pushRow [a0_0,a0_1]
 refine ⟨a0_0,S.rd1 m0 rfl,?_⟩
 refine iI.2 ⟨(f0_0).is,?_⟩
 try rw [show (a0_0).slen=_ from (f0_0).slen]
 obtain ⟨y33,hy33,hf⟩:=oB hf
 obtain ⟨my33,ey33⟩:=mkS_some hy33
 refine ⟨my33,?_⟩
 intro h39
 have S:St _ _ [own (oSl (fz (rI .i64))) [(.slice h38.n 0 0 ((x0.Places.length:Int):Int).toNat 1)] y33,_] _:=(S.make (r:=(fz (rI .i64))) (zero:=[(.int .i64 0)]) (x:=0) (fun _=>⟨rfl,rfl⟩) _).cast1 (by rw [ey33]; rfl)
 refine ⟨a0_1,S.rd1 m1 rfl,?_⟩
 refine iI.2 ⟨(f0_1).is,?_⟩
 try rw [show (a0_1).slen=_ from (f0_1).slen]
 obtain ⟨y34,hy34,hf⟩:=oB hf
 obtain ⟨my34,ey34⟩:=mkS_some hy34
 refine ⟨my34,?_⟩
 intro h40
 have S:St _ _ [own (oSl (fz (rI .i64))) [(.slice h39.n 0 0 ((x0.Trans.length:Int):Int).toNat 1)] y34,_,_] _:=(S.make (r:=(fz (rI .i64))) (zero:=[(.int .i64 0)]) (x:=0) (fun _=>⟨rfl,rfl⟩) _).cast1 (by rw [ey34]; rfl)
 refine ⟨a0_0,a0_1,S.rdN m2 (nl rfl) rfl,?_⟩
 obtain ⟨y13,hy13,hf⟩:=oB hf
 refine ⟨_,Fz.refl _,?_⟩
 refine (r42 (n0:=x0) (f0_0:=(SlR.mono (sM S.le) f0_0)) (f0_1:=(SlR.mono (sM S.le) f0_1)) hy13).mono fun v41 h42 T=>?_
 have S:St _ _ [own (oSl (oSl (fz (rI .i64)))) [v41] y13,_,_,_] _:=S.comp T
 obtain ⟨res35,hL,hf⟩:=oB hf
 obtain ⟨n43,hL⟩:=loopC_iff.1 hL
 have S:=S.sel [2,1,0] rfl
 refine loopm34_1 (X0:=fun (y44:AV) (y45:Int) (y46:AV) (y47:AV) (y48:AV) (y49:Int) (h50:Heap)=>∃ (y36:List Int),∃ (y37:List Int),(IntKind.wrap .i64 (1+(IntKind.wrap .i64 (Int.tmod x1 5))))=y45∧(AV.slice h38.n 0 0 ((x0.Places.length:Int):Int).toNat 1)=y46∧(AV.slice h39.n 0 0 ((x0.Trans.length:Int):Int).toNat 1)=y47∧St h none' [own (oSl (fz (rI .i64))) [(.slice h38.n 0 0 ((x0.Places.length:Int):Int).toNat 1)] y36,own (oSl (fz (rI .i64))) [(.slice h39.n 0 0 ((x0.Trans.length:Int):Int).toNat 1)] y37] h50∧(y36,y37)=res35) ?_ (loop34_1 (I:=fun (m51:Nat) (y52:AV) (y53:Int) (y54:AV) (y55:AV) (y56:AV) (y14:Int) (h57:Heap)=>∃ (y25:List Int),∃ (y26:List Int),a2_0=y52∧(IntKind.wrap .i64 (1+(IntKind.wrap .i64 (Int.tmod x1 5))))=y53∧(AV.slice h38.n 0 0 ((x0.Places.length:Int):Int).toNat 1)=y54∧(AV.slice h39.n 0 0 ((x0.Trans.length:Int):Int).toNat 1)=y55∧v41=y56∧St h none' [own (oSl (fz (rI .i64))) [(.slice h38.n 0 0 ((x0.Places.length:Int):Int).toNat 1)] y25,own (oSl (fz (rI .i64))) [(.slice h39.n 0 0 ((x0.Trans.length:Int):Int).toNat 1)] y26,own (oSl (oSl (fz (rI .i64)))) [v41] y13] h57∧iter (p34_l1 x1 x2 y13) m51 (y14,y25,y26)=some res35) ?_ (m:=n43) ?_)
 ·rintro y44 y45 y46 y47 y48 y49 h50 ⟨y36,y37,rfl,rfl,rfl,S,rfl⟩
  try dsimp only at hf
  obtain rfl:=oi hf
  exact ⟨(.slice h38.n 0 0 ((x0.Places.length:Int):Int).toNat 1),(.slice h39.n 0 0 ((x0.Trans.length:Int):Int).toNat 1),rfl,S.sel [0,1] rfl⟩
 ·rintro m58 y52 y53 y54 y55 y56 y14 h57 ⟨y25,y26,rfl,rfl,rfl,rfl,rfl,S,hit⟩
  obtain ⟨m51,q59,rfl,hf,hk⟩:=iter_some hit
  clear hit
  unfold B34_1
  unfold p34_l1 at hf
  try dsimp only at hf
  refine iI.2 ⟨((S.sl (r:=(oSl (fz (rI .i64)))) m2)).is,?_⟩
  try rw [show (v41).slen=_ from ((S.sl (r:=(oSl (fz (rI .i64)))) m2)).slen]
  refine bI (fun hc=>?_) (fun hc=>?_)
  ·rw [ifD hc] at hf
   obtain ⟨d30,hd30,hf⟩:=oB hf
   refine oI (.int .i64 d30) (remI_ev hd30) ⟨d30,rfl,?_⟩
   refine iI.2 ⟨(f2_0).is,?_⟩
   try rw [show (a2_0).slen=_ from (f2_0).slen]
   intro jjj1
   have hjj1:∀ (y15:Int) (h60:Heap),p34_j1 y13 y14 y25 y26 y15=some q59→St h none' [own (oSl (fz (rI .i64))) [(.slice h38.n 0 0 ((x0.Places.length:Int):Int).toNat 1)] y25,own (oSl (fz (rI .i64))) [(.slice h39.n 0 0 ((x0.Trans.length:Int):Int).toNat 1)] y26,own (oSl (oSl (fz (rI .i64)))) [v41] y13] h60→jjj1 y15 h60:=by
    rintro y15 h60 hf S
    unfold p34_j1 at hf
    unfold jjj1
    obtain ⟨res27,hL,hf⟩:=oB hf
    obtain ⟨n61,hL⟩:=loopC_iff.1 hL
    refine loopm34_0 (X2:=fun (y62:AV) (y63:Int) (y64:AV) (y65:AV) (y66:AV) (y67:Int) (y68:Int) (y69:Int) (h70:Heap)=>∃ (y28:List Int),∃ (y29:List Int),a2_0=y62∧(IntKind.wrap .i64 (1+(IntKind.wrap .i64 (Int.tmod x1 5))))=y63∧(AV.slice h38.n 0 0 ((x0.Places.length:Int):Int).toNat 1)=y64∧(AV.slice h39.n 0 0 ((x0.Trans.length:Int):Int).toNat 1)=y65∧v41=y66∧y14=y67∧St h none' [own (oSl (fz (rI .i64))) [(.slice h38.n 0 0 ((x0.Places.length:Int):Int).toNat 1)] y28,own (oSl (fz (rI .i64))) [(.slice h39.n 0 0 ((x0.Trans.length:Int):Int).toNat 1)] y29,own (oSl (oSl (fz (rI .i64)))) [v41] y13] h70∧(y28,y29)=res27) ?_ (loop34_0 (I:=fun (m71:Nat) (y72:AV) (y73:Int) (y74:AV) (y75:AV) (y76:AV) (y77:Int) (y78:Int) (y10:Int) (h79:Heap)=>∃ (y16:List Int),∃ (y17:List Int),a2_0=y72∧(IntKind.wrap .i64 (1+(IntKind.wrap .i64 (Int.tmod x1 5))))=y73∧(AV.slice h38.n 0 0 ((x0.Places.length:Int):Int).toNat 1)=y74∧(AV.slice h39.n 0 0 ((x0.Trans.length:Int):Int).toNat 1)=y75∧v41=y76∧y14=y77∧y15=y78∧St h none' [own (oSl (fz (rI .i64))) [(.slice h38.n 0 0 ((x0.Places.length:Int):Int).toNat 1)] y16,own (oSl (fz (rI .i64))) [(.slice h39.n 0 0 ((x0.Trans.length:Int):Int).toNat 1)] y17,own (oSl (oSl (fz (rI .i64)))) [v41] y13] h79∧iter (p34_l0 y13 y14 y15) m71 (y10,y16,y17)=some res27) ?_ (m:=n61) ?_)
    ·rintro y62 y63 y64 y65 y66 y67 y68 y69 h70 ⟨y28,y29,rfl,rfl,rfl,rfl,rfl,rfl,S,rfl⟩
     try dsimp only at hf
     obtain rfl:=oi hf
     exact ⟨m51,Nat.lt_succ_self _,y28,y29,rfl,rfl,rfl,rfl,rfl,S,hk⟩
    ·rintro m80 y72 y73 y74 y75 y76 y77 y78 y10 h79 ⟨y16,y17,rfl,rfl,rfl,rfl,rfl,rfl,rfl,S,hit⟩
     obtain ⟨m71,q81,rfl,hf,hk⟩:=iter_some hit
     clear hit
     unfold B34_0
     unfold p34_l0 at hf
     try dsimp only at hf
     obtain ⟨e18,he18,hf⟩:=oB hf
     refine ix_go (S.sl (r:=(oSl (fz (rI .i64)))) m2) (Hp.le_refl _) he18 fun pe18=>?_
     obtain ⟨_,cr82,Rr82,Nr82,Or82,Zr82⟩:=SlR.idx (S.sl (r:=(oSl (fz (rI .i64)))) m2) (Hp.le_refl _) he18
     obtain ⟨cr82,rfl,Fr82⟩:=Rr82
     refine ⟨cr82,Zr82 _ rfl,?_⟩
     refine iI.2 ⟨(Fr82).is,?_⟩
     try rw [show (cr82).slen=_ from (Fr82).slen]
     refine bI (fun hc=>?_) (fun hc=>?_)
     ·rw [ifD hc] at hf
      obtain ⟨e19,he19,hf⟩:=oB hf
      refine ix_go (S.sl (r:=(oSl (fz (rI .i64)))) m2) (Hp.le_refl _) he19 fun pe19=>?_
      obtain ⟨_,cr83,Rr83,Nr83,Or83,Zr83⟩:=SlR.idx (S.sl (r:=(oSl (fz (rI .i64)))) m2) (Hp.le_refl _) he19
      obtain ⟨cr83,rfl,Fr83⟩:=Rr83
      refine ⟨cr83,Zr83 _ rfl,?_⟩
      obtain ⟨e20,he20,hf⟩:=oB hf
      refine ix_go Fr83 (Hp.le_refl _) he20 fun pe20=>?_
      obtain ⟨_,cr84,Rr84,Nr84,Or84,Zr84⟩:=SlR.idx Fr83 (Hp.le_refl _) he20
      obtain rfl:cr84=[(.int .i64 e20)]:=Rr84
      refine ⟨e20,Zr84 _ rfl,?_⟩
      refine iI.2 ⟨((S.sl (r:=(fz (rI .i64))) m0)).is,?_⟩
      try rw [show ((AV.slice h38.n 0 0 ((x0.Places.length:Int):Int).toNat 1)).slen=_ from ((S.sl (r:=(fz (rI .i64))) m0)).slen]
      intro jjj0
      have hjj0:∀  (h85:Heap) (y11:List Int) (y12:List Int),p34_j0 y10 y11 y12=some q81→St h none' [own (oSl (fz (rI .i64))) [(.slice h38.n 0 0 ((x0.Places.length:Int):Int).toNat 1)] y11,own (oSl (fz (rI .i64))) [(.slice h39.n 0 0 ((x0.Trans.length:Int):Int).toNat 1)] y12,own (oSl (oSl (fz (rI .i64)))) [v41] y13] h85→jjj0 h85:=by
       rintro h85 y11 y12 hf S
       unfold p34_j0 at hf
       unfold jjj0
       obtain rfl:=oi hf
       exact ⟨m71,Nat.lt_succ_self _,y11,y12,rfl,rfl,rfl,rfl,rfl,rfl,rfl,S,hk⟩
      refine bI (fun hc=>?_) (fun hc=>?_)
      ·rw [ifD hc] at hf
       obtain ⟨e21,he21,hf⟩:=oB hf
       refine ix_go (S.sl (r:=(fz (rI .i64))) m0) (Hp.le_refl _) he21 fun pe21=>?_
       obtain ⟨y22,hy22,hf⟩:=oB hf
       obtain ⟨h86,e87,S⟩:=St.setE (r:=(rI .i64)) (x':=y15) (k:=0) (n:=1) (y:=(.int .i64 y15)) S he21 rfl rfl (nl rfl) (by rintro _ h; obtain rfl:=h; exact rfl)
       rw [padd_zero] at e87
       have S:St _ _ [own (oSl (fz (rI .i64))) [(.slice h38.n 0 0 ((x0.Places.length:Int):Int).toNat 1)] y22,_,_] _:=S.cast1 (by rw [← oi hy22]<;>rfl)
       have hqy22:idx y22 e20=some y15:=oi hy22▸idx_set he21
       refine ⟨h86,e87,?_⟩
       exact hjj0  _ y22 y17 hf  S
      rw [ifE hc] at hf
      refine iI.2 ⟨((S.sl (r:=(fz (rI .i64))) m0)).is,?_⟩
      try rw [show ((AV.slice h38.n 0 0 ((x0.Places.length:Int):Int).toNat 1)).slen=_ from ((S.sl (r:=(fz (rI .i64))) m0)).slen]
      obtain ⟨e23,he23,hf⟩:=oB hf
      refine ix_go (S.sl (r:=(fz (rI .i64))) m1) (Hp.le_refl _) he23 fun pe23=>?_
      obtain ⟨y24,hy24,hf⟩:=oB hf
      have S:=S.sel [1,0,2] rfl
      obtain ⟨h88,e89,S⟩:=St.setE (r:=(rI .i64)) (x':=y15) (k:=0) (n:=1) (y:=(.int .i64 y15)) S he23 rfl rfl (nl rfl) (by rintro _ h; obtain rfl:=h; exact rfl)
      rw [padd_zero] at e89
      have S:St _ _ [own (oSl (fz (rI .i64))) [(.slice h39.n 0 0 ((x0.Trans.length:Int):Int).toNat 1)] y24,_,_] _:=S.cast1 (by rw [← oi hy24]<;>rfl)
      have hqy24:idx y24 (IntKind.wrap .i64 (e20 - (y16.length:Int)))=some y15:=oi hy24▸idx_set he23
      refine ⟨h88,e89,?_⟩
      have S:=S.sel [1,0,2] rfl
      exact hjj0  _ y16 y24 hf  S
     rw [ifE hc] at hf
     obtain rfl:=oi hf
     obtain rfl:=hk
     exact ⟨y16,y17,rfl,rfl,rfl,rfl,rfl,rfl,S,rfl⟩
    exact ⟨y25,y26,rfl,rfl,rfl,rfl,rfl,rfl,rfl,S,hL⟩
   refine bI (fun hc=>?_) (fun hc=>?_)
   ·rw [ifD hc] at hf
    obtain ⟨e31,he31,hf⟩:=oB hf
    refine ix_go f2_0 (sM S.le) he31 fun pe31=>?_
    obtain ⟨_,cr90,Rr90,Nr90,Or90,Zr90⟩:=SlR.idx f2_0 (sM S.le) he31
    obtain rfl:cr90=[(.int .u8 e31)]:=Rr90
    refine ⟨e31,Zr90 _ rfl,?_⟩
    obtain ⟨d32,hd32,hf⟩:=oB hf
    refine oI (.int .i64 d32) (remI_ev hd32) ⟨d32,rfl,?_⟩
    exact hjj1 _ _  hf  S
   rw [ifE hc] at hf
   exact hjj1 _ _  hf  S
  rw [ifE hc] at hf
  have S:=S.sel [0,1] rfl
  obtain rfl:=oi hf
  obtain rfl:=hk
  exact ⟨y25,y26,rfl,rfl,rfl,S,rfl⟩
 exact ⟨y33,y34,rfl,rfl,rfl,rfl,rfl,S,hL⟩
def p71 (x0:Int) (x1:Int):Option (Int×Int):=(shrI .u64 (IntKind.wrap .u64 ((IntKind.wrap .u64 x0) * (IntKind.wrap .u64 x1))) 32).bind fun d10=>some ((IntKind.wrap .u32 d10),(IntKind.wrap .u32 (IntKind.wrap .u64 ((IntKind.wrap .u64 x0) * (IntKind.wrap .u64 x1)))))
def p72 (x0:Int) (x1:Int):Option (Int×Int):=(shrI .u64 x0 32).bind fun d10=>(shrI .u64 x1 32).bind fun d11=>(shrI .u64 (IntKind.wrap .u64 ((IntKind.wrap .u64 ((BitVec.ofInt (IntKind.bits .u64) x0 &&& BitVec.ofInt (IntKind.bits .u64) 4294967295).toNat)) * (IntKind.wrap .u64 ((BitVec.ofInt (IntKind.bits .u64) x1 &&& BitVec.ofInt (IntKind.bits .u64) 4294967295).toNat)))) 32).bind fun d12=>(shrI .u64 (IntKind.wrap .u64 ((IntKind.wrap .u64 (d10 * (IntKind.wrap .u64 ((BitVec.ofInt (IntKind.bits .u64) x1 &&& BitVec.ofInt (IntKind.bits .u64) 4294967295).toNat))))+d12)) 32).bind fun d13=>(shrI .u64 (IntKind.wrap .u64 ((IntKind.wrap .u64 ((BitVec.ofInt (IntKind.bits .u64) (IntKind.wrap .u64 ((IntKind.wrap .u64 (d10 * (IntKind.wrap .u64 ((BitVec.ofInt (IntKind.bits .u64) x1 &&& BitVec.ofInt (IntKind.bits .u64) 4294967295).toNat))))+d12)) &&& BitVec.ofInt (IntKind.bits .u64) 4294967295).toNat))+(IntKind.wrap .u64 ((IntKind.wrap .u64 ((BitVec.ofInt (IntKind.bits .u64) x0 &&& BitVec.ofInt (IntKind.bits .u64) 4294967295).toNat)) * d11)))) 32).bind fun d14=>some ((IntKind.wrap .u64 ((IntKind.wrap .u64 ((IntKind.wrap .u64 (d10 * d11))+d13))+d14)),(IntKind.wrap .u64 (x0 * x1)))
theorem r72 {h:Heap}  {x0:Int} {x1:Int} {r:Int×Int} (hf:p72 x0 x1=some r):ZC F 72 [(.int .u64 x0),(.int .u64 x1)] h fun v h'=>v=.tuple [.int .u64 r.1,.int .u64 r.2]∧St h none' [] h':=by
 refine w72 ?_
 unfold W72
 unfold p72 at hf
 have S:St h none' [] h:=St.refl _ _
 obtain ⟨d10,hd10,hf⟩:=oB hf
 refine oI (.int .u64 d10) (shrI_ev hd10) ⟨d10,rfl,?_⟩
 obtain ⟨d11,hd11,hf⟩:=oB hf
 refine oI (.int .u64 d11) (shrI_ev hd11) ⟨d11,rfl,?_⟩
 obtain ⟨d12,hd12,hf⟩:=oB hf
 refine oI (.int .u64 d12) (shrI_ev hd12) ⟨d12,rfl,?_⟩
 obtain ⟨d13,hd13,hf⟩:=oB hf
 refine oI (.int .u64 d13) (shrI_ev hd13) ⟨d13,rfl,?_⟩
 obtain ⟨d14,hd14,hf⟩:=oB hf
 refine oI (.int .u64 d14) (shrI_ev hd14) ⟨d14,rfl,?_⟩
 obtain rfl:=oi hf
 exact ⟨rfl,S.sel [] rfl⟩
def p60 (x0:Int) (x1:Int):Option (Int×Int):=(p72 x0 x1).bind fun u10=>some (u10.1,u10.2)
theorem r60 {h:Heap}  {x0:Int} {x1:Int} {r:Int×Int} (hf:p60 x0 x1=some r):ZC F 60 [(.int .u64 x0),(.int .u64 x1)] h fun v h'=>v=.tuple [.int .u64 r.1,.int .u64 r.2]∧St h none' [] h':=by
 refine w60 ?_
 unfold W60
 unfold p60 at hf
 have S:St h none' [] h:=St.refl _ _
 obtain ⟨u10,hu10,hf⟩:=oB hf
 refine ⟨_,Fz.refl _,?_⟩
 refine (r72 (x0:=x0) (x1:=x1) hu10).mono fun v11 h12 T=>?_
 obtain ⟨rfl,T⟩:=T
 have S:St _ _ [] _:=S.comp T
 refine oI (.int .u64 u10.1) rfl ⟨u10.1,rfl,?_⟩
 refine oI (.int .u64 u10.2) rfl ⟨u10.2,rfl,?_⟩
 obtain rfl:=oi hf
 exact ⟨rfl,S.sel [] rfl⟩
def p52_l0 (st:Int×(List Int)):Option ((Int×(List Int))⊕(List Int)):=match st with | (n10,newslice11)=>if n10 < (newslice11.length:Int) then ((slc newslice11 n10 (newslice11.length:Int)).bind fun y12=>(slc newslice11 0 n10).bind fun y13=>(neL y12).bind fun u14=>(neL y13).bind fun u15=>some (.inl ((IntKind.wrap .i64 (n10+((Nat.min y13.length y12.length:Nat):Int))),(cpl newslice11 (n10:Int).toNat ((newslice11.length:Int):Int).toNat y13)))) else (some (.inr newslice11))
def p52_j0 (x0:List Int) (u16:Int×Int):Option (List Int):=(mkS 8 (IntKind.wrap .i64 u16.2) (IntKind.wrap .i64 u16.2) 0).bind fun y17=>(neL y17).bind fun u18=>(neL x0).bind fun u19=>(loopC p52_l0 (((Nat.min x0.length y17.length:Nat):Int),(cpl y17 0 y17.length x0))).bind fun res20=>((fun (newslice21:List Int)=>some newslice21) res20)
def p52_j1 (x0:List Int) (u16:Int×Int) (b22:Bool):Option (List Int):=if b22=true then none else (p52_j0 x0 u16)
def p52_j2 (x0:List Int) (count1:Int):Option (List Int):=(p60 (IntKind.wrap .u64 (x0.length:Int)) (IntKind.wrap .u64 count1)).bind fun u16=>if 0 < u16.1 then (p52_j1 x0 u16 true) else (p52_j1 x0 u16 (decide (9223372036854775807 < u16.2)))
def p52 (x0:List Int) (count1:Int):Option (List Int):=if count1 < 0 then none else (p52_j2 x0 count1)
theorem r52 {h:Heap} {a0_0:AV} {x0:List Int} {count1:Int} (f0_0:SlR (rI .i64) (Snap h) a0_0 x0) {r:(List Int)} (hf:p52 x0 count1=some r):ZC F 52 [a0_0,(.int .i64 count1)] h fun v h'=>St h none' [own (oSl (fz (rI .i64))) [v] r] h':=by
 refine w52 ?_
 unfold W52
 unfold p52 at hf
 have S:St h none' [] h:=St.refl _ _
 intro jjj2
 have hjj2:∀  (h23:Heap),p52_j2 x0 count1=some r→St h none' [] h23→jjj2 h23:=by
  rintro h23 hf S
  unfold p52_j2 at hf
  unfold jjj2
  refine iI.2 ⟨(f0_0).is,?_⟩
  try rw [show (a0_0).slen=_ from (f0_0).slen]
  obtain ⟨u16,hu16,hf⟩:=oB hf
  refine ⟨_,Fz.refl _,?_⟩
  refine (r60 (x0:=(IntKind.wrap .u64 (x0.length:Int))) (x1:=(IntKind.wrap .u64 count1)) hu16).mono fun v24 h25 T=>?_
  obtain ⟨rfl,T⟩:=T
  have S:St _ _ [] _:=S.comp T
  refine oI (.int .u64 u16.1) rfl ⟨u16.1,rfl,?_⟩
  refine oI (.int .u64 u16.2) rfl ⟨u16.2,rfl,?_⟩
  intro jjj1
  have hjj1:∀ (b22:Bool) (h26:Heap),p52_j1 x0 u16 b22=some r→h25=h26→St h none' [] h25→jjj1 b22 h26:=by
   rintro b22 h26 hf rfl S
   unfold p52_j1 at hf
   unfold jjj1
   intro jjj0
   have hjj0:∀  (h27:Heap),p52_j0 x0 u16=some r→St h none' [] h27→jjj0 h27:=by
    rintro h27 hf S
    unfold p52_j0 at hf
    unfold jjj0
    obtain ⟨y17,hy17,hf⟩:=oB hf
    obtain ⟨my17,ey17⟩:=mkS_some hy17
    refine ⟨my17,?_⟩
    intro h28
    have S:St _ _ [own (oSl (fz (rI .i64))) [(.slice h27.n 0 0 ((IntKind.wrap .i64 u16.2):Int).toNat 1)] y17] _:=(S.make (r:=(fz (rI .i64))) (zero:=[(.int .i64 0)]) (x:=0) (fun _=>⟨rfl,rfl⟩) _).cast1 (by rw [ey17]; rfl)
    obtain ⟨u18,hu18,hf⟩:=oB hf
    obtain ⟨u19,hu19,hf⟩:=oB hf
    obtain ⟨h29,e30,S⟩:=S.copyW (r:=(rI .i64)) hu18 hu19 (SlR.mono (sM S.le) f0_0) (flat_I _) rfl
    refine ⟨_,h29,e30,?_⟩
    obtain ⟨res20,hL,hf⟩:=oB hf
    obtain ⟨n31,hL⟩:=loopC_iff.1 hL
    refine loopm52_0 (X0:=fun (newslice32:AV) (n33:Int) (h34:Heap)=>∃ (newslice21:List Int),(AV.slice h27.n 0 0 ((IntKind.wrap .i64 u16.2):Int).toNat 1)=newslice32∧St h none' [own (oSl (fz (rI .i64))) [(.slice h27.n 0 0 ((IntKind.wrap .i64 u16.2):Int).toNat 1)] newslice21] h34∧newslice21=res20) ?_ (loop52_0 (I:=fun (m35:Nat) (newslice36:AV) (n10:Int) (h37:Heap)=>∃ (newslice11:List Int),(AV.slice h27.n 0 0 ((IntKind.wrap .i64 u16.2):Int).toNat 1)=newslice36∧St h none' [own (oSl (fz (rI .i64))) [(.slice h27.n 0 0 ((IntKind.wrap .i64 u16.2):Int).toNat 1)] newslice11] h37∧iter p52_l0 m35 (n10,newslice11)=some res20) ?_ (m:=n31) ?_)
    ·rintro newslice32 n33 h34 ⟨newslice21,rfl,S,rfl⟩
     try dsimp only at hf
     obtain rfl:=oi hf
     exact S.sel [0] rfl
    ·rintro m38 newslice36 n10 h37 ⟨newslice11,rfl,S,hit⟩
     obtain ⟨m35,q39,rfl,hf,hk⟩:=iter_some hit
     clear hit
     unfold B52_0
     unfold p52_l0 at hf
     try dsimp only at hf
     refine iI.2 ⟨((S.sl (r:=(fz (rI .i64))) m0)).is,?_⟩
     try rw [show ((AV.slice h27.n 0 0 ((IntKind.wrap .i64 u16.2):Int).toNat 1)).slen=_ from ((S.sl (r:=(fz (rI .i64))) m0)).slen]
     refine bI (fun hc=>?_) (fun hc=>?_)
     ·rw [ifD hc] at hf
      obtain ⟨y12,hy12,hf⟩:=oB hf
      have ey12:=(sliceSl_ev10 (k:=.i64) (S.sl (r:=(fz (rI .i64))) m0) hy12)
      refine oI ((AV.slice h27.n 0 0 ((IntKind.wrap .i64 u16.2):Int).toNat 1).sub 1 (n10:Int).toNat ((newslice11.length:Int):Int).toNat) ey12 ?_
      obtain ⟨y13,hy13,hf⟩:=oB hf
      have ey13:=(sliceSl_ev01 (k:=.i64) (S.sl (r:=(fz (rI .i64))) m0) hy13)
      refine oI ((AV.slice h27.n 0 0 ((IntKind.wrap .i64 u16.2):Int).toNat 1).sub 1 (0:Int).toNat (n10:Int).toNat) ey13 ?_
      obtain ⟨u14,hu14,hf⟩:=oB hf
      obtain ⟨u15,hu15,hf⟩:=oB hf
      have V40:SlR (rI .i64) (Snap h37) ((AV.slice h27.n 0 0 ((IntKind.wrap .i64 u16.2):Int).toNat 1).sub 1 (0:Int).toNat (n10:Int).toNat) y13:=slc_eq hy13▸SlR.sub (S.sl (r:=(fz (rI .i64))) m0) (slc_le hy13).1 (slc_le hy13).2
      obtain ⟨h41,e42,S⟩:=S.copyV (r:=(rI .i64)) hy12 hu14 hu15 V40 (flat_I _) rfl
      refine ⟨_,h41,e42,?_⟩
      obtain rfl:=oi hf
      exact ⟨m35,Nat.lt_succ_self _,(cpl newslice11 (n10:Int).toNat ((newslice11.length:Int):Int).toNat y13),rfl,S,hk⟩
     rw [ifE hc] at hf
     obtain rfl:=oi hf
     obtain rfl:=hk
     exact ⟨newslice11,rfl,S,rfl⟩
    exact ⟨(cpl y17 0 y17.length x0),rfl,S,hL⟩
   refine bI (fun hc=>?_) (fun hc=>?_)
   ·rw [ifT hc] at hf
    refine oI _ rfl ?_
    cases hf
   rw [ifF hc] at hf
   exact hjj0  _  hf  S
  refine bI (fun hc=>?_) (fun hc=>?_)
  ·rw [ifD hc] at hf
   exact hjj1 _ _  hf rfl S
  rw [ifE hc] at hf
  exact hjj1 _ _  hf rfl S
 refine bI (fun hc=>?_) (fun hc=>?_)
 ·rw [ifD hc] at hf
  refine oI _ rfl ?_
  cases hf
 rw [ifE hc] at hf
 exact hjj2  _  hf  S
def p53_j0 (b10:Bool):Option Bool:=some b10
def p53 (i0:Int) (n1:Int):Option Bool:=if 0≤i0 then (p53_j0 (decide (i0 < n1))) else (p53_j0 false)
theorem r53 {h:Heap}  {i0:Int} {n1:Int} {r:Bool} (hf:p53 i0 n1=some r):ZC F 53 [(.int .i64 i0),(.int .i64 n1)] h fun v h'=>v=.bool r∧St h none' [] h':=by
 refine w53 ?_
 unfold W53
 unfold p53 at hf
 have S:St h none' [] h:=St.refl _ _
 intro jjj0
 have hjj0:∀ (b10:Bool) (h11:Heap),p53_j0 b10=some r→h=h11→St h none' [] h→jjj0 b10 h11:=by
  rintro b10 h11 hf rfl S
  unfold p53_j0 at hf
  unfold jjj0
  obtain rfl:=oi hf
  exact ⟨rfl,S.sel [] rfl⟩
 refine bI (fun hc=>?_) (fun hc=>?_)
 ·rw [ifD hc] at hf
  exact hjj0 _ _  hf rfl S
 rw [ifE hc] at hf
 exact hjj0 _ _  hf rfl S
def p38_l0 (x1:Int) (st:Int×(List (List Int))):Option ((Int×(List (List Int)))⊕(List (List Int))):=match st with | (y10,y11)=>if y10 < ((((if 32 < (if x1 < 0 then 0 else x1) then 32 else (if x1 < 0 then 0 else x1)):Int).toNat:Nat):Int) then ((p52 [1152921504606846976] (if 32 < (if x1 < 0 then 0 else x1) then 32 else (if x1 < 0 then 0 else x1))).bind fun y12=>(idx y11 y10).bind fun e13=>some (.inl ((IntKind.wrap .i64 (y10+1)),(y11.set (y10:Int).toNat y12)))) else (some (.inr y11))
def p38_j0 (y14:Int) (y15:List (List Int)):Option ((Int×(List (List Int)))⊕(List (List Int))):=some (.inl ((IntKind.wrap .i64 (y14+1)),y15))
def p38_j1 (y14:Int) (y16:List (List Int)) (e17:TLane) (b18:Bool):Option ((Int×(List (List Int)))⊕(List (List Int))):=if b18=true then ((idx y16 e17.From).bind fun e19=>(idx y16 e17.From).bind fun e20=>(idx e20 e17.To).bind fun e21=>(idx e19 e17.To).bind fun e22=>(some (e19.set (e17.To:Int).toNat (if e17.Ahead < e21 then e17.Ahead else e21))).bind fun e23=>p38_j0 y14 (y16.set (e17.From:Int).toNat e23)) else (p38_j0 y14 y16)
def p38_l1 (x0:List TLane) (x1:Int) (st:Int×(List (List Int))):Option ((Int×(List (List Int)))⊕(List (List Int))):=match st with | (y14,y16)=>if y14 < (x0.length:Int) then ((idx x0 y14).bind fun e17=>(p53 e17.From (if 32 < (if x1 < 0 then 0 else x1) then 32 else (if x1 < 0 then 0 else x1))).bind fun y24=>if y24=true then ((p53 e17.To (if 32 < (if x1 < 0 then 0 else x1) then 32 else (if x1 < 0 then 0 else x1))).bind fun y25=>p38_j1 y14 y16 e17 y25) else (p38_j1 y14 y16 e17 false)) else (some (.inr y16))
def p38_l2 (x1:Int) (y26:Int) (y27:Int) (st:Int×(List (List Int))):Option ((Int×(List (List Int)))⊕(List (List Int))):=match st with | (y28,y29)=>if y28 < (if 32 < (if x1 < 0 then 0 else x1) then 32 else (if x1 < 0 then 0 else x1)) then ((idx y29 y27).bind fun e30=>(idx y29 y27).bind fun e31=>(idx e31 y28).bind fun e32=>(idx y29 y27).bind fun e33=>(idx e33 y26).bind fun e34=>(idx y29 y26).bind fun e35=>(idx e35 y28).bind fun e36=>(idx e30 y28).bind fun e37=>(some (e30.set (y28:Int).toNat (if (IntKind.wrap .i64 (e34+e36)) < e32 then (IntKind.wrap .i64 (e34+e36)) else e32))).bind fun e38=>some (.inl ((IntKind.wrap .i64 (y28+1)),(y29.set (y27:Int).toNat e38)))) else (some (.inr y29))
def p38_l3 (x1:Int) (y26:Int) (st:Int×(List (List Int))):Option ((Int×(List (List Int)))⊕(List (List Int))):=match st with | (y27,y39)=>if y27 < (if 32 < (if x1 < 0 then 0 else x1) then 32 else (if x1 < 0 then 0 else x1)) then ((loopC (p38_l2 x1 y26 y27) (0,y39)).bind fun res40=>((fun (y41:List (List Int))=>some (.inl ((IntKind.wrap .i64 (y27+1)),y41))) res40)) else (some (.inr y39))
def p38_l4 (x1:Int) (st:Int×(List (List Int))):Option ((Int×(List (List Int)))⊕(List (List Int))):=match st with | (y26,y42)=>if y26 < (if 32 < (if x1 < 0 then 0 else x1) then 32 else (if x1 < 0 then 0 else x1)) then ((loopC (p38_l3 x1 y26) (0,y42)).bind fun res43=>((fun (y44:List (List Int))=>some (.inl ((IntKind.wrap .i64 (y26+1)),y44))) res43)) else (some (.inr y42))
def p38_l5 (x1:Int) (y45:List (List Int)) (st:Int×Int):Option ((Int×Int)⊕Int):=match st with | (y46,y47)=>if y47 < (if 32 < (if x1 < 0 then 0 else x1) then 32 else (if x1 < 0 then 0 else x1)) then ((idx y45 y47).bind fun e48=>(idx e48 y47).bind fun e49=>some (.inl ((if e49 < y46 then e49 else y46),(IntKind.wrap .i64 (y47+1))))) else (some (.inr y46))
def p38 (x0:List TLane) (x1:Int):Option Int:=(mkS 24 (if 32 < (if x1 < 0 then 0 else x1) then 32 else (if x1 < 0 then 0 else x1)) (if 32 < (if x1 < 0 then 0 else x1) then 32 else (if x1 < 0 then 0 else x1)) []).bind fun y50=>(loopC (p38_l0 x1) (0,y50)).bind fun res51=>((fun (y52:List (List Int))=>(loopC (p38_l1 x0 x1) (0,y52)).bind fun res53=>((fun (y54:List (List Int))=>(loopC (p38_l4 x1) (0,y54)).bind fun res55=>((fun (y45:List (List Int))=>(loopC (p38_l5 x1 y45) (1152921504606846976,0)).bind fun res56=>((fun (y57:Int)=>if y57=1152921504606846976 then (some ((-1):Int)) else (some y57)) res56)) res55)) res53)) res51)
theorem r38 {h:Heap} {a0_0:AV} {x0:List TLane} {x1:Int} (f0_0:SlR rLane (Snap h) a0_0 x0) {r:Int} (hf:p38 x0 x1=some r):ZC F 38 [a0_0,(.int .i64 x1)] h fun v h'=>v=.int .i64 r∧St h none' [] h':=by
 refine w38 ?_
 unfold W38
 unfold p38 at hf
 have S:St h none' [] h:=St.refl _ _
 obtain ⟨y50,hy50,hf⟩:=oB hf
 obtain ⟨my50,ey50⟩:=mkS_some hy50
 refine ⟨my50,?_⟩
 intro h58
 have S:St _ _ [own (oSl (oSl (fz (rI .i64)))) [(.slice h.n 0 0 ((if 32 < (if x1 < 0 then 0 else x1) then 32 else (if x1 < 0 then 0 else x1)):Int).toNat 1)] y50] _:=(S.make (r:=(oSl (fz (rI .i64)))) (zero:=[.nilSlice]) (x:=[]) (fun _=>⟨_,rfl,.inl ⟨rfl,rfl,rfl⟩⟩) _).cast1 (by rw [ey50]; rfl)
 obtain ⟨res51,hL,hf⟩:=oB hf
 obtain ⟨n59,hL⟩:=loopC_iff.1 hL
 refine loopm38_0 (X0:=fun (y60:AV) (y61:Int) (y62:AV) (y63:Int) (y64:Int) (h65:Heap)=>∃ (y52:List (List Int)),a0_0=y60∧(if 32 < (if x1 < 0 then 0 else x1) then 32 else (if x1 < 0 then 0 else x1))=y61∧(AV.slice h.n 0 0 ((if 32 < (if x1 < 0 then 0 else x1) then 32 else (if x1 < 0 then 0 else x1)):Int).toNat 1)=y62∧St h none' [own (oSl (oSl (fz (rI .i64)))) [(.slice h.n 0 0 ((if 32 < (if x1 < 0 then 0 else x1) then 32 else (if x1 < 0 then 0 else x1)):Int).toNat 1)] y52] h65∧y52=res51) ?_ (loop38_0 (I:=fun (m66:Nat) (y67:AV) (y68:Int) (y69:AV) (y70:Int) (y10:Int) (h71:Heap)=>∃ (y11:List (List Int)),a0_0=y67∧(if 32 < (if x1 < 0 then 0 else x1) then 32 else (if x1 < 0 then 0 else x1))=y68∧(AV.slice h.n 0 0 ((if 32 < (if x1 < 0 then 0 else x1) then 32 else (if x1 < 0 then 0 else x1)):Int).toNat 1)=y69∧((((if 32 < (if x1 < 0 then 0 else x1) then 32 else (if x1 < 0 then 0 else x1)):Int).toNat:Nat):Int)=y70∧St h none' [own (oSl (oSl (fz (rI .i64)))) [(.slice h.n 0 0 ((if 32 < (if x1 < 0 then 0 else x1) then 32 else (if x1 < 0 then 0 else x1)):Int).toNat 1)] y11] h71∧iter (p38_l0 x1) m66 (y10,y11)=some res51) ?_ (m:=n59) ?_)
 ·rintro y60 y61 y62 y63 y64 h65 ⟨y52,rfl,rfl,rfl,S,rfl⟩
  try dsimp only at hf
  refine iI.2 ⟨(f0_0).is,?_⟩
  try rw [show (a0_0).slen=_ from (f0_0).slen]
  obtain ⟨res53,hL,hf⟩:=oB hf
  obtain ⟨n72,hL⟩:=loopC_iff.1 hL
  refine loopm38_1 (X2:=fun (y73:Int) (y74:AV) (y75:AV) (y76:Int) (y77:Int) (h78:Heap)=>∃ (y54:List (List Int)),(if 32 < (if x1 < 0 then 0 else x1) then 32 else (if x1 < 0 then 0 else x1))=y73∧(AV.slice h.n 0 0 ((if 32 < (if x1 < 0 then 0 else x1) then 32 else (if x1 < 0 then 0 else x1)):Int).toNat 1)=y74∧St h none' [own (oSl (oSl (fz (rI .i64)))) [(.slice h.n 0 0 ((if 32 < (if x1 < 0 then 0 else x1) then 32 else (if x1 < 0 then 0 else x1)):Int).toNat 1)] y54] h78∧y54=res53) ?_ (loop38_1 (I:=fun (m79:Nat) (y80:Int) (y81:AV) (y82:AV) (y83:Int) (y14:Int) (h84:Heap)=>∃ (y16:List (List Int)),(if 32 < (if x1 < 0 then 0 else x1) then 32 else (if x1 < 0 then 0 else x1))=y80∧(AV.slice h.n 0 0 ((if 32 < (if x1 < 0 then 0 else x1) then 32 else (if x1 < 0 then 0 else x1)):Int).toNat 1)=y81∧a0_0=y82∧(x0.length:Int)=y83∧St h none' [own (oSl (oSl (fz (rI .i64)))) [(.slice h.n 0 0 ((if 32 < (if x1 < 0 then 0 else x1) then 32 else (if x1 < 0 then 0 else x1)):Int).toNat 1)] y16] h84∧iter (p38_l1 x0 x1) m79 (y14,y16)=some res53) ?_ (m:=n72) ?_)
  ·rintro y73 y74 y75 y76 y77 h78 ⟨y54,rfl,rfl,S,rfl⟩
   try dsimp only at hf
   obtain ⟨res55,hL,hf⟩:=oB hf
   obtain ⟨n85,hL⟩:=loopC_iff.1 hL
   refine loopm38_4 (X4:=fun (y86:Int) (y87:AV) (y88:Int) (y89:Int) (h90:Heap)=>∃ (y45:List (List Int)),(if 32 < (if x1 < 0 then 0 else x1) then 32 else (if x1 < 0 then 0 else x1))=y86∧(AV.slice h.n 0 0 ((if 32 < (if x1 < 0 then 0 else x1) then 32 else (if x1 < 0 then 0 else x1)):Int).toNat 1)=y87∧St h none' [own (oSl (oSl (fz (rI .i64)))) [(.slice h.n 0 0 ((if 32 < (if x1 < 0 then 0 else x1) then 32 else (if x1 < 0 then 0 else x1)):Int).toNat 1)] y45] h90∧y45=res55) ?_ (loop38_4 (I:=fun (m91:Nat) (y92:Int) (y93:AV) (y94:Int) (y26:Int) (h95:Heap)=>∃ (y42:List (List Int)),(if 32 < (if x1 < 0 then 0 else x1) then 32 else (if x1 < 0 then 0 else x1))=y92∧(AV.slice h.n 0 0 ((if 32 < (if x1 < 0 then 0 else x1) then 32 else (if x1 < 0 then 0 else x1)):Int).toNat 1)=y93∧(if 32 < (if x1 < 0 then 0 else x1) then 32 else (if x1 < 0 then 0 else x1))=y94∧St h none' [own (oSl (oSl (fz (rI .i64)))) [(.slice h.n 0 0 ((if 32 < (if x1 < 0 then 0 else x1) then 32 else (if x1 < 0 then 0 else x1)):Int).toNat 1)] y42] h95∧iter (p38_l4 x1) m91 (y26,y42)=some res55) ?_ (m:=n85) ?_)
   ·rintro y86 y87 y88 y89 h90 ⟨y45,rfl,rfl,S,rfl⟩
    try dsimp only at hf
    obtain ⟨res56,hL,hf⟩:=oB hf
    obtain ⟨n96,hL⟩:=loopC_iff.1 hL
    refine loopm38_5 (X10:=fun (y97:AV) (y57:Int) (y98:Int) (y99:Int) (h100:Heap)=>St h none' [] h100∧y57=res56) ?_ (loop38_5 (I:=fun (m101:Nat) (y102:AV) (y46:Int) (y103:Int) (y47:Int) (h104:Heap)=>(AV.slice h.n 0 0 ((if 32 < (if x1 < 0 then 0 else x1) then 32 else (if x1 < 0 then 0 else x1)):Int).toNat 1)=y102∧(if 32 < (if x1 < 0 then 0 else x1) then 32 else (if x1 < 0 then 0 else x1))=y103∧St h none' [own (oSl (oSl (fz (rI .i64)))) [(.slice h.n 0 0 ((if 32 < (if x1 < 0 then 0 else x1) then 32 else (if x1 < 0 then 0 else x1)):Int).toNat 1)] y45] h104∧iter (p38_l5 x1 y45) m101 (y46,y47)=some res56) ?_ (m:=n96) ?_)
    ·rintro y97 y57 y98 y99 h100 ⟨S,rfl⟩
     try dsimp only at hf
     refine bI (fun hc=>?_) (fun hc=>?_)
     ·rw [ifD hc] at hf
      obtain rfl:=oi hf
      exact ⟨rfl,S.sel [] rfl⟩
     rw [ifE hc] at hf
     obtain rfl:=oi hf
     exact ⟨rfl,S.sel [] rfl⟩
    ·rintro m105 y102 y46 y103 y47 h104 ⟨rfl,rfl,S,hit⟩
     obtain ⟨m101,q106,rfl,hf,hk⟩:=iter_some hit
     clear hit
     unfold B38_5
     unfold p38_l5 at hf
     try dsimp only at hf
     refine bI (fun hc=>?_) (fun hc=>?_)
     ·rw [ifD hc] at hf
      obtain ⟨e48,he48,hf⟩:=oB hf
      refine ix_go (S.sl (r:=(oSl (fz (rI .i64)))) m0) (Hp.le_refl _) he48 fun pe48=>?_
      obtain ⟨_,cr107,Rr107,Nr107,Or107,Zr107⟩:=SlR.idx (S.sl (r:=(oSl (fz (rI .i64)))) m0) (Hp.le_refl _) he48
      obtain ⟨cr107,rfl,Fr107⟩:=Rr107
      refine ⟨cr107,Zr107 _ rfl,?_⟩
      obtain ⟨e49,he49,hf⟩:=oB hf
      refine ix_go Fr107 (Hp.le_refl _) he49 fun pe49=>?_
      obtain ⟨_,cr108,Rr108,Nr108,Or108,Zr108⟩:=SlR.idx Fr107 (Hp.le_refl _) he49
      obtain rfl:cr108=[(.int .i64 e49)]:=Rr108
      refine ⟨e49,Zr108 _ rfl,?_⟩
      obtain rfl:=oi hf
      exact ⟨m101,Nat.lt_succ_self _,rfl,rfl,S,hk⟩
     rw [ifE hc] at hf
     have S:=S.sel [] rfl
     obtain rfl:=oi hf
     obtain rfl:=hk
     exact ⟨S,rfl⟩
    exact ⟨rfl,rfl,S,hL⟩
   ·rintro m109 y92 y93 y94 y26 h95 ⟨y42,rfl,rfl,rfl,S,hit⟩
    obtain ⟨m91,q110,rfl,hf,hk⟩:=iter_some hit
    clear hit
    unfold B38_4
    unfold p38_l4 at hf
    try dsimp only at hf
    refine bI (fun hc=>?_) (fun hc=>?_)
    ·rw [ifD hc] at hf
     obtain ⟨res43,hL,hf⟩:=oB hf
     obtain ⟨n111,hL⟩:=loopC_iff.1 hL
     refine loopm38_3 (X6:=fun (y112:Int) (y113:AV) (y114:Int) (y115:Int) (y116:Int) (y117:Int) (y118:Int) (h119:Heap)=>∃ (y44:List (List Int)),(if 32 < (if x1 < 0 then 0 else x1) then 32 else (if x1 < 0 then 0 else x1))=y112∧(AV.slice h.n 0 0 ((if 32 < (if x1 < 0 then 0 else x1) then 32 else (if x1 < 0 then 0 else x1)):Int).toNat 1)=y113∧(if 32 < (if x1 < 0 then 0 else x1) then 32 else (if x1 < 0 then 0 else x1))=y115∧y26=y116∧St h none' [own (oSl (oSl (fz (rI .i64)))) [(.slice h.n 0 0 ((if 32 < (if x1 < 0 then 0 else x1) then 32 else (if x1 < 0 then 0 else x1)):Int).toNat 1)] y44] h119∧y44=res43) ?_ (loop38_3 (I:=fun (m120:Nat) (y121:Int) (y122:AV) (y123:Int) (y124:Int) (y125:Int) (y126:Int) (y27:Int) (h127:Heap)=>∃ (y39:List (List Int)),(if 32 < (if x1 < 0 then 0 else x1) then 32 else (if x1 < 0 then 0 else x1))=y121∧(AV.slice h.n 0 0 ((if 32 < (if x1 < 0 then 0 else x1) then 32 else (if x1 < 0 then 0 else x1)):Int).toNat 1)=y122∧y26=y123∧(if 32 < (if x1 < 0 then 0 else x1) then 32 else (if x1 < 0 then 0 else x1))=y124∧y26=y125∧(if 32 < (if x1 < 0 then 0 else x1) then 32 else (if x1 < 0 then 0 else x1))=y126∧St h none' [own (oSl (oSl (fz (rI .i64)))) [(.slice h.n 0 0 ((if 32 < (if x1 < 0 then 0 else x1) then 32 else (if x1 < 0 then 0 else x1)):Int).toNat 1)] y39] h127∧iter (p38_l3 x1 y26) m120 (y27,y39)=some res43) ?_ (m:=n111) ?_)
     ·rintro y112 y113 y114 y115 y116 y117 y118 h119 ⟨y44,rfl,rfl,rfl,rfl,S,rfl⟩
      try dsimp only at hf
      obtain rfl:=oi hf
      exact ⟨m91,Nat.lt_succ_self _,y44,rfl,rfl,rfl,S,hk⟩
     ·rintro m128 y121 y122 y123 y124 y125 y126 y27 h127 ⟨y39,rfl,rfl,rfl,rfl,rfl,rfl,S,hit⟩
      obtain ⟨m120,q129,rfl,hf,hk⟩:=iter_some hit
      clear hit
      unfold B38_3
      unfold p38_l3 at hf
      try dsimp only at hf
      refine bI (fun hc=>?_) (fun hc=>?_)
      ·rw [ifD hc] at hf
       obtain ⟨res40,hL,hf⟩:=oB hf
       obtain ⟨n130,hL⟩:=loopC_iff.1 hL
       refine loopm38_2 (X8:=fun (y131:Int) (y132:AV) (y133:Int) (y134:Int) (y135:Int) (y136:Int) (y137:Int) (y138:Int) (y139:Int) (y140:Int) (h141:Heap)=>∃ (y41:List (List Int)),(if 32 < (if x1 < 0 then 0 else x1) then 32 else (if x1 < 0 then 0 else x1))=y131∧(AV.slice h.n 0 0 ((if 32 < (if x1 < 0 then 0 else x1) then 32 else (if x1 < 0 then 0 else x1)):Int).toNat 1)=y132∧y26=y133∧(if 32 < (if x1 < 0 then 0 else x1) then 32 else (if x1 < 0 then 0 else x1))=y135∧y26=y136∧(if 32 < (if x1 < 0 then 0 else x1) then 32 else (if x1 < 0 then 0 else x1))=y137∧y27=y138∧St h none' [own (oSl (oSl (fz (rI .i64)))) [(.slice h.n 0 0 ((if 32 < (if x1 < 0 then 0 else x1) then 32 else (if x1 < 0 then 0 else x1)):Int).toNat 1)] y41] h141∧y41=res40) ?_ (loop38_2 (I:=fun (m142:Nat) (y143:Int) (y144:AV) (y145:Int) (y146:Int) (y147:Int) (y148:Int) (y149:Int) (y150:Int) (y151:Int) (y28:Int) (h152:Heap)=>∃ (y29:List (List Int)),(if 32 < (if x1 < 0 then 0 else x1) then 32 else (if x1 < 0 then 0 else x1))=y143∧(AV.slice h.n 0 0 ((if 32 < (if x1 < 0 then 0 else x1) then 32 else (if x1 < 0 then 0 else x1)):Int).toNat 1)=y144∧y26=y145∧y27=y146∧(if 32 < (if x1 < 0 then 0 else x1) then 32 else (if x1 < 0 then 0 else x1))=y147∧y26=y148∧(if 32 < (if x1 < 0 then 0 else x1) then 32 else (if x1 < 0 then 0 else x1))=y149∧y27=y150∧(if 32 < (if x1 < 0 then 0 else x1) then 32 else (if x1 < 0 then 0 else x1))=y151∧St h none' [own (oSl (oSl (fz (rI .i64)))) [(.slice h.n 0 0 ((if 32 < (if x1 < 0 then 0 else x1) then 32 else (if x1 < 0 then 0 else x1)):Int).toNat 1)] y29] h152∧iter (p38_l2 x1 y26 y27) m142 (y28,y29)=some res40) ?_ (m:=n130) ?_)
       ·rintro y131 y132 y133 y134 y135 y136 y137 y138 y139 y140 h141 ⟨y41,rfl,rfl,rfl,rfl,rfl,rfl,rfl,S,rfl⟩
        try dsimp only at hf
        obtain rfl:=oi hf
        exact ⟨m120,Nat.lt_succ_self _,y41,rfl,rfl,rfl,rfl,rfl,rfl,S,hk⟩
       ·rintro m153 y143 y144 y145 y146 y147 y148 y149 y150 y151 y28 h152 ⟨y29,rfl,rfl,rfl,rfl,rfl,rfl,rfl,rfl,rfl,S,hit⟩
        obtain ⟨m142,q154,rfl,hf,hk⟩:=iter_some hit
        clear hit
        unfold B38_2
        unfold p38_l2 at hf
        try dsimp only at hf
        refine bI (fun hc=>?_) (fun hc=>?_)
        ·rw [ifD hc] at hf
         obtain ⟨e30,he30,hf⟩:=oB hf
         refine ix_go (S.sl (r:=(oSl (fz (rI .i64)))) m0) (Hp.le_refl _) he30 fun pe30=>?_
         obtain ⟨_,cr155,Rr155,Nr155,Or155,Zr155⟩:=SlR.idx (S.sl (r:=(oSl (fz (rI .i64)))) m0) (Hp.le_refl _) he30
         obtain ⟨cr155,rfl,Fr155⟩:=Rr155
         refine ⟨cr155,Zr155 _ rfl,?_⟩
         obtain ⟨e31,he31,hf⟩:=oB hf
         refine ix_go (S.sl (r:=(oSl (fz (rI .i64)))) m0) (Hp.le_refl _) he31 fun pe31=>?_
         obtain ⟨_,cr156,Rr156,Nr156,Or156,Zr156⟩:=SlR.idx (S.sl (r:=(oSl (fz (rI .i64)))) m0) (Hp.le_refl _) he31
         obtain ⟨cr156,rfl,Fr156⟩:=Rr156
         refine ⟨cr156,Zr156 _ rfl,?_⟩
         obtain ⟨e32,he32,hf⟩:=oB hf
         refine ix_go Fr156 (Hp.le_refl _) he32 fun pe32=>?_
         obtain ⟨_,cr157,Rr157,Nr157,Or157,Zr157⟩:=SlR.idx Fr156 (Hp.le_refl _) he32
         obtain rfl:cr157=[(.int .i64 e32)]:=Rr157
         refine ⟨e32,Zr157 _ rfl,?_⟩
         obtain ⟨e33,he33,hf⟩:=oB hf
         refine ix_go (S.sl (r:=(oSl (fz (rI .i64)))) m0) (Hp.le_refl _) he33 fun pe33=>?_
         obtain ⟨_,cr158,Rr158,Nr158,Or158,Zr158⟩:=SlR.idx (S.sl (r:=(oSl (fz (rI .i64)))) m0) (Hp.le_refl _) he33
         obtain ⟨cr158,rfl,Fr158⟩:=Rr158
         refine ⟨cr158,Zr158 _ rfl,?_⟩
         obtain ⟨e34,he34,hf⟩:=oB hf
         refine ix_go Fr158 (Hp.le_refl _) he34 fun pe34=>?_
         obtain ⟨_,cr159,Rr159,Nr159,Or159,Zr159⟩:=SlR.idx Fr158 (Hp.le_refl _) he34
         obtain rfl:cr159=[(.int .i64 e34)]:=Rr159
         refine ⟨e34,Zr159 _ rfl,?_⟩
         obtain ⟨e35,he35,hf⟩:=oB hf
         refine ix_go (S.sl (r:=(oSl (fz (rI .i64)))) m0) (Hp.le_refl _) he35 fun pe35=>?_
         obtain ⟨_,cr160,Rr160,Nr160,Or160,Zr160⟩:=SlR.idx (S.sl (r:=(oSl (fz (rI .i64)))) m0) (Hp.le_refl _) he35
         obtain ⟨cr160,rfl,Fr160⟩:=Rr160
         refine ⟨cr160,Zr160 _ rfl,?_⟩
         obtain ⟨e36,he36,hf⟩:=oB hf
         refine ix_go Fr160 (Hp.le_refl _) he36 fun pe36=>?_
         obtain ⟨_,cr161,Rr161,Nr161,Or161,Zr161⟩:=SlR.idx Fr160 (Hp.le_refl _) he36
         obtain rfl:cr161=[(.int .i64 e36)]:=Rr161
         refine ⟨e36,Zr161 _ rfl,?_⟩
         obtain ⟨e37,he37,hf⟩:=oB hf
         refine ix_go Fr155 (Hp.le_refl _) he37 fun pe37=>?_
         obtain ⟨e38,he38,hf⟩:=oB hf
         obtain ⟨cc162,lc162,S⟩:=St.out S he30
         obtain ⟨c162,rfl⟩:∃ a,cc162=[a]:=len1' lc162
         have qB:=(S.hrd m1).2.2.2.2.2 _ rfl
         obtain rfl:cr155=c162:=Option.some.inj ((Zr155 _ rfl).symm.trans qB)
         obtain ⟨h163,e164,S⟩:=St.setE (r:=(rI .i64)) (x':=(if (IntKind.wrap .i64 (e34+e36)) < e32 then (IntKind.wrap .i64 (e34+e36)) else e32)) (k:=0) (n:=1) (y:=(.int .i64 (if (IntKind.wrap .i64 (e34+e36)) < e32 then (IntKind.wrap .i64 (e34+e36)) else e32))) S he37 rfl rfl (nl rfl) (by rintro _ h; obtain rfl:=h; exact rfl)
         rw [padd_zero] at e164
         have S:St _ _ [own (oSl (fz (rI .i64))) [cr155] e38,_] _:=S.cast1 (by rw [← oi he38]<;>rfl)
         refine ⟨h163,e164,?_⟩
         have S:St _ _ [own (oSl (oSl (fz (rI .i64)))) [(.slice h.n 0 0 ((if 32 < (if x1 < 0 then 0 else x1) then 32 else (if x1 < 0 then 0 else x1)):Int).toNat 1)] (y29.set (y27:Int).toNat e38)] _:=S.back
         obtain rfl:=oi hf
         exact ⟨m142,Nat.lt_succ_self _,(y29.set (y27:Int).toNat e38),rfl,rfl,rfl,rfl,rfl,rfl,rfl,rfl,rfl,S,hk⟩
        rw [ifE hc] at hf
        obtain rfl:=oi hf
        obtain rfl:=hk
        exact ⟨y29,rfl,rfl,rfl,rfl,rfl,rfl,rfl,S,rfl⟩
       exact ⟨y39,rfl,rfl,rfl,rfl,rfl,rfl,rfl,rfl,rfl,S,hL⟩
      rw [ifE hc] at hf
      obtain rfl:=oi hf
      obtain rfl:=hk
      exact ⟨y39,rfl,rfl,rfl,rfl,S,rfl⟩
     exact ⟨y42,rfl,rfl,rfl,rfl,rfl,rfl,S,hL⟩
    rw [ifE hc] at hf
    obtain rfl:=oi hf
    obtain rfl:=hk
    exact ⟨y42,rfl,rfl,S,rfl⟩
   exact ⟨y54,rfl,rfl,rfl,S,hL⟩
  ·rintro m165 y80 y81 y82 y83 y14 h84 ⟨y16,rfl,rfl,rfl,rfl,S,hit⟩
   obtain ⟨m79,q166,rfl,hf,hk⟩:=iter_some hit
   clear hit
   unfold B38_1
   unfold p38_l1 at hf
   try dsimp only at hf
   refine bI (fun hc=>?_) (fun hc=>?_)
   ·rw [ifD hc] at hf
    obtain ⟨e17,he17,hf⟩:=oB hf
    refine ix_go f0_0 (sM S.le) he17 fun pe17=>?_
    obtain ⟨_,cr167,Rr167,Nr167,Or167,Zr167⟩:=SlR.idx f0_0 (sM S.le) he17
    obtain rfl:=rLane_open Rr167
    refine ⟨(.int .i64 e17.From),(.int .i64 e17.To),(.int .i64 e17.Ahead),Nr167,?_⟩
    intro h168
    have S:St _ _ [rowC h84.n [(.int .i64 0),(.int .i64 0),(.int .i64 0)] 0,_] _:=S.pushRow [(.int .i64 0),(.int .i64 0),(.int .i64 0)]
    obtain ⟨h169,e170,S⟩:=S.store (off:=0) (n:=3) (x:=(.agg [(.int .i64 e17.From),(.int .i64 e17.To),(.int .i64 e17.Ahead)])) (cs':=[(.int .i64 e17.From),(.int .i64 e17.To),(.int .i64 e17.Ahead)]) (nl rfl) rfl rfl rfl
    refine ⟨h169,e170,?_⟩
    refine ⟨e17.From,S.rd1 m0 rfl,?_⟩
    obtain ⟨y24,hy24,hf⟩:=oB hf
    refine ⟨_,Fz.refl _,?_⟩
    refine (r53 (i0:=e17.From) (n1:=(if 32 < (if x1 < 0 then 0 else x1) then 32 else (if x1 < 0 then 0 else x1))) hy24).mono fun v171 h172 T=>?_
    obtain ⟨rfl,T⟩:=T
    have S:St _ _ [_,_] _:=S.comp T
    refine ⟨y24,rfl,?_⟩
    intro jjj1
    have hjj1:∀ (b18:Bool) (h173:Heap),p38_j1 y14 y16 e17 b18=some q166→St h none' [own (oSl (oSl (fz (rI .i64)))) [(.slice h.n 0 0 ((if 32 < (if x1 < 0 then 0 else x1) then 32 else (if x1 < 0 then 0 else x1)):Int).toNat 1)] y16,rowC h84.n [(.int .i64 e17.From),(.int .i64 e17.To),(.int .i64 e17.Ahead)] 0] h173→jjj1 b18 h173:=by
     rintro b18 h173 hf S
     unfold p38_j1 at hf
     unfold jjj1
     intro jjj0
     have hjj0:∀  (h174:Heap) (y15:List (List Int)),p38_j0 y14 y15=some q166→St h none' [own (oSl (oSl (fz (rI .i64)))) [(.slice h.n 0 0 ((if 32 < (if x1 < 0 then 0 else x1) then 32 else (if x1 < 0 then 0 else x1)):Int).toNat 1)] y15] h174→jjj0 h174:=by
      rintro h174 y15 hf S
      unfold p38_j0 at hf
      unfold jjj0
      obtain rfl:=oi hf
      exact ⟨m79,Nat.lt_succ_self _,y15,rfl,rfl,rfl,rfl,S,hk⟩
     refine bI (fun hc=>?_) (fun hc=>?_)
     ·rw [ifT hc] at hf
      refine iI.2 ⟨rfl,?_⟩
      refine ⟨e17.From,S.rd1 m1 rfl,?_⟩
      obtain ⟨e19,he19,hf⟩:=oB hf
      refine ix_go (S.sl (r:=(oSl (fz (rI .i64)))) m0) (Hp.le_refl _) he19 fun pe19=>?_
      obtain ⟨_,cr175,Rr175,Nr175,Or175,Zr175⟩:=SlR.idx (S.sl (r:=(oSl (fz (rI .i64)))) m0) (Hp.le_refl _) he19
      obtain ⟨cr175,rfl,Fr175⟩:=Rr175
      refine ⟨cr175,Zr175 _ rfl,?_⟩
      refine iI.2 ⟨rfl,?_⟩
      refine ⟨e17.To,S.rd1 m1 rfl,?_⟩
      refine iI.2 ⟨rfl,?_⟩
      refine ⟨e17.From,S.rd1 m1 rfl,?_⟩
      obtain ⟨e20,he20,hf⟩:=oB hf
      refine ix_go (S.sl (r:=(oSl (fz (rI .i64)))) m0) (Hp.le_refl _) he20 fun pe20=>?_
      obtain ⟨_,cr176,Rr176,Nr176,Or176,Zr176⟩:=SlR.idx (S.sl (r:=(oSl (fz (rI .i64)))) m0) (Hp.le_refl _) he20
      obtain ⟨cr176,rfl,Fr176⟩:=Rr176
      refine ⟨cr176,Zr176 _ rfl,?_⟩
      refine iI.2 ⟨rfl,?_⟩
      refine ⟨e17.To,S.rd1 m1 rfl,?_⟩
      obtain ⟨e21,he21,hf⟩:=oB hf
      refine ix_go Fr176 (Hp.le_refl _) he21 fun pe21=>?_
      obtain ⟨_,cr177,Rr177,Nr177,Or177,Zr177⟩:=SlR.idx Fr176 (Hp.le_refl _) he21
      obtain rfl:cr177=[(.int .i64 e21)]:=Rr177
      refine ⟨e21,Zr177 _ rfl,?_⟩
      refine iI.2 ⟨rfl,?_⟩
      refine ⟨e17.Ahead,S.rd1 m1 rfl,?_⟩
      obtain ⟨e22,he22,hf⟩:=oB hf
      refine ix_go Fr175 (Hp.le_refl _) he22 fun pe22=>?_
      obtain ⟨e23,he23,hf⟩:=oB hf
      obtain ⟨cc178,lc178,S⟩:=St.out S he19
      obtain ⟨c178,rfl⟩:∃ a,cc178=[a]:=len1' lc178
      have qB:=(S.hrd m1).2.2.2.2.2 _ rfl
      obtain rfl:cr175=c178:=Option.some.inj ((Zr175 _ rfl).symm.trans qB)
      obtain ⟨h179,e180,S⟩:=St.setE (r:=(rI .i64)) (x':=(if e17.Ahead < e21 then e17.Ahead else e21)) (k:=0) (n:=1) (y:=(.int .i64 (if e17.Ahead < e21 then e17.Ahead else e21))) S he22 rfl rfl (nl rfl) (by rintro _ h; obtain rfl:=h; exact rfl)
      rw [padd_zero] at e180
      have S:St _ _ [own (oSl (fz (rI .i64))) [cr175] e23,_,_] _:=S.cast1 (by rw [← oi he23]<;>rfl)
      refine ⟨h179,e180,?_⟩
      have S:St _ _ [own (oSl (oSl (fz (rI .i64)))) [(.slice h.n 0 0 ((if 32 < (if x1 < 0 then 0 else x1) then 32 else (if x1 < 0 then 0 else x1)):Int).toNat 1)] (y16.set (e17.From:Int).toNat e23),_] _:=S.back
      have S:=S.sel [0] rfl
      exact hjj0  _ (y16.set (e17.From:Int).toNat e23) hf  S
     rw [ifF hc] at hf
     have S:=S.sel [0] rfl
     exact hjj0  _ y16 hf  S
    refine bI (fun hc=>?_) (fun hc=>?_)
    ·rw [ifT hc] at hf
     refine ⟨e17.To,S.rd1 m0 rfl,?_⟩
     obtain ⟨y25,hy25,hf⟩:=oB hf
     refine ⟨_,Fz.refl _,?_⟩
     refine (r53 (i0:=e17.To) (n1:=(if 32 < (if x1 < 0 then 0 else x1) then 32 else (if x1 < 0 then 0 else x1))) hy25).mono fun v181 h182 T=>?_
     obtain ⟨rfl,T⟩:=T
     have S:St _ _ [_,_] _:=S.comp T
     refine ⟨y25,rfl,?_⟩
     have S:=S.sel [1,0] rfl
     exact hjj1 _ _  hf  S
    rw [ifF hc] at hf
    have S:=S.sel [1,0] rfl
    exact hjj1 _ _  hf  S
   rw [ifE hc] at hf
   obtain rfl:=oi hf
   obtain rfl:=hk
   exact ⟨y16,rfl,rfl,S,rfl⟩
  exact ⟨y52,rfl,rfl,rfl,rfl,S,hL⟩
 ·rintro m183 y67 y68 y69 y70 y10 h71 ⟨y11,rfl,rfl,rfl,rfl,S,hit⟩
  obtain ⟨m66,q184,rfl,hf,hk⟩:=iter_some hit
  clear hit
  unfold B38_0
  unfold p38_l0 at hf
  try dsimp only at hf
  refine bI (fun hc=>?_) (fun hc=>?_)
  ·rw [ifD hc] at hf
   intro h185
   have S:St _ _ [rowC h71.n [(.int .i64 1152921504606846976)] 0,_] _:=S.pushRow [(.int .i64 1152921504606846976)]
   obtain ⟨y12,hy12,hf⟩:=oB hf
   have S:St _ _ [own (oSl (fz (rI .i64))) [(.slice h71.n 0 0 1 1)] [1152921504606846976],_] _:=St.lit (r:=(rI .i64)) (els:=([1152921504606846976]:List Int).map fun n=>[AV.int .i64 n]) (l:=([1152921504606846976]:List Int)) (n:=1) S rfl (all2_intL _) rfl
   refine ⟨_,Fz.refl _,?_⟩
   refine (r52 (x0:=[1152921504606846976]) (count1:=(if 32 < (if x1 < 0 then 0 else x1) then 32 else (if x1 < 0 then 0 else x1))) (f0_0:=(S.sl (r:=(fz (rI .i64))) m0)) hy12).mono fun v186 h187 T=>?_
   have S:St _ _ [own (oSl (fz (rI .i64))) [v186] y12,_,_] _:=S.comp T
   obtain ⟨e13,he13,hf⟩:=oB hf
   refine ix_go (S.sl (r:=(oSl (fz (rI .i64)))) m2) (Hp.le_refl _) he13 fun pe13=>?_
   have S:=S.sel [2,0,1] rfl
   obtain ⟨cc188,lc188,S⟩:=St.out S he13
   obtain ⟨c188,rfl⟩:∃ a,cc188=[a]:=len1' lc188
   have S:=S.sel [1,0,2,3] rfl
   obtain ⟨h189,e190,S⟩:=S.hset (k:=0) (n:=1) (y:=v186) (c':=[v186]) (by rw [sl_cells ((S.sl (r:=(fz (rI .i64))) m2)).is]; rfl) (sl_tup ((S.sl (r:=(fz (rI .i64))) m2)).is) (nl rfl) (by rw [sl_cells ((S.sl (r:=(fz (rI .i64))) m2)).is]; rfl)
   rw [padd_zero] at e190
   refine ⟨h189,e190,?_⟩
   have S:=S.sel [2,0,1,3] rfl
   have S:St _ _ [own (oSl (oSl (fz (rI .i64)))) [(.slice h.n 0 0 ((if 32 < (if x1 < 0 then 0 else x1) then 32 else (if x1 < 0 then 0 else x1)):Int).toNat 1)] (y11.set (y10:Int).toNat y12),_,_] _:=S.back
   have S:=S.sel [0] rfl
   obtain rfl:=oi hf
   exact ⟨m66,Nat.lt_succ_self _,(y11.set (y10:Int).toNat y12),rfl,rfl,rfl,rfl,S,hk⟩
  rw [ifE hc] at hf
  obtain rfl:=oi hf
  obtain rfl:=hk
  exact ⟨y11,rfl,rfl,rfl,S,rfl⟩
 exact ⟨y50,rfl,rfl,rfl,rfl,S,hL⟩
def p13_l0 (u10:Int×(List Int)×(List Int)) (st:Int×(List Int)):Option ((Int×(List Int))⊕(List Int)):=match st with | (y11,y12)=>if y11 < u10.1 then ((idx y12 y11).bind fun e13=>(some (y12.set (y11:Int).toNat ((-1):Int))).bind fun y14=>some (.inl ((IntKind.wrap .i64 (y11+1)),y14))) else (some (.inr y12))
def p13_j0 (y15:Int) (y16:List Int):Option ((Int×(List Int))⊕(List Int)):=some (.inl ((IntKind.wrap .i64 (y15+1)),y16))
def p13_l1 (y17:(List TLane)) (y18:Int) (st:Int×(List Int)):Option ((Int×(List Int))⊕(List Int)):=match st with | (y15,y19)=>if y15 < (y17.length:Int) then ((idx y17 y15).bind fun e20=>if e20.From=y18 then ((idx y17 y15).bind fun e21=>(idx y17 y15).bind fun e22=>(idx y19 e21.To).bind fun e23=>(some (y19.set (e21.To:Int).toNat e22.Ahead)).bind fun y24=>p13_j0 y15 y24) else (p13_j0 y15 y19)) else (some (.inr y19))
def p13_j1 (y25:Int) (y26:List Int):Option ((Int×(List Int))⊕(List Int)):=some (.inl ((IntKind.wrap .i64 (y25+1)),y26))
def p13_j2 (y17:(List TLane)) (y25:Int) (y27:List Int) (b28:Bool):Option ((Int×(List Int))⊕(List Int)):=if b28=true then ((idx y17 y25).bind fun e29=>(idx y17 y25).bind fun e30=>(idx y27 e30.From).bind fun e31=>(idx y17 y25).bind fun e32=>(idx y27 e29.To).bind fun e33=>(some (y27.set (e29.To:Int).toNat (IntKind.wrap .i64 (e31+e32.Ahead)))).bind fun y34=>p13_j1 y25 y34) else (p13_j1 y25 y27)
def p13_j3 (y17:(List TLane)) (y25:Int) (y27:List Int) (b35:Bool):Option ((Int×(List Int))⊕(List Int)):=p13_j2 y17 y25 y27 b35
def p13_l2 (y17:(List TLane)) (st:Int×(List Int)):Option ((Int×(List Int))⊕(List Int)):=match st with | (y25,y27)=>if y25 < (y17.length:Int) then ((idx y17 y25).bind fun e36=>(idx y27 e36.From).bind fun e37=>if 0≤e37 then ((idx y17 y25).bind fun e38=>(idx y27 e38.To).bind fun e39=>if e39 < 0 then (p13_j3 y17 y25 y27 true) else ((idx y17 y25).bind fun e40=>(idx y27 e40.From).bind fun e41=>(idx y17 y25).bind fun e42=>(idx y17 y25).bind fun e43=>(idx y27 e43.To).bind fun e44=>p13_j3 y17 y25 y27 (decide ((IntKind.wrap .i64 (e41+e42.Ahead)) < e44)))) else (p13_j2 y17 y25 y27 false)) else (some (.inr y27))
def p13_l3 (u10:Int×(List Int)×(List Int)) (y17:(List TLane)) (st:Int×(List Int)):Option ((Int×(List Int))⊕(List Int)):=match st with | (y45,y46)=>if y45 < u10.1 then ((loopC (p13_l2 y17) (0,y46)).bind fun res47=>((fun (y48:List Int)=>some (.inl ((IntKind.wrap .i64 (y45+1)),y48))) res47)) else (some (.inr y46))
def p13_j4 (y18:Int) (y49:Int):Option ((Int×Int)⊕Int):=some (.inl (y49,(IntKind.wrap .i64 (y18+1))))
def p13_j5 (y50:Int) (y18:Int) (y51:List Int) (b52:Bool):Option ((Int×Int)⊕Int):=if b52=true then ((idx y51 y18).bind fun e53=>p13_j4 y18 e53) else (p13_j4 y18 y50)
def p13_j6 (y50:Int) (y18:Int) (y51:List Int) (b54:Bool):Option ((Int×Int)⊕Int):=p13_j5 y50 y18 y51 b54
def p13_l4 (u10:Int×(List Int)×(List Int)) (y17:(List TLane)) (st:Int×Int):Option ((Int×Int)⊕Int):=match st with | (y50,y18)=>if y18 < u10.1 then ((mkS 8 u10.1 u10.1 0).bind fun y55=>(loopC (p13_l0 u10) (0,y55)).bind fun res56=>((fun (y57:List Int)=>(loopC (p13_l1 y17 y18) (0,y57)).bind fun res58=>((fun (y59:List Int)=>(loopC (p13_l3 u10 y17) (0,y59)).bind fun res60=>((fun (y51:List Int)=>(idx y51 y18).bind fun e61=>if 0≤e61 then (if y50 < 0 then (p13_j6 y50 y18 y51 true) else ((idx y51 y18).bind fun e62=>p13_j6 y50 y18 y51 (decide (e62 < y50)))) else (p13_j5 y50 y18 y51 false)) res60)) res58)) res56)) else (some (.inr y50))
def p13_j7 (b63:Bool):Option Bool:=some b63
def p13_j8 (y17:(List TLane)) (b64:Bool):Option Bool:=if b64=true then ((p38 y17 0).bind fun y65=>p13_j7 (decide (y65=((-1):Int)))) else (p13_j7 false)
def p13_j9 (x0:TDraft) (x1:Int) (x2:List Int) (b66:Bool):Option Bool:=if b66=true then ((p32 ).bind fun y67=>some y67) else ((p17 x0).bind fun y68=>(p34 y68 x1 x2).bind fun u10=>(p35 y68 (TPart.mk u10.1 u10.2.1 u10.2.2)).bind fun y17=>(loopC (p13_l4 u10 y17) (((-1):Int),0)).bind fun res69=>((fun (y70:Int)=>(p38 y17 u10.1).bind fun y71=>if y71=y70 then ((p38 [] u10.1).bind fun y72=>p13_j8 y17 (decide (y72=((-1):Int)))) else (p13_j8 y17 false)) res69))
def p13_j10 (x0:TDraft) (x1:Int) (x2:List Int) (b73:Bool):Option Bool:=if b73=true then (p13_j9 x0 x1 x2 true) else (p13_j9 x0 x1 x2 (decide (20 < (x2.length:Int))))
def p13 (x0:TDraft) (x1:Int) (x2:List Int):Option Bool:=(p32 ).bind fun y74=>if (!y74)=true then (p13_j10 x0 x1 x2 true) else ((p33 x0).bind fun y75=>p13_j10 x0 x1 x2 (!y75))
theorem r13 {h:Heap} {a0_0:AV} {a0_1:AV} {a2_0:AV} {x0:TDraft} {x1:Int} {x2:List Int} (f0_0:SlR (rI .u8) (Snap h) a0_0 x0.Tokens) (f0_1:SlR rAct (Snap h) a0_1 x0.Acts) (f2_0:SlR (rI .u8) (Snap h) a2_0 x2) {r:Bool} (hf:p13 x0 x1 x2=some r):ZC F 13 [(.agg [a0_0,a0_1]),(.int .u8 x1),a2_0] h fun v h'=>v=.bool r∧St h none' [] h':=by
 refine w13 ?_
 unfold W13
 unfold p13 at hf
 have S:St h none' [] h:=St.refl _ _
 intro h76
 have S:St _ _ [rowC h.n [a0_0,a0_1] 0] _:=S.pushRow [a0_0,a0_1]
 obtain ⟨y74,hy74,hf⟩:=oB hf
 refine ⟨_,Fz.refl _,?_⟩
 refine (r32  hy74).mono fun v77 h78 T=>?_
 obtain ⟨rfl,T⟩:=T
 have S:St _ _ [_] _:=S.comp T
 refine ⟨y74,rfl,?_⟩
 intro jjj10
 have hjj10:∀ (b73:Bool) (h79:Heap),p13_j10 x0 x1 x2 b73=some r→St h none' [rowC h.n [a0_0,a0_1] 0] h79→jjj10 b73 h79:=by
  rintro b73 h79 hf S
  unfold p13_j10 at hf
  unfold jjj10
  intro jjj9
  have hjj9:∀ (b66:Bool) (h80:Heap),p13_j9 x0 x1 x2 b66=some r→h79=h80→St h none' [rowC h.n [a0_0,a0_1] 0] h79→jjj9 b66 h80:=by
   rintro b66 h80 hf rfl S
   unfold p13_j9 at hf
   unfold jjj9
   refine bI (fun hc=>?_) (fun hc=>?_)
   ·rw [ifT hc] at hf
    obtain ⟨y67,hy67,hf⟩:=oB hf
    refine ⟨_,Fz.refl _,?_⟩
    refine (r32  hy67).mono fun v81 h82 T=>?_
    obtain ⟨rfl,T⟩:=T
    have S:St _ _ [_] _:=S.comp T
    refine ⟨y67,rfl,?_⟩
    obtain rfl:=oi hf
    exact ⟨rfl,S.sel [] rfl⟩
   rw [ifF hc] at hf
   refine ⟨a0_0,a0_1,S.rdN m0 (nl rfl) rfl,?_⟩
   obtain ⟨y68,hy68,hf⟩:=oB hf
   refine ⟨_,Fz.refl _,?_⟩
   refine (r17 (x0:=x0) (f0_0:=(SlR.mono (sM S.le) f0_0)) (f0_1:=(SlR.mono (sM S.le) f0_1)) hy68).frz fun v83 h84 T=>?_
   obtain ⟨c85,rfl,T⟩:=T
   have S:=S.comp T
   obtain ⟨h86,z87,S⟩:=St.freeze S
   refine ⟨h86,z87,?_⟩
   obtain ⟨ay68_0,ay68_1,rfl,Fay68_0,Fay68_1⟩:=rNet_open (S.fzr (.head _))
   have S:=S.drop
   have S:St _ _ [own (fz (rSl rPlace)) [ay68_0] y68.Places,_] _:=S.add (rSl_mk Fay68_0)
   have S:St _ _ [own (fz (rSl rTrans)) [ay68_1] y68.Trans,_,_] _:=S.add (rSl_mk Fay68_1)
   intro h88
   have S:St _ _ [rowC h86.n [.nilSlice,.nilSlice] 0,_,_,_] _:=S.pushRow [.nilSlice,.nilSlice]
   obtain ⟨h89,e90,S⟩:=S.store (off:=0) (n:=2) (x:=(.agg [ay68_0,ay68_1])) (cs':=[ay68_0,ay68_1]) (nl rfl) rfl rfl rfl
   refine ⟨h89,e90,?_⟩
   refine ⟨ay68_0,ay68_1,S.rdN m0 (nl rfl) rfl,?_⟩
   obtain ⟨u10,hu10,hf⟩:=oB hf
   refine ⟨_,Fz.refl _,?_⟩
   refine (r34 (x0:=y68) (x1:=x1) (x2:=x2) (f0_0:=(SlR.mono (frz_snap _) (S.slz (r:=rPlace) m2))) (f0_1:=(SlR.mono (frz_snap _) (S.slz (r:=rTrans) m1))) (f2_0:=(SlR.mono (sM S.le) f2_0)) hu10).mono fun v91 h92 T=>?_
   obtain ⟨w93,w94,rfl,T⟩:=T
   have S:St _ _ [own (oSl (fz (rI .i64))) [w93] u10.2.1,own (oSl (fz (rI .i64))) [w94] u10.2.2,_,_,_,_] _:=S.comp T
   refine oI (.int .i64 u10.1) rfl ⟨u10.1,rfl,?_⟩
   refine oI w93 rfl ?_
   refine oI w94 rfl ?_
   refine ⟨ay68_0,ay68_1,S.rdN m2 (nl rfl) rfl,?_⟩
   refine oI (.agg [(.int .i64 u10.1),w93,w94]) (by simp only [POp.ev,place,sl_cells ((S.sl (r:=(fz (rI .i64))) m0)).is,sl_tup ((S.sl (r:=(fz (rI .i64))) m0)).is,sl_cells ((S.sl (r:=(fz (rI .i64))) m1)).is,sl_tup ((S.sl (r:=(fz (rI .i64))) m1)).is]<;>first | rfl | (simp [AV.cells,AV.isTup,splice]; done) | (simp [AV.cells,AV.isTup,splice]; rfl)) ?_
   obtain ⟨y17,hy17,hf⟩:=oB hf
   refine ⟨_,Fz.refl _,?_⟩
   refine (r35 (n0:=y68) (p1:=(TPart.mk u10.1 u10.2.1 u10.2.2)) (f0_0:=(SlR.mono (frz_snap _) (S.slz (r:=rPlace) m4))) (f0_1:=(SlR.mono (frz_snap _) (S.slz (r:=rTrans) m3))) (f1_1:=(S.sl (r:=(fz (rI .i64))) m0)) (f1_2:=(S.sl (r:=(fz (rI .i64))) m1)) hy17).mono fun v95 h96 T=>?_
   have S:St _ _ [own (oSl (fz rLane)) [v95] y17,_,_,_,_,_,_] _:=S.comp T
   obtain ⟨res69,hL,hf⟩:=oB hf
   obtain ⟨n97,hL⟩:=loopC_iff.1 hL
   have S:=S.sel [0] rfl
   refine loopm13_4 (X0:=fun (y98:Int) (y99:AV) (y70:Int) (y100:Int) (h101:Heap)=>u10.1=y98∧v95=y99∧St h none' [own (oSl (fz rLane)) [v95] y17] h101∧y70=res69) ?_ (loop13_4 (I:=fun (m102:Nat) (y103:Int) (y104:AV) (y50:Int) (y18:Int) (h105:Heap)=>u10.1=y103∧v95=y104∧St h none' [own (oSl (fz rLane)) [v95] y17] h105∧iter (p13_l4 u10 y17) m102 (y50,y18)=some res69) ?_ (m:=n97) ?_)
   ·rintro y98 y99 y70 y100 h101 ⟨rfl,rfl,S,rfl⟩
    try dsimp only at hf
    obtain ⟨y71,hy71,hf⟩:=oB hf
    refine ⟨_,Fz.refl _,?_⟩
    refine (r38 (x0:=y17) (x1:=u10.1) (f0_0:=(S.sl (r:=(fz rLane)) m0)) hy71).mono fun v106 h107 T=>?_
    obtain ⟨rfl,T⟩:=T
    have S:St _ _ [_] _:=S.comp T
    refine ⟨y71,rfl,?_⟩
    intro jjj8
    have hjj8:∀ (b64:Bool) (h108:Heap),p13_j8 y17 b64=some r→St h none' [own (oSl (fz rLane)) [v95] y17] h108→jjj8 b64 h108:=by
     rintro b64 h108 hf S
     unfold p13_j8 at hf
     unfold jjj8
     intro jjj7
     have hjj7:∀ (b63:Bool) (h109:Heap),p13_j7 b63=some r→St h none' [] h109→jjj7 b63 h109:=by
      rintro b63 h109 hf S
      unfold p13_j7 at hf
      unfold jjj7
      obtain rfl:=oi hf
      exact ⟨rfl,S.sel [] rfl⟩
     refine bI (fun hc=>?_) (fun hc=>?_)
     ·rw [ifT hc] at hf
      obtain ⟨y65,hy65,hf⟩:=oB hf
      refine ⟨_,Fz.refl _,?_⟩
      refine (r38 (x0:=y17) (x1:=0) (f0_0:=(S.sl (r:=(fz rLane)) m0)) hy65).mono fun v110 h111 T=>?_
      obtain ⟨rfl,T⟩:=T
      have S:St _ _ [_] _:=S.comp T
      refine ⟨y65,rfl,?_⟩
      have S:=S.sel [] rfl
      exact hjj7 _ _  hf  S
     rw [ifF hc] at hf
     have S:=S.sel [] rfl
     exact hjj7 _ _  hf  S
    refine bI (fun hc=>?_) (fun hc=>?_)
    ·rw [ifD hc] at hf
     obtain ⟨y72,hy72,hf⟩:=oB hf
     refine ⟨_,Fz.refl _,?_⟩
     refine (r38 (x0:=[]) (x1:=u10.1) (f0_0:=(SlR.nil rLane (Snap h107))) hy72).mono fun v112 h113 T=>?_
     obtain ⟨rfl,T⟩:=T
     have S:St _ _ [_] _:=S.comp T
     refine ⟨y72,rfl,?_⟩
     exact hjj8 _ _  hf  S
    rw [ifE hc] at hf
    exact hjj8 _ _  hf  S
   ·rintro m114 y103 y104 y50 y18 h105 ⟨rfl,rfl,S,hit⟩
    obtain ⟨m102,q115,rfl,hf,hk⟩:=iter_some hit
    clear hit
    unfold B13_4
    unfold p13_l4 at hf
    try dsimp only at hf
    refine bI (fun hc=>?_) (fun hc=>?_)
    ·rw [ifD hc] at hf
     obtain ⟨y55,hy55,hf⟩:=oB hf
     obtain ⟨my55,ey55⟩:=mkS_some hy55
     refine ⟨my55,?_⟩
     intro h116
     have S:St _ _ [own (oSl (fz (rI .i64))) [(.slice h105.n 0 0 (u10.1:Int).toNat 1)] y55,_] _:=(S.make (r:=(fz (rI .i64))) (zero:=[(.int .i64 0)]) (x:=0) (fun _=>⟨rfl,rfl⟩) _).cast1 (by rw [ey55]; rfl)
     obtain ⟨res56,hL,hf⟩:=oB hf
     obtain ⟨n117,hL⟩:=loopC_iff.1 hL
     have S:=S.sel [1,0] rfl
     refine loopm13_0 (X2:=fun (y118:Int) (y119:AV) (y120:Int) (y121:Int) (y122:AV) (y123:Int) (h124:Heap)=>∃ (y57:List Int),u10.1=y118∧v95=y119∧y50=y120∧y18=y121∧(AV.slice h105.n 0 0 (u10.1:Int).toNat 1)=y122∧St h none' [own (oSl (fz rLane)) [v95] y17,own (oSl (fz (rI .i64))) [(.slice h105.n 0 0 (u10.1:Int).toNat 1)] y57] h124∧y57=res56) ?_ (loop13_0 (I:=fun (m125:Nat) (y126:Int) (y127:AV) (y128:Int) (y129:Int) (y130:AV) (y11:Int) (h131:Heap)=>∃ (y12:List Int),u10.1=y126∧v95=y127∧y50=y128∧y18=y129∧(AV.slice h105.n 0 0 (u10.1:Int).toNat 1)=y130∧St h none' [own (oSl (fz rLane)) [v95] y17,own (oSl (fz (rI .i64))) [(.slice h105.n 0 0 (u10.1:Int).toNat 1)] y12] h131∧iter (p13_l0 u10) m125 (y11,y12)=some res56) ?_ (m:=n117) ?_)
     ·rintro y118 y119 y120 y121 y122 y123 h124 ⟨y57,rfl,rfl,rfl,rfl,rfl,S,rfl⟩
      try dsimp only at hf
      obtain ⟨res58,hL,hf⟩:=oB hf
      obtain ⟨n132,hL⟩:=loopC_iff.1 hL
      refine loopm13_1 (X4:=fun (y133:Int) (y134:AV) (y135:Int) (y136:Int) (y137:AV) (y138:Int) (h139:Heap)=>∃ (y59:List Int),u10.1=y133∧v95=y134∧y50=y135∧y18=y136∧(AV.slice h105.n 0 0 (u10.1:Int).toNat 1)=y137∧St h none' [own (oSl (fz rLane)) [v95] y17,own (oSl (fz (rI .i64))) [(.slice h105.n 0 0 (u10.1:Int).toNat 1)] y59] h139∧y59=res58) ?_ (loop13_1 (I:=fun (m140:Nat) (y141:Int) (y142:AV) (y143:Int) (y144:Int) (y145:AV) (y15:Int) (h146:Heap)=>∃ (y19:List Int),u10.1=y141∧v95=y142∧y50=y143∧y18=y144∧(AV.slice h105.n 0 0 (u10.1:Int).toNat 1)=y145∧St h none' [own (oSl (fz rLane)) [v95] y17,own (oSl (fz (rI .i64))) [(.slice h105.n 0 0 (u10.1:Int).toNat 1)] y19] h146∧iter (p13_l1 y17 y18) m140 (y15,y19)=some res58) ?_ (m:=n132) ?_)
      ·rintro y133 y134 y135 y136 y137 y138 h139 ⟨y59,rfl,rfl,rfl,rfl,rfl,S,rfl⟩
       try dsimp only at hf
       obtain ⟨res60,hL,hf⟩:=oB hf
       obtain ⟨n147,hL⟩:=loopC_iff.1 hL
       refine loopm13_3 (X6:=fun (y148:Int) (y149:AV) (y150:Int) (y151:Int) (y152:AV) (y153:Int) (h154:Heap)=>∃ (y51:List Int),u10.1=y148∧v95=y149∧y50=y150∧y18=y151∧(AV.slice h105.n 0 0 (u10.1:Int).toNat 1)=y152∧St h none' [own (oSl (fz rLane)) [v95] y17,own (oSl (fz (rI .i64))) [(.slice h105.n 0 0 (u10.1:Int).toNat 1)] y51] h154∧y51=res60) ?_ (loop13_3 (I:=fun (m155:Nat) (y156:Int) (y157:AV) (y158:Int) (y159:Int) (y160:AV) (y45:Int) (h161:Heap)=>∃ (y46:List Int),u10.1=y156∧v95=y157∧y50=y158∧y18=y159∧(AV.slice h105.n 0 0 (u10.1:Int).toNat 1)=y160∧St h none' [own (oSl (fz rLane)) [v95] y17,own (oSl (fz (rI .i64))) [(.slice h105.n 0 0 (u10.1:Int).toNat 1)] y46] h161∧iter (p13_l3 u10 y17) m155 (y45,y46)=some res60) ?_ (m:=n147) ?_)
       ·rintro y148 y149 y150 y151 y152 y153 h154 ⟨y51,rfl,rfl,rfl,rfl,rfl,S,rfl⟩
        try dsimp only at hf
        obtain ⟨e61,he61,hf⟩:=oB hf
        refine ix_go (S.sl (r:=(fz (rI .i64))) m1) (Hp.le_refl _) he61 fun pe61=>?_
        obtain ⟨_,cr162,Rr162,Nr162,Or162,Zr162⟩:=St.idxO (r:=(rI .i64)) S m1 he61
        obtain rfl:cr162=[(.int .i64 e61)]:=Rr162
        refine ⟨e61,Zr162 _ rfl,?_⟩
        intro jjj5
        have hjj5:∀ (b52:Bool) (h163:Heap),p13_j5 y50 y18 y51 b52=some q115→h154=h163→St h none' [own (oSl (fz rLane)) [v95] y17,own (oSl (fz (rI .i64))) [(.slice h105.n 0 0 (u10.1:Int).toNat 1)] y51] h154→jjj5 b52 h163:=by
         rintro b52 h163 hf rfl S
         unfold p13_j5 at hf
         unfold jjj5
         intro jjj4
         have hjj4:∀ (y49:Int) (h164:Heap),p13_j4 y18 y49=some q115→St h none' [own (oSl (fz rLane)) [v95] y17] h164→jjj4 y49 h164:=by
          rintro y49 h164 hf S
          unfold p13_j4 at hf
          unfold jjj4
          obtain rfl:=oi hf
          exact ⟨m102,Nat.lt_succ_self _,rfl,rfl,S,hk⟩
         refine bI (fun hc=>?_) (fun hc=>?_)
         ·rw [ifT hc] at hf
          obtain ⟨e53,he53,hf⟩:=oB hf
          refine ix_go (S.sl (r:=(fz (rI .i64))) m1) (Hp.le_refl _) he53 fun pe53=>?_
          obtain ⟨_,cr165,Rr165,Nr165,Or165,Zr165⟩:=St.idxO (r:=(rI .i64)) S m1 he53
          obtain rfl:cr165=[(.int .i64 e53)]:=Rr165
          refine ⟨e53,Zr165 _ rfl,?_⟩
          have S:=S.sel [0] rfl
          exact hjj4 _ _  hf  S
         rw [ifF hc] at hf
         have S:=S.sel [0] rfl
         exact hjj4 _ _  hf  S
        refine bI (fun hc=>?_) (fun hc=>?_)
        ·rw [ifD hc] at hf
         intro jjj6
         have hjj6:∀ (b54:Bool) (h166:Heap),p13_j6 y50 y18 y51 b54=some q115→h154=h166→St h none' [own (oSl (fz rLane)) [v95] y17,own (oSl (fz (rI .i64))) [(.slice h105.n 0 0 (u10.1:Int).toNat 1)] y51] h154→jjj6 b54 h166:=by
          rintro b54 h166 hf rfl S
          unfold p13_j6 at hf
          unfold jjj6
          exact hjj5 _ _  hf rfl S
         refine bI (fun hc=>?_) (fun hc=>?_)
         ·rw [ifD hc] at hf
          exact hjj6 _ _  hf rfl S
         rw [ifE hc] at hf
         obtain ⟨e62,he62,hf⟩:=oB hf
         refine ix_go (S.sl (r:=(fz (rI .i64))) m1) (Hp.le_refl _) he62 fun pe62=>?_
         obtain ⟨_,cr167,Rr167,Nr167,Or167,Zr167⟩:=St.idxO (r:=(rI .i64)) S m1 he62
         obtain rfl:cr167=[(.int .i64 e62)]:=Rr167
         refine ⟨e62,Zr167 _ rfl,?_⟩
         exact hjj6 _ _  hf rfl S
        rw [ifE hc] at hf
        exact hjj5 _ _  hf rfl S
       ·rintro m168 y156 y157 y158 y159 y160 y45 h161 ⟨y46,rfl,rfl,rfl,rfl,rfl,S,hit⟩
        obtain ⟨m155,q169,rfl,hf,hk⟩:=iter_some hit
        clear hit
        unfold B13_3
        unfold p13_l3 at hf
        try dsimp only at hf
        refine bI (fun hc=>?_) (fun hc=>?_)
        ·rw [ifD hc] at hf
         obtain ⟨res47,hL,hf⟩:=oB hf
         obtain ⟨n170,hL⟩:=loopC_iff.1 hL
         refine loopm13_2 (X8:=fun (y171:Int) (y172:AV) (y173:Int) (y174:Int) (y175:AV) (y176:Int) (y177:Int) (h178:Heap)=>∃ (y48:List Int),u10.1=y171∧v95=y172∧y50=y173∧y18=y174∧(AV.slice h105.n 0 0 (u10.1:Int).toNat 1)=y175∧y45=y176∧St h none' [own (oSl (fz rLane)) [v95] y17,own (oSl (fz (rI .i64))) [(.slice h105.n 0 0 (u10.1:Int).toNat 1)] y48] h178∧y48=res47) ?_ (loop13_2 (I:=fun (m179:Nat) (y180:Int) (y181:AV) (y182:Int) (y183:Int) (y184:AV) (y185:Int) (y25:Int) (h186:Heap)=>∃ (y27:List Int),u10.1=y180∧v95=y181∧y50=y182∧y18=y183∧(AV.slice h105.n 0 0 (u10.1:Int).toNat 1)=y184∧y45=y185∧St h none' [own (oSl (fz rLane)) [v95] y17,own (oSl (fz (rI .i64))) [(.slice h105.n 0 0 (u10.1:Int).toNat 1)] y27] h186∧iter (p13_l2 y17) m179 (y25,y27)=some res47) ?_ (m:=n170) ?_)
         ·rintro y171 y172 y173 y174 y175 y176 y177 h178 ⟨y48,rfl,rfl,rfl,rfl,rfl,rfl,S,rfl⟩
          try dsimp only at hf
          obtain rfl:=oi hf
          exact ⟨m155,Nat.lt_succ_self _,y48,rfl,rfl,rfl,rfl,rfl,S,hk⟩
         ·rintro m187 y180 y181 y182 y183 y184 y185 y25 h186 ⟨y27,rfl,rfl,rfl,rfl,rfl,rfl,S,hit⟩
          obtain ⟨m179,q188,rfl,hf,hk⟩:=iter_some hit
          clear hit
          unfold B13_2
          unfold p13_l2 at hf
          try dsimp only at hf
          refine iI.2 ⟨((S.sl (r:=(fz rLane)) m0)).is,?_⟩
          try rw [show (v95).slen=_ from ((S.sl (r:=(fz rLane)) m0)).slen]
          refine bI (fun hc=>?_) (fun hc=>?_)
          ·rw [ifD hc] at hf
           obtain ⟨e36,he36,hf⟩:=oB hf
           refine ix_go (S.sl (r:=(fz rLane)) m0) (Hp.le_refl _) he36 fun pe36=>?_
           refine iI.2 ⟨pe36,?_⟩
           obtain ⟨_,cr189,Rr189,Nr189,Or189,Zr189⟩:=St.idxO (r:=rLane) S m0 he36
           obtain rfl:=rLane_open Rr189
           refine ⟨e36.From,Or189 0 _ rfl,?_⟩
           obtain ⟨e37,he37,hf⟩:=oB hf
           refine ix_go (S.sl (r:=(fz (rI .i64))) m1) (Hp.le_refl _) he37 fun pe37=>?_
           obtain ⟨_,cr190,Rr190,Nr190,Or190,Zr190⟩:=St.idxO (r:=(rI .i64)) S m1 he37
           obtain rfl:cr190=[(.int .i64 e37)]:=Rr190
           refine ⟨e37,Zr190 _ rfl,?_⟩
           intro jjj2
           have hjj2:∀ (b28:Bool) (h191:Heap),p13_j2 y17 y25 y27 b28=some q188→h186=h191→St h none' [own (oSl (fz rLane)) [v95] y17,own (oSl (fz (rI .i64))) [(.slice h105.n 0 0 (u10.1:Int).toNat 1)] y27] h186→jjj2 b28 h191:=by
            rintro b28 h191 hf rfl S
            unfold p13_j2 at hf
            unfold jjj2
            intro jjj1
            have hjj1:∀  (h192:Heap) (y26:List Int),p13_j1 y25 y26=some q188→St h none' [own (oSl (fz rLane)) [v95] y17,own (oSl (fz (rI .i64))) [(.slice h105.n 0 0 (u10.1:Int).toNat 1)] y26] h192→jjj1 h192:=by
             rintro h192 y26 hf S
             unfold p13_j1 at hf
             unfold jjj1
             obtain rfl:=oi hf
             exact ⟨m179,Nat.lt_succ_self _,y26,rfl,rfl,rfl,rfl,rfl,rfl,S,hk⟩
            refine bI (fun hc=>?_) (fun hc=>?_)
            ·rw [ifT hc] at hf
             obtain ⟨e29,he29,hf⟩:=oB hf
             refine ix_go (S.sl (r:=(fz rLane)) m0) (Hp.le_refl _) he29 fun pe29=>?_
             refine iI.2 ⟨pe29,?_⟩
             obtain ⟨_,cr193,Rr193,Nr193,Or193,Zr193⟩:=St.idxO (r:=rLane) S m0 he29
             obtain rfl:=rLane_open Rr193
             refine ⟨e29.To,Or193 1 _ rfl,?_⟩
             obtain ⟨e30,he30,hf⟩:=oB hf
             refine ix_go (S.sl (r:=(fz rLane)) m0) (Hp.le_refl _) he30 fun pe30=>?_
             refine iI.2 ⟨pe30,?_⟩
             obtain ⟨_,cr194,Rr194,Nr194,Or194,Zr194⟩:=St.idxO (r:=rLane) S m0 he30
             obtain rfl:=rLane_open Rr194
             refine ⟨e30.From,Or194 0 _ rfl,?_⟩
             obtain ⟨e31,he31,hf⟩:=oB hf
             refine ix_go (S.sl (r:=(fz (rI .i64))) m1) (Hp.le_refl _) he31 fun pe31=>?_
             obtain ⟨_,cr195,Rr195,Nr195,Or195,Zr195⟩:=St.idxO (r:=(rI .i64)) S m1 he31
             obtain rfl:cr195=[(.int .i64 e31)]:=Rr195
             refine ⟨e31,Zr195 _ rfl,?_⟩
             obtain ⟨e32,he32,hf⟩:=oB hf
             refine ix_go (S.sl (r:=(fz rLane)) m0) (Hp.le_refl _) he32 fun pe32=>?_
             refine iI.2 ⟨pe32,?_⟩
             obtain ⟨_,cr196,Rr196,Nr196,Or196,Zr196⟩:=St.idxO (r:=rLane) S m0 he32
             obtain rfl:=rLane_open Rr196
             refine ⟨e32.Ahead,Or196 2 _ rfl,?_⟩
             obtain ⟨e33,he33,hf⟩:=oB hf
             refine ix_go (S.sl (r:=(fz (rI .i64))) m1) (Hp.le_refl _) he33 fun pe33=>?_
             obtain ⟨y34,hy34,hf⟩:=oB hf
             have S:=S.sel [1,0] rfl
             obtain ⟨h197,e198,S⟩:=St.setE (r:=(rI .i64)) (x':=(IntKind.wrap .i64 (e31+e32.Ahead))) (k:=0) (n:=1) (y:=(.int .i64 (IntKind.wrap .i64 (e31+e32.Ahead)))) S he33 rfl rfl (nl rfl) (by rintro _ h; obtain rfl:=h; exact rfl)
             rw [padd_zero] at e198
             have S:St _ _ [own (oSl (fz (rI .i64))) [(.slice h105.n 0 0 (u10.1:Int).toNat 1)] y34,_] _:=S.cast1 (by rw [← oi hy34]<;>rfl)
             have hqy34:idx y34 e29.To=some (IntKind.wrap .i64 (e31+e32.Ahead)):=oi hy34▸idx_set he33
             refine ⟨h197,e198,?_⟩
             have S:=S.sel [1,0] rfl
             exact hjj1  _ y34 hf  S
            rw [ifF hc] at hf
            exact hjj1  _ y27 hf  S
           refine bI (fun hc=>?_) (fun hc=>?_)
           ·rw [ifD hc] at hf
            obtain ⟨e38,he38,hf⟩:=oB hf
            refine ix_go (S.sl (r:=(fz rLane)) m0) (Hp.le_refl _) he38 fun pe38=>?_
            refine iI.2 ⟨pe38,?_⟩
            obtain ⟨_,cr199,Rr199,Nr199,Or199,Zr199⟩:=St.idxO (r:=rLane) S m0 he38
            obtain rfl:=rLane_open Rr199
            refine ⟨e38.To,Or199 1 _ rfl,?_⟩
            obtain ⟨e39,he39,hf⟩:=oB hf
            refine ix_go (S.sl (r:=(fz (rI .i64))) m1) (Hp.le_refl _) he39 fun pe39=>?_
            obtain ⟨_,cr200,Rr200,Nr200,Or200,Zr200⟩:=St.idxO (r:=(rI .i64)) S m1 he39
            obtain rfl:cr200=[(.int .i64 e39)]:=Rr200
            refine ⟨e39,Zr200 _ rfl,?_⟩
            intro jjj3
            have hjj3:∀ (b35:Bool) (h201:Heap),p13_j3 y17 y25 y27 b35=some q188→h186=h201→St h none' [own (oSl (fz rLane)) [v95] y17,own (oSl (fz (rI .i64))) [(.slice h105.n 0 0 (u10.1:Int).toNat 1)] y27] h186→jjj3 b35 h201:=by
             rintro b35 h201 hf rfl S
             unfold p13_j3 at hf
             unfold jjj3
             exact hjj2 _ _  hf rfl S
            refine bI (fun hc=>?_) (fun hc=>?_)
            ·rw [ifD hc] at hf
             exact hjj3 _ _  hf rfl S
            rw [ifE hc] at hf
            obtain ⟨e40,he40,hf⟩:=oB hf
            refine ix_go (S.sl (r:=(fz rLane)) m0) (Hp.le_refl _) he40 fun pe40=>?_
            refine iI.2 ⟨pe40,?_⟩
            obtain ⟨_,cr202,Rr202,Nr202,Or202,Zr202⟩:=St.idxO (r:=rLane) S m0 he40
            obtain rfl:=rLane_open Rr202
            refine ⟨e40.From,Or202 0 _ rfl,?_⟩
            obtain ⟨e41,he41,hf⟩:=oB hf
            refine ix_go (S.sl (r:=(fz (rI .i64))) m1) (Hp.le_refl _) he41 fun pe41=>?_
            obtain ⟨_,cr203,Rr203,Nr203,Or203,Zr203⟩:=St.idxO (r:=(rI .i64)) S m1 he41
            obtain rfl:cr203=[(.int .i64 e41)]:=Rr203
            refine ⟨e41,Zr203 _ rfl,?_⟩
            obtain ⟨e42,he42,hf⟩:=oB hf
            refine ix_go (S.sl (r:=(fz rLane)) m0) (Hp.le_refl _) he42 fun pe42=>?_
            refine iI.2 ⟨pe42,?_⟩
            obtain ⟨_,cr204,Rr204,Nr204,Or204,Zr204⟩:=St.idxO (r:=rLane) S m0 he42
            obtain rfl:=rLane_open Rr204
            refine ⟨e42.Ahead,Or204 2 _ rfl,?_⟩
            obtain ⟨e43,he43,hf⟩:=oB hf
            refine ix_go (S.sl (r:=(fz rLane)) m0) (Hp.le_refl _) he43 fun pe43=>?_
            refine iI.2 ⟨pe43,?_⟩
            obtain ⟨_,cr205,Rr205,Nr205,Or205,Zr205⟩:=St.idxO (r:=rLane) S m0 he43
            obtain rfl:=rLane_open Rr205
            refine ⟨e43.To,Or205 1 _ rfl,?_⟩
            obtain ⟨e44,he44,hf⟩:=oB hf
            refine ix_go (S.sl (r:=(fz (rI .i64))) m1) (Hp.le_refl _) he44 fun pe44=>?_
            obtain ⟨_,cr206,Rr206,Nr206,Or206,Zr206⟩:=St.idxO (r:=(rI .i64)) S m1 he44
            obtain rfl:cr206=[(.int .i64 e44)]:=Rr206
            refine ⟨e44,Zr206 _ rfl,?_⟩
            exact hjj3 _ _  hf rfl S
           rw [ifE hc] at hf
           exact hjj2 _ _  hf rfl S
          rw [ifE hc] at hf
          obtain rfl:=oi hf
          obtain rfl:=hk
          exact ⟨y27,rfl,rfl,rfl,rfl,rfl,rfl,S,rfl⟩
         exact ⟨y46,rfl,rfl,rfl,rfl,rfl,rfl,S,hL⟩
        rw [ifE hc] at hf
        obtain rfl:=oi hf
        obtain rfl:=hk
        exact ⟨y46,rfl,rfl,rfl,rfl,rfl,S,rfl⟩
       exact ⟨y59,rfl,rfl,rfl,rfl,rfl,S,hL⟩
      ·rintro m207 y141 y142 y143 y144 y145 y15 h146 ⟨y19,rfl,rfl,rfl,rfl,rfl,S,hit⟩
       obtain ⟨m140,q208,rfl,hf,hk⟩:=iter_some hit
       clear hit
       unfold B13_1
       unfold p13_l1 at hf
       try dsimp only at hf
       refine iI.2 ⟨((S.sl (r:=(fz rLane)) m0)).is,?_⟩
       try rw [show (v95).slen=_ from ((S.sl (r:=(fz rLane)) m0)).slen]
       refine bI (fun hc=>?_) (fun hc=>?_)
       ·rw [ifD hc] at hf
        obtain ⟨e20,he20,hf⟩:=oB hf
        refine ix_go (S.sl (r:=(fz rLane)) m0) (Hp.le_refl _) he20 fun pe20=>?_
        refine iI.2 ⟨pe20,?_⟩
        obtain ⟨_,cr209,Rr209,Nr209,Or209,Zr209⟩:=St.idxO (r:=rLane) S m0 he20
        obtain rfl:=rLane_open Rr209
        refine ⟨e20.From,Or209 0 _ rfl,?_⟩
        intro jjj0
        have hjj0:∀  (h210:Heap) (y16:List Int),p13_j0 y15 y16=some q208→St h none' [own (oSl (fz rLane)) [v95] y17,own (oSl (fz (rI .i64))) [(.slice h105.n 0 0 (u10.1:Int).toNat 1)] y16] h210→jjj0 h210:=by
         rintro h210 y16 hf S
         unfold p13_j0 at hf
         unfold jjj0
         obtain rfl:=oi hf
         exact ⟨m140,Nat.lt_succ_self _,y16,rfl,rfl,rfl,rfl,rfl,S,hk⟩
        refine bI (fun hc=>?_) (fun hc=>?_)
        ·rw [ifD hc] at hf
         obtain ⟨e21,he21,hf⟩:=oB hf
         refine ix_go (S.sl (r:=(fz rLane)) m0) (Hp.le_refl _) he21 fun pe21=>?_
         refine iI.2 ⟨pe21,?_⟩
         obtain ⟨_,cr211,Rr211,Nr211,Or211,Zr211⟩:=St.idxO (r:=rLane) S m0 he21
         obtain rfl:=rLane_open Rr211
         refine ⟨e21.To,Or211 1 _ rfl,?_⟩
         obtain ⟨e22,he22,hf⟩:=oB hf
         refine ix_go (S.sl (r:=(fz rLane)) m0) (Hp.le_refl _) he22 fun pe22=>?_
         refine iI.2 ⟨pe22,?_⟩
         obtain ⟨_,cr212,Rr212,Nr212,Or212,Zr212⟩:=St.idxO (r:=rLane) S m0 he22
         obtain rfl:=rLane_open Rr212
         refine ⟨e22.Ahead,Or212 2 _ rfl,?_⟩
         obtain ⟨e23,he23,hf⟩:=oB hf
         refine ix_go (S.sl (r:=(fz (rI .i64))) m1) (Hp.le_refl _) he23 fun pe23=>?_
         obtain ⟨y24,hy24,hf⟩:=oB hf
         have S:=S.sel [1,0] rfl
         obtain ⟨h213,e214,S⟩:=St.setE (r:=(rI .i64)) (x':=e22.Ahead) (k:=0) (n:=1) (y:=(.int .i64 e22.Ahead)) S he23 rfl rfl (nl rfl) (by rintro _ h; obtain rfl:=h; exact rfl)
         rw [padd_zero] at e214
         have S:St _ _ [own (oSl (fz (rI .i64))) [(.slice h105.n 0 0 (u10.1:Int).toNat 1)] y24,_] _:=S.cast1 (by rw [← oi hy24]<;>rfl)
         have hqy24:idx y24 e21.To=some e22.Ahead:=oi hy24▸idx_set he23
         refine ⟨h213,e214,?_⟩
         have S:=S.sel [1,0] rfl
         exact hjj0  _ y24 hf  S
        rw [ifE hc] at hf
        exact hjj0  _ y19 hf  S
       rw [ifE hc] at hf
       obtain rfl:=oi hf
       obtain rfl:=hk
       exact ⟨y19,rfl,rfl,rfl,rfl,rfl,S,rfl⟩
      exact ⟨y57,rfl,rfl,rfl,rfl,rfl,S,hL⟩
     ·rintro m215 y126 y127 y128 y129 y130 y11 h131 ⟨y12,rfl,rfl,rfl,rfl,rfl,S,hit⟩
      obtain ⟨m125,q216,rfl,hf,hk⟩:=iter_some hit
      clear hit
      unfold B13_0
      unfold p13_l0 at hf
      try dsimp only at hf
      refine bI (fun hc=>?_) (fun hc=>?_)
      ·rw [ifD hc] at hf
       obtain ⟨e13,he13,hf⟩:=oB hf
       refine ix_go (S.sl (r:=(fz (rI .i64))) m1) (Hp.le_refl _) he13 fun pe13=>?_
       obtain ⟨y14,hy14,hf⟩:=oB hf
       have S:=S.sel [1,0] rfl
       obtain ⟨h217,e218,S⟩:=St.setE (r:=(rI .i64)) (x':=((-1):Int)) (k:=0) (n:=1) (y:=(.int .i64 ((-1):Int))) S he13 rfl rfl (nl rfl) (by rintro _ h; obtain rfl:=h; exact rfl)
       rw [padd_zero] at e218
       have S:St _ _ [own (oSl (fz (rI .i64))) [(.slice h105.n 0 0 (u10.1:Int).toNat 1)] y14,_] _:=S.cast1 (by rw [← oi hy14]<;>rfl)
       have hqy14:idx y14 y11=some ((-1):Int):=oi hy14▸idx_set he13
       refine ⟨h217,e218,?_⟩
       have S:=S.sel [1,0] rfl
       obtain rfl:=oi hf
       exact ⟨m125,Nat.lt_succ_self _,y14,rfl,rfl,rfl,rfl,rfl,S,hk⟩
      rw [ifE hc] at hf
      obtain rfl:=oi hf
      obtain rfl:=hk
      exact ⟨y12,rfl,rfl,rfl,rfl,rfl,S,rfl⟩
     exact ⟨y55,rfl,rfl,rfl,rfl,rfl,S,hL⟩
    rw [ifE hc] at hf
    obtain rfl:=oi hf
    obtain rfl:=hk
    exact ⟨rfl,rfl,S,rfl⟩
   exact ⟨rfl,rfl,S,hL⟩
  refine bI (fun hc=>?_) (fun hc=>?_)
  ·rw [ifT hc] at hf
   exact hjj9 _ _  hf rfl S
  rw [ifF hc] at hf
  refine iI.2 ⟨(f2_0).is,?_⟩
  try rw [show (a2_0).slen=_ from (f2_0).slen]
  exact hjj9 _ _  hf rfl S
 refine bI (fun hc=>?_) (fun hc=>?_)
 ·rw [ifT hc] at hf
  exact hjj10 _ _  hf  S
 rw [ifF hc] at hf
 refine ⟨a0_0,a0_1,S.rdN m0 (nl rfl) rfl,?_⟩
 obtain ⟨y75,hy75,hf⟩:=oB hf
 refine ⟨_,Fz.refl _,?_⟩
 refine (r33 (d0:=x0) (f0_0:=(SlR.mono (sM S.le) f0_0)) (f0_1:=(SlR.mono (sM S.le) f0_1)) hy75).mono fun v219 h220 T=>?_
 obtain ⟨rfl,T⟩:=T
 have S:St _ _ [_] _:=S.comp T
 refine ⟨y75,rfl,?_⟩
 exact hjj10 _ _  hf  S
end
end Go.Proofs.Ytgbkpiaonlabgaa
