/- Pure functions, and that the machine's functions answer as they do. No condition. Own work. -/
import Derived.Test.YtgbkpiaonlabgaaPaLaneOf
set_option linter.unusedSimpArgs false
set_option linter.unusedVariables false
namespace Go.Proofs.Ytgbkpiaonlabgaa
open Go Go.Am
noncomputable section
def p55_l0 (x0:Int) (st:Int×(List Int)):Option ((Int×(List Int))⊕(List Int)):=match st with | (y10,y11)=>if y10 < x0 then ((idx y11 y10).bind fun e12=>(some (y11.set (y10:Int).toNat y10)).bind fun y13=>some (.inl ((IntKind.wrap .i64 (y10+1)),y13))) else (some (.inr y11))
def p55_j0 (y14:Int) (y15:List Int):Option ((Int×(List Int))⊕(List Int)):=some (.inl ((IntKind.wrap .i64 (y14+1)),y15))
def p55_j1 (y14:Int) (y16:List Int) (e17:TArr2_Int) (e18:TArr2_Int) (b19:Bool):Option ((Int×(List Int))⊕(List Int)):=if b19=true then (some (.inl ((IntKind.wrap .i64 (y14+1)),y16))) else ((idx y16 e17.e0).bind fun e20=>(idx y16 e18.e1).bind fun e21=>if e20 < e21 then ((idx y16 e17.e0).bind fun e22=>(idx y16 e18.e1).bind fun e23=>(some (y16.set (e18.e1:Int).toNat e22)).bind fun y24=>p55_j0 y14 y24) else ((idx y16 e18.e1).bind fun e25=>(idx y16 e17.e0).bind fun e26=>(some (y16.set (e17.e0:Int).toNat e25)).bind fun y27=>p55_j0 y14 y27))
def p55_j2 (x0:Int) (y14:Int) (y16:List Int) (e17:TArr2_Int) (e18:TArr2_Int) (b28:Bool):Option ((Int×(List Int))⊕(List Int)):=if b28=true then (p55_j1 y14 y16 e17 e18 true) else (p55_j1 y14 y16 e17 e18 (decide (x0≤e18.e1)))
def p55_j3 (x0:Int) (y14:Int) (y16:List Int) (e17:TArr2_Int) (e18:TArr2_Int) (b29:Bool):Option ((Int×(List Int))⊕(List Int)):=if b29=true then (p55_j2 x0 y14 y16 e17 e18 true) else (p55_j2 x0 y14 y16 e17 e18 (decide (e18.e1 < 0)))
def p55_l1 (x0:Int) (x1:List TArr2_Int) (st:Int×(List Int)):Option ((Int×(List Int))⊕(List Int)):=match st with | (y14,y16)=>if y14 < (x1.length:Int) then ((idx x1 y14).bind fun e17=>(idx x1 y14).bind fun e18=>if e17.e0 < 0 then (p55_j3 x0 y14 y16 e17 e18 true) else (p55_j3 x0 y14 y16 e17 e18 (decide (x0≤e17.e0)))) else (some (.inr y16))
def p55_l2 (x0:Int) (x1:List TArr2_Int) (st:Int×(List Int)):Option ((Int×(List Int))⊕(List Int)):=match st with | (y30,y31)=>if y30 < x0 then ((loopC (p55_l1 x0 x1) (0,y31)).bind fun res32=>((fun (y33:List Int)=>some (.inl ((IntKind.wrap .i64 (y30+1)),y33))) res32)) else (some (.inr y31))
def p55_j4 (y34:Int) (y35:List Int):Option ((Int×(List Int))⊕(List Int)):=some (.inl ((IntKind.wrap .i64 (y34+1)),y35))
def p55_l3 (x0:Int) (y36:List Int) (y37:Int) (st:Int×(List Int)):Option ((Int×(List Int))⊕(List Int)):=match st with | (y34,y38)=>if y34 < x0 then ((idx y36 y34).bind fun e39=>if e39=y37 then ((app 8 y38 [y34]).bind fun y40=>p55_j4 y34 y40) else (p55_j4 y34 y38)) else (some (.inr y38))
def p55_j5 (y37:Int) (y41:List (List Int)):Option ((Int×(List (List Int)))⊕(List (List Int))):=some (.inl ((IntKind.wrap .i64 (y37+1)),y41))
def p55_l4 (x0:Int) (y36:List Int) (st:Int×(List (List Int))):Option ((Int×(List (List Int)))⊕(List (List Int))):=match st with | (y37,y42)=>if y37 < x0 then ((loopC (p55_l3 x0 y36 y37) (0,[])).bind fun res43=>((fun (y44:List Int)=>if 0 < (y44.length:Int) then ((app 24 y42 [y44]).bind fun y45=>p55_j5 y37 y45) else (p55_j5 y37 y42)) res43)) else (some (.inr y42))
def p55 (x0:Int) (x1:List TArr2_Int):Option (List (List Int)):=(mkS 8 x0 x0 0).bind fun y46=>(loopC (p55_l0 x0) (0,y46)).bind fun res47=>((fun (y48:List Int)=>(loopC (p55_l2 x0 x1) (0,y48)).bind fun res49=>((fun (y36:List Int)=>(loopC (p55_l4 x0 y36) (0,[])).bind fun res50=>((fun (y51:List (List Int))=>some y51) res50)) res49)) res47)
theorem r55 {h:Heap} {a1_0:AV} {x0:Int} {x1:List TArr2_Int} (f1_0:SlR rArr2_Int (Snap h) a1_0 x1) {r:(List (List Int))} (hf:p55 x0 x1=some r):ZC F 55 [(.int .i64 x0),a1_0] h fun v h'=>St h none' [own (oSl (oSl (fz (rI .i64)))) [v] r] h':=by
 refine w55 ?_
 unfold W55
 unfold p55 at hf
 have S:St h none' [] h:=St.refl _ _
 obtain ⟨y46,hy46,hf⟩:=oB hf
 obtain ⟨my46,ey46⟩:=mkS_some hy46
 refine ⟨my46,?_⟩
 intro h52
 have S:St _ _ [own (oSl (fz (rI .i64))) [(.slice h.n 0 0 (x0:Int).toNat 1)] y46] _:=(S.make (r:=(fz (rI .i64))) (zero:=[(.int .i64 0)]) (x:=0) (fun _=>⟨rfl,rfl⟩) _).cast1 (by rw [ey46]; rfl)
 obtain ⟨res47,hL,hf⟩:=oB hf
 obtain ⟨n53,hL⟩:=loopC_iff.1 hL
 refine loopm55_0 (X0:=fun (y54:Int) (y55:AV) (y56:AV) (y57:Int) (h58:Heap)=>∃ (y48:List Int),x0=y54∧a1_0=y55∧(AV.slice h.n 0 0 (x0:Int).toNat 1)=y56∧St h none' [own (oSl (fz (rI .i64))) [(.slice h.n 0 0 (x0:Int).toNat 1)] y48] h58∧y48=res47) ?_ (loop55_0 (I:=fun (m59:Nat) (y60:Int) (y61:AV) (y62:AV) (y10:Int) (h63:Heap)=>∃ (y11:List Int),x0=y60∧a1_0=y61∧(AV.slice h.n 0 0 (x0:Int).toNat 1)=y62∧St h none' [own (oSl (fz (rI .i64))) [(.slice h.n 0 0 (x0:Int).toNat 1)] y11] h63∧iter (p55_l0 x0) m59 (y10,y11)=some res47) ?_ (m:=n53) ?_)
 ·rintro y54 y55 y56 y57 h58 ⟨y48,rfl,rfl,rfl,S,rfl⟩
  try dsimp only at hf
  obtain ⟨res49,hL,hf⟩:=oB hf
  obtain ⟨n64,hL⟩:=loopC_iff.1 hL
  refine loopm55_2 (X2:=fun (y65:Int) (y66:AV) (y67:AV) (y68:Int) (h69:Heap)=>∃ (y36:List Int),x0=y65∧(AV.slice h.n 0 0 (x0:Int).toNat 1)=y67∧St h none' [own (oSl (fz (rI .i64))) [(.slice h.n 0 0 (x0:Int).toNat 1)] y36] h69∧y36=res49) ?_ (loop55_2 (I:=fun (m70:Nat) (y71:Int) (y72:AV) (y73:AV) (y30:Int) (h74:Heap)=>∃ (y31:List Int),x0=y71∧a1_0=y72∧(AV.slice h.n 0 0 (x0:Int).toNat 1)=y73∧St h none' [own (oSl (fz (rI .i64))) [(.slice h.n 0 0 (x0:Int).toNat 1)] y31] h74∧iter (p55_l2 x0 x1) m70 (y30,y31)=some res49) ?_ (m:=n64) ?_)
  ·rintro y65 y66 y67 y68 h69 ⟨y36,rfl,rfl,S,rfl⟩
   try dsimp only at hf
   obtain ⟨res50,hL,hf⟩:=oB hf
   obtain ⟨n75,hL⟩:=loopC_iff.1 hL
   have S:St _ _ [own (oSl (oSl (fz (rI .i64)))) [.nilSlice] [],_] _:=S.addE (oSl_nil _ _)
   have S:=S.sel [1,0] rfl
   refine loopm55_4 (X6:=fun (y76:Int) (y77:AV) (y78:AV) (y79:Int) (h80:Heap)=>∃ (y51:List (List Int)),St h none' [own (oSl (oSl (fz (rI .i64)))) [y78] y51] h80∧y51=res50) ?_ (loop55_4 (I:=fun (m81:Nat) (y82:Int) (y83:AV) (y84:AV) (y37:Int) (h85:Heap)=>∃ (y42:List (List Int)),x0=y82∧(AV.slice h.n 0 0 (x0:Int).toNat 1)=y83∧St h none' [own (oSl (fz (rI .i64))) [(.slice h.n 0 0 (x0:Int).toNat 1)] y36,own (oSl (oSl (fz (rI .i64)))) [y84] y42] h85∧iter (p55_l4 x0 y36) m81 (y37,y42)=some res50) ?_ (m:=n75) ?_)
   ·rintro y76 y77 y78 y79 h80 ⟨y51,S,rfl⟩
    try dsimp only at hf
    obtain rfl:=oi hf
    exact S.sel [0] rfl
   ·rintro m86 y82 y83 y84 y37 h85 ⟨y42,rfl,rfl,S,hit⟩
    obtain ⟨m81,q87,rfl,hf,hk⟩:=iter_some hit
    clear hit
    unfold B55_4
    unfold p55_l4 at hf
    try dsimp only at hf
    refine bI (fun hc=>?_) (fun hc=>?_)
    ·rw [ifD hc] at hf
     obtain ⟨res43,hL,hf⟩:=oB hf
     obtain ⟨n88,hL⟩:=loopC_iff.1 hL
     have S:St _ _ [own (oSl (fz (rI .i64))) [.nilSlice] [],_,_] _:=S.addE (oSl_nil _ _)
     have S:=S.sel [1,2,0] rfl
     refine loopm55_3 (X8:=fun (y89:Int) (y90:AV) (y91:AV) (y92:Int) (y93:AV) (y94:Int) (h95:Heap)=>∃ (y44:List Int),x0=y89∧(AV.slice h.n 0 0 (x0:Int).toNat 1)=y90∧y84=y91∧y37=y92∧St h none' [own (oSl (fz (rI .i64))) [(.slice h.n 0 0 (x0:Int).toNat 1)] y36,own (oSl (oSl (fz (rI .i64)))) [y84] y42,own (oSl (fz (rI .i64))) [y93] y44] h95∧y44=res43) ?_ (loop55_3 (I:=fun (m96:Nat) (y97:Int) (y98:AV) (y99:AV) (y100:Int) (y101:AV) (y34:Int) (h102:Heap)=>∃ (y38:List Int),x0=y97∧(AV.slice h.n 0 0 (x0:Int).toNat 1)=y98∧y84=y99∧y37=y100∧St h none' [own (oSl (fz (rI .i64))) [(.slice h.n 0 0 (x0:Int).toNat 1)] y36,own (oSl (oSl (fz (rI .i64)))) [y84] y42,own (oSl (fz (rI .i64))) [y101] y38] h102∧iter (p55_l3 x0 y36 y37) m96 (y34,y38)=some res43) ?_ (m:=n88) ?_)
     ·rintro y89 y90 y91 y92 y93 y94 h95 ⟨y44,rfl,rfl,rfl,rfl,S,rfl⟩
      try dsimp only at hf
      refine iI.2 ⟨((S.sl (r:=(fz (rI .i64))) m2)).is,?_⟩
      try rw [show (y93).slen=_ from ((S.sl (r:=(fz (rI .i64))) m2)).slen]
      intro jjj5
      have hjj5:∀ (y103:AV) (h104:Heap) (y41:List (List Int)),p55_j5 y37 y41=some q87→St h none' [own (oSl (fz (rI .i64))) [(.slice h.n 0 0 (x0:Int).toNat 1)] y36,own (oSl (oSl (fz (rI .i64)))) [y103] y41] h104→jjj5 y103 h104:=by
       rintro y103 h104 y41 hf S
       unfold p55_j5 at hf
       unfold jjj5
       obtain rfl:=oi hf
       exact ⟨m81,Nat.lt_succ_self _,y41,rfl,rfl,S,hk⟩
      refine bI (fun hc=>?_) (fun hc=>?_)
      ·rw [ifD hc] at hf
       refine oI (.row [y93] 0 true) (by simp only [NOp.ob,place,sl_cells ((S.sl (r:=(fz (rI .i64))) m2)).is,sl_tup ((S.sl (r:=(fz (rI .i64))) m2)).is]<;>first | rfl | (simp [AV.cells,AV.isTup,splice]; done) | (simp [AV.cells,AV.isTup,splice]; rfl)) ?_
       intro h105
       have S:St _ _ [rowC h95.n [y93] 0,_,_,_] _:=S.pushRow [y93]
       obtain ⟨y45,hy45,hf⟩:=oB hf
       have S:=S.sel [2,3,0,1] rfl
       have my45:=app_some hy45
       obtain ⟨v106,h107,e108,S⟩:=St.app1R (r:=(oSl (fz (rI .i64)))) (b:=24) S my45.1
       have S:St _ _ [own (oSl (oSl (fz (rI .i64)))) [v106] y45,_] _:=S.cast1 (by rw [← my45.2]<;>rfl)
       refine ⟨v106,h107,e108,?_⟩
       have S:=S.sel [1,0] rfl
       exact hjj5 _ _ y45 hf  S
      rw [ifE hc] at hf
      have S:=S.sel [0,1] rfl
      exact hjj5 _ _ y42 hf  S
     ·rintro m109 y97 y98 y99 y100 y101 y34 h102 ⟨y38,rfl,rfl,rfl,rfl,S,hit⟩
      obtain ⟨m96,q110,rfl,hf,hk⟩:=iter_some hit
      clear hit
      unfold B55_3
      unfold p55_l3 at hf
      try dsimp only at hf
      refine bI (fun hc=>?_) (fun hc=>?_)
      ·rw [ifD hc] at hf
       obtain ⟨e39,he39,hf⟩:=oB hf
       refine ix_go (S.sl (r:=(fz (rI .i64))) m0) (Hp.le_refl _) he39 fun pe39=>?_
       obtain ⟨_,cr111,Rr111,Nr111,Or111,Zr111⟩:=St.idxO (r:=(rI .i64)) S m0 he39
       obtain rfl:cr111=[(.int .i64 e39)]:=Rr111
       refine ⟨e39,Zr111 _ rfl,?_⟩
       intro jjj4
       have hjj4:∀ (y112:AV) (h113:Heap) (y35:List Int),p55_j4 y34 y35=some q110→St h none' [own (oSl (fz (rI .i64))) [(.slice h.n 0 0 (x0:Int).toNat 1)] y36,own (oSl (oSl (fz (rI .i64)))) [y84] y42,own (oSl (fz (rI .i64))) [y112] y35] h113→jjj4 y112 h113:=by
        rintro y112 h113 y35 hf S
        unfold p55_j4 at hf
        unfold jjj4
        obtain rfl:=oi hf
        exact ⟨m96,Nat.lt_succ_self _,y35,rfl,rfl,rfl,rfl,S,hk⟩
       refine bI (fun hc=>?_) (fun hc=>?_)
       ·rw [ifD hc] at hf
        intro h114
        have S:St _ _ [rowC h102.n [(.int .i64 y34)] 0,_,_,_] _:=S.pushRow [(.int .i64 y34)]
        obtain ⟨y40,hy40,hf⟩:=oB hf
        have S:St _ _ [own (fz (rI .i64)) [(.int .i64 y34)] y34,_,_,_,_] _:=S.add (r:=(rI .i64)) (x:=y34) rfl
        have S:=S.sel [4,0,1,2,3] rfl
        have my40:=app_some hy40
        obtain ⟨v115,h116,e117,S⟩:=St.app1R (r:=(fz (rI .i64))) (b:=8) S my40.1
        have S:St _ _ [own (oSl (fz (rI .i64))) [v115] y40,_,_] _:=S.cast1 (by rw [← my40.2]<;>rfl)
        refine ⟨v115,h116,e117,?_⟩
        have S:=S.sel [1,2,0] rfl
        exact hjj4 _ _ y40 hf  S
       rw [ifE hc] at hf
       exact hjj4 _ _ y38 hf  S
      rw [ifE hc] at hf
      obtain rfl:=oi hf
      obtain rfl:=hk
      exact ⟨y38,rfl,rfl,rfl,rfl,S,rfl⟩
     exact ⟨[],rfl,rfl,rfl,rfl,S,hL⟩
    rw [ifE hc] at hf
    have S:=S.sel [1] rfl
    obtain rfl:=oi hf
    obtain rfl:=hk
    exact ⟨y42,S,rfl⟩
   exact ⟨[],rfl,rfl,S,hL⟩
  ·rintro m118 y71 y72 y73 y30 h74 ⟨y31,rfl,rfl,rfl,S,hit⟩
   obtain ⟨m70,q119,rfl,hf,hk⟩:=iter_some hit
   clear hit
   unfold B55_2
   unfold p55_l2 at hf
   try dsimp only at hf
   refine bI (fun hc=>?_) (fun hc=>?_)
   ·rw [ifD hc] at hf
    obtain ⟨res32,hL,hf⟩:=oB hf
    obtain ⟨n120,hL⟩:=loopC_iff.1 hL
    refine loopm55_1 (X4:=fun (y121:Int) (y122:AV) (y123:AV) (y124:Int) (y125:Int) (h126:Heap)=>∃ (y33:List Int),x0=y121∧a1_0=y122∧(AV.slice h.n 0 0 (x0:Int).toNat 1)=y123∧y30=y124∧St h none' [own (oSl (fz (rI .i64))) [(.slice h.n 0 0 (x0:Int).toNat 1)] y33] h126∧y33=res32) ?_ (loop55_1 (I:=fun (m127:Nat) (y128:Int) (y129:AV) (y130:AV) (y131:Int) (y14:Int) (h132:Heap)=>∃ (y16:List Int),x0=y128∧a1_0=y129∧(AV.slice h.n 0 0 (x0:Int).toNat 1)=y130∧y30=y131∧St h none' [own (oSl (fz (rI .i64))) [(.slice h.n 0 0 (x0:Int).toNat 1)] y16] h132∧iter (p55_l1 x0 x1) m127 (y14,y16)=some res32) ?_ (m:=n120) ?_)
    ·rintro y121 y122 y123 y124 y125 h126 ⟨y33,rfl,rfl,rfl,rfl,S,rfl⟩
     try dsimp only at hf
     obtain rfl:=oi hf
     exact ⟨m70,Nat.lt_succ_self _,y33,rfl,rfl,rfl,S,hk⟩
    ·rintro m133 y128 y129 y130 y131 y14 h132 ⟨y16,rfl,rfl,rfl,rfl,S,hit⟩
     obtain ⟨m127,q134,rfl,hf,hk⟩:=iter_some hit
     clear hit
     unfold B55_1
     unfold p55_l1 at hf
     try dsimp only at hf
     refine iI.2 ⟨(f1_0).is,?_⟩
     try rw [show (a1_0).slen=_ from (f1_0).slen]
     refine bI (fun hc=>?_) (fun hc=>?_)
     ·rw [ifD hc] at hf
      obtain ⟨e17,he17,hf⟩:=oB hf
      refine ix_go f1_0 (sM S.le) he17 fun pe17=>?_
      refine oI _ (arrAddr_ev (q:=0) pe17 (by decide) rfl) ?_
      obtain ⟨_,cr135,Rr135,Nr135,Or135,Zr135⟩:=SlR.idx f1_0 (sM S.le) he17
      obtain rfl:=rArr2_Int_open Rr135
      refine ⟨e17.e0,Or135 0 _ rfl,?_⟩
      obtain ⟨e18,he18,hf⟩:=oB hf
      refine ix_go f1_0 (sM S.le) he18 fun pe18=>?_
      refine oI _ (arrAddr_ev (q:=1) pe18 (by decide) rfl) ?_
      obtain ⟨_,cr136,Rr136,Nr136,Or136,Zr136⟩:=SlR.idx f1_0 (sM S.le) he18
      obtain rfl:=rArr2_Int_open Rr136
      refine ⟨e18.e1,Or136 1 _ rfl,?_⟩
      intro jjj3
      have hjj3:∀ (b29:Bool) (h137:Heap),p55_j3 x0 y14 y16 e17 e18 b29=some q134→h132=h137→St h none' [own (oSl (fz (rI .i64))) [(.slice h.n 0 0 (x0:Int).toNat 1)] y16] h132→jjj3 b29 h137:=by
       rintro b29 h137 hf rfl S
       unfold p55_j3 at hf
       unfold jjj3
       intro jjj2
       have hjj2:∀ (b28:Bool) (h138:Heap),p55_j2 x0 y14 y16 e17 e18 b28=some q134→h132=h138→St h none' [own (oSl (fz (rI .i64))) [(.slice h.n 0 0 (x0:Int).toNat 1)] y16] h132→jjj2 b28 h138:=by
        rintro b28 h138 hf rfl S
        unfold p55_j2 at hf
        unfold jjj2
        intro jjj1
        have hjj1:∀ (b19:Bool) (h139:Heap),p55_j1 y14 y16 e17 e18 b19=some q134→h132=h139→St h none' [own (oSl (fz (rI .i64))) [(.slice h.n 0 0 (x0:Int).toNat 1)] y16] h132→jjj1 b19 h139:=by
         rintro b19 h139 hf rfl S
         unfold p55_j1 at hf
         unfold jjj1
         refine bI (fun hc=>?_) (fun hc=>?_)
         ·rw [ifT hc] at hf
          obtain rfl:=oi hf
          exact ⟨m127,Nat.lt_succ_self _,y16,rfl,rfl,rfl,rfl,S,hk⟩
         rw [ifF hc] at hf
         obtain ⟨e20,he20,hf⟩:=oB hf
         refine ix_go (S.sl (r:=(fz (rI .i64))) m0) (Hp.le_refl _) he20 fun pe20=>?_
         obtain ⟨_,cr140,Rr140,Nr140,Or140,Zr140⟩:=St.idxO (r:=(rI .i64)) S m0 he20
         obtain rfl:cr140=[(.int .i64 e20)]:=Rr140
         refine ⟨e20,Zr140 _ rfl,?_⟩
         obtain ⟨e21,he21,hf⟩:=oB hf
         refine ix_go (S.sl (r:=(fz (rI .i64))) m0) (Hp.le_refl _) he21 fun pe21=>?_
         obtain ⟨_,cr141,Rr141,Nr141,Or141,Zr141⟩:=St.idxO (r:=(rI .i64)) S m0 he21
         obtain rfl:cr141=[(.int .i64 e21)]:=Rr141
         refine ⟨e21,Zr141 _ rfl,?_⟩
         intro jjj0
         have hjj0:∀  (h142:Heap) (y15:List Int),p55_j0 y14 y15=some q134→St h none' [own (oSl (fz (rI .i64))) [(.slice h.n 0 0 (x0:Int).toNat 1)] y15] h142→jjj0 h142:=by
          rintro h142 y15 hf S
          unfold p55_j0 at hf
          unfold jjj0
          obtain rfl:=oi hf
          exact ⟨m127,Nat.lt_succ_self _,y15,rfl,rfl,rfl,rfl,S,hk⟩
         refine bI (fun hc=>?_) (fun hc=>?_)
         ·rw [ifD hc] at hf
          obtain ⟨e22,he22,hf⟩:=oB hf
          refine ix_go (S.sl (r:=(fz (rI .i64))) m0) (Hp.le_refl _) he22 fun pe22=>?_
          obtain ⟨_,cr143,Rr143,Nr143,Or143,Zr143⟩:=St.idxO (r:=(rI .i64)) S m0 he22
          obtain rfl:cr143=[(.int .i64 e22)]:=Rr143
          refine ⟨e22,Zr143 _ rfl,?_⟩
          obtain ⟨e23,he23,hf⟩:=oB hf
          refine ix_go (S.sl (r:=(fz (rI .i64))) m0) (Hp.le_refl _) he23 fun pe23=>?_
          obtain ⟨y24,hy24,hf⟩:=oB hf
          obtain ⟨h144,e145,S⟩:=St.setE (r:=(rI .i64)) (x':=e22) (k:=0) (n:=1) (y:=(.int .i64 e22)) S he23 rfl rfl (nl rfl) (by rintro _ h; obtain rfl:=h; exact rfl)
          rw [padd_zero] at e145
          have S:St _ _ [own (oSl (fz (rI .i64))) [(.slice h.n 0 0 (x0:Int).toNat 1)] y24] _:=S.cast1 (by rw [← oi hy24]<;>rfl)
          have hqy24:idx y24 e18.e1=some e22:=oi hy24▸idx_set he23
          refine ⟨h144,e145,?_⟩
          exact hjj0  _ y24 hf  S
         rw [ifE hc] at hf
         obtain ⟨e25,he25,hf⟩:=oB hf
         refine ix_go (S.sl (r:=(fz (rI .i64))) m0) (Hp.le_refl _) he25 fun pe25=>?_
         obtain ⟨_,cr146,Rr146,Nr146,Or146,Zr146⟩:=St.idxO (r:=(rI .i64)) S m0 he25
         obtain rfl:cr146=[(.int .i64 e25)]:=Rr146
         refine ⟨e25,Zr146 _ rfl,?_⟩
         obtain ⟨e26,he26,hf⟩:=oB hf
         refine ix_go (S.sl (r:=(fz (rI .i64))) m0) (Hp.le_refl _) he26 fun pe26=>?_
         obtain ⟨y27,hy27,hf⟩:=oB hf
         obtain ⟨h147,e148,S⟩:=St.setE (r:=(rI .i64)) (x':=e25) (k:=0) (n:=1) (y:=(.int .i64 e25)) S he26 rfl rfl (nl rfl) (by rintro _ h; obtain rfl:=h; exact rfl)
         rw [padd_zero] at e148
         have S:St _ _ [own (oSl (fz (rI .i64))) [(.slice h.n 0 0 (x0:Int).toNat 1)] y27] _:=S.cast1 (by rw [← oi hy27]<;>rfl)
         have hqy27:idx y27 e17.e0=some e25:=oi hy27▸idx_set he26
         refine ⟨h147,e148,?_⟩
         exact hjj0  _ y27 hf  S
        refine bI (fun hc=>?_) (fun hc=>?_)
        ·rw [ifT hc] at hf
         exact hjj1 _ _  hf rfl S
        rw [ifF hc] at hf
        exact hjj1 _ _  hf rfl S
       refine bI (fun hc=>?_) (fun hc=>?_)
       ·rw [ifT hc] at hf
        exact hjj2 _ _  hf rfl S
       rw [ifF hc] at hf
       exact hjj2 _ _  hf rfl S
      refine bI (fun hc=>?_) (fun hc=>?_)
      ·rw [ifD hc] at hf
       exact hjj3 _ _  hf rfl S
      rw [ifE hc] at hf
      exact hjj3 _ _  hf rfl S
     rw [ifE hc] at hf
     obtain rfl:=oi hf
     obtain rfl:=hk
     exact ⟨y16,rfl,rfl,rfl,rfl,S,rfl⟩
    exact ⟨y31,rfl,rfl,rfl,rfl,S,hL⟩
   rw [ifE hc] at hf
   obtain rfl:=oi hf
   obtain rfl:=hk
   exact ⟨y31,rfl,rfl,S,rfl⟩
  exact ⟨y48,rfl,rfl,rfl,S,hL⟩
 ·rintro m149 y60 y61 y62 y10 h63 ⟨y11,rfl,rfl,rfl,S,hit⟩
  obtain ⟨m59,q150,rfl,hf,hk⟩:=iter_some hit
  clear hit
  unfold B55_0
  unfold p55_l0 at hf
  try dsimp only at hf
  refine bI (fun hc=>?_) (fun hc=>?_)
  ·rw [ifD hc] at hf
   obtain ⟨e12,he12,hf⟩:=oB hf
   refine ix_go (S.sl (r:=(fz (rI .i64))) m0) (Hp.le_refl _) he12 fun pe12=>?_
   obtain ⟨y13,hy13,hf⟩:=oB hf
   obtain ⟨h151,e152,S⟩:=St.setE (r:=(rI .i64)) (x':=y10) (k:=0) (n:=1) (y:=(.int .i64 y10)) S he12 rfl rfl (nl rfl) (by rintro _ h; obtain rfl:=h; exact rfl)
   rw [padd_zero] at e152
   have S:St _ _ [own (oSl (fz (rI .i64))) [(.slice h.n 0 0 (x0:Int).toNat 1)] y13] _:=S.cast1 (by rw [← oi hy13]<;>rfl)
   have hqy13:idx y13 y10=some y10:=oi hy13▸idx_set he12
   refine ⟨h151,e152,?_⟩
   obtain rfl:=oi hf
   exact ⟨m59,Nat.lt_succ_self _,y13,rfl,rfl,rfl,S,hk⟩
  rw [ifE hc] at hf
  obtain rfl:=oi hf
  obtain rfl:=hk
  exact ⟨y11,rfl,rfl,rfl,S,rfl⟩
 exact ⟨y46,rfl,rfl,rfl,S,hL⟩
def p42_j0 (p10:Int) (pairs11:List TArr2_Int):Option ((Int×(List TArr2_Int))⊕(List TArr2_Int)):=some (.inl ((IntKind.wrap .i64 (p10+1)),pairs11))
def p42_j1 (n0:TNet) (t12:Int) (p10:Int) (pairs13:List TArr2_Int) (b14:Bool):Option ((Int×(List TArr2_Int))⊕(List TArr2_Int)):=if b14=true then ((app 16 pairs13 [(TArr2_Int.mk p10 (IntKind.wrap .i64 ((n0.Places.length:Int)+t12)))]).bind fun pairs15=>p42_j0 p10 pairs15) else (p42_j0 p10 pairs13)
def p42_j2 (n0:TNet) (t12:Int) (p10:Int) (pairs13:List TArr2_Int) (b16:Bool):Option ((Int×(List TArr2_Int))⊕(List TArr2_Int)):=p42_j1 n0 t12 p10 pairs13 b16
def p42_l0 (n0:TNet) (t12:Int) (st:Int×(List TArr2_Int)):Option ((Int×(List TArr2_Int))⊕(List TArr2_Int)):=match st with | (p10,pairs13)=>if p10 < (n0.Places.length:Int) then ((idx n0.Trans t12).bind fun e17=>(p54 e17 p10).bind fun y18=>if y18=true then (p42_j1 n0 t12 p10 pairs13 true) else ((idx n0.Trans t12).bind fun e19=>if e19.Delay=0 then ((idx n0.Trans t12).bind fun e20=>(p18 e20 p10).bind fun y21=>p42_j2 n0 t12 p10 pairs13 y21) else (p42_j2 n0 t12 p10 pairs13 false))) else (some (.inr pairs13))
def p42_l1 (n0:TNet) (st:Int×(List TArr2_Int)):Option ((Int×(List TArr2_Int))⊕(List TArr2_Int)):=match st with | (t12,pairs22)=>if t12 < (n0.Trans.length:Int) then ((loopC (p42_l0 n0 t12) (0,pairs22)).bind fun res23=>((fun (pairs24:List TArr2_Int)=>some (.inl ((IntKind.wrap .i64 (t12+1)),pairs24))) res23)) else (some (.inr pairs22))
def p42 (n0:TNet):Option (List (List Int)):=(loopC (p42_l1 n0) (0,[])).bind fun res25=>((fun (pairs26:List TArr2_Int)=>(p55 (IntKind.wrap .i64 ((n0.Places.length:Int)+(n0.Trans.length:Int))) pairs26).bind fun y27=>some y27) res25)
theorem r42 {h:Heap} {a0_0:AV} {a0_1:AV} {n0:TNet} (f0_0:SlR rPlace (Snap h) a0_0 n0.Places) (f0_1:SlR rTrans (Snap h) a0_1 n0.Trans) {r:(List (List Int))} (hf:p42 n0=some r):ZC F 42 [(.agg [a0_0,a0_1])] h fun v h'=>St h none' [own (oSl (oSl (fz (rI .i64)))) [v] r] h':=by
 refine w42 ?_
 unfold W42
 unfold p42 at hf
 have S:St h none' [] h:=St.refl _ _
 intro h28
 have S:St _ _ [rowC h.n [a0_0,a0_1] 0] _:=S.pushRow [a0_0,a0_1]
 obtain ⟨res25,hL,hf⟩:=oB hf
 obtain ⟨n29,hL⟩:=loopC_iff.1 hL
 have S:St _ _ [own (oSl (fz rArr2_Int)) [.nilSlice] [],_] _:=S.addE (oSl_nil _ _)
 have S:=S.sel [1,0] rfl
 refine loopm42_1 (X0:=fun (n30:AV) (pairs31:AV) (t32:Int) (h33:Heap)=>∃ (pairs26:List TArr2_Int),AV.ptr h.n 0 0=n30∧St h none' [rowC h.n [a0_0,a0_1] 0,own (oSl (fz rArr2_Int)) [pairs31] pairs26] h33∧pairs26=res25) ?_ (loop42_1 (I:=fun (m34:Nat) (n35:AV) (pairs36:AV) (t12:Int) (h37:Heap)=>∃ (pairs22:List TArr2_Int),AV.ptr h.n 0 0=n35∧St h none' [rowC h.n [a0_0,a0_1] 0,own (oSl (fz rArr2_Int)) [pairs36] pairs22] h37∧iter (p42_l1 n0) m34 (t12,pairs22)=some res25) ?_ (m:=n29) ?_)
 ·rintro n30 pairs31 t32 h33 ⟨pairs26,rfl,S,rfl⟩
  try dsimp only at hf
  refine iI.2 ⟨rfl,?_⟩
  refine ⟨a0_0,S.rd1 m0 rfl,?_⟩
  refine iI.2 ⟨(f0_0).is,?_⟩
  try rw [show (a0_0).slen=_ from (f0_0).slen]
  refine iI.2 ⟨rfl,?_⟩
  refine ⟨a0_1,S.rd1 m0 rfl,?_⟩
  refine iI.2 ⟨(f0_1).is,?_⟩
  try rw [show (a0_1).slen=_ from (f0_1).slen]
  obtain ⟨y27,hy27,hf⟩:=oB hf
  refine ⟨_,Fz.refl _,?_⟩
  refine (r55 (x0:=(IntKind.wrap .i64 ((n0.Places.length:Int)+(n0.Trans.length:Int)))) (x1:=pairs26) (f1_0:=(S.sl (r:=(fz rArr2_Int)) m1)) hy27).mono fun v38 h39 T=>?_
  have S:St _ _ [own (oSl (oSl (fz (rI .i64)))) [v38] y27,_,_] _:=S.comp T
  obtain rfl:=oi hf
  exact S.sel [0] rfl
 ·rintro m40 n35 pairs36 t12 h37 ⟨pairs22,rfl,S,hit⟩
  obtain ⟨m34,q41,rfl,hf,hk⟩:=iter_some hit
  clear hit
  unfold B42_1
  unfold p42_l1 at hf
  try dsimp only at hf
  refine iI.2 ⟨rfl,?_⟩
  refine ⟨a0_1,S.rd1 m0 rfl,?_⟩
  refine iI.2 ⟨(f0_1).is,?_⟩
  try rw [show (a0_1).slen=_ from (f0_1).slen]
  refine bI (fun hc=>?_) (fun hc=>?_)
  ·rw [ifD hc] at hf
   obtain ⟨res23,hL,hf⟩:=oB hf
   obtain ⟨n42,hL⟩:=loopC_iff.1 hL
   refine loopm42_0 (X2:=fun (n43:AV) (pairs44:AV) (t45:Int) (p46:Int) (h47:Heap)=>∃ (pairs24:List TArr2_Int),AV.ptr h.n 0 0=n43∧t12=t45∧St h none' [rowC h.n [a0_0,a0_1] 0,own (oSl (fz rArr2_Int)) [pairs44] pairs24] h47∧pairs24=res23) ?_ (loop42_0 (I:=fun (m48:Nat) (n49:AV) (pairs50:AV) (t51:Int) (p10:Int) (h52:Heap)=>∃ (pairs13:List TArr2_Int),AV.ptr h.n 0 0=n49∧t12=t51∧St h none' [rowC h.n [a0_0,a0_1] 0,own (oSl (fz rArr2_Int)) [pairs50] pairs13] h52∧iter (p42_l0 n0 t12) m48 (p10,pairs13)=some res23) ?_ (m:=n42) ?_)
   ·rintro n43 pairs44 t45 p46 h47 ⟨pairs24,rfl,rfl,S,rfl⟩
    try dsimp only at hf
    obtain rfl:=oi hf
    exact ⟨m34,Nat.lt_succ_self _,pairs24,rfl,S,hk⟩
   ·rintro m53 n49 pairs50 t51 p10 h52 ⟨pairs13,rfl,rfl,S,hit⟩
    obtain ⟨m48,q54,rfl,hf,hk⟩:=iter_some hit
    clear hit
    unfold B42_0
    unfold p42_l0 at hf
    try dsimp only at hf
    refine iI.2 ⟨rfl,?_⟩
    refine ⟨a0_0,S.rd1 m0 rfl,?_⟩
    refine iI.2 ⟨(f0_0).is,?_⟩
    try rw [show (a0_0).slen=_ from (f0_0).slen]
    refine bI (fun hc=>?_) (fun hc=>?_)
    ·rw [ifD hc] at hf
     refine iI.2 ⟨rfl,?_⟩
     refine ⟨a0_1,S.rd1 m0 rfl,?_⟩
     obtain ⟨e17,he17,hf⟩:=oB hf
     refine ix_go f0_1 (sM S.le) he17 fun pe17=>?_
     obtain ⟨_,cr55,Rr55,Nr55,Or55,Zr55⟩:=SlR.idx f0_1 (sM S.le) he17
     obtain ⟨cr55_3,cr55_4,cr55_5,rfl,Fr55_3,Fr55_4,Fr55_5⟩:=rTrans_open Rr55
     refine ⟨(.str e17.Name),(.int .i64 e17.Delay),(.int .i64 e17.Prio),cr55_3,cr55_4,cr55_5,Nr55,?_⟩
     obtain ⟨y18,hy18,hf⟩:=oB hf
     refine ⟨_,Fz.refl _,?_⟩
     refine (r54 (t0:=e17) (place1:=p10) (f0_3:=(SlR.mono (sM S.le) Fr55_3)) (f0_4:=(SlR.mono (sM S.le) Fr55_4)) (f0_5:=(SlR.mono (sM S.le) Fr55_5)) hy18).mono fun v56 h57 T=>?_
     obtain ⟨rfl,T⟩:=T
     have S:St _ _ [_,_] _:=S.comp T
     refine ⟨y18,rfl,?_⟩
     intro jjj1
     have hjj1:∀ (b14:Bool) (h58:Heap),p42_j1 n0 t12 p10 pairs13 b14=some q54→St h none' [rowC h.n [a0_0,a0_1] 0,own (oSl (fz rArr2_Int)) [pairs50] pairs13] h58→jjj1 b14 h58:=by
      rintro b14 h58 hf S
      unfold p42_j1 at hf
      unfold jjj1
      intro jjj0
      have hjj0:∀ (pairs59:AV) (h60:Heap) (pairs11:List TArr2_Int),p42_j0 p10 pairs11=some q54→St h none' [rowC h.n [a0_0,a0_1] 0,own (oSl (fz rArr2_Int)) [pairs59] pairs11] h60→jjj0 pairs59 h60:=by
       rintro pairs59 h60 pairs11 hf S
       unfold p42_j0 at hf
       unfold jjj0
       obtain rfl:=oi hf
       exact ⟨m48,Nat.lt_succ_self _,pairs11,rfl,rfl,S,hk⟩
      refine bI (fun hc=>?_) (fun hc=>?_)
      ·rw [ifT hc] at hf
       refine iI.2 ⟨rfl,?_⟩
       refine ⟨a0_0,S.rd1 m0 rfl,?_⟩
       refine iI.2 ⟨(f0_0).is,?_⟩
       try rw [show (a0_0).slen=_ from (f0_0).slen]
       intro h61
       have S:St _ _ [rowC h58.n [(.int .i64 p10),(.int .i64 (IntKind.wrap .i64 ((n0.Places.length:Int)+t12)))] 0,_,_] _:=S.pushRow [(.int .i64 p10),(.int .i64 (IntKind.wrap .i64 ((n0.Places.length:Int)+t12)))]
       obtain ⟨pairs15,hpairs15,hf⟩:=oB hf
       have S:St _ _ [own (fz rArr2_Int) [(.int .i64 p10),(.int .i64 (IntKind.wrap .i64 ((n0.Places.length:Int)+t12)))] (TArr2_Int.mk p10 (IntKind.wrap .i64 ((n0.Places.length:Int)+t12))),_,_,_] _:=S.add (r:=rArr2_Int) (x:=(TArr2_Int.mk p10 (IntKind.wrap .i64 ((n0.Places.length:Int)+t12)))) (rArr2_Int_mk (x:=(TArr2_Int.mk p10 (IntKind.wrap .i64 ((n0.Places.length:Int)+t12)))))
       have S:=S.sel [3,0,1,2] rfl
       have mpairs15:=app_some hpairs15
       obtain ⟨v62,h63,e64,S⟩:=St.app1R (r:=(fz rArr2_Int)) (b:=16) S mpairs15.1
       have S:St _ _ [own (oSl (fz rArr2_Int)) [v62] pairs15,_] _:=S.cast1 (by rw [← mpairs15.2]<;>rfl)
       refine ⟨v62,h63,e64,?_⟩
       have S:=S.sel [1,0] rfl
       exact hjj0 _ _ pairs15 hf  S
      rw [ifF hc] at hf
      exact hjj0 _ _ pairs13 hf  S
     refine bI (fun hc=>?_) (fun hc=>?_)
     ·rw [ifT hc] at hf
      exact hjj1 _ _  hf  S
     rw [ifF hc] at hf
     refine iI.2 ⟨rfl,?_⟩
     refine ⟨a0_1,S.rd1 m0 rfl,?_⟩
     obtain ⟨e19,he19,hf⟩:=oB hf
     refine ix_go f0_1 (sM S.le) he19 fun pe19=>?_
     refine iI.2 ⟨pe19,?_⟩
     obtain ⟨_,cr65,Rr65,Nr65,Or65,Zr65⟩:=SlR.idx f0_1 (sM S.le) he19
     obtain ⟨cr65_3,cr65_4,cr65_5,rfl,Fr65_3,Fr65_4,Fr65_5⟩:=rTrans_open Rr65
     refine ⟨e19.Delay,Or65 1 _ rfl,?_⟩
     intro jjj2
     have hjj2:∀ (b16:Bool) (h66:Heap),p42_j2 n0 t12 p10 pairs13 b16=some q54→St h none' [rowC h.n [a0_0,a0_1] 0,own (oSl (fz rArr2_Int)) [pairs50] pairs13] h66→jjj2 b16 h66:=by
      rintro b16 h66 hf S
      unfold p42_j2 at hf
      unfold jjj2
      exact hjj1 _ _  hf  S
     refine bI (fun hc=>?_) (fun hc=>?_)
     ·rw [ifD hc] at hf
      refine iI.2 ⟨rfl,?_⟩
      refine ⟨a0_1,S.rd1 m0 rfl,?_⟩
      obtain ⟨e20,he20,hf⟩:=oB hf
      refine ix_go f0_1 (sM S.le) he20 fun pe20=>?_
      obtain ⟨_,cr67,Rr67,Nr67,Or67,Zr67⟩:=SlR.idx f0_1 (sM S.le) he20
      obtain ⟨cr67_3,cr67_4,cr67_5,rfl,Fr67_3,Fr67_4,Fr67_5⟩:=rTrans_open Rr67
      refine ⟨(.str e20.Name),(.int .i64 e20.Delay),(.int .i64 e20.Prio),cr67_3,cr67_4,cr67_5,Nr67,?_⟩
      obtain ⟨y21,hy21,hf⟩:=oB hf
      refine ⟨_,Fz.refl _,?_⟩
      refine (r18 (t0:=e20) (place1:=p10) (f0_3:=(SlR.mono (sM S.le) Fr67_3)) (f0_4:=(SlR.mono (sM S.le) Fr67_4)) (f0_5:=(SlR.mono (sM S.le) Fr67_5)) hy21).mono fun v68 h69 T=>?_
      obtain ⟨rfl,T⟩:=T
      have S:St _ _ [_,_] _:=S.comp T
      refine ⟨y21,rfl,?_⟩
      exact hjj2 _ _  hf  S
     rw [ifE hc] at hf
     exact hjj2 _ _  hf  S
    rw [ifE hc] at hf
    obtain rfl:=oi hf
    obtain rfl:=hk
    exact ⟨pairs13,rfl,rfl,S,rfl⟩
   exact ⟨pairs22,rfl,rfl,S,hL⟩
  rw [ifE hc] at hf
  obtain rfl:=oi hf
  obtain rfl:=hk
  exact ⟨pairs22,rfl,S,rfl⟩
 exact ⟨[],rfl,S,hL⟩
def p34_j0 (y10:Int) (y11:List Int) (y12:List Int):Option ((Int×(List Int)×(List Int))⊕((List Int)×(List Int))):=some (.inl ((IntKind.wrap .i64 (y10+1)),y11,y12))
def p34_l0 (y13:(List (List Int))) (y14:Int) (y15:Int) (st:Int×(List Int)×(List Int)):Option ((Int×(List Int)×(List Int))⊕((List Int)×(List Int))):=match st with | (y10,y16,y17)=>(idx y13 y14).bind fun e18=>if y10 < (e18.length:Int) then ((idx y13 y14).bind fun e19=>(idx e19 y10).bind fun e20=>if e20 < (y16.length:Int) then ((idx y16 e20).bind fun e21=>(some (y16.set (e20:Int).toNat y15)).bind fun y22=>p34_j0 y10 y22 y17) else ((idx y17 (IntKind.wrap .i64 (e20 - (y16.length:Int)))).bind fun e23=>(some (y17.set ((IntKind.wrap .i64 (e20 - (y16.length:Int))):Int).toNat y15)).bind fun y24=>p34_j0 y10 y16 y24)) else (some (.inr (y16,y17)))
def p34_j1 (y13:(List (List Int))) (y14:Int) (y25:List Int) (y26:List Int) (y15:Int):Option ((Int×(List Int)×(List Int))⊕((List Int)×(List Int))):=(loopC (p34_l0 y13 y14 y15) (0,y25,y26)).bind fun res27=>(match res27 with | (y28,y29)=>some (.inl ((IntKind.wrap .i64 (y14+1)),y28,y29)))
def p34_l1 (x1:Int) (x2:List Int) (y13:(List (List Int))) (st:Int×(List Int)×(List Int)):Option ((Int×(List Int)×(List Int))⊕((List Int)×(List Int))):=match st with | (y14,y25,y26)=>if y14 < (y13.length:Int) then ((remI .i64 y14 (IntKind.wrap .i64 (1+(IntKind.wrap .i64 (Int.tmod x1 5))))).bind fun d30=>if y14 < (x2.length:Int) then ((idx x2 y14).bind fun e31=>(remI .i64 (IntKind.wrap .i64 e31) (IntKind.wrap .i64 (1+(IntKind.wrap .i64 (Int.tmod x1 5))))).bind fun d32=>p34_j1 y13 y14 y25 y26 d32) else (p34_j1 y13 y14 y25 y26 d30)) else (some (.inr (y25,y26)))
def p34 (x0:TNet) (x1:Int) (x2:List Int):Option (Int×(List Int)×(List Int)):=(mkS 8 (x0.Places.length:Int) (x0.Places.length:Int) 0).bind fun y33=>(mkS 8 (x0.Trans.length:Int) (x0.Trans.length:Int) 0).bind fun y34=>(p42 x0).bind fun y13=>(loopC (p34_l1 x1 x2 y13) (0,y33,y34)).bind fun res35=>(match res35 with | (y36,y37)=>some ((IntKind.wrap .i64 (1+(IntKind.wrap .i64 (Int.tmod x1 5)))),y36,y37))
theorem r34 {h:Heap} {a0_0:AV} {a0_1:AV} {a2_0:AV} {x0:TNet} {x1:Int} {x2:List Int} (f0_0:SlR rPlace (Snap h) a0_0 x0.Places) (f0_1:SlR rTrans (Snap h) a0_1 x0.Trans) (f2_0:SlR (rI .u8) (Snap h) a2_0 x2) {r:Int×(List Int)×(List Int)} (hf:p34 x0 x1 x2=some r):ZC F 34 [(.agg [a0_0,a0_1]),(.int .u8 x1),a2_0] h fun v h'=>∃ w1,∃ w2,v=.tuple [.int .i64 r.1,w1,w2]∧St h none' [own (oSl (fz (rI .i64))) [w1] r.2.1,own (oSl (fz (rI .i64))) [w2] r.2.2] h':=by
 refine w34 ?_
 unfold W34
 unfold p34 at hf
 have S:St h none' [] h:=St.refl _ _
 intro h38
 have S:St _ _ [rowC h.n [a0_0,a0_1] 0] _:=S.pushRow [a0_0,a0_1]
 refine ⟨a0_0,S.rd1 m0 rfl,?_⟩
 refine iI.2 ⟨(f0_0).is,?_⟩
 try rw [show (a0_0).slen=_ from (f0_0).slen]
 obtain ⟨y33,hy33,hf⟩:=oB hf
 obtain ⟨my33,ey33⟩:=mkS_some hy33
 refine ⟨my33,?_⟩
 intro h39
 have S:St _ _ [own (oSl (fz (rI .i64))) [(.slice h38.n 0 0 ((x0.Places.length:Int):Int).toNat 1)] y33,_] _:=(S.make (r:=(fz (rI .i64))) (zero:=[(.int .i64 0)]) (x:=0) (fun _=>⟨rfl,rfl⟩) _).cast1 (by rw [ey33]; rfl)
 refine ⟨a0_1,S.rd1 m1 rfl,?_⟩
 refine iI.2 ⟨(f0_1).is,?_⟩
 try rw [show (a0_1).slen=_ from (f0_1).slen]
 obtain ⟨y34,hy34,hf⟩:=oB hf
 obtain ⟨my34,ey34⟩:=mkS_some hy34
 refine ⟨my34,?_⟩
 intro h40
 have S:St _ _ [own (oSl (fz (rI .i64))) [(.slice h39.n 0 0 ((x0.Trans.length:Int):Int).toNat 1)] y34,_,_] _:=(S.make (r:=(fz (rI .i64))) (zero:=[(.int .i64 0)]) (x:=0) (fun _=>⟨rfl,rfl⟩) _).cast1 (by rw [ey34]; rfl)
 refine ⟨a0_0,a0_1,S.rdN m2 (nl rfl) rfl,?_⟩
 obtain ⟨y13,hy13,hf⟩:=oB hf
 refine ⟨_,Fz.refl _,?_⟩
 refine (r42 (n0:=x0) (f0_0:=(SlR.mono (sM S.le) f0_0)) (f0_1:=(SlR.mono (sM S.le) f0_1)) hy13).mono fun v41 h42 T=>?_
 have S:St _ _ [own (oSl (oSl (fz (rI .i64)))) [v41] y13,_,_,_] _:=S.comp T
 obtain ⟨res35,hL,hf⟩:=oB hf
 obtain ⟨n43,hL⟩:=loopC_iff.1 hL
 have S:=S.sel [2,1,0] rfl
 refine loopm34_1 (X0:=fun (y44:AV) (y45:Int) (y46:AV) (y47:AV) (y48:AV) (y49:Int) (h50:Heap)=>∃ (y36:List Int),∃ (y37:List Int),(IntKind.wrap .i64 (1+(IntKind.wrap .i64 (Int.tmod x1 5))))=y45∧(AV.slice h38.n 0 0 ((x0.Places.length:Int):Int).toNat 1)=y46∧(AV.slice h39.n 0 0 ((x0.Trans.length:Int):Int).toNat 1)=y47∧St h none' [own (oSl (fz (rI .i64))) [(.slice h38.n 0 0 ((x0.Places.length:Int):Int).toNat 1)] y36,own (oSl (fz (rI .i64))) [(.slice h39.n 0 0 ((x0.Trans.length:Int):Int).toNat 1)] y37] h50∧(y36,y37)=res35) ?_ (loop34_1 (I:=fun (m51:Nat) (y52:AV) (y53:Int) (y54:AV) (y55:AV) (y56:AV) (y14:Int) (h57:Heap)=>∃ (y25:List Int),∃ (y26:List Int),a2_0=y52∧(IntKind.wrap .i64 (1+(IntKind.wrap .i64 (Int.tmod x1 5))))=y53∧(AV.slice h38.n 0 0 ((x0.Places.length:Int):Int).toNat 1)=y54∧(AV.slice h39.n 0 0 ((x0.Trans.length:Int):Int).toNat 1)=y55∧v41=y56∧St h none' [own (oSl (fz (rI .i64))) [(.slice h38.n 0 0 ((x0.Places.length:Int):Int).toNat 1)] y25,own (oSl (fz (rI .i64))) [(.slice h39.n 0 0 ((x0.Trans.length:Int):Int).toNat 1)] y26,own (oSl (oSl (fz (rI .i64)))) [v41] y13] h57∧iter (p34_l1 x1 x2 y13) m51 (y14,y25,y26)=some res35) ?_ (m:=n43) ?_)
 ·rintro y44 y45 y46 y47 y48 y49 h50 ⟨y36,y37,rfl,rfl,rfl,S,rfl⟩
  try dsimp only at hf
  obtain rfl:=oi hf
  exact ⟨(.slice h38.n 0 0 ((x0.Places.length:Int):Int).toNat 1),(.slice h39.n 0 0 ((x0.Trans.length:Int):Int).toNat 1),rfl,S.sel [0,1] rfl⟩
 ·rintro m58 y52 y53 y54 y55 y56 y14 h57 ⟨y25,y26,rfl,rfl,rfl,rfl,rfl,S,hit⟩
  obtain ⟨m51,q59,rfl,hf,hk⟩:=iter_some hit
  clear hit
  unfold B34_1
  unfold p34_l1 at hf
  try dsimp only at hf
  refine iI.2 ⟨((S.sl (r:=(oSl (fz (rI .i64)))) m2)).is,?_⟩
  try rw [show (v41).slen=_ from ((S.sl (r:=(oSl (fz (rI .i64)))) m2)).slen]
  refine bI (fun hc=>?_) (fun hc=>?_)
  ·rw [ifD hc] at hf
   obtain ⟨d30,hd30,hf⟩:=oB hf
   refine oI (.int .i64 d30) (remI_ev hd30) ⟨d30,rfl,?_⟩
   refine iI.2 ⟨(f2_0).is,?_⟩
   try rw [show (a2_0).slen=_ from (f2_0).slen]
   intro jjj1
   have hjj1:∀ (y15:Int) (h60:Heap),p34_j1 y13 y14 y25 y26 y15=some q59→St h none' [own (oSl (fz (rI .i64))) [(.slice h38.n 0 0 ((x0.Places.length:Int):Int).toNat 1)] y25,own (oSl (fz (rI .i64))) [(.slice h39.n 0 0 ((x0.Trans.length:Int):Int).toNat 1)] y26,own (oSl (oSl (fz (rI .i64)))) [v41] y13] h60→jjj1 y15 h60:=by
    rintro y15 h60 hf S
    unfold p34_j1 at hf
    unfold jjj1
    obtain ⟨res27,hL,hf⟩:=oB hf
    obtain ⟨n61,hL⟩:=loopC_iff.1 hL
    refine loopm34_0 (X2:=fun (y62:AV) (y63:Int) (y64:AV) (y65:AV) (y66:AV) (y67:Int) (y68:Int) (y69:Int) (h70:Heap)=>∃ (y28:List Int),∃ (y29:List Int),a2_0=y62∧(IntKind.wrap .i64 (1+(IntKind.wrap .i64 (Int.tmod x1 5))))=y63∧(AV.slice h38.n 0 0 ((x0.Places.length:Int):Int).toNat 1)=y64∧(AV.slice h39.n 0 0 ((x0.Trans.length:Int):Int).toNat 1)=y65∧v41=y66∧y14=y67∧St h none' [own (oSl (fz (rI .i64))) [(.slice h38.n 0 0 ((x0.Places.length:Int):Int).toNat 1)] y28,own (oSl (fz (rI .i64))) [(.slice h39.n 0 0 ((x0.Trans.length:Int):Int).toNat 1)] y29,own (oSl (oSl (fz (rI .i64)))) [v41] y13] h70∧(y28,y29)=res27) ?_ (loop34_0 (I:=fun (m71:Nat) (y72:AV) (y73:Int) (y74:AV) (y75:AV) (y76:AV) (y77:Int) (y78:Int) (y10:Int) (h79:Heap)=>∃ (y16:List Int),∃ (y17:List Int),a2_0=y72∧(IntKind.wrap .i64 (1+(IntKind.wrap .i64 (Int.tmod x1 5))))=y73∧(AV.slice h38.n 0 0 ((x0.Places.length:Int):Int).toNat 1)=y74∧(AV.slice h39.n 0 0 ((x0.Trans.length:Int):Int).toNat 1)=y75∧v41=y76∧y14=y77∧y15=y78∧St h none' [own (oSl (fz (rI .i64))) [(.slice h38.n 0 0 ((x0.Places.length:Int):Int).toNat 1)] y16,own (oSl (fz (rI .i64))) [(.slice h39.n 0 0 ((x0.Trans.length:Int):Int).toNat 1)] y17,own (oSl (oSl (fz (rI .i64)))) [v41] y13] h79∧iter (p34_l0 y13 y14 y15) m71 (y10,y16,y17)=some res27) ?_ (m:=n61) ?_)
    ·rintro y62 y63 y64 y65 y66 y67 y68 y69 h70 ⟨y28,y29,rfl,rfl,rfl,rfl,rfl,rfl,S,rfl⟩
     try dsimp only at hf
     obtain rfl:=oi hf
     exact ⟨m51,Nat.lt_succ_self _,y28,y29,rfl,rfl,rfl,rfl,rfl,S,hk⟩
    ·rintro m80 y72 y73 y74 y75 y76 y77 y78 y10 h79 ⟨y16,y17,rfl,rfl,rfl,rfl,rfl,rfl,rfl,S,hit⟩
     obtain ⟨m71,q81,rfl,hf,hk⟩:=iter_some hit
     clear hit
     unfold B34_0
     unfold p34_l0 at hf
     try dsimp only at hf
     obtain ⟨e18,he18,hf⟩:=oB hf
     refine ix_go (S.sl (r:=(oSl (fz (rI .i64)))) m2) (Hp.le_refl _) he18 fun pe18=>?_
     obtain ⟨_,cr82,Rr82,Nr82,Or82,Zr82⟩:=SlR.idx (S.sl (r:=(oSl (fz (rI .i64)))) m2) (Hp.le_refl _) he18
     obtain ⟨cr82,rfl,Fr82⟩:=Rr82
     refine ⟨cr82,Zr82 _ rfl,?_⟩
     refine iI.2 ⟨(Fr82).is,?_⟩
     try rw [show (cr82).slen=_ from (Fr82).slen]
     refine bI (fun hc=>?_) (fun hc=>?_)
     ·rw [ifD hc] at hf
      obtain ⟨e19,he19,hf⟩:=oB hf
      refine ix_go (S.sl (r:=(oSl (fz (rI .i64)))) m2) (Hp.le_refl _) he19 fun pe19=>?_
      obtain ⟨_,cr83,Rr83,Nr83,Or83,Zr83⟩:=SlR.idx (S.sl (r:=(oSl (fz (rI .i64)))) m2) (Hp.le_refl _) he19
      obtain ⟨cr83,rfl,Fr83⟩:=Rr83
      refine ⟨cr83,Zr83 _ rfl,?_⟩
      obtain ⟨e20,he20,hf⟩:=oB hf
      refine ix_go Fr83 (Hp.le_refl _) he20 fun pe20=>?_
      obtain ⟨_,cr84,Rr84,Nr84,Or84,Zr84⟩:=SlR.idx Fr83 (Hp.le_refl _) he20
      obtain rfl:cr84=[(.int .i64 e20)]:=Rr84
      refine ⟨e20,Zr84 _ rfl,?_⟩
      refine iI.2 ⟨((S.sl (r:=(fz (rI .i64))) m0)).is,?_⟩
      try rw [show ((AV.slice h38.n 0 0 ((x0.Places.length:Int):Int).toNat 1)).slen=_ from ((S.sl (r:=(fz (rI .i64))) m0)).slen]
      intro jjj0
      have hjj0:∀  (h85:Heap) (y11:List Int) (y12:List Int),p34_j0 y10 y11 y12=some q81→St h none' [own (oSl (fz (rI .i64))) [(.slice h38.n 0 0 ((x0.Places.length:Int):Int).toNat 1)] y11,own (oSl (fz (rI .i64))) [(.slice h39.n 0 0 ((x0.Trans.length:Int):Int).toNat 1)] y12,own (oSl (oSl (fz (rI .i64)))) [v41] y13] h85→jjj0 h85:=by
       rintro h85 y11 y12 hf S
       unfold p34_j0 at hf
       unfold jjj0
       obtain rfl:=oi hf
       exact ⟨m71,Nat.lt_succ_self _,y11,y12,rfl,rfl,rfl,rfl,rfl,rfl,rfl,S,hk⟩
      refine bI (fun hc=>?_) (fun hc=>?_)
      ·rw [ifD hc] at hf
       obtain ⟨e21,he21,hf⟩:=oB hf
       refine ix_go (S.sl (r:=(fz (rI .i64))) m0) (Hp.le_refl _) he21 fun pe21=>?_
       obtain ⟨y22,hy22,hf⟩:=oB hf
       obtain ⟨h86,e87,S⟩:=St.setE (r:=(rI .i64)) (x':=y15) (k:=0) (n:=1) (y:=(.int .i64 y15)) S he21 rfl rfl (nl rfl) (by rintro _ h; obtain rfl:=h; exact rfl)
       rw [padd_zero] at e87
       have S:St _ _ [own (oSl (fz (rI .i64))) [(.slice h38.n 0 0 ((x0.Places.length:Int):Int).toNat 1)] y22,_,_] _:=S.cast1 (by rw [← oi hy22]<;>rfl)
       have hqy22:idx y22 e20=some y15:=oi hy22▸idx_set he21
       refine ⟨h86,e87,?_⟩
       exact hjj0  _ y22 y17 hf  S
      rw [ifE hc] at hf
      refine iI.2 ⟨((S.sl (r:=(fz (rI .i64))) m0)).is,?_⟩
      try rw [show ((AV.slice h38.n 0 0 ((x0.Places.length:Int):Int).toNat 1)).slen=_ from ((S.sl (r:=(fz (rI .i64))) m0)).slen]
      obtain ⟨e23,he23,hf⟩:=oB hf
      refine ix_go (S.sl (r:=(fz (rI .i64))) m1) (Hp.le_refl _) he23 fun pe23=>?_
      obtain ⟨y24,hy24,hf⟩:=oB hf
      have S:=S.sel [1,0,2] rfl
      obtain ⟨h88,e89,S⟩:=St.setE (r:=(rI .i64)) (x':=y15) (k:=0) (n:=1) (y:=(.int .i64 y15)) S he23 rfl rfl (nl rfl) (by rintro _ h; obtain rfl:=h; exact rfl)
      rw [padd_zero] at e89
      have S:St _ _ [own (oSl (fz (rI .i64))) [(.slice h39.n 0 0 ((x0.Trans.length:Int):Int).toNat 1)] y24,_,_] _:=S.cast1 (by rw [← oi hy24]<;>rfl)
      have hqy24:idx y24 (IntKind.wrap .i64 (e20 - (y16.length:Int)))=some y15:=oi hy24▸idx_set he23
      refine ⟨h88,e89,?_⟩
      have S:=S.sel [1,0,2] rfl
      exact hjj0  _ y16 y24 hf  S
     rw [ifE hc] at hf
     obtain rfl:=oi hf
     obtain rfl:=hk
     exact ⟨y16,y17,rfl,rfl,rfl,rfl,rfl,rfl,S,rfl⟩
    exact ⟨y25,y26,rfl,rfl,rfl,rfl,rfl,rfl,rfl,S,hL⟩
   refine bI (fun hc=>?_) (fun hc=>?_)
   ·rw [ifD hc] at hf
    obtain ⟨e31,he31,hf⟩:=oB hf
    refine ix_go f2_0 (sM S.le) he31 fun pe31=>?_
    obtain ⟨_,cr90,Rr90,Nr90,Or90,Zr90⟩:=SlR.idx f2_0 (sM S.le) he31
    obtain rfl:cr90=[(.int .u8 e31)]:=Rr90
    refine ⟨e31,Zr90 _ rfl,?_⟩
    obtain ⟨d32,hd32,hf⟩:=oB hf
    refine oI (.int .i64 d32) (remI_ev hd32) ⟨d32,rfl,?_⟩
    exact hjj1 _ _  hf  S
   rw [ifE hc] at hf
   exact hjj1 _ _  hf  S
  rw [ifE hc] at hf
  have S:=S.sel [0,1] rfl
  obtain rfl:=oi hf
  obtain rfl:=hk
  exact ⟨y25,y26,rfl,rfl,rfl,S,rfl⟩
 exact ⟨y33,y34,rfl,rfl,rfl,rfl,rfl,S,hL⟩
def p36_j0 (y10:Int) (y11:Int):Option ((Int×Int)⊕Int):=some (.inl (y11,(IntKind.wrap .i64 (y10+1))))
def p36_j1 (x0:TNet) (y12:Int) (y13:Int) (y10:Int) (b14:Bool):Option ((Int×Int)⊕Int):=if b14=true then ((idx x0.Trans y12).bind fun e15=>p36_j0 y10 e15.Delay) else (p36_j0 y10 y13)
def p36_j2 (x0:TNet) (y12:Int) (y13:Int) (y10:Int) (b16:Bool):Option ((Int×Int)⊕Int):=p36_j1 x0 y12 y13 y10 b16
def p36_j3 (x0:TNet) (y12:Int) (y13:Int) (y10:Int) (b17:Bool):Option ((Int×Int)⊕Int):=if b17=true then (if y13 < 0 then (p36_j2 x0 y12 y13 y10 true) else ((idx x0.Trans y12).bind fun e18=>p36_j2 x0 y12 y13 y10 (decide (e18.Delay < y13)))) else (p36_j1 x0 y12 y13 y10 false)
def p36_j4 (x0:TNet) (y12:Int) (y13:Int) (y10:Int) (b19:Bool):Option ((Int×Int)⊕Int):=if b19=true then ((idx x0.Trans y12).bind fun e20=>(p18 e20 y10).bind fun y21=>p36_j3 x0 y12 y13 y10 y21) else (p36_j3 x0 y12 y13 y10 false)
def p36_j5 (x0:TNet) (x1:List Int) (x4:Int) (y12:Int) (y13:Int) (y10:Int) (b22:Bool):Option ((Int×Int)⊕Int):=if b22=true then ((idx x1 y10).bind fun e23=>p36_j4 x0 y12 y13 y10 (decide (e23=x4))) else (p36_j4 x0 y12 y13 y10 false)
def p36_l0 (x0:TNet) (x1:List Int) (x2:List Int) (x3:Int) (x4:Int) (y12:Int) (st:Int×Int):Option ((Int×Int)⊕Int):=match st with | (y13,y10)=>if y10 < (x0.Places.length:Int) then (if (!decide (x3=x4))=true then ((idx x2 y12).bind fun e24=>p36_j5 x0 x1 x4 y12 y13 y10 (decide (e24=x3))) else (p36_j5 x0 x1 x4 y12 y13 y10 false)) else (some (.inr y13))
def p36_l1 (x0:TNet) (x1:List Int) (x2:List Int) (x3:Int) (x4:Int) (st:Int×Int):Option ((Int×Int)⊕Int):=match st with | (y25,y12)=>if y12 < (x0.Trans.length:Int) then ((loopC (p36_l0 x0 x1 x2 x3 x4 y12) (y25,0)).bind fun res26=>((fun (y27:Int)=>some (.inl (y27,(IntKind.wrap .i64 (y12+1))))) res26)) else (some (.inr y25))
def p36 (x0:TNet) (x1:List Int) (x2:List Int) (x3:Int) (x4:Int):Option Int:=(loopC (p36_l1 x0 x1 x2 x3 x4) (((-1):Int),0)).bind fun res28=>((fun (y29:Int)=>some y29) res28)
theorem r36 {h:Heap} {a0_0:AV} {a0_1:AV} {a1_0:AV} {a2_0:AV} {x0:TNet} {x1:List Int} {x2:List Int} {x3:Int} {x4:Int} (f0_0:SlR rPlace (Snap h) a0_0 x0.Places) (f0_1:SlR rTrans (Snap h) a0_1 x0.Trans) (f1_0:SlR (rI .i64) (Snap h) a1_0 x1) (f2_0:SlR (rI .i64) (Snap h) a2_0 x2) {r:Int} (hf:p36 x0 x1 x2 x3 x4=some r):ZC F 36 [(.agg [a0_0,a0_1]),a1_0,a2_0,(.int .i64 x3),(.int .i64 x4)] h fun v h'=>v=.int .i64 r∧St h none' [] h':=by
 refine w36 ?_
 unfold W36
 unfold p36 at hf
 have S:St h none' [] h:=St.refl _ _
 intro h30
 have S:St _ _ [rowC h.n [a0_0,a0_1] 0] _:=S.pushRow [a0_0,a0_1]
 obtain ⟨res28,hL,hf⟩:=oB hf
 obtain ⟨n31,hL⟩:=loopC_iff.1 hL
 refine loopm36_1 (X0:=fun (y32:AV) (y33:AV) (y34:Int) (y35:Int) (y36:AV) (y29:Int) (y37:Int) (h38:Heap)=>St h none' [] h38∧y29=res28) ?_ (loop36_1 (I:=fun (m39:Nat) (y40:AV) (y41:AV) (y42:Int) (y43:Int) (y44:AV) (y25:Int) (y12:Int) (h45:Heap)=>a1_0=y40∧a2_0=y41∧x3=y42∧x4=y43∧AV.ptr h.n 0 0=y44∧St h none' [rowC h.n [a0_0,a0_1] 0] h45∧iter (p36_l1 x0 x1 x2 x3 x4) m39 (y25,y12)=some res28) ?_ (m:=n31) ?_)
 ·rintro y32 y33 y34 y35 y36 y29 y37 h38 ⟨S,rfl⟩
  try dsimp only at hf
  obtain rfl:=oi hf
  exact ⟨rfl,S.sel [] rfl⟩
 ·rintro m46 y40 y41 y42 y43 y44 y25 y12 h45 ⟨rfl,rfl,rfl,rfl,rfl,S,hit⟩
  obtain ⟨m39,q47,rfl,hf,hk⟩:=iter_some hit
  clear hit
  unfold B36_1
  unfold p36_l1 at hf
  try dsimp only at hf
  refine iI.2 ⟨rfl,?_⟩
  refine ⟨a0_1,S.rd1 m0 rfl,?_⟩
  refine iI.2 ⟨(f0_1).is,?_⟩
  try rw [show (a0_1).slen=_ from (f0_1).slen]
  refine bI (fun hc=>?_) (fun hc=>?_)
  ·rw [ifD hc] at hf
   obtain ⟨res26,hL,hf⟩:=oB hf
   obtain ⟨n48,hL⟩:=loopC_iff.1 hL
   refine loopm36_0 (X2:=fun (y49:AV) (y50:AV) (y51:Int) (y52:Int) (y53:AV) (y27:Int) (y54:Int) (y55:Int) (h56:Heap)=>a1_0=y49∧a2_0=y50∧x3=y51∧x4=y52∧AV.ptr h.n 0 0=y53∧y12=y54∧St h none' [rowC h.n [a0_0,a0_1] 0] h56∧y27=res26) ?_ (loop36_0 (I:=fun (m57:Nat) (y58:AV) (y59:AV) (y60:Int) (y61:Int) (y62:AV) (y13:Int) (y63:Int) (y10:Int) (h64:Heap)=>a1_0=y58∧a2_0=y59∧x3=y60∧x4=y61∧AV.ptr h.n 0 0=y62∧y12=y63∧St h none' [rowC h.n [a0_0,a0_1] 0] h64∧iter (p36_l0 x0 x1 x2 x3 x4 y12) m57 (y13,y10)=some res26) ?_ (m:=n48) ?_)
   ·rintro y49 y50 y51 y52 y53 y27 y54 y55 h56 ⟨rfl,rfl,rfl,rfl,rfl,rfl,S,rfl⟩
    try dsimp only at hf
    obtain rfl:=oi hf
    exact ⟨m39,Nat.lt_succ_self _,rfl,rfl,rfl,rfl,rfl,S,hk⟩
   ·rintro m65 y58 y59 y60 y61 y62 y13 y63 y10 h64 ⟨rfl,rfl,rfl,rfl,rfl,rfl,S,hit⟩
    obtain ⟨m57,q66,rfl,hf,hk⟩:=iter_some hit
    clear hit
    unfold B36_0
    unfold p36_l0 at hf
    try dsimp only at hf
    refine iI.2 ⟨rfl,?_⟩
    refine ⟨a0_0,S.rd1 m0 rfl,?_⟩
    refine iI.2 ⟨(f0_0).is,?_⟩
    try rw [show (a0_0).slen=_ from (f0_0).slen]
    refine bI (fun hc=>?_) (fun hc=>?_)
    ·rw [ifD hc] at hf
     intro jjj5
     have hjj5:∀ (b22:Bool) (h67:Heap),p36_j5 x0 x1 x4 y12 y13 y10 b22=some q66→h64=h67→St h none' [rowC h.n [a0_0,a0_1] 0] h64→jjj5 b22 h67:=by
      rintro b22 h67 hf rfl S
      unfold p36_j5 at hf
      unfold jjj5
      intro jjj4
      have hjj4:∀ (b19:Bool) (h68:Heap),p36_j4 x0 y12 y13 y10 b19=some q66→h64=h68→St h none' [rowC h.n [a0_0,a0_1] 0] h64→jjj4 b19 h68:=by
       rintro b19 h68 hf rfl S
       unfold p36_j4 at hf
       unfold jjj4
       intro jjj3
       have hjj3:∀ (b17:Bool) (h69:Heap),p36_j3 x0 y12 y13 y10 b17=some q66→St h none' [rowC h.n [a0_0,a0_1] 0] h69→jjj3 b17 h69:=by
        rintro b17 h69 hf S
        unfold p36_j3 at hf
        unfold jjj3
        intro jjj1
        have hjj1:∀ (b14:Bool) (h70:Heap),p36_j1 x0 y12 y13 y10 b14=some q66→h69=h70→St h none' [rowC h.n [a0_0,a0_1] 0] h69→jjj1 b14 h70:=by
         rintro b14 h70 hf rfl S
         unfold p36_j1 at hf
         unfold jjj1
         intro jjj0
         have hjj0:∀ (y11:Int) (h71:Heap),p36_j0 y10 y11=some q66→St h none' [rowC h.n [a0_0,a0_1] 0] h71→jjj0 y11 h71:=by
          rintro y11 h71 hf S
          unfold p36_j0 at hf
          unfold jjj0
          obtain rfl:=oi hf
          exact ⟨m57,Nat.lt_succ_self _,rfl,rfl,rfl,rfl,rfl,rfl,S,hk⟩
         refine bI (fun hc=>?_) (fun hc=>?_)
         ·rw [ifT hc] at hf
          refine iI.2 ⟨rfl,?_⟩
          refine ⟨a0_1,S.rd1 m0 rfl,?_⟩
          obtain ⟨e15,he15,hf⟩:=oB hf
          refine ix_go f0_1 (sM S.le) he15 fun pe15=>?_
          refine iI.2 ⟨pe15,?_⟩
          obtain ⟨_,cr72,Rr72,Nr72,Or72,Zr72⟩:=SlR.idx f0_1 (sM S.le) he15
          obtain ⟨cr72_3,cr72_4,cr72_5,rfl,Fr72_3,Fr72_4,Fr72_5⟩:=rTrans_open Rr72
          refine ⟨e15.Delay,Or72 1 _ rfl,?_⟩
          exact hjj0 _ _  hf  S
         rw [ifF hc] at hf
         exact hjj0 _ _  hf  S
        refine bI (fun hc=>?_) (fun hc=>?_)
        ·rw [ifT hc] at hf
         intro jjj2
         have hjj2:∀ (b16:Bool) (h73:Heap),p36_j2 x0 y12 y13 y10 b16=some q66→h69=h73→St h none' [rowC h.n [a0_0,a0_1] 0] h69→jjj2 b16 h73:=by
          rintro b16 h73 hf rfl S
          unfold p36_j2 at hf
          unfold jjj2
          exact hjj1 _ _  hf rfl S
         refine bI (fun hc=>?_) (fun hc=>?_)
         ·rw [ifD hc] at hf
          exact hjj2 _ _  hf rfl S
         rw [ifE hc] at hf
         refine iI.2 ⟨rfl,?_⟩
         refine ⟨a0_1,S.rd1 m0 rfl,?_⟩
         obtain ⟨e18,he18,hf⟩:=oB hf
         refine ix_go f0_1 (sM S.le) he18 fun pe18=>?_
         refine iI.2 ⟨pe18,?_⟩
         obtain ⟨_,cr74,Rr74,Nr74,Or74,Zr74⟩:=SlR.idx f0_1 (sM S.le) he18
         obtain ⟨cr74_3,cr74_4,cr74_5,rfl,Fr74_3,Fr74_4,Fr74_5⟩:=rTrans_open Rr74
         refine ⟨e18.Delay,Or74 1 _ rfl,?_⟩
         exact hjj2 _ _  hf rfl S
        rw [ifF hc] at hf
        exact hjj1 _ _  hf rfl S
       refine bI (fun hc=>?_) (fun hc=>?_)
       ·rw [ifT hc] at hf
        refine iI.2 ⟨rfl,?_⟩
        refine ⟨a0_1,S.rd1 m0 rfl,?_⟩
        obtain ⟨e20,he20,hf⟩:=oB hf
        refine ix_go f0_1 (sM S.le) he20 fun pe20=>?_
        obtain ⟨_,cr75,Rr75,Nr75,Or75,Zr75⟩:=SlR.idx f0_1 (sM S.le) he20
        obtain ⟨cr75_3,cr75_4,cr75_5,rfl,Fr75_3,Fr75_4,Fr75_5⟩:=rTrans_open Rr75
        refine ⟨(.str e20.Name),(.int .i64 e20.Delay),(.int .i64 e20.Prio),cr75_3,cr75_4,cr75_5,Nr75,?_⟩
        obtain ⟨y21,hy21,hf⟩:=oB hf
        refine ⟨_,Fz.refl _,?_⟩
        refine (r18 (t0:=e20) (place1:=y10) (f0_3:=(SlR.mono (sM S.le) Fr75_3)) (f0_4:=(SlR.mono (sM S.le) Fr75_4)) (f0_5:=(SlR.mono (sM S.le) Fr75_5)) hy21).mono fun v76 h77 T=>?_
        obtain ⟨rfl,T⟩:=T
        have S:St _ _ [_] _:=S.comp T
        refine ⟨y21,rfl,?_⟩
        exact hjj3 _ _  hf  S
       rw [ifF hc] at hf
       exact hjj3 _ _  hf  S
      refine bI (fun hc=>?_) (fun hc=>?_)
      ·rw [ifT hc] at hf
       obtain ⟨e23,he23,hf⟩:=oB hf
       refine ix_go f1_0 (sM S.le) he23 fun pe23=>?_
       obtain ⟨_,cr78,Rr78,Nr78,Or78,Zr78⟩:=SlR.idx f1_0 (sM S.le) he23
       obtain rfl:cr78=[(.int .i64 e23)]:=Rr78
       refine ⟨e23,Zr78 _ rfl,?_⟩
       exact hjj4 _ _  hf rfl S
      rw [ifF hc] at hf
      exact hjj4 _ _  hf rfl S
     refine bI (fun hc=>?_) (fun hc=>?_)
     ·rw [ifT hc] at hf
      obtain ⟨e24,he24,hf⟩:=oB hf
      refine ix_go f2_0 (sM S.le) he24 fun pe24=>?_
      obtain ⟨_,cr79,Rr79,Nr79,Or79,Zr79⟩:=SlR.idx f2_0 (sM S.le) he24
      obtain rfl:cr79=[(.int .i64 e24)]:=Rr79
      refine ⟨e24,Zr79 _ rfl,?_⟩
      exact hjj5 _ _  hf rfl S
     rw [ifF hc] at hf
     exact hjj5 _ _  hf rfl S
    rw [ifE hc] at hf
    obtain rfl:=oi hf
    obtain rfl:=hk
    exact ⟨rfl,rfl,rfl,rfl,rfl,rfl,S,rfl⟩
   exact ⟨rfl,rfl,rfl,rfl,rfl,rfl,S,hL⟩
  rw [ifE hc] at hf
  have S:=S.sel [] rfl
  obtain rfl:=oi hf
  obtain rfl:=hk
  exact ⟨S,rfl⟩
 exact ⟨rfl,rfl,rfl,rfl,rfl,S,hL⟩
def p50_l0 (s0:List TLane) (f1:TLane→Option Bool) (y10:Int):Option (Int⊕(Int⊕Unit)):=if y10 < (s0.length:Int) then ((idx s0 y10).bind fun e11=>(f1 e11).bind fun r12=>if r12=true then (some (.inr (.inl y10))) else (some (.inl (IntKind.wrap .i64 (y10+1))))) else (some (.inr (.inr ())))
def p50 (s0:List TLane) (f1:TLane→Option Bool):Option Int:=(loopC (p50_l0 s0 f1) 0).bind fun res13=>(match res13 with | .inl y14=>some y14 | .inr _=>some ((-1):Int))
theorem r50 {h:Heap} {a0_0:AV} {a1_0:AV} {s0:List TLane} {f1:TLane→Option Bool} (f0_0:SlR rLane (Snap h) a0_0 s0) (f1_0:∀ (h':Heap) (y0:TLane) r,HLe h h'→f1 y0=some r→callW F a1_0 [.agg [.int .i64 y0.From,.int .i64 y0.To,.int .i64 y0.Ahead]] h' fun v h2=>v=.bool r∧St h' none' [] h2) {r:Int} (hf:p50 s0 f1=some r):ZC F 50 [a0_0,a1_0] h fun v h'=>v=.int .i64 r∧St h none' [] h':=by
 refine w50 ?_
 unfold W50
 unfold p50 at hf
 have S:St h none' [] h:=St.refl _ _
 refine iI.2 ⟨(f0_0).is,?_⟩
 try rw [show (a0_0).slen=_ from (f0_0).slen]
 obtain ⟨res13,hL,hf⟩:=oB hf
 obtain ⟨n15,hL⟩:=loopC_iff.1 hL
 refine loopm50_0 (R:=fun (s16:AV) (f17:AV) (y14:Int) (y18:Int) (y19:Int) (h20:Heap)=>St h none' [] h20∧(.inl y14)=res13) (X0:=fun (s21:AV) (f22:AV) (y23:Int) (y24:Int) (y25:Int) (h26:Heap)=>St h none' [] h26∧(.inr ())=res13) ?_ ?_ (loop50_0 (I:=fun (m27:Nat) (s28:AV) (f29:AV) (y30:Int) (y31:Int) (y10:Int) (h32:Heap)=>a0_0=s28∧a1_0=f29∧(s0.length:Int)=y31∧St h none' [] h32∧iter (p50_l0 s0 f1) m27 y10=some res13) ?_ (m:=n15) ?_)
 ·rintro s16 f17 y14 y18 y19 h20 ⟨S,rfl⟩
  try dsimp only at hf
  obtain rfl:=oi hf
  exact ⟨rfl,S.sel [] rfl⟩
 ·rintro s21 f22 y23 y24 y25 h26 ⟨S,rfl⟩
  try dsimp only at hf
  obtain rfl:=oi hf
  exact ⟨rfl,S.sel [] rfl⟩
 ·rintro m33 s28 f29 y30 y31 y10 h32 ⟨rfl,rfl,rfl,S,hit⟩
  obtain ⟨m27,q34,rfl,hf,hk⟩:=iter_some hit
  clear hit
  unfold B50_0
  unfold p50_l0 at hf
  try dsimp only at hf
  refine bI (fun hc=>?_) (fun hc=>?_)
  ·rw [ifD hc] at hf
   obtain ⟨e11,he11,hf⟩:=oB hf
   refine ix_go f0_0 (sM S.le) he11 fun pe11=>?_
   obtain ⟨_,cr35,Rr35,Nr35,Or35,Zr35⟩:=SlR.idx f0_0 (sM S.le) he11
   obtain rfl:=rLane_open Rr35
   refine ⟨(.int .i64 e11.From),(.int .i64 e11.To),(.int .i64 e11.Ahead),Nr35,?_⟩
   obtain ⟨r12,hr12,hf⟩:=oB hf
   refine ⟨_,Fz.refl _,?_⟩
   refine callW_mono (f1_0 _ e11 _ S.le hr12) fun v36 h37 T=>?_
   obtain ⟨rfl,T⟩:=T
   have S:St _ _ [] _:=S.comp T
   refine ⟨r12,rfl,?_⟩
   refine bI (fun hc=>?_) (fun hc=>?_)
   ·rw [ifT hc] at hf
    obtain rfl:=oi hf
    obtain rfl:=hk
    exact ⟨S,rfl⟩
   rw [ifF hc] at hf
   obtain rfl:=oi hf
   exact ⟨m27,Nat.lt_succ_self _,rfl,rfl,rfl,S,hk⟩
  rw [ifE hc] at hf
  obtain rfl:=oi hf
  obtain rfl:=hk
  exact ⟨S,rfl⟩
 exact ⟨rfl,rfl,rfl,S,hL⟩
def p51_j0 (b10:Bool):Option Bool:=some b10
def p51 (x0:TLane) (c1:Int) (c2:Int):Option Bool:=if x0.From=c1 then (p51_j0 (decide (x0.To=c2))) else (p51_j0 false)
theorem r51 {h:Heap} {o1 v1:Nat} {o2 v2:Nat} {x0:TLane} {c1:Int} {c2:Int} (g1:Snap h o1 [(.int .i64 c1)] v1) (g2:Snap h o2 [(.int .i64 c2)] v2) {r:Bool} (hf:p51 x0 c1 c2=some r):ZC F 51 [(.agg [(.int .i64 x0.From),(.int .i64 x0.To),(.int .i64 x0.Ahead)]),(.ptr o1 v1 0),(.ptr o2 v2 0)] h fun v h'=>v=.bool r∧St h none' [] h':=by
 refine w51 ?_
 unfold W51
 unfold p51 at hf
 have S:St h none' [] h:=St.refl _ _
 intro h11
 have S:St _ _ [rowC h.n [(.int .i64 x0.From),(.int .i64 x0.To),(.int .i64 x0.Ahead)] 0] _:=S.pushRow [(.int .i64 x0.From),(.int .i64 x0.To),(.int .i64 x0.Ahead)]
 refine ⟨x0.From,S.rd1 m0 rfl,?_⟩
 refine ⟨c1,snap_rd1 (sM S.le _ _ _ g1) rfl,?_⟩
 intro jjj0
 have hjj0:∀ (b10:Bool) (h12:Heap),p51_j0 b10=some r→h11=h12→St h none' [] h11→jjj0 b10 h12:=by
  rintro b10 h12 hf rfl S
  unfold p51_j0 at hf
  unfold jjj0
  obtain rfl:=oi hf
  exact ⟨rfl,S.sel [] rfl⟩
 refine bI (fun hc=>?_) (fun hc=>?_)
 ·rw [ifD hc] at hf
  refine ⟨x0.To,S.rd1 m0 rfl,?_⟩
  refine ⟨c2,snap_rd1 (sM S.le _ _ _ g2) rfl,?_⟩
  have S:=S.sel [] rfl
  exact hjj0 _ _  hf rfl S
 rw [ifE hc] at hf
 have S:=S.sel [] rfl
 exact hjj0 _ _  hf rfl S
def p37 (l0:List TLane) (from1:Int) (to2:Int):Option Int:=(p50 l0 (fun (y0:TLane)=>p51 y0 from1 to2)).bind fun y10=>some y10
theorem r37 {h:Heap} {a0_0:AV} {l0:List TLane} {from1:Int} {to2:Int} (f0_0:SlR rLane (Snap h) a0_0 l0) {r:Int} (hf:p37 l0 from1 to2=some r):ZC F 37 [a0_0,(.int .i64 from1),(.int .i64 to2)] h fun v h'=>v=.int .i64 r∧St h none' [] h':=by
 refine w37 ?_
 unfold W37
 unfold p37 at hf
 have S:St h none' [] h:=St.refl _ _
 intro h11
 have S:St _ _ [rowC h.n [(.int .i64 from1)] 0] _:=S.pushRow [(.int .i64 from1)]
 intro h12
 have S:St _ _ [rowC h11.n [(.int .i64 to2)] 0,_] _:=S.pushRow [(.int .i64 to2)]
 obtain ⟨y10,hy10,hf⟩:=oB hf
 refine ⟨_,Fz.refl _,?_⟩
 refine (r50 (s0:=l0) (f1:=(fun (y0:TLane)=>p51 y0 from1 to2)) (f0_0:=(SlR.mono (sM S.le) f0_0)) (f1_0:=fun h1 y0 r hl hr=>by show ZC F 51 _ h1 _; exact r51 (g1:=sM hl _ _ _ (S.row m1)) (g2:=sM hl _ _ _ (S.row m0)) hr) hy10).mono fun v13 h14 T=>?_
 obtain ⟨rfl,T⟩:=T
 have S:St _ _ [_,_] _:=S.comp T
 refine ⟨y10,rfl,?_⟩
 obtain rfl:=oi hf
 exact ⟨rfl,S.sel [] rfl⟩
def p11_j0 (y10:Bool) (y11:Int) (y12:Int) (b13:Bool):Option ((Bool×Int×Int)⊕(Unit⊕(Bool×Int))):=if b13=true then (some (.inr (.inl ()))) else (some (.inl (y10,(IntKind.wrap .i64 (y11+1)),(IntKind.wrap .i64 (y12+1)))))
def p11_j1 (y10:Bool) (y11:Int) (y12:Int) (y14:Int) (b15:Bool):Option ((Bool×Int×Int)⊕(Unit⊕(Bool×Int))):=if b15=true then (p11_j0 y10 y11 y12 true) else (p11_j0 y10 y11 y12 (decide (y14 < 1)))
def p11_j2 (y16:(List TLane)) (y17:Int) (y10:Bool) (y11:Int) (y12:Int) (y14:Int) (b18:Bool):Option ((Bool×Int×Int)⊕(Unit⊕(Bool×Int))):=if b18=true then (p11_j1 y10 y11 y12 y14 true) else ((p37 y16 y17 y12).bind fun y19=>p11_j1 y10 y11 y12 y14 (!decide (y19=y11)))
def p11_l0 (y20:TNet) (u21:Int×(List Int)×(List Int)) (y16:(List TLane)) (y17:Int) (st:Bool×Int×Int):Option ((Bool×Int×Int)⊕(Unit⊕(Bool×Int))):=match st with | (y10,y11,y12)=>if y12 < u21.1 then ((p36 y20 u21.2.1 u21.2.2 y17 y12).bind fun y14=>if y14 < 0 then ((p37 y16 y17 y12).bind fun y22=>if (!decide (y22=((-1):Int)))=true then (some (.inr (.inl ()))) else (some (.inl (y10,y11,(IntKind.wrap .i64 (y12+1)))))) else (if (y16.length:Int)≤y11 then (p11_j2 y16 y17 y10 y11 y12 y14 true) else ((idx y16 y11).bind fun e23=>p11_j2 y16 y17 y10 y11 y12 y14 (!((decide (e23.From=y17))&&((decide (e23.To=y12))&&((decide (e23.Ahead=y14))&&true))))))) else (some (.inr (.inr (y10,y11))))
def p11_l1 (y20:TNet) (u21:Int×(List Int)×(List Int)) (y16:(List TLane)) (st:Bool×Int×Int):Option ((Bool×Int×Int)⊕(Unit⊕Int)):=match st with | (y24,y25,y17)=>if y17 < u21.1 then ((loopC (p11_l0 y20 u21 y16 y17) (y24,y25,0)).bind fun res26=>(match res26 with | .inl _=>some (.inr (.inl ())) | .inr (y27,y28)=>some (.inl (y27,y28,(IntKind.wrap .i64 (y17+1)))))) else (some (.inr (.inr y25)))
def p11_j3 (b29:Bool):Option Bool:=some b29
def p11_j4 (b30:Bool):Option Bool:=p11_j3 b30
def p11_j5 (y20:TNet) (u21:Int×(List Int)×(List Int)) (y16:(List TLane)) (y31:Int) (y32:List Int):Option Bool:=if y31=(y16.length:Int) then (if (u21.2.2.length:Int)=0 then (p11_j4 true) else ((p35 y20 (TPart.mk u21.1 u21.2.1 y32)).bind fun y33=>p11_j4 (decide ((y33.length:Int)=0)))) else (p11_j3 false)
def p11_j6 (x0:TDraft) (x1:Int) (x2:List Int) (b34:Bool):Option Bool:=if b34=true then ((p32 ).bind fun y35=>some y35) else ((p17 x0).bind fun y20=>(p34 y20 x1 x2).bind fun u21=>(p35 y20 (TPart.mk u21.1 u21.2.1 u21.2.2)).bind fun y16=>(loopC (p11_l1 y20 u21 y16) (false,0,0)).bind fun res36=>(match res36 with | .inl _=>some false | .inr y31=>if 0 < (u21.2.2.length:Int) then ((idx u21.2.2 0).bind fun e37=>(some (u21.2.2.set (0:Int).toNat u21.1)).bind fun u38=>p11_j5 y20 u21 y16 y31 u38) else (p11_j5 y20 u21 y16 y31 u21.2.2)))
def p11_j7 (x0:TDraft) (x1:Int) (x2:List Int) (b39:Bool):Option Bool:=if b39=true then (p11_j6 x0 x1 x2 true) else (p11_j6 x0 x1 x2 (decide (20 < (x2.length:Int))))
def p11 (x0:TDraft) (x1:Int) (x2:List Int):Option Bool:=(p32 ).bind fun y40=>if (!y40)=true then (p11_j7 x0 x1 x2 true) else ((p33 x0).bind fun y41=>p11_j7 x0 x1 x2 (!y41))
theorem r11 {h:Heap} {a0_0:AV} {a0_1:AV} {a2_0:AV} {x0:TDraft} {x1:Int} {x2:List Int} (f0_0:SlR (rI .u8) (Snap h) a0_0 x0.Tokens) (f0_1:SlR rAct (Snap h) a0_1 x0.Acts) (f2_0:SlR (rI .u8) (Snap h) a2_0 x2) {r:Bool} (hf:p11 x0 x1 x2=some r):ZC F 11 [(.agg [a0_0,a0_1]),(.int .u8 x1),a2_0] h fun v h'=>v=.bool r∧St h none' [] h':=by
 refine w11 ?_
 unfold W11
 unfold p11 at hf
 have S:St h none' [] h:=St.refl _ _
 intro h42
 have S:St _ _ [rowC h.n [a0_0,a0_1] 0] _:=S.pushRow [a0_0,a0_1]
 obtain ⟨y40,hy40,hf⟩:=oB hf
 refine ⟨_,Fz.refl _,?_⟩
 refine (r32  hy40).mono fun v43 h44 T=>?_
 obtain ⟨rfl,T⟩:=T
 have S:St _ _ [_] _:=S.comp T
 refine ⟨y40,rfl,?_⟩
 intro jjj7
 have hjj7:∀ (b39:Bool) (h45:Heap),p11_j7 x0 x1 x2 b39=some r→St h none' [rowC h.n [a0_0,a0_1] 0] h45→jjj7 b39 h45:=by
  rintro b39 h45 hf S
  unfold p11_j7 at hf
  unfold jjj7
  intro jjj6
  have hjj6:∀ (b34:Bool) (h46:Heap),p11_j6 x0 x1 x2 b34=some r→h45=h46→St h none' [rowC h.n [a0_0,a0_1] 0] h45→jjj6 b34 h46:=by
   rintro b34 h46 hf rfl S
   unfold p11_j6 at hf
   unfold jjj6
   refine bI (fun hc=>?_) (fun hc=>?_)
   ·rw [ifT hc] at hf
    obtain ⟨y35,hy35,hf⟩:=oB hf
    refine ⟨_,Fz.refl _,?_⟩
    refine (r32  hy35).mono fun v47 h48 T=>?_
    obtain ⟨rfl,T⟩:=T
    have S:St _ _ [_] _:=S.comp T
    refine ⟨y35,rfl,?_⟩
    obtain rfl:=oi hf
    exact ⟨rfl,S.sel [] rfl⟩
   rw [ifF hc] at hf
   refine ⟨a0_0,a0_1,S.rdN m0 (nl rfl) rfl,?_⟩
   obtain ⟨y20,hy20,hf⟩:=oB hf
   refine ⟨_,Fz.refl _,?_⟩
   refine (r17 (x0:=x0) (f0_0:=(SlR.mono (sM S.le) f0_0)) (f0_1:=(SlR.mono (sM S.le) f0_1)) hy20).frz fun v49 h50 T=>?_
   obtain ⟨c51,rfl,T⟩:=T
   have S:=S.comp T
   obtain ⟨h52,z53,S⟩:=St.freeze S
   refine ⟨h52,z53,?_⟩
   obtain ⟨ay20_0,ay20_1,rfl,Fay20_0,Fay20_1⟩:=rNet_open (S.fzr (.head _))
   have S:=S.drop
   have S:St _ _ [own (fz (rSl rPlace)) [ay20_0] y20.Places,_] _:=S.add (rSl_mk Fay20_0)
   have S:St _ _ [own (fz (rSl rTrans)) [ay20_1] y20.Trans,_,_] _:=S.add (rSl_mk Fay20_1)
   intro h54
   have S:St _ _ [rowC h52.n [.nilSlice,.nilSlice] 0,_,_,_] _:=S.pushRow [.nilSlice,.nilSlice]
   obtain ⟨h55,e56,S⟩:=S.store (off:=0) (n:=2) (x:=(.agg [ay20_0,ay20_1])) (cs':=[ay20_0,ay20_1]) (nl rfl) rfl rfl rfl
   refine ⟨h55,e56,?_⟩
   refine ⟨ay20_0,ay20_1,S.rdN m0 (nl rfl) rfl,?_⟩
   obtain ⟨u21,hu21,hf⟩:=oB hf
   refine ⟨_,Fz.refl _,?_⟩
   refine (r34 (x0:=y20) (x1:=x1) (x2:=x2) (f0_0:=(SlR.mono (frz_snap _) (S.slz (r:=rPlace) m2))) (f0_1:=(SlR.mono (frz_snap _) (S.slz (r:=rTrans) m1))) (f2_0:=(SlR.mono (sM S.le) f2_0)) hu21).mono fun v57 h58 T=>?_
   obtain ⟨w59,w60,rfl,T⟩:=T
   have S:St _ _ [own (oSl (fz (rI .i64))) [w59] u21.2.1,own (oSl (fz (rI .i64))) [w60] u21.2.2,_,_,_,_] _:=S.comp T
   refine oI (.int .i64 u21.1) rfl ⟨u21.1,rfl,?_⟩
   refine oI w59 rfl ?_
   refine oI w60 rfl ?_
   refine ⟨ay20_0,ay20_1,S.rdN m2 (nl rfl) rfl,?_⟩
   refine oI (.agg [(.int .i64 u21.1),w59,w60]) (by simp only [POp.ev,place,sl_cells ((S.sl (r:=(fz (rI .i64))) m0)).is,sl_tup ((S.sl (r:=(fz (rI .i64))) m0)).is,sl_cells ((S.sl (r:=(fz (rI .i64))) m1)).is,sl_tup ((S.sl (r:=(fz (rI .i64))) m1)).is]<;>first | rfl | (simp [AV.cells,AV.isTup,splice]; done) | (simp [AV.cells,AV.isTup,splice]; rfl)) ?_
   obtain ⟨y16,hy16,hf⟩:=oB hf
   refine ⟨_,Fz.refl _,?_⟩
   refine (r35 (n0:=y20) (p1:=(TPart.mk u21.1 u21.2.1 u21.2.2)) (f0_0:=(SlR.mono (frz_snap _) (S.slz (r:=rPlace) m4))) (f0_1:=(SlR.mono (frz_snap _) (S.slz (r:=rTrans) m3))) (f1_1:=(S.sl (r:=(fz (rI .i64))) m0)) (f1_2:=(S.sl (r:=(fz (rI .i64))) m1)) hy16).mono fun v61 h62 T=>?_
   have S:St _ _ [own (oSl (fz rLane)) [v61] y16,_,_,_,_,_,_] _:=S.comp T
   obtain ⟨res36,hL,hf⟩:=oB hf
   obtain ⟨n63,hL⟩:=loopC_iff.1 hL
   have S:=S.sel [3,1,2,0,5,4] rfl
   refine loopm11_1 (R:=fun (y64:Bool) (y65:AV) (y66:Int) (y67:AV) (y68:AV) (y69:AV) (y70:Int) (y71:Int) (h72:Heap)=>false=y64∧St h none' [] h72∧(.inl ())=res36) (X0:=fun (y73:Bool) (y74:AV) (y75:Int) (y76:AV) (y77:AV) (y78:AV) (y31:Int) (y79:Int) (h80:Heap)=>AV.ptr h52.n 0 0=y74∧u21.1=y75∧w59=y76∧w60=y77∧v61=y78∧St h none' [rowC h52.n [ay20_0,ay20_1] 0,own (oSl (fz (rI .i64))) [w59] u21.2.1,own (oSl (fz (rI .i64))) [w60] u21.2.2,own (oSl (fz rLane)) [v61] y16,own (fz (rSl rPlace)) [ay20_0] y20.Places,own (fz (rSl rTrans)) [ay20_1] y20.Trans] h80∧(.inr y31)=res36) ?_ ?_ (loop11_1 (I:=fun (m81:Nat) (y24:Bool) (y82:AV) (y83:Int) (y84:AV) (y85:AV) (y86:AV) (y25:Int) (y17:Int) (h87:Heap)=>AV.ptr h52.n 0 0=y82∧u21.1=y83∧w59=y84∧w60=y85∧v61=y86∧St h none' [rowC h52.n [ay20_0,ay20_1] 0,own (oSl (fz (rI .i64))) [w59] u21.2.1,own (oSl (fz (rI .i64))) [w60] u21.2.2,own (oSl (fz rLane)) [v61] y16,own (fz (rSl rPlace)) [ay20_0] y20.Places,own (fz (rSl rTrans)) [ay20_1] y20.Trans] h87∧iter (p11_l1 y20 u21 y16) m81 (y24,y25,y17)=some res36) ?_ (m:=n63) ?_)
   ·rintro y64 y65 y66 y67 y68 y69 y70 y71 h72 ⟨rfl,S,rfl⟩
    try dsimp only at hf
    obtain rfl:=oi hf
    exact ⟨rfl,S.sel [] rfl⟩
   ·rintro y73 y74 y75 y76 y77 y78 y31 y79 h80 ⟨rfl,rfl,rfl,rfl,rfl,S,rfl⟩
    try dsimp only at hf
    refine iI.2 ⟨((S.sl (r:=(fz (rI .i64))) m2)).is,?_⟩
    try rw [show (w60).slen=_ from ((S.sl (r:=(fz (rI .i64))) m2)).slen]
    intro jjj5
    have hjj5:∀  (h88:Heap) (y32:List Int),p11_j5 y20 u21 y16 y31 y32=some r→St h none' [rowC h52.n [ay20_0,ay20_1] 0,own (oSl (fz (rI .i64))) [w59] u21.2.1,own (oSl (fz (rI .i64))) [w60] y32,own (oSl (fz rLane)) [v61] y16,own (fz (rSl rPlace)) [ay20_0] y20.Places,own (fz (rSl rTrans)) [ay20_1] y20.Trans] h88→jjj5 h88:=by
     rintro h88 y32 hf S
     unfold p11_j5 at hf
     unfold jjj5
     refine iI.2 ⟨((S.sl (r:=(fz rLane)) m3)).is,?_⟩
     try rw [show (v61).slen=_ from ((S.sl (r:=(fz rLane)) m3)).slen]
     intro jjj3
     have hjj3:∀ (b29:Bool) (h89:Heap),p11_j3 b29=some r→St h none' [] h89→jjj3 b29 h89:=by
      rintro b29 h89 hf S
      unfold p11_j3 at hf
      unfold jjj3
      obtain rfl:=oi hf
      exact ⟨rfl,S.sel [] rfl⟩
     refine bI (fun hc=>?_) (fun hc=>?_)
     ·rw [ifD hc] at hf
      refine iI.2 ⟨((S.sl (r:=(fz (rI .i64))) m2)).is,?_⟩
      intro jjj4
      have hjj4:∀ (b30:Bool) (h90:Heap),p11_j4 b30=some r→St h none' [] h90→jjj4 b30 h90:=by
       rintro b30 h90 hf S
       unfold p11_j4 at hf
       unfold jjj4
       exact hjj3 _ _  hf  S
      refine bI (fun hc=>?_) (fun hc=>?_)
      ·rw [ifD hc] at hf
       have S:=S.sel [] rfl
       exact hjj4 _ _  hf  S
      rw [ifE hc] at hf
      refine ⟨ay20_0,ay20_1,S.rdN m0 (nl rfl) rfl,?_⟩
      refine oI (.agg [(.int .i64 u21.1),w59,w60]) (by simp only [POp.ev,place,sl_cells ((S.sl (r:=(fz (rI .i64))) m1)).is,sl_tup ((S.sl (r:=(fz (rI .i64))) m1)).is,sl_cells ((S.sl (r:=(fz (rI .i64))) m2)).is,sl_tup ((S.sl (r:=(fz (rI .i64))) m2)).is]<;>first | rfl | (simp [AV.cells,AV.isTup,splice]; done) | (simp [AV.cells,AV.isTup,splice]; rfl)) ?_
      obtain ⟨y33,hy33,hf⟩:=oB hf
      refine ⟨_,Fz.refl _,?_⟩
      refine (r35 (n0:=y20) (p1:=(TPart.mk u21.1 u21.2.1 y32)) (f0_0:=(SlR.mono (frz_snap _) (S.slz (r:=rPlace) m4))) (f0_1:=(SlR.mono (frz_snap _) (S.slz (r:=rTrans) m5))) (f1_1:=(S.sl (r:=(fz (rI .i64))) m1)) (f1_2:=(S.sl (r:=(fz (rI .i64))) m2)) hy33).mono fun v91 h92 T=>?_
      have S:St _ _ [own (oSl (fz rLane)) [v91] y33,_,_,_,_,_,_] _:=S.comp T
      refine iI.2 ⟨((S.sl (r:=(fz rLane)) m0)).is,?_⟩
      try rw [show (v91).slen=_ from ((S.sl (r:=(fz rLane)) m0)).slen]
      have S:=S.sel [] rfl
      exact hjj4 _ _  hf  S
     rw [ifE hc] at hf
     have S:=S.sel [] rfl
     exact hjj3 _ _  hf  S
    refine bI (fun hc=>?_) (fun hc=>?_)
    ·rw [ifD hc] at hf
     obtain ⟨e37,he37,hf⟩:=oB hf
     refine ix_go (S.sl (r:=(fz (rI .i64))) m2) (Hp.le_refl _) he37 fun pe37=>?_
     obtain ⟨u38,hu38,hf⟩:=oB hf
     have S:=S.sel [2,0,1,3,4,5] rfl
     obtain ⟨h93,e94,S⟩:=St.setE (r:=(rI .i64)) (x':=u21.1) (k:=0) (n:=1) (y:=(.int .i64 u21.1)) S he37 rfl rfl (nl rfl) (by rintro _ h; obtain rfl:=h; exact rfl)
     rw [padd_zero] at e94
     have S:St _ _ [own (oSl (fz (rI .i64))) [w60] u38,_,_,_,_,_] _:=S.cast1 (by rw [← oi hu38]<;>rfl)
     have hqu38:idx u38 0=some u21.1:=oi hu38▸idx_set he37
     refine ⟨h93,e94,?_⟩
     have S:=S.sel [1,2,0,3,4,5] rfl
     exact hjj5  _ u38 hf  S
    rw [ifE hc] at hf
    exact hjj5  _ u21.2.2 hf  S
   ·rintro m95 y24 y82 y83 y84 y85 y86 y25 y17 h87 ⟨rfl,rfl,rfl,rfl,rfl,S,hit⟩
    obtain ⟨m81,q96,rfl,hf,hk⟩:=iter_some hit
    clear hit
    unfold B11_1
    unfold p11_l1 at hf
    try dsimp only at hf
    refine bI (fun hc=>?_) (fun hc=>?_)
    ·rw [ifD hc] at hf
     obtain ⟨res26,hL,hf⟩:=oB hf
     obtain ⟨n97,hL⟩:=loopC_iff.1 hL
     refine loopm11_0 (R:=fun (y98:Bool) (y99:AV) (y100:Int) (y101:AV) (y102:AV) (y103:AV) (y104:Int) (y105:Int) (y106:Int) (h107:Heap)=>false=y98∧St h none' [] h107∧(.inl ())=res26) (X2:=fun (y27:Bool) (y108:AV) (y109:Int) (y110:AV) (y111:AV) (y112:AV) (y28:Int) (y113:Int) (y114:Int) (h115:Heap)=>AV.ptr h52.n 0 0=y108∧u21.1=y109∧w59=y110∧w60=y111∧v61=y112∧y17=y113∧St h none' [rowC h52.n [ay20_0,ay20_1] 0,own (oSl (fz (rI .i64))) [w59] u21.2.1,own (oSl (fz (rI .i64))) [w60] u21.2.2,own (oSl (fz rLane)) [v61] y16,own (fz (rSl rPlace)) [ay20_0] y20.Places,own (fz (rSl rTrans)) [ay20_1] y20.Trans] h115∧(.inr (y27,y28))=res26) ?_ ?_ (loop11_0 (I:=fun (m116:Nat) (y10:Bool) (y117:AV) (y118:Int) (y119:AV) (y120:AV) (y121:AV) (y11:Int) (y122:Int) (y12:Int) (h123:Heap)=>AV.ptr h52.n 0 0=y117∧u21.1=y118∧w59=y119∧w60=y120∧v61=y121∧y17=y122∧St h none' [rowC h52.n [ay20_0,ay20_1] 0,own (oSl (fz (rI .i64))) [w59] u21.2.1,own (oSl (fz (rI .i64))) [w60] u21.2.2,own (oSl (fz rLane)) [v61] y16,own (fz (rSl rPlace)) [ay20_0] y20.Places,own (fz (rSl rTrans)) [ay20_1] y20.Trans] h123∧iter (p11_l0 y20 u21 y16 y17) m116 (y10,y11,y12)=some res26) ?_ (m:=n97) ?_)
     ·rintro y98 y99 y100 y101 y102 y103 y104 y105 y106 h107 ⟨rfl,S,rfl⟩
      try dsimp only at hf
      obtain rfl:=oi hf
      obtain rfl:=hk
      exact ⟨rfl,S,rfl⟩
     ·rintro y27 y108 y109 y110 y111 y112 y28 y113 y114 h115 ⟨rfl,rfl,rfl,rfl,rfl,rfl,S,rfl⟩
      try dsimp only at hf
      obtain rfl:=oi hf
      exact ⟨m81,Nat.lt_succ_self _,rfl,rfl,rfl,rfl,rfl,S,hk⟩
     ·rintro m124 y10 y117 y118 y119 y120 y121 y11 y122 y12 h123 ⟨rfl,rfl,rfl,rfl,rfl,rfl,S,hit⟩
      obtain ⟨m116,q125,rfl,hf,hk⟩:=iter_some hit
      clear hit
      unfold B11_0
      unfold p11_l0 at hf
      try dsimp only at hf
      refine bI (fun hc=>?_) (fun hc=>?_)
      ·rw [ifD hc] at hf
       refine ⟨ay20_0,ay20_1,S.rdN m0 (nl rfl) rfl,?_⟩
       obtain ⟨y14,hy14,hf⟩:=oB hf
       refine ⟨_,Fz.refl _,?_⟩
       refine (r36 (x0:=y20) (x1:=u21.2.1) (x2:=u21.2.2) (x3:=y17) (x4:=y12) (f0_0:=(SlR.mono (frz_snap _) (S.slz (r:=rPlace) m4))) (f0_1:=(SlR.mono (frz_snap _) (S.slz (r:=rTrans) m5))) (f1_0:=(S.sl (r:=(fz (rI .i64))) m1)) (f2_0:=(S.sl (r:=(fz (rI .i64))) m2)) hy14).mono fun v126 h127 T=>?_
       obtain ⟨rfl,T⟩:=T
       have S:St _ _ [_,_,_,_,_,_] _:=S.comp T
       refine ⟨y14,rfl,?_⟩
       refine bI (fun hc=>?_) (fun hc=>?_)
       ·rw [ifD hc] at hf
        obtain ⟨y22,hy22,hf⟩:=oB hf
        refine ⟨_,Fz.refl _,?_⟩
        refine (r37 (l0:=y16) (from1:=y17) (to2:=y12) (f0_0:=(S.sl (r:=(fz rLane)) m3)) hy22).mono fun v128 h129 T=>?_
        obtain ⟨rfl,T⟩:=T
        have S:St _ _ [_,_,_,_,_,_] _:=S.comp T
        refine ⟨y22,rfl,?_⟩
        refine bI (fun hc=>?_) (fun hc=>?_)
        ·rw [ifT hc] at hf
         have S:=S.sel [] rfl
         obtain rfl:=oi hf
         obtain rfl:=hk
         exact ⟨rfl,S,rfl⟩
        rw [ifF hc] at hf
        obtain rfl:=oi hf
        exact ⟨m116,Nat.lt_succ_self _,rfl,rfl,rfl,rfl,rfl,rfl,S,hk⟩
       rw [ifE hc] at hf
       refine iI.2 ⟨((S.sl (r:=(fz rLane)) m3)).is,?_⟩
       try rw [show (v61).slen=_ from ((S.sl (r:=(fz rLane)) m3)).slen]
       intro jjj2
       have hjj2:∀ (b18:Bool) (h130:Heap),p11_j2 y16 y17 y10 y11 y12 y14 b18=some q125→h127=h130→St h none' [rowC h52.n [ay20_0,ay20_1] 0,own (oSl (fz (rI .i64))) [w59] u21.2.1,own (oSl (fz (rI .i64))) [w60] u21.2.2,own (oSl (fz rLane)) [v61] y16,own (fz (rSl rPlace)) [ay20_0] y20.Places,own (fz (rSl rTrans)) [ay20_1] y20.Trans] h127→jjj2 b18 h130:=by
        rintro b18 h130 hf rfl S
        unfold p11_j2 at hf
        unfold jjj2
        intro jjj1
        have hjj1:∀ (b15:Bool) (h131:Heap),p11_j1 y10 y11 y12 y14 b15=some q125→St h none' [rowC h52.n [ay20_0,ay20_1] 0,own (oSl (fz (rI .i64))) [w59] u21.2.1,own (oSl (fz (rI .i64))) [w60] u21.2.2,own (oSl (fz rLane)) [v61] y16,own (fz (rSl rPlace)) [ay20_0] y20.Places,own (fz (rSl rTrans)) [ay20_1] y20.Trans] h131→jjj1 b15 h131:=by
         rintro b15 h131 hf S
         unfold p11_j1 at hf
         unfold jjj1
         intro jjj0
         have hjj0:∀ (b13:Bool) (h132:Heap),p11_j0 y10 y11 y12 b13=some q125→h131=h132→St h none' [rowC h52.n [ay20_0,ay20_1] 0,own (oSl (fz (rI .i64))) [w59] u21.2.1,own (oSl (fz (rI .i64))) [w60] u21.2.2,own (oSl (fz rLane)) [v61] y16,own (fz (rSl rPlace)) [ay20_0] y20.Places,own (fz (rSl rTrans)) [ay20_1] y20.Trans] h131→jjj0 b13 h132:=by
          rintro b13 h132 hf rfl S
          unfold p11_j0 at hf
          unfold jjj0
          refine bI (fun hc=>?_) (fun hc=>?_)
          ·rw [ifT hc] at hf
           have S:=S.sel [] rfl
           obtain rfl:=oi hf
           obtain rfl:=hk
           exact ⟨rfl,S,rfl⟩
          rw [ifF hc] at hf
          obtain rfl:=oi hf
          exact ⟨m116,Nat.lt_succ_self _,rfl,rfl,rfl,rfl,rfl,rfl,S,hk⟩
         refine bI (fun hc=>?_) (fun hc=>?_)
         ·rw [ifT hc] at hf
          exact hjj0 _ _  hf rfl S
         rw [ifF hc] at hf
         exact hjj0 _ _  hf rfl S
        refine bI (fun hc=>?_) (fun hc=>?_)
        ·rw [ifT hc] at hf
         exact hjj1 _ _  hf  S
        rw [ifF hc] at hf
        obtain ⟨y19,hy19,hf⟩:=oB hf
        refine ⟨_,Fz.refl _,?_⟩
        refine (r37 (l0:=y16) (from1:=y17) (to2:=y12) (f0_0:=(S.sl (r:=(fz rLane)) m3)) hy19).mono fun v133 h134 T=>?_
        obtain ⟨rfl,T⟩:=T
        have S:St _ _ [_,_,_,_,_,_] _:=S.comp T
        refine ⟨y19,rfl,?_⟩
        exact hjj1 _ _  hf  S
       refine bI (fun hc=>?_) (fun hc=>?_)
       ·rw [ifD hc] at hf
        exact hjj2 _ _  hf rfl S
       rw [ifE hc] at hf
       obtain ⟨e23,he23,hf⟩:=oB hf
       refine ix_go (S.sl (r:=(fz rLane)) m3) (Hp.le_refl _) he23 fun pe23=>?_
       obtain ⟨_,cr135,Rr135,Nr135,Or135,Zr135⟩:=St.idxO (r:=rLane) S m3 he23
       obtain rfl:=rLane_open Rr135
       refine ⟨(.int .i64 e23.From),(.int .i64 e23.To),(.int .i64 e23.Ahead),Nr135,?_⟩
       refine oI (.bool (!((decide (e23.From=y17))&&((decide (e23.To=y12))&&((decide (e23.Ahead=y14))&&true))))) rfl ⟨(!((decide (e23.From=y17))&&((decide (e23.To=y12))&&((decide (e23.Ahead=y14))&&true)))),rfl,?_⟩
       exact hjj2 _ _  hf rfl S
      rw [ifE hc] at hf
      obtain rfl:=oi hf
      obtain rfl:=hk
      exact ⟨rfl,rfl,rfl,rfl,rfl,rfl,S,rfl⟩
     exact ⟨rfl,rfl,rfl,rfl,rfl,rfl,S,hL⟩
    rw [ifE hc] at hf
    obtain rfl:=oi hf
    obtain rfl:=hk
    exact ⟨rfl,rfl,rfl,rfl,rfl,S,rfl⟩
   exact ⟨rfl,rfl,rfl,rfl,rfl,S,hL⟩
  refine bI (fun hc=>?_) (fun hc=>?_)
  ·rw [ifT hc] at hf
   exact hjj6 _ _  hf rfl S
  rw [ifF hc] at hf
  refine iI.2 ⟨(f2_0).is,?_⟩
  try rw [show (a2_0).slen=_ from (f2_0).slen]
  exact hjj6 _ _  hf rfl S
 refine bI (fun hc=>?_) (fun hc=>?_)
 ·rw [ifT hc] at hf
  exact hjj7 _ _  hf  S
 rw [ifF hc] at hf
 refine ⟨a0_0,a0_1,S.rdN m0 (nl rfl) rfl,?_⟩
 obtain ⟨y41,hy41,hf⟩:=oB hf
 refine ⟨_,Fz.refl _,?_⟩
 refine (r33 (d0:=x0) (f0_0:=(SlR.mono (sM S.le) f0_0)) (f0_1:=(SlR.mono (sM S.le) f0_1)) hy41).mono fun v136 h137 T=>?_
 obtain ⟨rfl,T⟩:=T
 have S:St _ _ [_] _:=S.comp T
 refine ⟨y41,rfl,?_⟩
 exact hjj7 _ _  hf  S
end
end Go.Proofs.Ytgbkpiaonlabgaa
