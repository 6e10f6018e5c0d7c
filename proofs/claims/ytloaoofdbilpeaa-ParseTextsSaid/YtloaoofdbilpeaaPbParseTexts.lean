/- Pure functions, and that the machine's functions answer as they do. No condition. Own work. -/
import Derived.Test.YtloaoofdbilpeaaPaParseTexts
/- Pure functions, and that the machine's functions answer as they do; printed by a program of mine (pm.py). Own work. -/
namespace Go.Proofs.Ytloaoofdbilpeaa
open Go Go.Am
set_option linter.unusedVariables false
set_option linter.unusedSimpArgs false
/-! 27: marblerun/marblerunref05.Text -/
noncomputable def p27_j0 (y10:Int) (y11:List UInt8):Option (((List UInt8)×Int)⊕(List UInt8)):=(catS y11 ([59,10]:List UInt8)).bind fun s12=>some (.inl (s12,(IntKind.wrap .i64 (y10+(1:Int)))))
noncomputable def p27_l0 (x0:TNet) (st:(List UInt8)×Int):Option (((List UInt8)×Int)⊕(List UInt8)):=match st with | (y13,y10)=>if y10 < (x0.Places.length:Int) then ((idx x0.Places y10).bind fun e14=>(catS ([112,108,97,99,101,32]:List UInt8) e14.Name).bind fun s15=>(catS y13 s15).bind fun s16=>(idx x0.Places y10).bind fun e17=>if (!decide (e17.Tokens=(0:Int)))=true then ((idx x0.Places y10).bind fun e18=>(p42 e18.Tokens).bind fun y19=>(catS ([32,61,32]:List UInt8) y19).bind fun s20=>(catS s16 s20).bind fun s21=>p27_j0 y10 s21) else (p27_j0 y10 s16)) else (some (.inr y13))
noncomputable def p27_l1 (x0:TNet) (e22:TTrans) (st:(List UInt8)×(List UInt8)×Int):Option (((List UInt8)×(List UInt8)×Int)⊕((List UInt8)×(List UInt8))):=match st with | (y23,y24,y25)=>if y25 < (e22.In.length:Int) then ((idx e22.In y25).bind fun e26=>(p43 x0 e26).bind fun y27=>(catS y24 y27).bind fun s28=>(catS y23 s28).bind fun s29=>some (.inl (s29,([44,32]:List UInt8),(IntKind.wrap .i64 (y25+(1:Int)))))) else (some (.inr (y23,y24)))
noncomputable def p27_l2 (x0:TNet) (e22:TTrans) (st:(List UInt8)×(List UInt8)×Int):Option (((List UInt8)×(List UInt8)×Int)⊕(List UInt8)):=match st with | (y30,y31,y32)=>if y32 < (e22.Not.length:Int) then ((catS y31 ([126]:List UInt8)).bind fun s33=>(idx e22.Not y32).bind fun e34=>(p43 x0 e34).bind fun y35=>(catS s33 y35).bind fun s36=>(catS y30 s36).bind fun s37=>some (.inl (s37,([44,32]:List UInt8),(IntKind.wrap .i64 (y32+(1:Int)))))) else (some (.inr y30))
noncomputable def p27_l3 (x0:TNet) (e22:TTrans) (st:(List UInt8)×(List UInt8)×Int):Option (((List UInt8)×(List UInt8)×Int)⊕(List UInt8)):=match st with | (y38,y39,y40)=>if y40 < (e22.Out.length:Int) then ((idx e22.Out y40).bind fun e41=>(p43 x0 e41).bind fun y42=>(catS y39 y42).bind fun s43=>(catS y38 s43).bind fun s44=>some (.inl (s44,([44,32]:List UInt8),(IntKind.wrap .i64 (y40+(1:Int)))))) else (some (.inr y38))
noncomputable def p27_j1 (x0:TNet) (y45:Int) (e22:TTrans) (y46:List UInt8):Option (((List UInt8)×Int)⊕(List UInt8)):=(catS y46 ([58]:List UInt8)).bind fun s47=>(loopC (p27_l1 x0 e22) (s47,([32]:List UInt8),(0:Int))).bind fun res48=>(match res48 with | (y49,y50)=>(loopC (p27_l2 x0 e22) (y49,y50,(0:Int))).bind fun res51=>((fun (y52:List UInt8)=>(catS y52 ([32,45,62]:List UInt8)).bind fun s53=>(loopC (p27_l3 x0 e22) (s53,([32]:List UInt8),(0:Int))).bind fun res54=>((fun (y55:List UInt8)=>(catS y55 ([59,10]:List UInt8)).bind fun s56=>some (.inl (s56,(IntKind.wrap .i64 (y45+(1:Int)))))) res54)) res51))
noncomputable def p27_j2 (x0:TNet) (y45:Int) (e22:TTrans) (y57:List UInt8):Option (((List UInt8)×Int)⊕(List UInt8)):=if (!decide (e22.Prio=(0:Int)))=true then ((p42 e22.Prio).bind fun y58=>(catS ([32,33]:List UInt8) y58).bind fun s59=>(catS y57 s59).bind fun s60=>p27_j1 x0 y45 e22 s60) else (p27_j1 x0 y45 e22 y57)
noncomputable def p27_l4 (x0:TNet) (st:(List UInt8)×Int):Option (((List UInt8)×Int)⊕(List UInt8)):=match st with | (y61,y45)=>if y45 < (x0.Trans.length:Int) then ((idx x0.Trans y45).bind fun e22=>(catS ([116,114,97,110,115,32]:List UInt8) e22.Name).bind fun s62=>(catS y61 s62).bind fun s63=>if (!decide (e22.Delay=(0:Int)))=true then ((p42 e22.Delay).bind fun y64=>(catS ([32,64]:List UInt8) y64).bind fun s65=>(catS s63 s65).bind fun s66=>p27_j2 x0 y45 e22 s66) else (p27_j2 x0 y45 e22 s63)) else (some (.inr y61))
noncomputable def p27 (x0:TNet):Option (List UInt8):=(loopC (p27_l0 x0) (([]:List UInt8),(0:Int))).bind fun res67=>((fun (y68:List UInt8)=>(loopC (p27_l4 x0) (y68,(0:Int))).bind fun res69=>((fun (y70:List UInt8)=>some y70) res69)) res67)
theorem r27 {h:Heap} {a0_0:AV} {a0_1:AV} {x0:TNet} (f0_0:SlR rPlace (Snap h) a0_0 x0.Places) (f0_1:SlR rTrans (Snap h) a0_1 x0.Trans) {r:(List UInt8)} (hf:p27 x0=some r):ZCalls F 27 [(.agg [a0_0,a0_1])] h fun v h'=>v=.str r∧St h none' [] h':=by
 refine w27 ?_
 unfold W27
 unfold p27 at hf
 have S:St h none' [] h:=St.refl _ _
 intro h71
 have S:St _ _ [rowC h.n [a0_0,a0_1] 0] _:=S.pushRow [a0_0,a0_1]
 obtain ⟨res67,hL,hf⟩:=obind hf
 obtain ⟨n72,hL⟩:=loopC_iff.1 hL
 refine loopm27_0 (X0:=fun (y73:AV) (y68:List UInt8) (y74:Int) (h75:Heap)=>AV.ptr h.n 0 0=y73∧St h none' [rowC h.n [a0_0,a0_1] 0] h75∧y68=res67) ?_ (loop27_0 (I:=fun (m76:Nat) (y77:AV) (y13:List UInt8) (y10:Int) (h78:Heap)=>AV.ptr h.n 0 0=y77∧St h none' [rowC h.n [a0_0,a0_1] 0] h78∧iter (p27_l0 x0) m76 (y13,y10)=some res67) ?_ (m:=n72) ?_)
 ·rintro y73 y68 y74 h75 ⟨rfl,S,rfl⟩
  try dsimp only at hf
  obtain ⟨res69,hL,hf⟩:=obind hf
  obtain ⟨n79,hL⟩:=loopC_iff.1 hL
  refine loopm27_4 (X2:=fun (y80:AV) (y70:List UInt8) (y81:Int) (h82:Heap)=>St h none' [] h82∧y70=res69) ?_ (loop27_4 (I:=fun (m83:Nat) (y84:AV) (y61:List UInt8) (y45:Int) (h85:Heap)=>AV.ptr h.n 0 0=y84∧St h none' [rowC h.n [a0_0,a0_1] 0] h85∧iter (p27_l4 x0) m83 (y61,y45)=some res69) ?_ (m:=n79) ?_)
  ·rintro y80 y70 y81 h82 ⟨S,rfl⟩
   try dsimp only at hf
   obtain rfl:=oi hf
   exact ⟨rfl,S.sel [] rfl⟩
  ·rintro m86 y84 y61 y45 h85 ⟨rfl,S,hit⟩
   obtain ⟨m83,q87,rfl,hf,hk⟩:=iter_some hit
   clear hit
   unfold B27_4
   unfold p27_l4 at hf
   try dsimp only at hf
   refine ifP_iff.2 ⟨rfl,?_⟩
   refine ⟨a0_1,S.rd1 m0 rfl,?_⟩
   refine ifP_iff.2 ⟨(f0_1).is,?_⟩
   try rw [show (a0_1).slen=_ from (f0_1).slen]
   refine bP_intro (fun hc=>?_) (fun hc=>?_)
   ·rw [ifD hc] at hf
    refine ifP_iff.2 ⟨rfl,?_⟩
    refine ⟨a0_1,S.rd1 m0 rfl,?_⟩
    obtain ⟨e22,he22,hf⟩:=obind hf
    refine ix_go f0_1 (snap_mono S.le) he22 fun pe22=>?_
    obtain ⟨_,cr88,Rr88,Nr88,Or88,Zr88⟩:=SlR.idx f0_1 (snap_mono S.le) he22
    obtain ⟨cr88_3,cr88_4,cr88_5,rfl,Fr88_3,Fr88_4,Fr88_5⟩:=rTrans_open Rr88
    refine ⟨(.str e22.Name),(.int .i64 e22.Delay),(.int .i64 e22.Prio),cr88_3,cr88_4,cr88_5,Nr88,?_⟩
    intro h89
    have S:St _ _ [rowC h85.n [(.str ([]:List UInt8)),(.int .i64 0),(.int .i64 0),.nilSlice,.nilSlice,.nilSlice] 0,_] _:=S.pushRow [(.str ([]:List UInt8)),(.int .i64 0),(.int .i64 0),.nilSlice,.nilSlice,.nilSlice]
    obtain ⟨h90,e91,S⟩:=S.store (off:=0) (n:=6) (x:=(.agg [(.str e22.Name),(.int .i64 e22.Delay),(.int .i64 e22.Prio),cr88_3,cr88_4,cr88_5])) (cs':=[(.str e22.Name),(.int .i64 e22.Delay),(.int .i64 e22.Prio),cr88_3,cr88_4,cr88_5]) (nl rfl) rfl rfl rfl
    refine ⟨h90,e91,?_⟩
    refine ⟨e22.Name,S.rd1 m0 rfl,?_⟩
    obtain ⟨s62,hs62,hf⟩:=obind hf
    refine oP_intro (.str s62) (catS_ev hs62) ⟨s62,rfl,?_⟩
    obtain ⟨s63,hs63,hf⟩:=obind hf
    refine oP_intro (.str s63) (catS_ev hs63) ⟨s63,rfl,?_⟩
    refine ⟨e22.Delay,S.rd1 m0 rfl,?_⟩
    intro jjj2
    have hjj2:∀ (y57:List UInt8) (h92:Heap),p27_j2 x0 y45 e22 y57=some q87→St h none' [rowC h.n [a0_0,a0_1] 0,rowC h85.n [(.str e22.Name),(.int .i64 e22.Delay),(.int .i64 e22.Prio),cr88_3,cr88_4,cr88_5] 0] h92→jjj2 y57 h92:=by
     rintro y57 h92 hf S
     unfold p27_j2 at hf
     unfold jjj2
     refine ifP_iff.2 ⟨rfl,?_⟩
     refine ⟨e22.Prio,S.rd1 m1 rfl,?_⟩
     intro jjj1
     have hjj1:∀ (y46:List UInt8) (h93:Heap),p27_j1 x0 y45 e22 y46=some q87→St h none' [rowC h.n [a0_0,a0_1] 0,rowC h85.n [(.str e22.Name),(.int .i64 e22.Delay),(.int .i64 e22.Prio),cr88_3,cr88_4,cr88_5] 0] h93→jjj1 y46 h93:=by
      rintro y46 h93 hf S
      unfold p27_j1 at hf
      unfold jjj1
      obtain ⟨s47,hs47,hf⟩:=obind hf
      refine oP_intro (.str s47) (catS_ev hs47) ⟨s47,rfl,?_⟩
      obtain ⟨res48,hL,hf⟩:=obind hf
      obtain ⟨n94,hL⟩:=loopC_iff.1 hL
      refine loopm27_1 (X4:=fun (y95:AV) (y49:List UInt8) (y96:Int) (y97:AV) (y50:List UInt8) (y98:Int) (h99:Heap)=>AV.ptr h.n 0 0=y95∧y45=y96∧AV.ptr h85.n 0 0=y97∧St h none' [rowC h.n [a0_0,a0_1] 0,rowC h85.n [(.str e22.Name),(.int .i64 e22.Delay),(.int .i64 e22.Prio),cr88_3,cr88_4,cr88_5] 0] h99∧(y49,y50)=res48) ?_ (loop27_1 (I:=fun (m100:Nat) (y101:AV) (y23:List UInt8) (y102:Int) (y103:AV) (y24:List UInt8) (y25:Int) (h104:Heap)=>AV.ptr h.n 0 0=y101∧y45=y102∧AV.ptr h85.n 0 0=y103∧St h none' [rowC h.n [a0_0,a0_1] 0,rowC h85.n [(.str e22.Name),(.int .i64 e22.Delay),(.int .i64 e22.Prio),cr88_3,cr88_4,cr88_5] 0] h104∧iter (p27_l1 x0 e22) m100 (y23,y24,y25)=some res48) ?_ (m:=n94) ?_)
      ·rintro y95 y49 y96 y97 y50 y98 h99 ⟨rfl,rfl,rfl,S,rfl⟩
       try dsimp only at hf
       obtain ⟨res51,hL,hf⟩:=obind hf
       obtain ⟨n105,hL⟩:=loopC_iff.1 hL
       refine loopm27_2 (X6:=fun (y106:AV) (y52:List UInt8) (y107:Int) (y108:AV) (y109:List UInt8) (y110:Int) (h111:Heap)=>AV.ptr h.n 0 0=y106∧y45=y107∧AV.ptr h85.n 0 0=y108∧St h none' [rowC h.n [a0_0,a0_1] 0,rowC h85.n [(.str e22.Name),(.int .i64 e22.Delay),(.int .i64 e22.Prio),cr88_3,cr88_4,cr88_5] 0] h111∧y52=res51) ?_ (loop27_2 (I:=fun (m112:Nat) (y113:AV) (y30:List UInt8) (y114:Int) (y115:AV) (y31:List UInt8) (y32:Int) (h116:Heap)=>AV.ptr h.n 0 0=y113∧y45=y114∧AV.ptr h85.n 0 0=y115∧St h none' [rowC h.n [a0_0,a0_1] 0,rowC h85.n [(.str e22.Name),(.int .i64 e22.Delay),(.int .i64 e22.Prio),cr88_3,cr88_4,cr88_5] 0] h116∧iter (p27_l2 x0 e22) m112 (y30,y31,y32)=some res51) ?_ (m:=n105) ?_)
       ·rintro y106 y52 y107 y108 y109 y110 h111 ⟨rfl,rfl,rfl,S,rfl⟩
        try dsimp only at hf
        obtain ⟨s53,hs53,hf⟩:=obind hf
        refine oP_intro (.str s53) (catS_ev hs53) ⟨s53,rfl,?_⟩
        obtain ⟨res54,hL,hf⟩:=obind hf
        obtain ⟨n117,hL⟩:=loopC_iff.1 hL
        refine loopm27_3 (X8:=fun (y118:AV) (y55:List UInt8) (y119:Int) (y120:AV) (y121:List UInt8) (y122:Int) (h123:Heap)=>AV.ptr h.n 0 0=y118∧y45=y119∧St h none' [rowC h.n [a0_0,a0_1] 0] h123∧y55=res54) ?_ (loop27_3 (I:=fun (m124:Nat) (y125:AV) (y38:List UInt8) (y126:Int) (y127:AV) (y39:List UInt8) (y40:Int) (h128:Heap)=>AV.ptr h.n 0 0=y125∧y45=y126∧AV.ptr h85.n 0 0=y127∧St h none' [rowC h.n [a0_0,a0_1] 0,rowC h85.n [(.str e22.Name),(.int .i64 e22.Delay),(.int .i64 e22.Prio),cr88_3,cr88_4,cr88_5] 0] h128∧iter (p27_l3 x0 e22) m124 (y38,y39,y40)=some res54) ?_ (m:=n117) ?_)
        ·rintro y118 y55 y119 y120 y121 y122 h123 ⟨rfl,rfl,S,rfl⟩
         try dsimp only at hf
         obtain ⟨s56,hs56,hf⟩:=obind hf
         refine oP_intro (.str s56) (catS_ev hs56) ⟨s56,rfl,?_⟩
         obtain rfl:=oi hf
         exact ⟨m83,Nat.lt_succ_self _,rfl,S,hk⟩
        ·rintro m129 y125 y38 y126 y127 y39 y40 h128 ⟨rfl,rfl,rfl,S,hit⟩
         obtain ⟨m124,q130,rfl,hf,hk⟩:=iter_some hit
         clear hit
         unfold B27_3
         unfold p27_l3 at hf
         try dsimp only at hf
         refine ifP_iff.2 ⟨rfl,?_⟩
         refine ⟨cr88_5,S.rd1 m1 rfl,?_⟩
         refine ifP_iff.2 ⟨(Fr88_5).is,?_⟩
         try rw [show (cr88_5).slen=_ from (Fr88_5).slen]
         refine bP_intro (fun hc=>?_) (fun hc=>?_)
         ·rw [ifD hc] at hf
          refine ⟨a0_0,a0_1,S.rdN m0 (nl rfl) rfl,?_⟩
          refine ifP_iff.2 ⟨rfl,?_⟩
          refine ⟨cr88_5,S.rd1 m1 rfl,?_⟩
          obtain ⟨e41,he41,hf⟩:=obind hf
          refine ix_go Fr88_5 (snap_mono S.le) he41 fun pe41=>?_
          obtain ⟨_,cr131,Rr131,Nr131,Or131,Zr131⟩:=SlR.idx Fr88_5 (snap_mono S.le) he41
          obtain rfl:=rArc_open Rr131
          refine ⟨(.int .i64 e41.Place),(.int .i64 e41.N),Nr131,?_⟩
          obtain ⟨y42,hy42,hf⟩:=obind hf
          refine ⟨_,Fz.refl _,?_⟩
          refine (r43 (n0:=x0) (a1:=e41) (f0_0:=(SlR.mono (snap_mono S.le) f0_0)) (f0_1:=(SlR.mono (snap_mono S.le) f0_1)) hy42).mono fun v132 h133 T=>?_
          obtain ⟨rfl,T⟩:=T
          have S:St _ _ [_,_] _:=S.comp T
          refine ⟨y42,rfl,?_⟩
          obtain ⟨s43,hs43,hf⟩:=obind hf
          refine oP_intro (.str s43) (catS_ev hs43) ⟨s43,rfl,?_⟩
          obtain ⟨s44,hs44,hf⟩:=obind hf
          refine oP_intro (.str s44) (catS_ev hs44) ⟨s44,rfl,?_⟩
          obtain rfl:=oi hf
          exact ⟨m124,Nat.lt_succ_self _,rfl,rfl,rfl,S,hk⟩
         ·rw [ifE hc] at hf
          have S:=S.sel [0] rfl
          obtain rfl:=oi hf
          obtain rfl:=hk
          exact ⟨rfl,rfl,S,rfl⟩
        ·exact ⟨rfl,rfl,rfl,S,hL⟩
       ·rintro m134 y113 y30 y114 y115 y31 y32 h116 ⟨rfl,rfl,rfl,S,hit⟩
        obtain ⟨m112,q135,rfl,hf,hk⟩:=iter_some hit
        clear hit
        unfold B27_2
        unfold p27_l2 at hf
        try dsimp only at hf
        refine ifP_iff.2 ⟨rfl,?_⟩
        refine ⟨cr88_4,S.rd1 m1 rfl,?_⟩
        refine ifP_iff.2 ⟨(Fr88_4).is,?_⟩
        try rw [show (cr88_4).slen=_ from (Fr88_4).slen]
        refine bP_intro (fun hc=>?_) (fun hc=>?_)
        ·rw [ifD hc] at hf
         obtain ⟨s33,hs33,hf⟩:=obind hf
         refine oP_intro (.str s33) (catS_ev hs33) ⟨s33,rfl,?_⟩
         refine ⟨a0_0,a0_1,S.rdN m0 (nl rfl) rfl,?_⟩
         refine ifP_iff.2 ⟨rfl,?_⟩
         refine ⟨cr88_4,S.rd1 m1 rfl,?_⟩
         obtain ⟨e34,he34,hf⟩:=obind hf
         refine ix_go Fr88_4 (snap_mono S.le) he34 fun pe34=>?_
         obtain ⟨_,cr136,Rr136,Nr136,Or136,Zr136⟩:=SlR.idx Fr88_4 (snap_mono S.le) he34
         obtain rfl:=rArc_open Rr136
         refine ⟨(.int .i64 e34.Place),(.int .i64 e34.N),Nr136,?_⟩
         obtain ⟨y35,hy35,hf⟩:=obind hf
         refine ⟨_,Fz.refl _,?_⟩
         refine (r43 (n0:=x0) (a1:=e34) (f0_0:=(SlR.mono (snap_mono S.le) f0_0)) (f0_1:=(SlR.mono (snap_mono S.le) f0_1)) hy35).mono fun v137 h138 T=>?_
         obtain ⟨rfl,T⟩:=T
         have S:St _ _ [_,_] _:=S.comp T
         refine ⟨y35,rfl,?_⟩
         obtain ⟨s36,hs36,hf⟩:=obind hf
         refine oP_intro (.str s36) (catS_ev hs36) ⟨s36,rfl,?_⟩
         obtain ⟨s37,hs37,hf⟩:=obind hf
         refine oP_intro (.str s37) (catS_ev hs37) ⟨s37,rfl,?_⟩
         obtain rfl:=oi hf
         exact ⟨m112,Nat.lt_succ_self _,rfl,rfl,rfl,S,hk⟩
        ·rw [ifE hc] at hf
         obtain rfl:=oi hf
         obtain rfl:=hk
         exact ⟨rfl,rfl,rfl,S,rfl⟩
       ·exact ⟨rfl,rfl,rfl,S,hL⟩
      ·rintro m139 y101 y23 y102 y103 y24 y25 h104 ⟨rfl,rfl,rfl,S,hit⟩
       obtain ⟨m100,q140,rfl,hf,hk⟩:=iter_some hit
       clear hit
       unfold B27_1
       unfold p27_l1 at hf
       try dsimp only at hf
       refine ifP_iff.2 ⟨rfl,?_⟩
       refine ⟨cr88_3,S.rd1 m1 rfl,?_⟩
       refine ifP_iff.2 ⟨(Fr88_3).is,?_⟩
       try rw [show (cr88_3).slen=_ from (Fr88_3).slen]
       refine bP_intro (fun hc=>?_) (fun hc=>?_)
       ·rw [ifD hc] at hf
        refine ⟨a0_0,a0_1,S.rdN m0 (nl rfl) rfl,?_⟩
        refine ifP_iff.2 ⟨rfl,?_⟩
        refine ⟨cr88_3,S.rd1 m1 rfl,?_⟩
        obtain ⟨e26,he26,hf⟩:=obind hf
        refine ix_go Fr88_3 (snap_mono S.le) he26 fun pe26=>?_
        obtain ⟨_,cr141,Rr141,Nr141,Or141,Zr141⟩:=SlR.idx Fr88_3 (snap_mono S.le) he26
        obtain rfl:=rArc_open Rr141
        refine ⟨(.int .i64 e26.Place),(.int .i64 e26.N),Nr141,?_⟩
        obtain ⟨y27,hy27,hf⟩:=obind hf
        refine ⟨_,Fz.refl _,?_⟩
        refine (r43 (n0:=x0) (a1:=e26) (f0_0:=(SlR.mono (snap_mono S.le) f0_0)) (f0_1:=(SlR.mono (snap_mono S.le) f0_1)) hy27).mono fun v142 h143 T=>?_
        obtain ⟨rfl,T⟩:=T
        have S:St _ _ [_,_] _:=S.comp T
        refine ⟨y27,rfl,?_⟩
        obtain ⟨s28,hs28,hf⟩:=obind hf
        refine oP_intro (.str s28) (catS_ev hs28) ⟨s28,rfl,?_⟩
        obtain ⟨s29,hs29,hf⟩:=obind hf
        refine oP_intro (.str s29) (catS_ev hs29) ⟨s29,rfl,?_⟩
        obtain rfl:=oi hf
        exact ⟨m100,Nat.lt_succ_self _,rfl,rfl,rfl,S,hk⟩
       ·rw [ifE hc] at hf
        obtain rfl:=oi hf
        obtain rfl:=hk
        exact ⟨rfl,rfl,rfl,S,rfl⟩
      ·exact ⟨rfl,rfl,rfl,S,hL⟩
     refine bP_intro (fun hc=>?_) (fun hc=>?_)
     ·rw [ifT hc] at hf
      refine ifP_iff.2 ⟨rfl,?_⟩
      refine ⟨e22.Prio,S.rd1 m1 rfl,?_⟩
      obtain ⟨y58,hy58,hf⟩:=obind hf
      refine ⟨_,Fz.refl _,?_⟩
      refine (r42 (n0:=e22.Prio) hy58).mono fun v144 h145 T=>?_
      obtain ⟨rfl,T⟩:=T
      have S:St _ _ [_,_] _:=S.comp T
      refine ⟨y58,rfl,?_⟩
      obtain ⟨s59,hs59,hf⟩:=obind hf
      refine oP_intro (.str s59) (catS_ev hs59) ⟨s59,rfl,?_⟩
      obtain ⟨s60,hs60,hf⟩:=obind hf
      refine oP_intro (.str s60) (catS_ev hs60) ⟨s60,rfl,?_⟩
      exact hjj1 _ _  hf  S
     ·rw [ifF hc] at hf
      exact hjj1 _ _  hf  S
    refine bP_intro (fun hc=>?_) (fun hc=>?_)
    ·rw [ifT hc] at hf
     refine ⟨e22.Delay,S.rd1 m0 rfl,?_⟩
     obtain ⟨y64,hy64,hf⟩:=obind hf
     refine ⟨_,Fz.refl _,?_⟩
     refine (r42 (n0:=e22.Delay) hy64).mono fun v146 h147 T=>?_
     obtain ⟨rfl,T⟩:=T
     have S:St _ _ [_,_] _:=S.comp T
     refine ⟨y64,rfl,?_⟩
     obtain ⟨s65,hs65,hf⟩:=obind hf
     refine oP_intro (.str s65) (catS_ev hs65) ⟨s65,rfl,?_⟩
     obtain ⟨s66,hs66,hf⟩:=obind hf
     refine oP_intro (.str s66) (catS_ev hs66) ⟨s66,rfl,?_⟩
     have S:=S.sel [1,0] rfl
     exact hjj2 _ _  hf  S
    ·rw [ifF hc] at hf
     have S:=S.sel [1,0] rfl
     exact hjj2 _ _  hf  S
   ·rw [ifE hc] at hf
    have S:=S.sel [] rfl
    obtain rfl:=oi hf
    obtain rfl:=hk
    exact ⟨S,rfl⟩
  ·exact ⟨rfl,S,hL⟩
 ·rintro m148 y77 y13 y10 h78 ⟨rfl,S,hit⟩
  obtain ⟨m76,q149,rfl,hf,hk⟩:=iter_some hit
  clear hit
  unfold B27_0
  unfold p27_l0 at hf
  try dsimp only at hf
  refine ifP_iff.2 ⟨rfl,?_⟩
  refine ⟨a0_0,S.rd1 m0 rfl,?_⟩
  refine ifP_iff.2 ⟨(f0_0).is,?_⟩
  try rw [show (a0_0).slen=_ from (f0_0).slen]
  refine bP_intro (fun hc=>?_) (fun hc=>?_)
  ·rw [ifD hc] at hf
   refine ifP_iff.2 ⟨rfl,?_⟩
   refine ⟨a0_0,S.rd1 m0 rfl,?_⟩
   obtain ⟨e14,he14,hf⟩:=obind hf
   refine ix_go f0_0 (snap_mono S.le) he14 fun pe14=>?_
   refine ifP_iff.2 ⟨pe14,?_⟩
   obtain ⟨_,cr150,Rr150,Nr150,Or150,Zr150⟩:=SlR.idx f0_0 (snap_mono S.le) he14
   obtain rfl:=rPlace_open Rr150
   refine ⟨e14.Name,Or150 0 _ rfl,?_⟩
   obtain ⟨s15,hs15,hf⟩:=obind hf
   refine oP_intro (.str s15) (catS_ev hs15) ⟨s15,rfl,?_⟩
   obtain ⟨s16,hs16,hf⟩:=obind hf
   refine oP_intro (.str s16) (catS_ev hs16) ⟨s16,rfl,?_⟩
   refine ifP_iff.2 ⟨rfl,?_⟩
   refine ⟨a0_0,S.rd1 m0 rfl,?_⟩
   obtain ⟨e17,he17,hf⟩:=obind hf
   refine ix_go f0_0 (snap_mono S.le) he17 fun pe17=>?_
   refine ifP_iff.2 ⟨pe17,?_⟩
   obtain ⟨_,cr151,Rr151,Nr151,Or151,Zr151⟩:=SlR.idx f0_0 (snap_mono S.le) he17
   obtain rfl:=rPlace_open Rr151
   refine ⟨e17.Tokens,Or151 1 _ rfl,?_⟩
   intro jjj0
   have hjj0:∀ (y11:List UInt8) (h152:Heap),p27_j0 y10 y11=some q149→St h none' [rowC h.n [a0_0,a0_1] 0] h152→jjj0 y11 h152:=by
    rintro y11 h152 hf S
    unfold p27_j0 at hf
    unfold jjj0
    obtain ⟨s12,hs12,hf⟩:=obind hf
    refine oP_intro (.str s12) (catS_ev hs12) ⟨s12,rfl,?_⟩
    obtain rfl:=oi hf
    exact ⟨m76,Nat.lt_succ_self _,rfl,S,hk⟩
   refine bP_intro (fun hc=>?_) (fun hc=>?_)
   ·rw [ifT hc] at hf
    refine ifP_iff.2 ⟨rfl,?_⟩
    refine ⟨a0_0,S.rd1 m0 rfl,?_⟩
    obtain ⟨e18,he18,hf⟩:=obind hf
    refine ix_go f0_0 (snap_mono S.le) he18 fun pe18=>?_
    refine ifP_iff.2 ⟨pe18,?_⟩
    obtain ⟨_,cr153,Rr153,Nr153,Or153,Zr153⟩:=SlR.idx f0_0 (snap_mono S.le) he18
    obtain rfl:=rPlace_open Rr153
    refine ⟨e18.Tokens,Or153 1 _ rfl,?_⟩
    obtain ⟨y19,hy19,hf⟩:=obind hf
    refine ⟨_,Fz.refl _,?_⟩
    refine (r42 (n0:=e18.Tokens) hy19).mono fun v154 h155 T=>?_
    obtain ⟨rfl,T⟩:=T
    have S:St _ _ [_] _:=S.comp T
    refine ⟨y19,rfl,?_⟩
    obtain ⟨s20,hs20,hf⟩:=obind hf
    refine oP_intro (.str s20) (catS_ev hs20) ⟨s20,rfl,?_⟩
    obtain ⟨s21,hs21,hf⟩:=obind hf
    refine oP_intro (.str s21) (catS_ev hs21) ⟨s21,rfl,?_⟩
    exact hjj0 _ _  hf  S
   ·rw [ifF hc] at hf
    exact hjj0 _ _  hf  S
  ·rw [ifE hc] at hf
   obtain rfl:=oi hf
   obtain rfl:=hk
   exact ⟨rfl,S,rfl⟩
 ·exact ⟨rfl,S,hL⟩
/-! 25: marblerun/marblerunlaw06.awake -/
noncomputable def p25_j0 (b10:Bool):Option Bool:=some b10
noncomputable def p25_j1 (u11:TNet×TFault) (b12:Bool):Option Bool:=if b12=true then ((idx u11.1.Trans (0:Int)).bind fun e13=>p25_j0 (decide (e13.Delay=(2:Int)))) else (p25_j0 false)
noncomputable def p25_j2 (u11:TNet×TFault) (b14:Bool):Option Bool:=if b14=true then (p25_j1 u11 (decide ((u11.1.Trans.length:Int)=(1:Int)))) else (p25_j1 u11 false)
noncomputable def p25:Option Bool:=(p26 [(112:Int),(108:Int),(97:Int),(99:Int),(101:Int),(32:Int),(112:Int),(32:Int),(61:Int),(32:Int),(49:Int),(59:Int),(32:Int),(116:Int),(114:Int),(97:Int),(110:Int),(115:Int),(32:Int),(116:Int),(32:Int),(64:Int),(50:Int),(58:Int),(32:Int),(112:Int),(32:Int),(45:Int),(62:Int),(32:Int),(112:Int),(59:Int)]).bind fun u11=>if ((decide (u11.2.Err=(0:Int)))&&((decide (u11.2.At=(0:Int)))&&((decide (u11.2.Line=(0:Int)))&&((decide (u11.2.Col=(0:Int)))&&true))))=true then (p25_j2 u11 (decide ((u11.1.Places.length:Int)=(1:Int)))) else (p25_j2 u11 false)
theorem r25 {h:Heap}   {r:Bool} (hf:p25  = some r):ZCalls F 25 [] h fun v h'=>v=.bool r∧St h none' [] h':=by
 refine w25 ?_
 unfold W25
 unfold p25 at hf
 have S:St h none' [] h:=St.refl _ _
 intro h15
 have S:St _ _ [rowC h.n [(.int .u8 112),(.int .u8 108),(.int .u8 97),(.int .u8 99),(.int .u8 101),(.int .u8 32),(.int .u8 112),(.int .u8 32),(.int .u8 61),(.int .u8 32),(.int .u8 49),(.int .u8 59),(.int .u8 32),(.int .u8 116),(.int .u8 114),(.int .u8 97),(.int .u8 110),(.int .u8 115),(.int .u8 32),(.int .u8 116),(.int .u8 32),(.int .u8 64),(.int .u8 50),(.int .u8 58),(.int .u8 32),(.int .u8 112),(.int .u8 32),(.int .u8 45),(.int .u8 62),(.int .u8 32),(.int .u8 112),(.int .u8 59)] 0] _:=S.pushRow [(.int .u8 112),(.int .u8 108),(.int .u8 97),(.int .u8 99),(.int .u8 101),(.int .u8 32),(.int .u8 112),(.int .u8 32),(.int .u8 61),(.int .u8 32),(.int .u8 49),(.int .u8 59),(.int .u8 32),(.int .u8 116),(.int .u8 114),(.int .u8 97),(.int .u8 110),(.int .u8 115),(.int .u8 32),(.int .u8 116),(.int .u8 32),(.int .u8 64),(.int .u8 50),(.int .u8 58),(.int .u8 32),(.int .u8 112),(.int .u8 32),(.int .u8 45),(.int .u8 62),(.int .u8 32),(.int .u8 112),(.int .u8 59)]
 have S:St _ _ [own (oSl (fz (rI .u8))) [(.slice h.n 0 0 32 1)] [(112:Int),(108:Int),(97:Int),(99:Int),(101:Int),(32:Int),(112:Int),(32:Int),(61:Int),(32:Int),(49:Int),(59:Int),(32:Int),(116:Int),(114:Int),(97:Int),(110:Int),(115:Int),(32:Int),(116:Int),(32:Int),(64:Int),(50:Int),(58:Int),(32:Int),(112:Int),(32:Int),(45:Int),(62:Int),(32:Int),(112:Int),(59:Int)]] _:=St.lit (r:=(rI .u8)) (els:=([(112:Int),(108:Int),(97:Int),(99:Int),(101:Int),(32:Int),(112:Int),(32:Int),(61:Int),(32:Int),(49:Int),(59:Int),(32:Int),(116:Int),(114:Int),(97:Int),(110:Int),(115:Int),(32:Int),(116:Int),(32:Int),(64:Int),(50:Int),(58:Int),(32:Int),(112:Int),(32:Int),(45:Int),(62:Int),(32:Int),(112:Int),(59:Int)]:List Int).map fun n=>[AV.int .u8 n]) (l:=([(112:Int),(108:Int),(97:Int),(99:Int),(101:Int),(32:Int),(112:Int),(32:Int),(61:Int),(32:Int),(49:Int),(59:Int),(32:Int),(116:Int),(114:Int),(97:Int),(110:Int),(115:Int),(32:Int),(116:Int),(32:Int),(64:Int),(50:Int),(58:Int),(32:Int),(112:Int),(32:Int),(45:Int),(62:Int),(32:Int),(112:Int),(59:Int)]:List Int)) (n:=32) S rfl (all2_intL _) rfl
 refine ⟨_,_,S.byteConv (r:=(fz (rI .u8))) m0 (by simp [AV.slen]),?_⟩
 obtain ⟨u11,hu11,hf⟩:=obind hf
 obtain ⟨h16,z17,S⟩:=St.freeze S
 refine ⟨_,z17,?_⟩
 refine (r26 (x0:=[(112:Int),(108:Int),(97:Int),(99:Int),(101:Int),(32:Int),(112:Int),(32:Int),(61:Int),(32:Int),(49:Int),(59:Int),(32:Int),(116:Int),(114:Int),(97:Int),(110:Int),(115:Int),(32:Int),(116:Int),(32:Int),(64:Int),(50:Int),(58:Int),(32:Int),(112:Int),(32:Int),(45:Int),(62:Int),(32:Int),(112:Int),(59:Int)]) (f0_0:=S.slz (r:=(rI .u8)) m0) hu11).mono fun v18 h19 T=>?_
 obtain ⟨c20,rfl,T⟩:=T
 have S:=S.comp T
 obtain ⟨au11_0,au11_1,rfl,Fau11_0,Fau11_1⟩:=rNet_open (S.fzr (.head _))
 have S:=S.drop
 have S:St _ _ [own (fz (rSl rPlace)) [au11_0] u11.1.Places,_] _:=S.add (rSl_mk Fau11_0)
 have S:St _ _ [own (fz (rSl rTrans)) [au11_1] u11.1.Trans,_,_] _:=S.add (rSl_mk Fau11_1)
 refine oP_intro (.agg [au11_0,au11_1]) rfl ?_
 refine oP_intro (.agg [(.int .i64 u11.2.Err),(.int .i64 u11.2.At),(.int .i64 u11.2.Line),(.int .i64 u11.2.Col)]) rfl ?_
 intro h21
 have S:St _ _ [rowC h19.n [.nilSlice,.nilSlice] 0,_,_,_] _:=S.pushRow [.nilSlice,.nilSlice]
 intro h22
 have S:St _ _ [rowC h21.n [(.int .i64 0),(.int .i64 0),(.int .i64 0),(.int .i64 0)] 0,_,_,_,_] _:=S.pushRow [(.int .i64 0),(.int .i64 0),(.int .i64 0),(.int .i64 0)]
 have S:=S.sel [1,0,2,3,4] rfl
 obtain ⟨h23,e24,S⟩:=S.store (off:=0) (n:=2) (x:=(.agg [au11_0,au11_1])) (cs':=[au11_0,au11_1]) (nl rfl) rfl rfl rfl
 refine ⟨h23,e24,?_⟩
 have S:=S.sel [1,0,2,3,4] rfl
 obtain ⟨h25,e26,S⟩:=S.store (off:=0) (n:=4) (x:=(.agg [(.int .i64 u11.2.Err),(.int .i64 u11.2.At),(.int .i64 u11.2.Line),(.int .i64 u11.2.Col)])) (cs':=[(.int .i64 u11.2.Err),(.int .i64 u11.2.At),(.int .i64 u11.2.Line),(.int .i64 u11.2.Col)]) (nl rfl) rfl rfl rfl
 refine ⟨h25,e26,?_⟩
 refine ⟨(.int .i64 u11.2.Err),(.int .i64 u11.2.At),(.int .i64 u11.2.Line),(.int .i64 u11.2.Col),S.rdN m0 (nl rfl) rfl,?_⟩
 refine oP_intro (.bool ((decide (u11.2.Err=(0:Int)))&&((decide (u11.2.At=(0:Int)))&&((decide (u11.2.Line=(0:Int)))&&((decide (u11.2.Col=(0:Int)))&&true))))) rfl ⟨((decide (u11.2.Err=(0:Int)))&&((decide (u11.2.At=(0:Int)))&&((decide (u11.2.Line=(0:Int)))&&((decide (u11.2.Col=(0:Int)))&&true)))),rfl,?_⟩
 intro jjj2
 have hjj2:∀ (b14:Bool) (h27:Heap),p25_j2 u11 b14=some r→h25=h27→St h none' [rowC h19.n [au11_0,au11_1] 0,own (fz (rSl rPlace)) [au11_0] u11.1.Places,own (fz (rSl rTrans)) [au11_1] u11.1.Trans] h25→jjj2 b14 h27:=by
  rintro b14 h27 hf rfl S
  unfold p25_j2 at hf
  unfold jjj2
  intro jjj1
  have hjj1:∀ (b12:Bool) (h28:Heap),p25_j1 u11 b12=some r→h25=h28→St h none' [rowC h19.n [au11_0,au11_1] 0,own (fz (rSl rPlace)) [au11_0] u11.1.Places,own (fz (rSl rTrans)) [au11_1] u11.1.Trans] h25→jjj1 b12 h28:=by
   rintro b12 h28 hf rfl S
   unfold p25_j1 at hf
   unfold jjj1
   intro jjj0
   have hjj0:∀ (b10:Bool) (h29:Heap),p25_j0 b10=some r→h25=h29→St h none' [] h25→jjj0 b10 h29:=by
    rintro b10 h29 hf rfl S
    unfold p25_j0 at hf
    unfold jjj0
    obtain rfl:=oi hf
    exact ⟨rfl,S.sel [] rfl⟩
   refine bP_intro (fun hc=>?_) (fun hc=>?_)
   ·rw [ifT hc] at hf
    refine ifP_iff.2 ⟨rfl,?_⟩
    refine ⟨au11_1,S.rd1 m0 rfl,?_⟩
    obtain ⟨e13,he13,hf⟩:=obind hf
    refine ix_go (S.slz (r:=rTrans) m2) (frz_snap _) he13 fun pe13=>?_
    refine ifP_iff.2 ⟨pe13,?_⟩
    obtain ⟨_,cr30,Rr30,Nr30,Or30,Zr30⟩:=SlR.idx (S.slz (r:=rTrans) m2) (frz_snap _) he13
    obtain ⟨cr30_3,cr30_4,cr30_5,rfl,Fr30_3,Fr30_4,Fr30_5⟩:=rTrans_open Rr30
    refine ⟨e13.Delay,Or30 1 _ rfl,?_⟩
    have S:=S.sel [] rfl
    exact hjj0 _ _  hf rfl S
   ·rw [ifF hc] at hf
    have S:=S.sel [] rfl
    exact hjj0 _ _  hf rfl S
  refine bP_intro (fun hc=>?_) (fun hc=>?_)
  ·rw [ifT hc] at hf
   refine ifP_iff.2 ⟨rfl,?_⟩
   refine ⟨au11_1,S.rd1 m0 rfl,?_⟩
   refine ifP_iff.2 ⟨((S.slz (r:=rTrans) m2)).is,?_⟩
   try rw [show (au11_1).slen=_ from ((S.slz (r:=rTrans) m2)).slen]
   exact hjj1 _ _  hf rfl S
  ·rw [ifF hc] at hf
   exact hjj1 _ _  hf rfl S
 refine bP_intro (fun hc=>?_) (fun hc=>?_)
 ·rw [ifT hc] at hf
  refine ⟨au11_0,S.rd1 m1 rfl,?_⟩
  refine ifP_iff.2 ⟨((S.slz (r:=rPlace) m3)).is,?_⟩
  try rw [show (au11_0).slen=_ from ((S.slz (r:=rPlace) m3)).slen]
  have S:=S.sel [1,3,2] rfl
  exact hjj2 _ _  hf rfl S
 ·rw [ifF hc] at hf
  have S:=S.sel [1,3,2] rfl
  exact hjj2 _ _  hf rfl S
/-! 9: marblerun/marblerunlaw06.ParseTexts -/
noncomputable def p9_j0 (d0:TDraft) (b10:Bool):Option Bool:=if b10=true then ((p25 ).bind fun y11=>some y11) else ((p28 d0).bind fun y12=>(p27 y12).bind fun y13=>(bytesI y13).bind fun y14=>(p26 y14).bind fun u15=>if ((decide (u15.2.Err=(0:Int)))&&((decide (u15.2.At=(0:Int)))&&((decide (u15.2.Line=(0:Int)))&&((decide (u15.2.Col=(0:Int)))&&true))))=true then ((p28 d0).bind fun y16=>(p29 u15.1 y16).bind fun y17=>some y17) else (some false))
noncomputable def p9_j1 (d0:TDraft) (b18:Bool):Option Bool:=if b18=true then (p9_j0 d0 true) else (p9_j0 d0 (decide ((12:Int) < (d0.Acts.length:Int))))
noncomputable def p9 (d0:TDraft):Option Bool:=(p25 ).bind fun y19=>if (!y19)=true then (p9_j1 d0 true) else (p9_j1 d0 (decide ((60:Int) < (d0.Tokens.length:Int))))
theorem r9 {h:Heap} {a0_0:AV} {a0_1:AV} {d0:TDraft} (f0_0:SlR (rI .u8) (Snap h) a0_0 d0.Tokens) (f0_1:SlR rAct (Snap h) a0_1 d0.Acts) {r:Bool} (hf:p9 d0=some r):ZCalls F 9 [(.agg [a0_0,a0_1])] h fun v h'=>v=.bool r∧St h none' [] h':=by
 refine w9 ?_
 unfold W9
 unfold p9 at hf
 have S:St h none' [] h:=St.refl _ _
 intro h20
 have S:St _ _ [rowC h.n [a0_0,a0_1] 0] _:=S.pushRow [a0_0,a0_1]
 obtain ⟨y19,hy19,hf⟩:=obind hf
 refine ⟨_,Fz.refl _,?_⟩
 refine (r25  hy19).mono fun v21 h22 T=>?_
 obtain ⟨rfl,T⟩:=T
 have S:St _ _ [_] _:=S.comp T
 refine ⟨y19,rfl,?_⟩
 intro jjj1
 have hjj1:∀ (b18:Bool) (h23:Heap),p9_j1 d0 b18=some r→h22=h23→St h none' [rowC h.n [a0_0,a0_1] 0] h22→jjj1 b18 h23:=by
  rintro b18 h23 hf rfl S
  unfold p9_j1 at hf
  unfold jjj1
  intro jjj0
  have hjj0:∀ (b10:Bool) (h24:Heap),p9_j0 d0 b10=some r→h22=h24→St h none' [rowC h.n [a0_0,a0_1] 0] h22→jjj0 b10 h24:=by
   rintro b10 h24 hf rfl S
   unfold p9_j0 at hf
   unfold jjj0
   refine bP_intro (fun hc=>?_) (fun hc=>?_)
   ·rw [ifT hc] at hf
    obtain ⟨y11,hy11,hf⟩:=obind hf
    refine ⟨_,Fz.refl _,?_⟩
    refine (r25  hy11).mono fun v25 h26 T=>?_
    obtain ⟨rfl,T⟩:=T
    have S:St _ _ [_] _:=S.comp T
    refine ⟨y11,rfl,?_⟩
    obtain rfl:=oi hf
    exact ⟨rfl,S.sel [] rfl⟩
   ·rw [ifF hc] at hf
    refine ⟨a0_0,a0_1,S.rdN m0 (nl rfl) rfl,?_⟩
    obtain ⟨y12,hy12,hf⟩:=obind hf
    refine ⟨_,Fz.refl _,?_⟩
    refine (r28 (x0:=d0) (f0_0:=(SlR.mono (snap_mono S.le) f0_0)) (f0_1:=(SlR.mono (snap_mono S.le) f0_1)) hy12).frz fun v27 h28 T=>?_
    obtain ⟨c29,rfl,T⟩:=T
    have S:=S.comp T
    obtain ⟨h30,z31,S⟩:=St.freeze S
    refine ⟨h30,z31,?_⟩
    obtain ⟨ay12_0,ay12_1,rfl,Fay12_0,Fay12_1⟩:=rNet_open (S.fzr (.head _))
    have S:=S.drop
    have S:St _ _ [own (fz (rSl rPlace)) [ay12_0] y12.Places,_] _:=S.add (rSl_mk Fay12_0)
    have S:St _ _ [own (fz (rSl rTrans)) [ay12_1] y12.Trans,_,_] _:=S.add (rSl_mk Fay12_1)
    obtain ⟨y13,hy13,hf⟩:=obind hf
    refine ⟨_,Fz.refl _,?_⟩
    refine (r27 (x0:=y12) (f0_0:=(SlR.mono (frz_snap _) (S.slz (r:=rPlace) m1))) (f0_1:=(SlR.mono (frz_snap _) (S.slz (r:=rTrans) m0))) hy13).mono fun v32 h33 T=>?_
    obtain ⟨rfl,T⟩:=T
    have S:St _ _ [_,_,_] _:=S.comp T
    refine ⟨y13,rfl,?_⟩
    obtain ⟨y14,hy14,hf⟩:=obind hf
    refine oP_intro _ (bytesI_ob hy14) ?_
    intro h34
    have S:St _ _ [own (oSl (fz (rI .u8))) [(NOp.mk .strToBytes [(.str y13)] h33.n)] y14,_,_,_] _:=(S.ofStr y13).cast1 (by rw [(bytesI_some hy14).2])
    obtain ⟨u15,hu15,hf⟩:=obind hf
    obtain ⟨h35,z36,S⟩:=St.freeze S
    refine ⟨_,z36,?_⟩
    refine (r26 (x0:=y14) (f0_0:=S.slz (r:=(rI .u8)) m0) hu15).mono fun v37 h38 T=>?_
    obtain ⟨c39,rfl,T⟩:=T
    have S:=S.comp T
    obtain ⟨au15_0,au15_1,rfl,Fau15_0,Fau15_1⟩:=rNet_open (S.fzr (.head _))
    have S:=S.drop
    have S:St _ _ [own (fz (rSl rPlace)) [au15_0] u15.1.Places,_,_,_,_] _:=S.add (rSl_mk Fau15_0)
    have S:St _ _ [own (fz (rSl rTrans)) [au15_1] u15.1.Trans,_,_,_,_,_] _:=S.add (rSl_mk Fau15_1)
    refine oP_intro (.agg [au15_0,au15_1]) rfl ?_
    refine oP_intro (.agg [(.int .i64 u15.2.Err),(.int .i64 u15.2.At),(.int .i64 u15.2.Line),(.int .i64 u15.2.Col)]) rfl ?_
    intro h40
    have S:St _ _ [rowC h38.n [.nilSlice,.nilSlice] 0,_,_,_,_,_,_] _:=S.pushRow [.nilSlice,.nilSlice]
    intro h41
    have S:St _ _ [rowC h40.n [(.int .i64 0),(.int .i64 0),(.int .i64 0),(.int .i64 0)] 0,_,_,_,_,_,_,_] _:=S.pushRow [(.int .i64 0),(.int .i64 0),(.int .i64 0),(.int .i64 0)]
    have S:=S.sel [1,0,2,3,4,5,6,7] rfl
    obtain ⟨h42,e43,S⟩:=S.store (off:=0) (n:=2) (x:=(.agg [au15_0,au15_1])) (cs':=[au15_0,au15_1]) (nl rfl) rfl rfl rfl
    refine ⟨h42,e43,?_⟩
    have S:=S.sel [1,0,2,3,4,5,6,7] rfl
    obtain ⟨h44,e45,S⟩:=S.store (off:=0) (n:=4) (x:=(.agg [(.int .i64 u15.2.Err),(.int .i64 u15.2.At),(.int .i64 u15.2.Line),(.int .i64 u15.2.Col)])) (cs':=[(.int .i64 u15.2.Err),(.int .i64 u15.2.At),(.int .i64 u15.2.Line),(.int .i64 u15.2.Col)]) (nl rfl) rfl rfl rfl
    refine ⟨h44,e45,?_⟩
    refine ⟨(.int .i64 u15.2.Err),(.int .i64 u15.2.At),(.int .i64 u15.2.Line),(.int .i64 u15.2.Col),S.rdN m0 (nl rfl) rfl,?_⟩
    refine oP_intro (.bool ((decide (u15.2.Err=(0:Int)))&&((decide (u15.2.At=(0:Int)))&&((decide (u15.2.Line=(0:Int)))&&((decide (u15.2.Col=(0:Int)))&&true))))) rfl ⟨((decide (u15.2.Err=(0:Int)))&&((decide (u15.2.At=(0:Int)))&&((decide (u15.2.Line=(0:Int)))&&((decide (u15.2.Col=(0:Int)))&&true)))),rfl,?_⟩
    have S_4:=S
    refine bP_intro (fun hc=>?_) (fun hc=>?_)
    ·rw [ifT hc] at hf
     refine ⟨au15_0,au15_1,S.rdN m1 (nl rfl) rfl,?_⟩
     refine ⟨a0_0,a0_1,S.rdN m7 (nl rfl) rfl,?_⟩
     have S_6:=S
     obtain ⟨y16,hy16,hf⟩:=obind hf
     refine (r28 (x0:=d0) (f0_0:=(SlR.mono (snap_mono S.le) f0_0)) (f0_1:=(SlR.mono (snap_mono S.le) f0_1)) hy16).frz fun v46 h47 T=>?_
     obtain ⟨c48,rfl,T⟩:=T
     have S:=S.comp T
     obtain ⟨h49,z50,S⟩:=St.freeze S
     refine ⟨h49,z50,?_⟩
     obtain ⟨ay16_0,ay16_1,rfl,Fay16_0,Fay16_1⟩:=rNet_open (S.fzr (.head _))
     have S:=S.drop
     have S:St _ _ [own (fz (rSl rPlace)) [ay16_0] y16.Places,_,_,_,_,_,_,_,_] _:=S.add (rSl_mk Fay16_0)
     have S:St _ _ [own (fz (rSl rTrans)) [ay16_1] y16.Trans,_,_,_,_,_,_,_,_,_] _:=S.add (rSl_mk Fay16_1)
     have S_7:=S
     obtain ⟨y17,hy17,hf⟩:=obind hf
     refine (r29 (x0:=u15.1) (x1:=y16) (f0_0:=(SlR.mono (frz_snap _) (S.slz (r:=rPlace) m5))) (f0_1:=(SlR.mono (frz_snap _) (S.slz (r:=rTrans) m4))) (f1_0:=(SlR.mono (frz_snap _) (S.slz (r:=rPlace) m1))) (f1_1:=(SlR.mono (frz_snap _) (S.slz (r:=rTrans) m0))) hy17).mono fun v51 h52 T=>?_
     obtain ⟨rfl,T⟩:=T
     have S:St _ _ [_,_,_,_,_,_,_,_,_,_] _:=S.comp T
     refine ⟨y17,rfl,?_⟩
     refine ⟨⟨(.agg [au15_0,au15_1]),rdN_ev (S_4.rdN m1 (nl rfl) rfl),rdN_ev (S_6.rdN m1 (nl rfl) rfl),rdN_ev (S_7.rdN m3 (nl rfl) rfl)⟩,?_⟩
     obtain rfl:=oi hf
     exact ⟨rfl,S.sel [] rfl⟩
    ·rw [ifF hc] at hf
     have S_6:=S
     have S_7:=S
     refine ⟨trivial,?_⟩
     obtain rfl:=oi hf
     exact ⟨rfl,S.sel [] rfl⟩
  refine bP_intro (fun hc=>?_) (fun hc=>?_)
  ·rw [ifT hc] at hf
   exact hjj0 _ _  hf rfl S
  ·rw [ifF hc] at hf
   refine ifP_iff.2 ⟨rfl,?_⟩
   refine ⟨a0_1,S.rd1 m0 rfl,?_⟩
   refine ifP_iff.2 ⟨(f0_1).is,?_⟩
   try rw [show (a0_1).slen=_ from (f0_1).slen]
   exact hjj0 _ _  hf rfl S
 refine bP_intro (fun hc=>?_) (fun hc=>?_)
 ·rw [ifT hc] at hf
  exact hjj1 _ _  hf rfl S
 ·rw [ifF hc] at hf
  refine ⟨a0_0,S.rd1 m0 rfl,?_⟩
  refine ifP_iff.2 ⟨(f0_0).is,?_⟩
  try rw [show (a0_0).slen=_ from (f0_0).slen]
  exact hjj1 _ _  hf rfl S
end Go.Proofs.Ytloaoofdbilpeaa
