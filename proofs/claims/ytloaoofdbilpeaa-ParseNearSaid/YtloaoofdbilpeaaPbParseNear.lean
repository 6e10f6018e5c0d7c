/- Pure functions, and that the machine's functions answer as they do. No condition. Own work. -/
import Derived.Test.YtloaoofdbilpeaaPaParseNear
set_option linter.unusedSimpArgs false
set_option linter.unusedVariables false
namespace Go.Proofs.Ytloaoofdbilpeaa
open Go Go.Am
noncomputable section
def p27_j0 (y10:Int) (y11:List UInt8):Option (((List UInt8)×Int)⊕(List UInt8)):=(catS y11 ([59,10]:List UInt8)).bind fun s12=>some (.inl (s12,(IntKind.wrap .i64 (y10+1))))
def p27_l0 (x0:TNet) (st:(List UInt8)×Int):Option (((List UInt8)×Int)⊕(List UInt8)):=match st with | (y13,y10)=>if y10 < (x0.Places.length:Int) then ((idx x0.Places y10).bind fun e14=>(catS ([112,108,97,99,101,32]:List UInt8) e14.Name).bind fun s15=>(catS y13 s15).bind fun s16=>(idx x0.Places y10).bind fun e17=>if (!decide (e17.Tokens=0))=true then ((idx x0.Places y10).bind fun e18=>(p42 e18.Tokens).bind fun y19=>(catS ([32,61,32]:List UInt8) y19).bind fun s20=>(catS s16 s20).bind fun s21=>p27_j0 y10 s21) else (p27_j0 y10 s16)) else (some (.inr y13))
def p27_l1 (x0:TNet) (e22:TTrans) (st:(List UInt8)×(List UInt8)×Int):Option (((List UInt8)×(List UInt8)×Int)⊕((List UInt8)×(List UInt8))):=match st with | (y23,y24,y25)=>if y25 < (e22.In.length:Int) then ((idx e22.In y25).bind fun e26=>(p43 x0 e26).bind fun y27=>(catS y24 y27).bind fun s28=>(catS y23 s28).bind fun s29=>some (.inl (s29,([44,32]:List UInt8),(IntKind.wrap .i64 (y25+1))))) else (some (.inr (y23,y24)))
def p27_l2 (x0:TNet) (e22:TTrans) (st:(List UInt8)×(List UInt8)×Int):Option (((List UInt8)×(List UInt8)×Int)⊕(List UInt8)):=match st with | (y30,y31,y32)=>if y32 < (e22.Not.length:Int) then ((catS y31 ([126]:List UInt8)).bind fun s33=>(idx e22.Not y32).bind fun e34=>(p43 x0 e34).bind fun y35=>(catS s33 y35).bind fun s36=>(catS y30 s36).bind fun s37=>some (.inl (s37,([44,32]:List UInt8),(IntKind.wrap .i64 (y32+1))))) else (some (.inr y30))
def p27_l3 (x0:TNet) (e22:TTrans) (st:(List UInt8)×(List UInt8)×Int):Option (((List UInt8)×(List UInt8)×Int)⊕(List UInt8)):=match st with | (y38,y39,y40)=>if y40 < (e22.Out.length:Int) then ((idx e22.Out y40).bind fun e41=>(p43 x0 e41).bind fun y42=>(catS y39 y42).bind fun s43=>(catS y38 s43).bind fun s44=>some (.inl (s44,([44,32]:List UInt8),(IntKind.wrap .i64 (y40+1))))) else (some (.inr y38))
def p27_j1 (x0:TNet) (y45:Int) (e22:TTrans) (y46:List UInt8):Option (((List UInt8)×Int)⊕(List UInt8)):=(catS y46 ([58]:List UInt8)).bind fun s47=>(loopC (p27_l1 x0 e22) (s47,([32]:List UInt8),0)).bind fun res48=>(match res48 with | (y49,y50)=>(loopC (p27_l2 x0 e22) (y49,y50,0)).bind fun res51=>((fun (y52:List UInt8)=>(catS y52 ([32,45,62]:List UInt8)).bind fun s53=>(loopC (p27_l3 x0 e22) (s53,([32]:List UInt8),0)).bind fun res54=>((fun (y55:List UInt8)=>(catS y55 ([59,10]:List UInt8)).bind fun s56=>some (.inl (s56,(IntKind.wrap .i64 (y45+1))))) res54)) res51))
def p27_j2 (x0:TNet) (y45:Int) (e22:TTrans) (y57:List UInt8):Option (((List UInt8)×Int)⊕(List UInt8)):=if (!decide (e22.Prio=0))=true then ((p42 e22.Prio).bind fun y58=>(catS ([32,33]:List UInt8) y58).bind fun s59=>(catS y57 s59).bind fun s60=>p27_j1 x0 y45 e22 s60) else (p27_j1 x0 y45 e22 y57)
def p27_l4 (x0:TNet) (st:(List UInt8)×Int):Option (((List UInt8)×Int)⊕(List UInt8)):=match st with | (y61,y45)=>if y45 < (x0.Trans.length:Int) then ((idx x0.Trans y45).bind fun e22=>(catS ([116,114,97,110,115,32]:List UInt8) e22.Name).bind fun s62=>(catS y61 s62).bind fun s63=>if (!decide (e22.Delay=0))=true then ((p42 e22.Delay).bind fun y64=>(catS ([32,64]:List UInt8) y64).bind fun s65=>(catS s63 s65).bind fun s66=>p27_j2 x0 y45 e22 s66) else (p27_j2 x0 y45 e22 s63)) else (some (.inr y61))
def p27 (x0:TNet):Option (List UInt8):=(loopC (p27_l0 x0) (([]:List UInt8),0)).bind fun res67=>((fun (y68:List UInt8)=>(loopC (p27_l4 x0) (y68,0)).bind fun res69=>((fun (y70:List UInt8)=>some y70) res69)) res67)
theorem r27 {h:Heap} {a0_0:AV} {a0_1:AV} {x0:TNet} (f0_0:SlR rPlace (Snap h) a0_0 x0.Places) (f0_1:SlR rTrans (Snap h) a0_1 x0.Trans) {r:(List UInt8)} (hf:p27 x0=some r):ZC F 27 [(.agg [a0_0,a0_1])] h fun v h'=>v=.str r∧St h none' [] h':=by
 refine w27 ?_
 unfold W27
 unfold p27 at hf
 have S:St h none' [] h:=St.refl _ _
 intro h71
 have S:St _ _ [rowC h.n [a0_0,a0_1] 0] _:=S.pushRow [a0_0,a0_1]
 obtain ⟨res67,hL,hf⟩:=oB hf
 obtain ⟨n72,hL⟩:=loopC_iff.1 hL
 refine loopm27_0 (X0:=fun (y73:AV) (y68:List UInt8) (y74:Int) (h75:Heap)=>AV.ptr h.n 0 0=y73∧St h none' [rowC h.n [a0_0,a0_1] 0] h75∧y68=res67) ?_ (loop27_0 (I:=fun (m76:Nat) (y77:AV) (y13:List UInt8) (y10:Int) (h78:Heap)=>AV.ptr h.n 0 0=y77∧St h none' [rowC h.n [a0_0,a0_1] 0] h78∧iter (p27_l0 x0) m76 (y13,y10)=some res67) ?_ (m:=n72) ?_)
 ·rintro y73 y68 y74 h75 ⟨rfl,S,rfl⟩
  try dsimp only at hf
  obtain ⟨res69,hL,hf⟩:=oB hf
  obtain ⟨n79,hL⟩:=loopC_iff.1 hL
  refine loopm27_4 (X2:=fun (y80:AV) (y70:List UInt8) (y81:Int) (h82:Heap)=>St h none' [] h82∧y70=res69) ?_ (loop27_4 (I:=fun (m83:Nat) (y84:AV) (y61:List UInt8) (y45:Int) (h85:Heap)=>AV.ptr h.n 0 0=y84∧St h none' [rowC h.n [a0_0,a0_1] 0] h85∧iter (p27_l4 x0) m83 (y61,y45)=some res69) ?_ (m:=n79) ?_)
  ·rintro y80 y70 y81 h82 ⟨S,rfl⟩
   try dsimp only at hf
   obtain rfl:=oi hf
   exact ⟨rfl,S.sel [] rfl⟩
  ·rintro m86 y84 y61 y45 h85 ⟨rfl,S,hit⟩
   obtain ⟨m83,q87,rfl,hf,hk⟩:=iter_some hit
   clear hit
   unfold B27_4
   unfold p27_l4 at hf
   try dsimp only at hf
   refine iI.2 ⟨rfl,?_⟩
   refine ⟨a0_1,S.rd1 m0 rfl,?_⟩
   refine iI.2 ⟨(f0_1).is,?_⟩
   try rw [show (a0_1).slen=_ from (f0_1).slen]
   refine bI (fun hc=>?_) (fun hc=>?_)
   ·rw [ifD hc] at hf
    refine iI.2 ⟨rfl,?_⟩
    refine ⟨a0_1,S.rd1 m0 rfl,?_⟩
    obtain ⟨e22,he22,hf⟩:=oB hf
    refine ix_go f0_1 (sM S.le) he22 fun pe22=>?_
    obtain ⟨_,cr88,Rr88,Nr88,Or88,Zr88⟩:=SlR.idx f0_1 (sM S.le) he22
    obtain ⟨cr88_3,cr88_4,cr88_5,rfl,Fr88_3,Fr88_4,Fr88_5⟩:=rTrans_open Rr88
    refine ⟨(.str e22.Name),(.int .i64 e22.Delay),(.int .i64 e22.Prio),cr88_3,cr88_4,cr88_5,Nr88,?_⟩
    intro h89
    have S:St _ _ [rowC h85.n [(.str ([]:List UInt8)),(.int .i64 0),(.int .i64 0),.nilSlice,.nilSlice,.nilSlice] 0,_] _:=S.pushRow [(.str ([]:List UInt8)),(.int .i64 0),(.int .i64 0),.nilSlice,.nilSlice,.nilSlice]
    obtain ⟨h90,e91,S⟩:=S.store (off:=0) (n:=6) (x:=(.agg [(.str e22.Name),(.int .i64 e22.Delay),(.int .i64 e22.Prio),cr88_3,cr88_4,cr88_5])) (cs':=[(.str e22.Name),(.int .i64 e22.Delay),(.int .i64 e22.Prio),cr88_3,cr88_4,cr88_5]) (nl rfl) rfl rfl rfl
    refine ⟨h90,e91,?_⟩
    refine ⟨e22.Name,S.rd1 m0 rfl,?_⟩
    obtain ⟨s62,hs62,hf⟩:=oB hf
    refine oI (.str s62) (catS_ev hs62) ⟨s62,rfl,?_⟩
    obtain ⟨s63,hs63,hf⟩:=oB hf
    refine oI (.str s63) (catS_ev hs63) ⟨s63,rfl,?_⟩
    refine ⟨e22.Delay,S.rd1 m0 rfl,?_⟩
    intro jjj2
    have hjj2:∀ (y57:List UInt8) (h92:Heap),p27_j2 x0 y45 e22 y57=some q87→St h none' [rowC h.n [a0_0,a0_1] 0,rowC h85.n [(.str e22.Name),(.int .i64 e22.Delay),(.int .i64 e22.Prio),cr88_3,cr88_4,cr88_5] 0] h92→jjj2 y57 h92:=by
     rintro y57 h92 hf S
     unfold p27_j2 at hf
     unfold jjj2
     refine iI.2 ⟨rfl,?_⟩
     refine ⟨e22.Prio,S.rd1 m1 rfl,?_⟩
     intro jjj1
     have hjj1:∀ (y46:List UInt8) (h93:Heap),p27_j1 x0 y45 e22 y46=some q87→St h none' [rowC h.n [a0_0,a0_1] 0,rowC h85.n [(.str e22.Name),(.int .i64 e22.Delay),(.int .i64 e22.Prio),cr88_3,cr88_4,cr88_5] 0] h93→jjj1 y46 h93:=by
      rintro y46 h93 hf S
      unfold p27_j1 at hf
      unfold jjj1
      obtain ⟨s47,hs47,hf⟩:=oB hf
      refine oI (.str s47) (catS_ev hs47) ⟨s47,rfl,?_⟩
      obtain ⟨res48,hL,hf⟩:=oB hf
      obtain ⟨n94,hL⟩:=loopC_iff.1 hL
      refine loopm27_1 (X4:=fun (y95:AV) (y49:List UInt8) (y96:Int) (y97:AV) (y50:List UInt8) (y98:Int) (h99:Heap)=>AV.ptr h.n 0 0=y95∧y45=y96∧AV.ptr h85.n 0 0=y97∧St h none' [rowC h.n [a0_0,a0_1] 0,rowC h85.n [(.str e22.Name),(.int .i64 e22.Delay),(.int .i64 e22.Prio),cr88_3,cr88_4,cr88_5] 0] h99∧(y49,y50)=res48) ?_ (loop27_1 (I:=fun (m100:Nat) (y101:AV) (y23:List UInt8) (y102:Int) (y103:AV) (y24:List UInt8) (y25:Int) (h104:Heap)=>AV.ptr h.n 0 0=y101∧y45=y102∧AV.ptr h85.n 0 0=y103∧St h none' [rowC h.n [a0_0,a0_1] 0,rowC h85.n [(.str e22.Name),(.int .i64 e22.Delay),(.int .i64 e22.Prio),cr88_3,cr88_4,cr88_5] 0] h104∧iter (p27_l1 x0 e22) m100 (y23,y24,y25)=some res48) ?_ (m:=n94) ?_)
      ·rintro y95 y49 y96 y97 y50 y98 h99 ⟨rfl,rfl,rfl,S,rfl⟩
       try dsimp only at hf
       obtain ⟨res51,hL,hf⟩:=oB hf
       obtain ⟨n105,hL⟩:=loopC_iff.1 hL
       refine loopm27_2 (X6:=fun (y106:AV) (y52:List UInt8) (y107:Int) (y108:AV) (y109:List UInt8) (y110:Int) (h111:Heap)=>AV.ptr h.n 0 0=y106∧y45=y107∧AV.ptr h85.n 0 0=y108∧St h none' [rowC h.n [a0_0,a0_1] 0,rowC h85.n [(.str e22.Name),(.int .i64 e22.Delay),(.int .i64 e22.Prio),cr88_3,cr88_4,cr88_5] 0] h111∧y52=res51) ?_ (loop27_2 (I:=fun (m112:Nat) (y113:AV) (y30:List UInt8) (y114:Int) (y115:AV) (y31:List UInt8) (y32:Int) (h116:Heap)=>AV.ptr h.n 0 0=y113∧y45=y114∧AV.ptr h85.n 0 0=y115∧St h none' [rowC h.n [a0_0,a0_1] 0,rowC h85.n [(.str e22.Name),(.int .i64 e22.Delay),(.int .i64 e22.Prio),cr88_3,cr88_4,cr88_5] 0] h116∧iter (p27_l2 x0 e22) m112 (y30,y31,y32)=some res51) ?_ (m:=n105) ?_)
       ·rintro y106 y52 y107 y108 y109 y110 h111 ⟨rfl,rfl,rfl,S,rfl⟩
        try dsimp only at hf
        obtain ⟨s53,hs53,hf⟩:=oB hf
        refine oI (.str s53) (catS_ev hs53) ⟨s53,rfl,?_⟩
        obtain ⟨res54,hL,hf⟩:=oB hf
        obtain ⟨n117,hL⟩:=loopC_iff.1 hL
        refine loopm27_3 (X8:=fun (y118:AV) (y55:List UInt8) (y119:Int) (y120:AV) (y121:List UInt8) (y122:Int) (h123:Heap)=>AV.ptr h.n 0 0=y118∧y45=y119∧St h none' [rowC h.n [a0_0,a0_1] 0] h123∧y55=res54) ?_ (loop27_3 (I:=fun (m124:Nat) (y125:AV) (y38:List UInt8) (y126:Int) (y127:AV) (y39:List UInt8) (y40:Int) (h128:Heap)=>AV.ptr h.n 0 0=y125∧y45=y126∧AV.ptr h85.n 0 0=y127∧St h none' [rowC h.n [a0_0,a0_1] 0,rowC h85.n [(.str e22.Name),(.int .i64 e22.Delay),(.int .i64 e22.Prio),cr88_3,cr88_4,cr88_5] 0] h128∧iter (p27_l3 x0 e22) m124 (y38,y39,y40)=some res54) ?_ (m:=n117) ?_)
        ·rintro y118 y55 y119 y120 y121 y122 h123 ⟨rfl,rfl,S,rfl⟩
         try dsimp only at hf
         obtain ⟨s56,hs56,hf⟩:=oB hf
         refine oI (.str s56) (catS_ev hs56) ⟨s56,rfl,?_⟩
         obtain rfl:=oi hf
         exact ⟨m83,Nat.lt_succ_self _,rfl,S,hk⟩
        ·rintro m129 y125 y38 y126 y127 y39 y40 h128 ⟨rfl,rfl,rfl,S,hit⟩
         obtain ⟨m124,q130,rfl,hf,hk⟩:=iter_some hit
         clear hit
         unfold B27_3
         unfold p27_l3 at hf
         try dsimp only at hf
         refine iI.2 ⟨rfl,?_⟩
         refine ⟨cr88_5,S.rd1 m1 rfl,?_⟩
         refine iI.2 ⟨(Fr88_5).is,?_⟩
         try rw [show (cr88_5).slen=_ from (Fr88_5).slen]
         refine bI (fun hc=>?_) (fun hc=>?_)
         ·rw [ifD hc] at hf
          refine ⟨a0_0,a0_1,S.rdN m0 (nl rfl) rfl,?_⟩
          refine iI.2 ⟨rfl,?_⟩
          refine ⟨cr88_5,S.rd1 m1 rfl,?_⟩
          obtain ⟨e41,he41,hf⟩:=oB hf
          refine ix_go Fr88_5 (sM S.le) he41 fun pe41=>?_
          obtain ⟨_,cr131,Rr131,Nr131,Or131,Zr131⟩:=SlR.idx Fr88_5 (sM S.le) he41
          obtain rfl:=rArc_open Rr131
          refine ⟨(.int .i64 e41.Place),(.int .i64 e41.N),Nr131,?_⟩
          obtain ⟨y42,hy42,hf⟩:=oB hf
          refine ⟨_,Fz.refl _,?_⟩
          refine (r43 (n0:=x0) (a1:=e41) (f0_0:=(SlR.mono (sM S.le) f0_0)) (f0_1:=(SlR.mono (sM S.le) f0_1)) hy42).mono fun v132 h133 T=>?_
          obtain ⟨rfl,T⟩:=T
          have S:St _ _ [_,_] _:=S.comp T
          refine ⟨y42,rfl,?_⟩
          obtain ⟨s43,hs43,hf⟩:=oB hf
          refine oI (.str s43) (catS_ev hs43) ⟨s43,rfl,?_⟩
          obtain ⟨s44,hs44,hf⟩:=oB hf
          refine oI (.str s44) (catS_ev hs44) ⟨s44,rfl,?_⟩
          obtain rfl:=oi hf
          exact ⟨m124,Nat.lt_succ_self _,rfl,rfl,rfl,S,hk⟩
         rw [ifE hc] at hf
         have S:=S.sel [0] rfl
         obtain rfl:=oi hf
         obtain rfl:=hk
         exact ⟨rfl,rfl,S,rfl⟩
        exact ⟨rfl,rfl,rfl,S,hL⟩
       ·rintro m134 y113 y30 y114 y115 y31 y32 h116 ⟨rfl,rfl,rfl,S,hit⟩
        obtain ⟨m112,q135,rfl,hf,hk⟩:=iter_some hit
        clear hit
        unfold B27_2
        unfold p27_l2 at hf
        try dsimp only at hf
        refine iI.2 ⟨rfl,?_⟩
        refine ⟨cr88_4,S.rd1 m1 rfl,?_⟩
        refine iI.2 ⟨(Fr88_4).is,?_⟩
        try rw [show (cr88_4).slen=_ from (Fr88_4).slen]
        refine bI (fun hc=>?_) (fun hc=>?_)
        ·rw [ifD hc] at hf
         obtain ⟨s33,hs33,hf⟩:=oB hf
         refine oI (.str s33) (catS_ev hs33) ⟨s33,rfl,?_⟩
         refine ⟨a0_0,a0_1,S.rdN m0 (nl rfl) rfl,?_⟩
         refine iI.2 ⟨rfl,?_⟩
         refine ⟨cr88_4,S.rd1 m1 rfl,?_⟩
         obtain ⟨e34,he34,hf⟩:=oB hf
         refine ix_go Fr88_4 (sM S.le) he34 fun pe34=>?_
         obtain ⟨_,cr136,Rr136,Nr136,Or136,Zr136⟩:=SlR.idx Fr88_4 (sM S.le) he34
         obtain rfl:=rArc_open Rr136
         refine ⟨(.int .i64 e34.Place),(.int .i64 e34.N),Nr136,?_⟩
         obtain ⟨y35,hy35,hf⟩:=oB hf
         refine ⟨_,Fz.refl _,?_⟩
         refine (r43 (n0:=x0) (a1:=e34) (f0_0:=(SlR.mono (sM S.le) f0_0)) (f0_1:=(SlR.mono (sM S.le) f0_1)) hy35).mono fun v137 h138 T=>?_
         obtain ⟨rfl,T⟩:=T
         have S:St _ _ [_,_] _:=S.comp T
         refine ⟨y35,rfl,?_⟩
         obtain ⟨s36,hs36,hf⟩:=oB hf
         refine oI (.str s36) (catS_ev hs36) ⟨s36,rfl,?_⟩
         obtain ⟨s37,hs37,hf⟩:=oB hf
         refine oI (.str s37) (catS_ev hs37) ⟨s37,rfl,?_⟩
         obtain rfl:=oi hf
         exact ⟨m112,Nat.lt_succ_self _,rfl,rfl,rfl,S,hk⟩
        rw [ifE hc] at hf
        obtain rfl:=oi hf
        obtain rfl:=hk
        exact ⟨rfl,rfl,rfl,S,rfl⟩
       exact ⟨rfl,rfl,rfl,S,hL⟩
      ·rintro m139 y101 y23 y102 y103 y24 y25 h104 ⟨rfl,rfl,rfl,S,hit⟩
       obtain ⟨m100,q140,rfl,hf,hk⟩:=iter_some hit
       clear hit
       unfold B27_1
       unfold p27_l1 at hf
       try dsimp only at hf
       refine iI.2 ⟨rfl,?_⟩
       refine ⟨cr88_3,S.rd1 m1 rfl,?_⟩
       refine iI.2 ⟨(Fr88_3).is,?_⟩
       try rw [show (cr88_3).slen=_ from (Fr88_3).slen]
       refine bI (fun hc=>?_) (fun hc=>?_)
       ·rw [ifD hc] at hf
        refine ⟨a0_0,a0_1,S.rdN m0 (nl rfl) rfl,?_⟩
        refine iI.2 ⟨rfl,?_⟩
        refine ⟨cr88_3,S.rd1 m1 rfl,?_⟩
        obtain ⟨e26,he26,hf⟩:=oB hf
        refine ix_go Fr88_3 (sM S.le) he26 fun pe26=>?_
        obtain ⟨_,cr141,Rr141,Nr141,Or141,Zr141⟩:=SlR.idx Fr88_3 (sM S.le) he26
        obtain rfl:=rArc_open Rr141
        refine ⟨(.int .i64 e26.Place),(.int .i64 e26.N),Nr141,?_⟩
        obtain ⟨y27,hy27,hf⟩:=oB hf
        refine ⟨_,Fz.refl _,?_⟩
        refine (r43 (n0:=x0) (a1:=e26) (f0_0:=(SlR.mono (sM S.le) f0_0)) (f0_1:=(SlR.mono (sM S.le) f0_1)) hy27).mono fun v142 h143 T=>?_
        obtain ⟨rfl,T⟩:=T
        have S:St _ _ [_,_] _:=S.comp T
        refine ⟨y27,rfl,?_⟩
        obtain ⟨s28,hs28,hf⟩:=oB hf
        refine oI (.str s28) (catS_ev hs28) ⟨s28,rfl,?_⟩
        obtain ⟨s29,hs29,hf⟩:=oB hf
        refine oI (.str s29) (catS_ev hs29) ⟨s29,rfl,?_⟩
        obtain rfl:=oi hf
        exact ⟨m100,Nat.lt_succ_self _,rfl,rfl,rfl,S,hk⟩
       rw [ifE hc] at hf
       obtain rfl:=oi hf
       obtain rfl:=hk
       exact ⟨rfl,rfl,rfl,S,rfl⟩
      exact ⟨rfl,rfl,rfl,S,hL⟩
     refine bI (fun hc=>?_) (fun hc=>?_)
     ·rw [ifT hc] at hf
      refine iI.2 ⟨rfl,?_⟩
      refine ⟨e22.Prio,S.rd1 m1 rfl,?_⟩
      obtain ⟨y58,hy58,hf⟩:=oB hf
      refine ⟨_,Fz.refl _,?_⟩
      refine (r42 (n0:=e22.Prio) hy58).mono fun v144 h145 T=>?_
      obtain ⟨rfl,T⟩:=T
      have S:St _ _ [_,_] _:=S.comp T
      refine ⟨y58,rfl,?_⟩
      obtain ⟨s59,hs59,hf⟩:=oB hf
      refine oI (.str s59) (catS_ev hs59) ⟨s59,rfl,?_⟩
      obtain ⟨s60,hs60,hf⟩:=oB hf
      refine oI (.str s60) (catS_ev hs60) ⟨s60,rfl,?_⟩
      exact hjj1 _ _  hf  S
     rw [ifF hc] at hf
     exact hjj1 _ _  hf  S
    refine bI (fun hc=>?_) (fun hc=>?_)
    ·rw [ifT hc] at hf
     refine ⟨e22.Delay,S.rd1 m0 rfl,?_⟩
     obtain ⟨y64,hy64,hf⟩:=oB hf
     refine ⟨_,Fz.refl _,?_⟩
     refine (r42 (n0:=e22.Delay) hy64).mono fun v146 h147 T=>?_
     obtain ⟨rfl,T⟩:=T
     have S:St _ _ [_,_] _:=S.comp T
     refine ⟨y64,rfl,?_⟩
     obtain ⟨s65,hs65,hf⟩:=oB hf
     refine oI (.str s65) (catS_ev hs65) ⟨s65,rfl,?_⟩
     obtain ⟨s66,hs66,hf⟩:=oB hf
     refine oI (.str s66) (catS_ev hs66) ⟨s66,rfl,?_⟩
     have S:=S.sel [1,0] rfl
     exact hjj2 _ _  hf  S
    rw [ifF hc] at hf
    have S:=S.sel [1,0] rfl
    exact hjj2 _ _  hf  S
   rw [ifE hc] at hf
   have S:=S.sel [] rfl
   obtain rfl:=oi hf
   obtain rfl:=hk
   exact ⟨S,rfl⟩
  exact ⟨rfl,S,hL⟩
 ·rintro m148 y77 y13 y10 h78 ⟨rfl,S,hit⟩
  obtain ⟨m76,q149,rfl,hf,hk⟩:=iter_some hit
  clear hit
  unfold B27_0
  unfold p27_l0 at hf
  try dsimp only at hf
  refine iI.2 ⟨rfl,?_⟩
  refine ⟨a0_0,S.rd1 m0 rfl,?_⟩
  refine iI.2 ⟨(f0_0).is,?_⟩
  try rw [show (a0_0).slen=_ from (f0_0).slen]
  refine bI (fun hc=>?_) (fun hc=>?_)
  ·rw [ifD hc] at hf
   refine iI.2 ⟨rfl,?_⟩
   refine ⟨a0_0,S.rd1 m0 rfl,?_⟩
   obtain ⟨e14,he14,hf⟩:=oB hf
   refine ix_go f0_0 (sM S.le) he14 fun pe14=>?_
   refine iI.2 ⟨pe14,?_⟩
   obtain ⟨_,cr150,Rr150,Nr150,Or150,Zr150⟩:=SlR.idx f0_0 (sM S.le) he14
   obtain rfl:=rPlace_open Rr150
   refine ⟨e14.Name,Or150 0 _ rfl,?_⟩
   obtain ⟨s15,hs15,hf⟩:=oB hf
   refine oI (.str s15) (catS_ev hs15) ⟨s15,rfl,?_⟩
   obtain ⟨s16,hs16,hf⟩:=oB hf
   refine oI (.str s16) (catS_ev hs16) ⟨s16,rfl,?_⟩
   refine iI.2 ⟨rfl,?_⟩
   refine ⟨a0_0,S.rd1 m0 rfl,?_⟩
   obtain ⟨e17,he17,hf⟩:=oB hf
   refine ix_go f0_0 (sM S.le) he17 fun pe17=>?_
   refine iI.2 ⟨pe17,?_⟩
   obtain ⟨_,cr151,Rr151,Nr151,Or151,Zr151⟩:=SlR.idx f0_0 (sM S.le) he17
   obtain rfl:=rPlace_open Rr151
   refine ⟨e17.Tokens,Or151 1 _ rfl,?_⟩
   intro jjj0
   have hjj0:∀ (y11:List UInt8) (h152:Heap),p27_j0 y10 y11=some q149→St h none' [rowC h.n [a0_0,a0_1] 0] h152→jjj0 y11 h152:=by
    rintro y11 h152 hf S
    unfold p27_j0 at hf
    unfold jjj0
    obtain ⟨s12,hs12,hf⟩:=oB hf
    refine oI (.str s12) (catS_ev hs12) ⟨s12,rfl,?_⟩
    obtain rfl:=oi hf
    exact ⟨m76,Nat.lt_succ_self _,rfl,S,hk⟩
   refine bI (fun hc=>?_) (fun hc=>?_)
   ·rw [ifT hc] at hf
    refine iI.2 ⟨rfl,?_⟩
    refine ⟨a0_0,S.rd1 m0 rfl,?_⟩
    obtain ⟨e18,he18,hf⟩:=oB hf
    refine ix_go f0_0 (sM S.le) he18 fun pe18=>?_
    refine iI.2 ⟨pe18,?_⟩
    obtain ⟨_,cr153,Rr153,Nr153,Or153,Zr153⟩:=SlR.idx f0_0 (sM S.le) he18
    obtain rfl:=rPlace_open Rr153
    refine ⟨e18.Tokens,Or153 1 _ rfl,?_⟩
    obtain ⟨y19,hy19,hf⟩:=oB hf
    refine ⟨_,Fz.refl _,?_⟩
    refine (r42 (n0:=e18.Tokens) hy19).mono fun v154 h155 T=>?_
    obtain ⟨rfl,T⟩:=T
    have S:St _ _ [_] _:=S.comp T
    refine ⟨y19,rfl,?_⟩
    obtain ⟨s20,hs20,hf⟩:=oB hf
    refine oI (.str s20) (catS_ev hs20) ⟨s20,rfl,?_⟩
    obtain ⟨s21,hs21,hf⟩:=oB hf
    refine oI (.str s21) (catS_ev hs21) ⟨s21,rfl,?_⟩
    exact hjj0 _ _  hf  S
   rw [ifF hc] at hf
   exact hjj0 _ _  hf  S
  rw [ifE hc] at hf
  obtain rfl:=oi hf
  obtain rfl:=hk
  exact ⟨rfl,S,rfl⟩
 exact ⟨rfl,S,hL⟩
def p63_l0 (l0:List (List UInt8)) (s1:List UInt8) (i10:Int):Option (Int⊕(Int⊕Unit)):=if i10 < (l0.length:Int) then ((idx l0 i10).bind fun e11=>if (e11==s1)=true then (some (.inr (.inl i10))) else (some (.inl (IntKind.wrap .i64 (i10+1))))) else (some (.inr (.inr ())))
def p63 (l0:List (List UInt8)) (s1:List UInt8):Option Int:=(loopC (p63_l0 l0 s1) 0).bind fun res12=>(match res12 with | .inl y13=>some y13 | .inr _=>some ((-1):Int))
theorem r63 {h:Heap} {a0_0:AV} {l0:List (List UInt8)} {s1:List UInt8} (f0_0:SlR rS (Snap h) a0_0 l0) {r:Int} (hf:p63 l0 s1=some r):ZC F 63 [a0_0,(.str s1)] h fun v h'=>v=.int .i64 r∧St h none' [] h':=by
 refine w63 ?_
 unfold W63
 unfold p63 at hf
 have S:St h none' [] h:=St.refl _ _
 obtain ⟨res12,hL,hf⟩:=oB hf
 obtain ⟨n14,hL⟩:=loopC_iff.1 hL
 refine loopm63_0 (R:=fun (l15:AV) (s16:List UInt8) (y13:Int) (i17:Int) (h18:Heap)=>St h none' [] h18∧(.inl y13)=res12) (X0:=fun (l19:AV) (s20:List UInt8) (y21:Int) (i22:Int) (h23:Heap)=>St h none' [] h23∧(.inr ())=res12) ?_ ?_ (loop63_0 (I:=fun (m24:Nat) (l25:AV) (s26:List UInt8) (y27:Int) (i10:Int) (h28:Heap)=>a0_0=l25∧s1=s26∧St h none' [] h28∧iter (p63_l0 l0 s1) m24 i10=some res12) ?_ (m:=n14) ?_)
 ·rintro l15 s16 y13 i17 h18 ⟨S,rfl⟩
  try dsimp only at hf
  obtain rfl:=oi hf
  exact ⟨rfl,S.sel [] rfl⟩
 ·rintro l19 s20 y21 i22 h23 ⟨S,rfl⟩
  try dsimp only at hf
  obtain rfl:=oi hf
  exact ⟨rfl,S.sel [] rfl⟩
 ·rintro m29 l25 s26 y27 i10 h28 ⟨rfl,rfl,S,hit⟩
  obtain ⟨m24,q30,rfl,hf,hk⟩:=iter_some hit
  clear hit
  unfold B63_0
  unfold p63_l0 at hf
  try dsimp only at hf
  refine iI.2 ⟨(f0_0).is,?_⟩
  try rw [show (a0_0).slen=_ from (f0_0).slen]
  refine bI (fun hc=>?_) (fun hc=>?_)
  ·rw [ifD hc] at hf
   obtain ⟨e11,he11,hf⟩:=oB hf
   refine ix_go f0_0 (sM S.le) he11 fun pe11=>?_
   obtain ⟨_,cr31,Rr31,Nr31,Or31,Zr31⟩:=SlR.idx f0_0 (sM S.le) he11
   obtain rfl:cr31=[(.str e11)]:=Rr31
   refine ⟨e11,Zr31 _ rfl,?_⟩
   refine bI (fun hc=>?_) (fun hc=>?_)
   ·rw [ifT hc] at hf
    obtain rfl:=oi hf
    obtain rfl:=hk
    exact ⟨S,rfl⟩
   rw [ifF hc] at hf
   obtain rfl:=oi hf
   exact ⟨m24,Nat.lt_succ_self _,rfl,rfl,S,hk⟩
  rw [ifE hc] at hf
  obtain rfl:=oi hf
  obtain rfl:=hk
  exact ⟨S,rfl⟩
 exact ⟨rfl,rfl,S,hL⟩
def p66 (r0:Option Tq5) (e1:Int):Option (Option Tq5):=r0.bind fun b10=>if b10.e=0 then ((idx b10.l b10.i).bind fun e11=>some (some (Tq5.mk b10.l b10.i e1 e11.At b10.n b10.places b10.told))) else (some (some b10))
theorem r66 {h:Heap} {a0_0:AV} {M:Nat→Prop} {r0:Option Tq5} {e1:Int} (S:St h M [own (oPtr oq5) [a0_0] r0] h) {r:(Option Tq5)} (hf:p66 r0 e1=some r):ZC F 66 [a0_0,(.int .i64 e1)] h fun v h'=>v=.tuple []∧St h M [own (oPtr oq5) [a0_0] r] h':=by
 refine w66 ?_
 unfold W66
 unfold p66 at hf
 obtain ⟨b10,hb10,hf⟩:=oB hf
 obtain ⟨o12,v13,b10c_0,b10c_4,b10c_5,b10c_6,b10c_7,eP,S2⟩:=oq5_deref hb10 S
 subst eP
 have S:=S2
 refine oI _ rfl ?_
 refine iI.2 ⟨rfl,?_⟩
 refine ⟨b10.e,S.rd1 m5 rfl,?_⟩
 refine bI (fun hc=>?_) (fun hc=>?_)
 ·rw [ifD hc] at hf
  refine oI (.ptr o12 v13 0) rfl ?_
  refine iI.2 ⟨rfl,?_⟩
  have S:=S.sel [5,0,1,2,3,4] rfl
  obtain ⟨h14,e15,S⟩:=S.store (off:=2) (n:=1) (x:=(.int .i64 e1)) (cs':=[b10c_0,(.int .i64 b10.i),(.int .i64 e1),(.int .i64 b10.at_),b10c_4,b10c_5,b10c_6,b10c_7]) (nl rfl) rfl rfl rfl
  refine ⟨h14,e15,?_⟩
  refine oI (.ptr o12 v13 0) rfl ?_
  refine iI.2 ⟨rfl,?_⟩
  refine ⟨b10c_0,S.rd1 m0 rfl,?_⟩
  refine oI (.ptr o12 v13 0) rfl ?_
  refine iI.2 ⟨rfl,?_⟩
  refine ⟨b10.i,S.rd1 m0 rfl,?_⟩
  obtain ⟨e11,he11,hf⟩:=oB hf
  refine ix_go (S.slz (r:=rToken) m1) (frz_snap _) he11 fun pe11=>?_
  refine iI.2 ⟨pe11,?_⟩
  obtain ⟨_,cr16,Rr16,Nr16,Or16,Zr16⟩:=SlR.idx (S.slz (r:=rToken) m1) (frz_snap _) he11
  obtain rfl:=rToken_open Rr16
  refine ⟨e11.At,Or16 3 _ rfl,?_⟩
  refine oI (.ptr o12 v13 0) rfl ?_
  refine iI.2 ⟨rfl,?_⟩
  obtain ⟨h17,e18,S⟩:=S.store (off:=3) (n:=1) (x:=(.int .i64 e11.At)) (cs':=[b10c_0,(.int .i64 b10.i),(.int .i64 e1),(.int .i64 e11.At),b10c_4,b10c_5,b10c_6,b10c_7]) (nl rfl) rfl rfl rfl
  refine ⟨h17,e18,?_⟩
  have S:St _ _ [own (fz (rSl rToken)) [b10c_0] b10.l,_,_,_,_,_,_] _:=S.add (rSl_mk (S.slz (r:=rToken) m1))
  have S:=S.sel [0,3,4,5,6,1,2] rfl
  have S:St _ _ [own (oPtr oq5) [(.ptr o12 v13 0)] (some (Tq5.mk b10.l b10.i e1 e11.At b10.n b10.places b10.told)),_] _:=oq5_shut (x:=(Tq5.mk b10.l b10.i e1 e11.At b10.n b10.places b10.told)) S
  obtain rfl:=oi hf
  exact ⟨rfl,S.sel [0] rfl⟩
 rw [ifE hc] at hf
 have S:St _ _ [own (fz (rSl rToken)) [b10c_0] b10.l,_,_,_,_,_,_] _:=S.add (rSl_mk (S.slz (r:=rToken) m0))
 have S:=S.sel [0,2,3,4,5,6,1] rfl
 have S:St _ _ [own (oPtr oq5) [(.ptr o12 v13 0)] (some b10),_] _:=oq5_shut (x:=b10) S
 obtain rfl:=oi hf
 exact ⟨rfl,S.sel [0] rfl⟩
def p65_j0 (b10:Tq5) (b11:Bool):Option (Option Tq5):=if b11=true then (some (some (Tq5.mk b10.l (IntKind.wrap .i64 (b10.i+1)) b10.e b10.at_ b10.n b10.places b10.told))) else (some (some b10))
def p65 (r0:Option Tq5):Option (Option Tq5):=r0.bind fun b10=>if b10.e=0 then (p65_j0 b10 (decide (b10.i < (IntKind.wrap .i64 ((b10.l.length:Int) - 1))))) else (p65_j0 b10 false)
theorem r65 {h:Heap} {a0_0:AV} {M:Nat→Prop} {r0:Option Tq5} (S:St h M [own (oPtr oq5) [a0_0] r0] h) {r:(Option Tq5)} (hf:p65 r0=some r):ZC F 65 [a0_0] h fun v h'=>v=.tuple []∧St h M [own (oPtr oq5) [a0_0] r] h':=by
 refine w65 ?_
 unfold W65
 unfold p65 at hf
 obtain ⟨b10,hb10,hf⟩:=oB hf
 obtain ⟨o12,v13,b10c_0,b10c_4,b10c_5,b10c_6,b10c_7,eP,S2⟩:=oq5_deref hb10 S
 subst eP
 have S:=S2
 refine oI _ rfl ?_
 refine iI.2 ⟨rfl,?_⟩
 refine ⟨b10.e,S.rd1 m5 rfl,?_⟩
 intro jjj0
 have hjj0:∀ (b11:Bool) (h14:Heap),p65_j0 b10 b11=some r→h=h14→St h M [rowC o12 [b10c_0,(.int .i64 b10.i),(.int .i64 b10.e),(.int .i64 b10.at_),b10c_4,b10c_5,b10c_6,b10c_7] v13,own (fz (rSl rToken)) [b10c_0] b10.l,own (oSl (fz rPlace)) [b10c_4] b10.n.Places,own (oSl oTrans) [b10c_5] b10.n.Trans,own (oSl (fz rS)) [b10c_6] b10.places,own (oSl (fz rS)) [b10c_7] b10.told] h→jjj0 b11 h14:=by
  rintro b11 h14 hf rfl S
  unfold p65_j0 at hf
  unfold jjj0
  refine bI (fun hc=>?_) (fun hc=>?_)
  ·rw [ifT hc] at hf
   refine oI (.ptr o12 v13 0) rfl ?_
   refine iI.2 ⟨rfl,?_⟩
   refine ⟨b10.i,S.rd1 m0 rfl,?_⟩
   refine oI (.ptr o12 v13 0) rfl ?_
   refine iI.2 ⟨rfl,?_⟩
   obtain ⟨h15,e16,S⟩:=S.store (off:=1) (n:=1) (x:=(.int .i64 (IntKind.wrap .i64 (b10.i+1)))) (cs':=[b10c_0,(.int .i64 (IntKind.wrap .i64 (b10.i+1))),(.int .i64 b10.e),(.int .i64 b10.at_),b10c_4,b10c_5,b10c_6,b10c_7]) (nl rfl) rfl rfl rfl
   refine ⟨h15,e16,?_⟩
   have S:St _ _ [own (fz (rSl rToken)) [b10c_0] b10.l,_,_,_,_,_,_] _:=S.add (rSl_mk (S.slz (r:=rToken) m1))
   have S:=S.sel [0,3,4,5,6,1,2] rfl
   have S:St _ _ [own (oPtr oq5) [(.ptr o12 v13 0)] (some (Tq5.mk b10.l (IntKind.wrap .i64 (b10.i+1)) b10.e b10.at_ b10.n b10.places b10.told)),_] _:=oq5_shut (x:=(Tq5.mk b10.l (IntKind.wrap .i64 (b10.i+1)) b10.e b10.at_ b10.n b10.places b10.told)) S
   obtain rfl:=oi hf
   exact ⟨rfl,S.sel [0] rfl⟩
  rw [ifF hc] at hf
  have S:St _ _ [own (fz (rSl rToken)) [b10c_0] b10.l,_,_,_,_,_,_] _:=S.add (rSl_mk (S.slz (r:=rToken) m1))
  have S:=S.sel [0,3,4,5,6,1,2] rfl
  have S:St _ _ [own (oPtr oq5) [(.ptr o12 v13 0)] (some b10),_] _:=oq5_shut (x:=b10) S
  obtain rfl:=oi hf
  exact ⟨rfl,S.sel [0] rfl⟩
 refine bI (fun hc=>?_) (fun hc=>?_)
 ·rw [ifD hc] at hf
  refine oI (.ptr o12 v13 0) rfl ?_
  refine iI.2 ⟨rfl,?_⟩
  refine ⟨b10.i,S.rd1 m5 rfl,?_⟩
  refine oI (.ptr o12 v13 0) rfl ?_
  refine iI.2 ⟨rfl,?_⟩
  refine ⟨b10c_0,S.rd1 m5 rfl,?_⟩
  refine iI.2 ⟨((S.slz (r:=rToken) m0)).is,?_⟩
  try rw [show (b10c_0).slen=_ from ((S.slz (r:=rToken) m0)).slen]
  have S:=S.sel [5,0,1,2,3,4] rfl
  exact hjj0 _ _  hf rfl S
 rw [ifE hc] at hf
 have S:=S.sel [5,0,1,2,3,4] rfl
 exact hjj0 _ _  hf rfl S
def p64_j0 (b10:Bool):Option Bool:=some b10
def p64_j1 (b11:Bool):Option Bool:=p64_j0 b11
def p64_j2 (s2:List UInt8) (b12:Tq5) (b13:Bool):Option Bool:=if b13=true then (if (s2==([]:List UInt8))=true then (p64_j1 true) else ((idx b12.l b12.i).bind fun e14=>p64_j1 (e14.Text==s2))) else (p64_j0 false)
def p64 (r0:Option Tq5) (kind1:Int) (s2:List UInt8):Option Bool:=r0.bind fun b12=>if b12.e=0 then ((idx b12.l b12.i).bind fun e15=>p64_j2 s2 b12 (decide (e15.Kind=kind1))) else (p64_j2 s2 b12 false)
theorem r64 {h:Heap} {a0_0:AV} {r0:Option Tq5} {kind1:Int} {s2:List UInt8} (f0_0:PtR rq5 (Snap h) a0_0 r0) {r:Bool} (hf:p64 r0 kind1 s2=some r):ZC F 64 [a0_0,(.int .u8 kind1),(.str s2)] h fun v h'=>v=.bool r∧St h none' [] h':=by
 refine w64 ?_
 unfold W64
 unfold p64 at hf
 have S:St h none' [] h:=St.refl _ _
 obtain ⟨b12,hb12,hf⟩:=oB hf
 obtain ⟨o16,v17,rwb12,eP,gb12,Rb12⟩:=PtR.open (hb12▸f0_0)
 subst eP
 obtain ⟨b12c_0,b12c_4,b12c_5,b12c_6,b12c_7,rfl,Fb12_0,Fb12_4,Fb12_5,Fb12_6,Fb12_7⟩:=rq5_open Rb12
 refine oI _ rfl ?_
 refine iI.2 ⟨rfl,?_⟩
 refine ⟨b12.e,snap_rd1 (sM S.le _ _ _ gb12) rfl,?_⟩
 intro jjj2
 have hjj2:∀ (b13:Bool) (h18:Heap),p64_j2 s2 b12 b13=some r→h=h18→St h none' [] h→jjj2 b13 h18:=by
  rintro b13 h18 hf rfl S
  unfold p64_j2 at hf
  unfold jjj2
  intro jjj0
  have hjj0:∀ (b10:Bool) (h19:Heap),p64_j0 b10=some r→h=h19→St h none' [] h→jjj0 b10 h19:=by
   rintro b10 h19 hf rfl S
   unfold p64_j0 at hf
   unfold jjj0
   obtain rfl:=oi hf
   exact ⟨rfl,S.sel [] rfl⟩
  refine bI (fun hc=>?_) (fun hc=>?_)
  ·rw [ifT hc] at hf
   intro jjj1
   have hjj1:∀ (b11:Bool) (h20:Heap),p64_j1 b11=some r→h=h20→St h none' [] h→jjj1 b11 h20:=by
    rintro b11 h20 hf rfl S
    unfold p64_j1 at hf
    unfold jjj1
    exact hjj0 _ _  hf rfl S
   refine bI (fun hc=>?_) (fun hc=>?_)
   ·rw [ifT hc] at hf
    exact hjj1 _ _  hf rfl S
   rw [ifF hc] at hf
   refine oI (.ptr o16 v17 0) rfl ?_
   refine iI.2 ⟨rfl,?_⟩
   refine ⟨b12c_0,snap_rd1 (sM S.le _ _ _ gb12) rfl,?_⟩
   refine oI (.ptr o16 v17 0) rfl ?_
   refine iI.2 ⟨rfl,?_⟩
   refine ⟨b12.i,snap_rd1 (sM S.le _ _ _ gb12) rfl,?_⟩
   obtain ⟨e14,he14,hf⟩:=oB hf
   refine ix_go Fb12_0 (sM S.le) he14 fun pe14=>?_
   refine iI.2 ⟨pe14,?_⟩
   obtain ⟨_,cr21,Rr21,Nr21,Or21,Zr21⟩:=SlR.idx Fb12_0 (sM S.le) he14
   obtain rfl:=rToken_open Rr21
   refine ⟨e14.Text,Or21 1 _ rfl,?_⟩
   exact hjj1 _ _  hf rfl S
  rw [ifF hc] at hf
  exact hjj0 _ _  hf rfl S
 refine bI (fun hc=>?_) (fun hc=>?_)
 ·rw [ifD hc] at hf
  refine oI (.ptr o16 v17 0) rfl ?_
  refine iI.2 ⟨rfl,?_⟩
  refine ⟨b12c_0,snap_rd1 (sM S.le _ _ _ gb12) rfl,?_⟩
  refine oI (.ptr o16 v17 0) rfl ?_
  refine iI.2 ⟨rfl,?_⟩
  refine ⟨b12.i,snap_rd1 (sM S.le _ _ _ gb12) rfl,?_⟩
  obtain ⟨e15,he15,hf⟩:=oB hf
  refine ix_go Fb12_0 (sM S.le) he15 fun pe15=>?_
  refine iI.2 ⟨pe15,?_⟩
  obtain ⟨_,cr22,Rr22,Nr22,Or22,Zr22⟩:=SlR.idx Fb12_0 (sM S.le) he15
  obtain rfl:=rToken_open Rr22
  refine ⟨e15.Kind,Or22 0 _ rfl,?_⟩
  exact hjj2 _ _  hf rfl S
 rw [ifE hc] at hf
 exact hjj2 _ _  hf rfl S
def p69_j0 (l10:Option Tq5):Option (Option Tq5):=(p65 l10).bind fun u11=>some u11
def p69 (r0:Option Tq5) (s1:List UInt8):Option (Option Tq5):=(p64 r0 3 s1).bind fun y12=>if (!y12)=true then ((p66 r0 6).bind fun u13=>p69_j0 u13) else (p69_j0 r0)
theorem r69 {h:Heap} {a0_0:AV} {M:Nat→Prop} {r0:Option Tq5} {s1:List UInt8} (S:St h M [own (oPtr oq5) [a0_0] r0] h) {r:(Option Tq5)} (hf:p69 r0 s1=some r):ZC F 69 [a0_0,(.str s1)] h fun v h'=>v=.tuple []∧St h M [own (oPtr oq5) [a0_0] r] h':=by
 refine w69 ?_
 unfold W69
 unfold p69 at hf
 obtain ⟨y12,hy12,hf⟩:=oB hf
 refine ⟨_,Fz.refl _,?_⟩
 refine (r64 (r0:=r0) (kind1:=3) (s2:=s1) (f0_0:=S.pt (r:=oq5) m0) hy12).mono fun v14 h15 T=>?_
 obtain ⟨rfl,T⟩:=T
 have S:St _ _ [own (oPtr oq5) [a0_0] r0] _:=S.comp T
 refine ⟨y12,rfl,?_⟩
 intro jjj0
 have hjj0:∀  (h16:Heap) (l10:Option Tq5),p69_j0 l10=some r→St h M [own (oPtr oq5) [a0_0] l10] h16→jjj0 h16:=by
  rintro h16 l10 hf S
  unfold p69_j0 at hf
  unfold jjj0
  obtain ⟨u11,hu11,hf⟩:=oB hf
  refine ⟨_,Fz.refl _,?_⟩
  obtain ⟨fpu11,S1u113,backu11⟩:=St.lend [_] S
  refine (r65 (r0:=l10) (S:=S1u113) hu11).mono fun v17 h18 T=>?_
  obtain ⟨rfl,T⟩:=T
  have S:St _ _ [own (oPtr oq5) [a0_0] u11] _:=backu11 _ _ T
  obtain rfl:=oi hf
  exact ⟨rfl,S.sel [0] rfl⟩
 refine bI (fun hc=>?_) (fun hc=>?_)
 ·rw [ifT hc] at hf
  obtain ⟨u13,hu13,hf⟩:=oB hf
  refine ⟨_,Fz.refl _,?_⟩
  obtain ⟨fpu13,S1u117,backu13⟩:=St.lend [_] S
  refine (r66 (r0:=r0) (e1:=6) (S:=S1u117) hu13).mono fun v19 h20 T=>?_
  obtain ⟨rfl,T⟩:=T
  have S:St _ _ [own (oPtr oq5) [a0_0] u13] _:=backu13 _ _ T
  exact hjj0  _ u13 hf  S
 rw [ifF hc] at hf
 exact hjj0  _ r0 hf  S
def p68_j0 (e10:TToken) (l11:Option Tq5):Option (Int×(Option Tq5)):=(p65 l11).bind fun u12=>some (e10.N,u12)
def p68_j1 (b13:Tq5) (e10:TToken) (b14:Bool):Option (Int×(Option Tq5)):=if b14=true then ((p66 (some b13) 3).bind fun u15=>p68_j0 e10 u15) else (p68_j0 e10 (some b13))
def p68 (r0:Option Tq5) (least1:Int):Option (Int×(Option Tq5)):=(p64 r0 2 ([]:List UInt8)).bind fun y16=>if (!y16)=true then ((p66 r0 6).bind fun u17=>some (0,u17)) else (r0.bind fun b13=>(idx b13.l b13.i).bind fun e10=>if e10.N < least1 then (p68_j1 b13 e10 true) else (p68_j1 b13 e10 (decide (1000000 < e10.N))))
theorem r68 {h:Heap} {a0_0:AV} {M:Nat→Prop} {r0:Option Tq5} {least1:Int} (S:St h M [own (oPtr oq5) [a0_0] r0] h) {r:Int×(Option Tq5)} (hf:p68 r0 least1=some r):ZC F 68 [a0_0,(.int .i64 least1)] h fun v h'=>v=.int .i64 r.1∧St h M [own (oPtr oq5) [a0_0] r.2] h':=by
 refine w68 ?_
 unfold W68
 unfold p68 at hf
 obtain ⟨y16,hy16,hf⟩:=oB hf
 refine ⟨_,Fz.refl _,?_⟩
 refine (r64 (r0:=r0) (kind1:=2) (s2:=([]:List UInt8)) (f0_0:=S.pt (r:=oq5) m0) hy16).mono fun v18 h19 T=>?_
 obtain ⟨rfl,T⟩:=T
 have S:St _ _ [own (oPtr oq5) [a0_0] r0] _:=S.comp T
 refine ⟨y16,rfl,?_⟩
 refine bI (fun hc=>?_) (fun hc=>?_)
 ·rw [ifT hc] at hf
  obtain ⟨u17,hu17,hf⟩:=oB hf
  refine ⟨_,Fz.refl _,?_⟩
  obtain ⟨fpu17,S1u107,backu17⟩:=St.lend [_] S
  refine (r66 (r0:=r0) (e1:=6) (S:=S1u107) hu17).mono fun v20 h21 T=>?_
  obtain ⟨rfl,T⟩:=T
  have S:St _ _ [own (oPtr oq5) [a0_0] u17] _:=backu17 _ _ T
  obtain rfl:=oi hf
  exact ⟨rfl,S.sel [0] rfl⟩
 rw [ifF hc] at hf
 obtain ⟨b13,hb13,hf⟩:=oB hf
 obtain ⟨o22,v23,b13c_0,b13c_4,b13c_5,b13c_6,b13c_7,eP,S2⟩:=oq5_deref hb13 S
 subst eP
 have S:=S2
 refine oI _ rfl ?_
 refine iI.2 ⟨rfl,?_⟩
 refine ⟨b13c_0,S.rd1 m5 rfl,?_⟩
 refine oI (.ptr o22 v23 0) rfl ?_
 refine iI.2 ⟨rfl,?_⟩
 refine ⟨b13.i,S.rd1 m5 rfl,?_⟩
 obtain ⟨e10,he10,hf⟩:=oB hf
 refine ix_go (S.slz (r:=rToken) m0) (frz_snap _) he10 fun pe10=>?_
 refine iI.2 ⟨pe10,?_⟩
 obtain ⟨_,cr24,Rr24,Nr24,Or24,Zr24⟩:=SlR.idx (S.slz (r:=rToken) m0) (frz_snap _) he10
 obtain rfl:=rToken_open Rr24
 refine ⟨e10.N,Or24 2 _ rfl,?_⟩
 intro jjj1
 have hjj1:∀ (b14:Bool) (h25:Heap),p68_j1 b13 e10 b14=some r→h19=h25→St h M [rowC o22 [b13c_0,(.int .i64 b13.i),(.int .i64 b13.e),(.int .i64 b13.at_),b13c_4,b13c_5,b13c_6,b13c_7] v23,own (fz (rSl rToken)) [b13c_0] b13.l,own (oSl (fz rPlace)) [b13c_4] b13.n.Places,own (oSl oTrans) [b13c_5] b13.n.Trans,own (oSl (fz rS)) [b13c_6] b13.places,own (oSl (fz rS)) [b13c_7] b13.told] h19→jjj1 b14 h25:=by
  rintro b14 h25 hf rfl S
  unfold p68_j1 at hf
  unfold jjj1
  intro jjj0
  have hjj0:∀  (h26:Heap) (l11:Option Tq5),p68_j0 e10 l11=some r→St h M [own (oPtr oq5) [(.ptr o22 v23 0)] l11] h26→jjj0 h26:=by
   rintro h26 l11 hf S
   unfold p68_j0 at hf
   unfold jjj0
   obtain ⟨u12,hu12,hf⟩:=oB hf
   refine ⟨_,Fz.refl _,?_⟩
   obtain ⟨fpu12,S1u133,backu12⟩:=St.lend [_] S
   refine (r65 (r0:=l11) (S:=S1u133) hu12).mono fun v27 h28 T=>?_
   obtain ⟨rfl,T⟩:=T
   have S:St _ _ [own (oPtr oq5) [(.ptr o22 v23 0)] u12] _:=backu12 _ _ T
   obtain rfl:=oi hf
   exact ⟨rfl,S.sel [0] rfl⟩
  refine bI (fun hc=>?_) (fun hc=>?_)
  ·rw [ifT hc] at hf
   obtain ⟨u15,hu15,hf⟩:=oB hf
   have S:St _ _ [own (fz (rSl rToken)) [b13c_0] b13.l,_,_,_,_,_,_] _:=S.add (rSl_mk (S.slz (r:=rToken) m1))
   have S:=S.sel [0,3,4,5,6,1,2] rfl
   have S:St _ _ [own (oPtr oq5) [(.ptr o22 v23 0)] (some b13),_] _:=oq5_shut (x:=b13) S
   refine ⟨_,Fz.refl _,?_⟩
   obtain ⟨fpu15,S1u138,backu15⟩:=St.lend [_] S
   refine (r66 (r0:=(some b13)) (e1:=3) (S:=S1u138) hu15).mono fun v29 h30 T=>?_
   obtain ⟨rfl,T⟩:=T
   have S:St _ _ [own (oPtr oq5) [(.ptr o22 v23 0)] u15,_] _:=backu15 _ _ T
   have S:=S.sel [0] rfl
   exact hjj0  _ u15 hf  S
  rw [ifF hc] at hf
  have S:St _ _ [own (fz (rSl rToken)) [b13c_0] b13.l,_,_,_,_,_,_] _:=S.add (rSl_mk (S.slz (r:=rToken) m1))
  have S:=S.sel [0,3,4,5,6,1,2] rfl
  have S:St _ _ [own (oPtr oq5) [(.ptr o22 v23 0)] (some b13),_] _:=oq5_shut (x:=b13) S
  have S:=S.sel [0] rfl
  exact hjj0  _ (some b13) hf  S
 refine bI (fun hc=>?_) (fun hc=>?_)
 ·rw [ifD hc] at hf
  have S:=S.sel [5,0,1,2,3,4] rfl
  exact hjj1 _ _  hf rfl S
 rw [ifE hc] at hf
 have S:=S.sel [5,0,1,2,3,4] rfl
 exact hjj1 _ _  hf rfl S
def p67_j0 (e10:TToken) (l11:Option Tq5):Option ((List UInt8)×(Option Tq5)):=l11.bind fun b12=>(app 16 b12.told [e10.Text]).bind fun b13=>(p65 (some (Tq5.mk b12.l b12.i b12.e b12.at_ b12.n b12.places b13))).bind fun u14=>some (e10.Text,u14)
def p67_j1 (e10:TToken) (b15:Bool) (l16:Option Tq5):Option ((List UInt8)×(Option Tq5)):=if b15=true then ((p66 l16 7).bind fun u17=>p67_j0 e10 u17) else (p67_j0 e10 l16)
def p67 (r0:Option Tq5):Option ((List UInt8)×(Option Tq5)):=r0.bind fun b18=>(idx b18.l b18.i).bind fun e10=>(p64 (some b18) 1 ([]:List UInt8)).bind fun y19=>if (!y19)=true then ((p66 (some b18) 6).bind fun u20=>p67_j0 e10 u20) else (if 12 < (e10.Text.length:Int) then (p67_j1 e10 true (some b18)) else ((some b18).bind fun b21=>(p63 b21.told e10.Text).bind fun y22=>p67_j1 e10 (decide (0≤y22)) (some b21)))
theorem r67 {h:Heap} {a0_0:AV} {M:Nat→Prop} {r0:Option Tq5} (S:St h M [own (oPtr oq5) [a0_0] r0] h) {r:(List UInt8)×(Option Tq5)} (hf:p67 r0=some r):ZC F 67 [a0_0] h fun v h'=>v=.str r.1∧St h M [own (oPtr oq5) [a0_0] r.2] h':=by
 refine w67 ?_
 unfold W67
 unfold p67 at hf
 obtain ⟨b18,hb18,hf⟩:=oB hf
 obtain ⟨o23,v24,b18c_0,b18c_4,b18c_5,b18c_6,b18c_7,eP,S2⟩:=oq5_deref hb18 S
 subst eP
 have S:=S2
 refine oI _ rfl ?_
 refine iI.2 ⟨rfl,?_⟩
 refine ⟨b18c_0,S.rd1 m5 rfl,?_⟩
 refine oI (.ptr o23 v24 0) rfl ?_
 refine iI.2 ⟨rfl,?_⟩
 refine ⟨b18.i,S.rd1 m5 rfl,?_⟩
 obtain ⟨e10,he10,hf⟩:=oB hf
 refine ix_go (S.slz (r:=rToken) m0) (frz_snap _) he10 fun pe10=>?_
 refine iI.2 ⟨pe10,?_⟩
 obtain ⟨_,cr25,Rr25,Nr25,Or25,Zr25⟩:=SlR.idx (S.slz (r:=rToken) m0) (frz_snap _) he10
 obtain rfl:=rToken_open Rr25
 refine ⟨e10.Text,Or25 1 _ rfl,?_⟩
 obtain ⟨y19,hy19,hf⟩:=oB hf
 have S:St _ _ [own (fz (rSl rToken)) [b18c_0] b18.l,_,_,_,_,_,_] _:=S.add (rSl_mk (S.slz (r:=rToken) m0))
 have S:=S.sel [0,2,3,4,5,6,1] rfl
 have S:St _ _ [own (oPtr oq5) [(.ptr o23 v24 0)] (some b18),_] _:=oq5_shut (x:=b18) S
 refine ⟨_,Fz.refl _,?_⟩
 refine (r64 (r0:=(some b18)) (kind1:=1) (s2:=([]:List UInt8)) (f0_0:=S.pt (r:=oq5) m0) hy19).mono fun v26 h27 T=>?_
 obtain ⟨rfl,T⟩:=T
 have S:St _ _ [_,_] _:=S.comp T
 refine ⟨y19,rfl,?_⟩
 intro jjj0
 have hjj0:∀  (h28:Heap) (l11:Option Tq5),p67_j0 e10 l11=some r→St h M [own (oPtr oq5) [(.ptr o23 v24 0)] l11] h28→jjj0 h28:=by
  rintro h28 l11 hf S
  unfold p67_j0 at hf
  unfold jjj0
  obtain ⟨b12,hb12,hf⟩:=oB hf
  obtain ⟨b12c_0,b12c_4,b12c_5,b12c_6,b12c_7,S⟩:=oq5_derefAt hb12 S
  refine oI _ rfl ?_
  refine iI.2 ⟨rfl,?_⟩
  refine ⟨b12c_7,S.rd1 m5 rfl,?_⟩
  intro h29
  have S:St _ _ [rowC h28.n [(.str e10.Text)] 0,_,_,_,_,_,_] _:=S.pushRow [(.str e10.Text)]
  obtain ⟨b13,hb13,hf⟩:=oB hf
  have S:St _ _ [own (fz rS) [(.str e10.Text)] e10.Text,_,_,_,_,_,_,_] _:=S.add (r:=rS) (x:=e10.Text) rfl
  have S:=S.sel [6,0,1,2,3,4,5,7] rfl
  have mb13:=app_some hb13
  obtain ⟨v30,h31,e32,S⟩:=St.app1R (r:=(fz rS)) (b:=16) S mb13.1
  have S:St _ _ [own (oSl (fz rS)) [v30] b13,_,_,_,_,_] _:=S.cast1 (by rw [← mb13.2]<;>rfl)
  refine ⟨v30,h31,e32,?_⟩
  refine oI (.ptr o23 v24 0) rfl ?_
  refine iI.2 ⟨rfl,?_⟩
  have S:=S.sel [5,0,1,2,3,4] rfl
  obtain ⟨h33,e34,S⟩:=S.storeS (off:=7) (x:=v30) (cs':=[b12c_0,(.int .i64 b12.i),(.int .i64 b12.e),(.int .i64 b12.at_),b12c_4,b12c_5,b12c_6,v30]) (nl rfl) ((S.sl (r:=(fz rS)) m1)).is rfl
  refine ⟨h33,e34,?_⟩
  obtain ⟨u14,hu14,hf⟩:=oB hf
  have S:St _ _ [own (fz (rSl rToken)) [b12c_0] b12.l,_,_,_,_,_,_] _:=S.add (rSl_mk (S.slz (r:=rToken) m2))
  have S:=S.sel [0,4,5,6,2,1,3] rfl
  have S:St _ _ [own (oPtr oq5) [(.ptr o23 v24 0)] (some (Tq5.mk b12.l b12.i b12.e b12.at_ b12.n b12.places b13)),_] _:=oq5_shut (x:=(Tq5.mk b12.l b12.i b12.e b12.at_ b12.n b12.places b13)) S
  refine ⟨_,Fz.refl _,?_⟩
  obtain ⟨fpu14,S1u179,backu14⟩:=St.lend [_] S
  refine (r65 (r0:=(some (Tq5.mk b12.l b12.i b12.e b12.at_ b12.n b12.places b13))) (S:=S1u179) hu14).mono fun v35 h36 T=>?_
  obtain ⟨rfl,T⟩:=T
  have S:St _ _ [own (oPtr oq5) [(.ptr o23 v24 0)] u14,_] _:=backu14 _ _ T
  obtain rfl:=oi hf
  exact ⟨rfl,S.sel [0] rfl⟩
 refine bI (fun hc=>?_) (fun hc=>?_)
 ·rw [ifT hc] at hf
  obtain ⟨u20,hu20,hf⟩:=oB hf
  refine ⟨_,Fz.refl _,?_⟩
  obtain ⟨fpu20,S1u183,backu20⟩:=St.lend [_] S
  refine (r66 (r0:=(some b18)) (e1:=6) (S:=S1u183) hu20).mono fun v37 h38 T=>?_
  obtain ⟨rfl,T⟩:=T
  have S:St _ _ [own (oPtr oq5) [(.ptr o23 v24 0)] u20,_] _:=backu20 _ _ T
  have S:=S.sel [0] rfl
  exact hjj0  _ u20 hf  S
 rw [ifF hc] at hf
 intro jjj1
 have hjj1:∀ (b15:Bool) (h39:Heap) (l16:Option Tq5),p67_j1 e10 b15 l16=some r→St h M [own (oPtr oq5) [(.ptr o23 v24 0)] l16] h39→jjj1 b15 h39:=by
  rintro b15 h39 l16 hf S
  unfold p67_j1 at hf
  unfold jjj1
  refine bI (fun hc=>?_) (fun hc=>?_)
  ·rw [ifT hc] at hf
   obtain ⟨u17,hu17,hf⟩:=oB hf
   refine ⟨_,Fz.refl _,?_⟩
   obtain ⟨fpu17,S1u203,backu17⟩:=St.lend [_] S
   refine (r66 (r0:=l16) (e1:=7) (S:=S1u203) hu17).mono fun v40 h41 T=>?_
   obtain ⟨rfl,T⟩:=T
   have S:St _ _ [own (oPtr oq5) [(.ptr o23 v24 0)] u17] _:=backu17 _ _ T
   exact hjj0  _ u17 hf  S
  rw [ifF hc] at hf
  exact hjj0  _ l16 hf  S
 refine bI (fun hc=>?_) (fun hc=>?_)
 ·rw [ifD hc] at hf
  have S:=S.sel [0] rfl
  exact hjj1 _ _ (some b18) hf  S
 rw [ifE hc] at hf
 obtain ⟨b21,hb21,hf⟩:=oB hf
 obtain ⟨b21c_0,b21c_4,b21c_5,b21c_6,b21c_7,S⟩:=oq5_derefAt hb21 S
 refine oI _ rfl ?_
 refine iI.2 ⟨rfl,?_⟩
 refine ⟨b21c_7,S.rd1 m5 rfl,?_⟩
 obtain ⟨y22,hy22,hf⟩:=oB hf
 refine ⟨_,Fz.refl _,?_⟩
 refine (r63 (l0:=b21.told) (s1:=e10.Text) (f0_0:=(S.sl (r:=(fz rS)) m4)) hy22).mono fun v42 h43 T=>?_
 obtain ⟨rfl,T⟩:=T
 have S:St _ _ [_,_,_,_,_,_,_] _:=S.comp T
 refine ⟨y22,rfl,?_⟩
 have S:St _ _ [own (fz (rSl rToken)) [b21c_0] b21.l,_,_,_,_,_,_,_] _:=S.add (rSl_mk (S.slz (r:=rToken) m0))
 have S:=S.sel [0,2,3,4,5,6,1,7] rfl
 have S:St _ _ [own (oPtr oq5) [(.ptr o23 v24 0)] (some b21),_,_] _:=oq5_shut (x:=b21) S
 have S:=S.sel [0] rfl
 exact hjj1 _ _ (some b21) hf  S
def p70_j0 (y10:Int) (b11:Bool):Option ((Bool×Int)⊕Bool):=some (.inl (b11,(IntKind.wrap .i64 (y10+1))))
def p70_l0 (x1:List TArc) (y12:Int) (st:Bool×Int):Option ((Bool×Int)⊕Bool):=match st with | (y13,y10)=>if y10 < (x1.length:Int) then (if y13=true then (p70_j0 y10 true) else ((idx x1 y10).bind fun e14=>p70_j0 y10 (decide (e14.Place=y12)))) else (some (.inr y13))
def p70_j1 (x1:List TArc) (y12:Int) (c15:Int) (l16:Option Tq5):Option ((List TArc)×(Option Tq5)):=(app 16 x1 [(TArc.mk y12 c15)]).bind fun x17=>some (x17,l16)
def p70_j2 (x1:List TArc) (y12:Int) (l18:Option Tq5):Option ((List TArc)×(Option Tq5)):=(p65 l18).bind fun u19=>(p64 u19 3 ([42]:List UInt8)).bind fun y20=>if y20=true then ((p65 u19).bind fun u21=>(p68 u21 1).bind fun u22=>p70_j1 x1 y12 u22.1 u22.2) else (p70_j1 x1 y12 1 u19)
def p70_j3 (x1:List TArc) (y12:Int) (l23:Option Tq5):Option ((List TArc)×(Option Tq5)):=if (x1.length:Int)=8 then ((p66 l23 5).bind fun u24=>p70_j2 x1 y12 u24) else (p70_j2 x1 y12 l23)
def p70 (x0:Option Tq5) (x1:List TArc):Option ((List TArc)×(Option Tq5)):=(p64 x0 1 ([]:List UInt8)).bind fun y25=>if (!y25)=true then ((p66 x0 6).bind fun u26=>some (x1,u26)) else (x0.bind fun b27=>(idx b27.l b27.i).bind fun e28=>(p63 b27.places e28.Text).bind fun y12=>(loopC (p70_l0 x1 y12) ((decide (y12 < 0)),0)).bind fun res29=>((fun (y30:Bool)=>if y30=true then ((p66 (some b27) 7).bind fun u31=>p70_j3 x1 y12 u31) else (p70_j3 x1 y12 (some b27))) res29))
theorem r70 {h:Heap} {a0_0:AV} {a1_0:AV} {M:Nat→Prop} {x0:Option Tq5} {x1:List TArc} (S:St h M [own (oPtr oq5) [a0_0] x0,own (oSl (fz rArc)) [a1_0] x1] h) {r:(List TArc)×(Option Tq5)} (hf:p70 x0 x1=some r):ZC F 70 [a0_0,a1_0] h fun v h'=>St h M [own (oSl (fz rArc)) [v] r.1,own (oPtr oq5) [a0_0] r.2] h':=by
 refine w70 ?_
 unfold W70
 unfold p70 at hf
 obtain ⟨y25,hy25,hf⟩:=oB hf
 refine ⟨_,Fz.refl _,?_⟩
 refine (r64 (r0:=x0) (kind1:=1) (s2:=([]:List UInt8)) (f0_0:=S.pt (r:=oq5) m0) hy25).mono fun v32 h33 T=>?_
 obtain ⟨rfl,T⟩:=T
 have S:St _ _ [own (oPtr oq5) [a0_0] x0,own (oSl (fz rArc)) [a1_0] x1] _:=S.comp T
 refine ⟨y25,rfl,?_⟩
 refine bI (fun hc=>?_) (fun hc=>?_)
 ·rw [ifT hc] at hf
  obtain ⟨u26,hu26,hf⟩:=oB hf
  refine ⟨_,Fz.refl _,?_⟩
  obtain ⟨fpu26,S1u108,backu26⟩:=St.lend [_] S
  refine (r66 (r0:=x0) (e1:=6) (S:=S1u108) hu26).mono fun v34 h35 T=>?_
  obtain ⟨rfl,T⟩:=T
  have S:St _ _ [own (oPtr oq5) [a0_0] u26,_] _:=backu26 _ _ T
  obtain rfl:=oi hf
  exact S.sel [1,0] rfl
 rw [ifF hc] at hf
 obtain ⟨b27,hb27,hf⟩:=oB hf
 obtain ⟨o36,v37,b27c_0,b27c_4,b27c_5,b27c_6,b27c_7,eP,S2⟩:=oq5_deref hb27 S
 subst eP
 have S:=S2
 refine oI _ rfl ?_
 refine iI.2 ⟨rfl,?_⟩
 refine ⟨b27c_6,S.rd1 m5 rfl,?_⟩
 refine oI (.ptr o36 v37 0) rfl ?_
 refine iI.2 ⟨rfl,?_⟩
 refine ⟨b27c_0,S.rd1 m5 rfl,?_⟩
 refine oI (.ptr o36 v37 0) rfl ?_
 refine iI.2 ⟨rfl,?_⟩
 refine ⟨b27.i,S.rd1 m5 rfl,?_⟩
 obtain ⟨e28,he28,hf⟩:=oB hf
 refine ix_go (S.slz (r:=rToken) m0) (frz_snap _) he28 fun pe28=>?_
 refine iI.2 ⟨pe28,?_⟩
 obtain ⟨_,cr38,Rr38,Nr38,Or38,Zr38⟩:=SlR.idx (S.slz (r:=rToken) m0) (frz_snap _) he28
 obtain rfl:=rToken_open Rr38
 refine ⟨e28.Text,Or38 1 _ rfl,?_⟩
 obtain ⟨y12,hy12,hf⟩:=oB hf
 refine ⟨_,Fz.refl _,?_⟩
 refine (r63 (l0:=b27.places) (s1:=e28.Text) (f0_0:=(S.sl (r:=(fz rS)) m3)) hy12).mono fun v39 h40 T=>?_
 obtain ⟨rfl,T⟩:=T
 have S:St _ _ [_,_,_,_,_,_,_] _:=S.comp T
 refine ⟨y12,rfl,?_⟩
 obtain ⟨res29,hL,hf⟩:=oB hf
 obtain ⟨n41,hL⟩:=loopC_iff.1 hL
 have S:=S.sel [5,6,0,1,2,3,4] rfl
 refine loopm70_0 (X0:=fun (y42:AV) (y43:AV) (y44:Int) (y30:Bool) (y45:Int) (h46:Heap)=>AV.ptr o36 v37 0=y42∧a1_0=y43∧y12=y44∧St h M [rowC o36 [b27c_0,(.int .i64 b27.i),(.int .i64 b27.e),(.int .i64 b27.at_),b27c_4,b27c_5,b27c_6,b27c_7] v37,own (oSl (fz rArc)) [a1_0] x1,own (fz (rSl rToken)) [b27c_0] b27.l,own (oSl (fz rPlace)) [b27c_4] b27.n.Places,own (oSl oTrans) [b27c_5] b27.n.Trans,own (oSl (fz rS)) [b27c_6] b27.places,own (oSl (fz rS)) [b27c_7] b27.told] h46∧y30=res29) ?_ (loop70_0 (I:=fun (m47:Nat) (y48:AV) (y49:AV) (y50:Int) (y13:Bool) (y10:Int) (h51:Heap)=>AV.ptr o36 v37 0=y48∧a1_0=y49∧y12=y50∧St h M [rowC o36 [b27c_0,(.int .i64 b27.i),(.int .i64 b27.e),(.int .i64 b27.at_),b27c_4,b27c_5,b27c_6,b27c_7] v37,own (oSl (fz rArc)) [a1_0] x1,own (fz (rSl rToken)) [b27c_0] b27.l,own (oSl (fz rPlace)) [b27c_4] b27.n.Places,own (oSl oTrans) [b27c_5] b27.n.Trans,own (oSl (fz rS)) [b27c_6] b27.places,own (oSl (fz rS)) [b27c_7] b27.told] h51∧iter (p70_l0 x1 y12) m47 (y13,y10)=some res29) ?_ (m:=n41) ?_)
 ·rintro y42 y43 y44 y30 y45 h46 ⟨rfl,rfl,rfl,S,rfl⟩
  try dsimp only at hf
  intro jjj3
  have hjj3:∀  (h52:Heap) (l23:Option Tq5),p70_j3 x1 y12 l23=some r→St h M [own (oPtr oq5) [(.ptr o36 v37 0)] l23,own (oSl (fz rArc)) [a1_0] x1] h52→jjj3 h52:=by
   rintro h52 l23 hf S
   unfold p70_j3 at hf
   unfold jjj3
   refine iI.2 ⟨((S.sl (r:=(fz rArc)) m1)).is,?_⟩
   try rw [show (a1_0).slen=_ from ((S.sl (r:=(fz rArc)) m1)).slen]
   intro jjj2
   have hjj2:∀  (h53:Heap) (l18:Option Tq5),p70_j2 x1 y12 l18=some r→St h M [own (oPtr oq5) [(.ptr o36 v37 0)] l18,own (oSl (fz rArc)) [a1_0] x1] h53→jjj2 h53:=by
    rintro h53 l18 hf S
    unfold p70_j2 at hf
    unfold jjj2
    obtain ⟨u19,hu19,hf⟩:=oB hf
    refine ⟨_,Fz.refl _,?_⟩
    obtain ⟨fpu19,S1u183,backu19⟩:=St.lend [_] S
    refine (r65 (r0:=l18) (S:=S1u183) hu19).mono fun v54 h55 T=>?_
    obtain ⟨rfl,T⟩:=T
    have S:St _ _ [own (oPtr oq5) [(.ptr o36 v37 0)] u19,_] _:=backu19 _ _ T
    intro h56
    have S:St _ _ [rowC h55.n [(.int .i64 0),(.int .i64 0)] 0,_,_] _:=S.pushRow [(.int .i64 0),(.int .i64 0)]
    obtain ⟨h57,e58,S⟩:=S.store (off:=0) (n:=2) (x:=(.agg [(.int .i64 y12),(.int .i64 1)])) (cs':=[(.int .i64 y12),(.int .i64 1)]) (nl rfl) rfl rfl rfl
    refine ⟨h57,e58,?_⟩
    obtain ⟨y20,hy20,hf⟩:=oB hf
    refine ⟨_,Fz.refl _,?_⟩
    refine (r64 (r0:=u19) (kind1:=3) (s2:=([42]:List UInt8)) (f0_0:=S.pt (r:=oq5) m1) hy20).mono fun v59 h60 T=>?_
    obtain ⟨rfl,T⟩:=T
    have S:St _ _ [_,_,_] _:=S.comp T
    refine ⟨y20,rfl,?_⟩
    intro jjj1
    have hjj1:∀  (h61:Heap) (c15:Int) (l16:Option Tq5),p70_j1 x1 y12 c15 l16=some r→St h M [own (oSl (fz rArc)) [a1_0] x1,rowC h55.n [(.int .i64 y12),(.int .i64 c15)] 0,own (oPtr oq5) [(.ptr o36 v37 0)] l16] h61→jjj1 h61:=by
     rintro h61 c15 l16 hf S
     unfold p70_j1 at hf
     unfold jjj1
     refine ⟨(.int .i64 y12),(.int .i64 c15),S.rdN m1 (nl rfl) rfl,?_⟩
     intro h62
     have S:St _ _ [rowC h61.n [(.int .i64 y12),(.int .i64 c15)] 0,_,_,_] _:=S.pushRow [(.int .i64 y12),(.int .i64 c15)]
     obtain ⟨x17,hx17,hf⟩:=oB hf
     have S:St _ _ [own (fz rArc) [(.int .i64 y12),(.int .i64 c15)] (TArc.mk y12 c15),_,_,_,_] _:=S.add (r:=rArc) (x:=(TArc.mk y12 c15)) (rArc_mk (x:=(TArc.mk y12 c15)))
     have S:=S.sel [2,0,1,3,4] rfl
     have mx17:=app_some hx17
     obtain ⟨v63,h64,e65,S⟩:=St.app1R (r:=(fz rArc)) (b:=16) S mx17.1
     have S:St _ _ [own (oSl (fz rArc)) [v63] x17,_,_] _:=S.cast1 (by rw [← mx17.2]<;>rfl)
     refine ⟨v63,h64,e65,?_⟩
     obtain rfl:=oi hf
     exact S.sel [0,2] rfl
    refine bI (fun hc=>?_) (fun hc=>?_)
    ·rw [ifT hc] at hf
     obtain ⟨u21,hu21,hf⟩:=oB hf
     refine ⟨_,Fz.refl _,?_⟩
     have S:=S.sel [1,0,2] rfl
     obtain ⟨fpu21,S1u214,backu21⟩:=St.lend [_] S
     refine (r65 (r0:=u19) (S:=S1u214) hu21).mono fun v66 h67 T=>?_
     obtain ⟨rfl,T⟩:=T
     have S:St _ _ [own (oPtr oq5) [(.ptr o36 v37 0)] u21,_,_] _:=backu21 _ _ T
     obtain ⟨u22,hu22,hf⟩:=oB hf
     refine ⟨_,Fz.refl _,?_⟩
     obtain ⟨fpu22,S1u217,backu22⟩:=St.lend [_] S
     refine (r68 (r0:=u21) (least1:=1) (S:=S1u217) hu22).mono fun v68 h69 T=>?_
     obtain ⟨rfl,T⟩:=T
     have S:St _ _ [own (oPtr oq5) [(.ptr o36 v37 0)] u22.2,_,_] _:=backu22 _ _ T
     refine ⟨u22.1,rfl,?_⟩
     have S:=S.sel [1,0,2] rfl
     obtain ⟨h70,e71,S⟩:=S.store (off:=1) (n:=1) (x:=(.int .i64 u22.1)) (cs':=[(.int .i64 y12),(.int .i64 u22.1)]) (nl rfl) rfl rfl rfl
     refine ⟨h70,e71,?_⟩
     have S:=S.sel [2,0,1] rfl
     exact hjj1  _ u22.1 u22.2 hf  S
    rw [ifF hc] at hf
    have S:=S.sel [2,0,1] rfl
    exact hjj1  _ 1 u19 hf  S
   refine bI (fun hc=>?_) (fun hc=>?_)
   ·rw [ifD hc] at hf
    obtain ⟨u24,hu24,hf⟩:=oB hf
    refine ⟨_,Fz.refl _,?_⟩
    obtain ⟨fpu24,S1u223,backu24⟩:=St.lend [_] S
    refine (r66 (r0:=l23) (e1:=5) (S:=S1u223) hu24).mono fun v72 h73 T=>?_
    obtain ⟨rfl,T⟩:=T
    have S:St _ _ [own (oPtr oq5) [(.ptr o36 v37 0)] u24,_] _:=backu24 _ _ T
    exact hjj2  _ u24 hf  S
   rw [ifE hc] at hf
   exact hjj2  _ l23 hf  S
  refine bI (fun hc=>?_) (fun hc=>?_)
  ·rw [ifT hc] at hf
   obtain ⟨u31,hu31,hf⟩:=oB hf
   have S:St _ _ [own (fz (rSl rToken)) [b27c_0] b27.l,_,_,_,_,_,_,_] _:=S.add (rSl_mk (S.slz (r:=rToken) m2))
   have S:=S.sel [0,4,5,6,7,1,2,3] rfl
   have S:St _ _ [own (oPtr oq5) [(.ptr o36 v37 0)] (some b27),_,_] _:=oq5_shut (x:=b27) S
   refine ⟨_,Fz.refl _,?_⟩
   obtain ⟨fpu31,S1u228,backu31⟩:=St.lend [_] S
   refine (r66 (r0:=(some b27)) (e1:=7) (S:=S1u228) hu31).mono fun v74 h75 T=>?_
   obtain ⟨rfl,T⟩:=T
   have S:St _ _ [own (oPtr oq5) [(.ptr o36 v37 0)] u31,_,_] _:=backu31 _ _ T
   have S:=S.sel [0,1] rfl
   exact hjj3  _ u31 hf  S
  rw [ifF hc] at hf
  have S:St _ _ [own (fz (rSl rToken)) [b27c_0] b27.l,_,_,_,_,_,_,_] _:=S.add (rSl_mk (S.slz (r:=rToken) m2))
  have S:=S.sel [0,4,5,6,7,1,2,3] rfl
  have S:St _ _ [own (oPtr oq5) [(.ptr o36 v37 0)] (some b27),_,_] _:=oq5_shut (x:=b27) S
  have S:=S.sel [0,1] rfl
  exact hjj3  _ (some b27) hf  S
 ·rintro m76 y48 y49 y50 y13 y10 h51 ⟨rfl,rfl,rfl,S,hit⟩
  obtain ⟨m47,q77,rfl,hf,hk⟩:=iter_some hit
  clear hit
  unfold B70_0
  unfold p70_l0 at hf
  try dsimp only at hf
  refine iI.2 ⟨((S.sl (r:=(fz rArc)) m1)).is,?_⟩
  try rw [show (a1_0).slen=_ from ((S.sl (r:=(fz rArc)) m1)).slen]
  refine bI (fun hc=>?_) (fun hc=>?_)
  ·rw [ifD hc] at hf
   intro jjj0
   have hjj0:∀ (b11:Bool) (h78:Heap),p70_j0 y10 b11=some q77→h51=h78→St h M [rowC o36 [b27c_0,(.int .i64 b27.i),(.int .i64 b27.e),(.int .i64 b27.at_),b27c_4,b27c_5,b27c_6,b27c_7] v37,own (oSl (fz rArc)) [a1_0] x1,own (fz (rSl rToken)) [b27c_0] b27.l,own (oSl (fz rPlace)) [b27c_4] b27.n.Places,own (oSl oTrans) [b27c_5] b27.n.Trans,own (oSl (fz rS)) [b27c_6] b27.places,own (oSl (fz rS)) [b27c_7] b27.told] h51→jjj0 b11 h78:=by
    rintro b11 h78 hf rfl S
    unfold p70_j0 at hf
    unfold jjj0
    obtain rfl:=oi hf
    exact ⟨m47,Nat.lt_succ_self _,rfl,rfl,rfl,S,hk⟩
   refine bI (fun hc=>?_) (fun hc=>?_)
   ·rw [ifT hc] at hf
    exact hjj0 _ _  hf rfl S
   rw [ifF hc] at hf
   obtain ⟨e14,he14,hf⟩:=oB hf
   refine ix_go (S.sl (r:=(fz rArc)) m1) (Hp.le_refl _) he14 fun pe14=>?_
   refine iI.2 ⟨pe14,?_⟩
   obtain ⟨_,cr79,Rr79,Nr79,Or79,Zr79⟩:=St.idxO (r:=rArc) S m1 he14
   obtain rfl:=rArc_open Rr79
   refine ⟨e14.Place,Or79 0 _ rfl,?_⟩
   exact hjj0 _ _  hf rfl S
  rw [ifE hc] at hf
  obtain rfl:=oi hf
  obtain rfl:=hk
  exact ⟨rfl,rfl,rfl,S,rfl⟩
 exact ⟨rfl,rfl,rfl,S,hL⟩
def p46_j0 (y10:Int) (c11:List (List UInt8)):Option ((Int×(List (List UInt8)))⊕(List (List UInt8))):=some (.inl ((IntKind.wrap .i64 (y10+1)),c11))
def p46_j1 (u12:(List TToken)×Int×Int) (y10:Int) (c13:List (List UInt8)) (b14:Bool):Option ((Int×(List (List UInt8)))⊕(List (List UInt8))):=if b14=true then ((idx u12.1 (IntKind.wrap .i64 (y10+1))).bind fun e15=>(app 16 c13 [e15.Text]).bind fun c16=>p46_j0 y10 c16) else (p46_j0 y10 c13)
def p46_j2 (u12:(List TToken)×Int×Int) (y10:Int) (c13:List (List UInt8)) (b17:Bool):Option ((Int×(List (List UInt8)))⊕(List (List UInt8))):=if b17=true then ((idx u12.1 (IntKind.wrap .i64 (y10+1))).bind fun e18=>(p63 c13 e18.Text).bind fun y19=>p46_j1 u12 y10 c13 (decide (y19 < 0))) else (p46_j1 u12 y10 c13 false)
def p46_j3 (u12:(List TToken)×Int×Int) (y10:Int) (c13:List (List UInt8)) (b20:Bool):Option ((Int×(List (List UInt8)))⊕(List (List UInt8))):=if b20=true then ((idx u12.1 (IntKind.wrap .i64 (y10+1))).bind fun e21=>p46_j2 u12 y10 c13 (decide (e21.Kind=1))) else (p46_j2 u12 y10 c13 false)
def p46_l0 (u12:(List TToken)×Int×Int) (st:Int×(List (List UInt8))):Option ((Int×(List (List UInt8)))⊕(List (List UInt8))):=match st with | (y10,c13)=>if (IntKind.wrap .i64 (y10+1)) < (u12.1.length:Int) then ((idx u12.1 y10).bind fun e22=>if e22.Kind=1 then ((idx u12.1 y10).bind fun e23=>p46_j3 u12 y10 c13 (e23.Text==([112,108,97,99,101]:List UInt8))) else (p46_j3 u12 y10 c13 false)) else (some (.inr c13))
def p46_j4 (l24:Option Tq5):Option ((Option Tq5)⊕(Option Tq5)):=(p69 l24 ([59]:List UInt8)).bind fun u25=>some (.inl u25)
def p46_j5 (u26:(List UInt8)×(Option Tq5)) (l27:Option Tq5) (c28:Int):Option ((Option Tq5)⊕(Option Tq5)):=l27.bind fun b29=>(app 24 b29.n.Places [(TPlace.mk u26.1 c28)]).bind fun b30=>p46_j4 (some (Tq5.mk b29.l b29.i b29.e b29.at_ (TNet.mk b30 b29.n.Trans) b29.places b29.told))
def p46_j6 (l31:Option Tq5):Option ((Option Tq5)⊕(Option Tq5)):=(p67 l31).bind fun u26=>(p64 u26.2 3 ([61]:List UInt8)).bind fun y32=>if y32=true then ((p65 u26.2).bind fun u33=>(p68 u33 0).bind fun u34=>p46_j5 u26 u34.2 u34.1) else (p46_j5 u26 u26.2 0)
def p46_j7 (y35:Int) (l36:Option Tq5) (c37:List TArc) (c38:List TArc):Option ((Int×(Option Tq5)×(List TArc)×(List TArc))⊕((Option Tq5)×(List TArc)×(List TArc))):=some (.inl ((IntKind.wrap .i64 (y35+1)),l36,c37,c38))
def p46_j8 (y35:Int) (c39:List TArc) (c40:List TArc) (l41:Option Tq5):Option ((Int×(Option Tq5)×(List TArc)×(List TArc))⊕((Option Tq5)×(List TArc)×(List TArc))):=(p64 l41 3 ([126]:List UInt8)).bind fun y42=>if y42=true then ((p65 l41).bind fun u43=>(p70 u43 c40).bind fun u44=>p46_j7 y35 u44.2 c39 u44.1) else ((p70 l41 c39).bind fun u45=>p46_j7 y35 u45.2 u45.1 c40)
def p46_j9 (y35:Int) (c39:List TArc) (c40:List TArc) (b46:Bool) (l47:Option Tq5):Option ((Int×(Option Tq5)×(List TArc)×(List TArc))⊕((Option Tq5)×(List TArc)×(List TArc))):=if b46=true then (if 0 < y35 then ((p69 l47 ([44]:List UInt8)).bind fun u48=>p46_j8 y35 c39 c40 u48) else (p46_j8 y35 c39 c40 l47)) else (some (.inr (l47,c39,c40)))
def p46_l1 (st:Int×(Option Tq5)×(List TArc)×(List TArc)):Option ((Int×(Option Tq5)×(List TArc)×(List TArc))⊕((Option Tq5)×(List TArc)×(List TArc))):=match st with | (y35,l49,c39,c40)=>l49.bind fun b50=>if b50.e=0 then ((p64 (some b50) 3 ([45,62]:List UInt8)).bind fun y51=>p46_j9 y35 c39 c40 (!y51) (some b50)) else (p46_j9 y35 c39 c40 false (some b50))
def p46_j10 (y52:Int) (c53:List TArc) (l54:Option Tq5):Option ((Int×(Option Tq5)×(List TArc))⊕((Option Tq5)×(List TArc))):=(p70 l54 c53).bind fun u55=>some (.inl ((IntKind.wrap .i64 (y52+1)),u55.2,u55.1))
def p46_j11 (y52:Int) (c53:List TArc) (b56:Bool) (l57:Option Tq5):Option ((Int×(Option Tq5)×(List TArc))⊕((Option Tq5)×(List TArc))):=if b56=true then (if 0 < y52 then ((p69 l57 ([44]:List UInt8)).bind fun u58=>p46_j10 y52 c53 u58) else (p46_j10 y52 c53 l57)) else (some (.inr (l57,c53)))
def p46_l2 (st:Int×(Option Tq5)×(List TArc)):Option ((Int×(Option Tq5)×(List TArc))⊕((Option Tq5)×(List TArc))):=match st with | (y52,l59,c53)=>l59.bind fun b60=>if b60.e=0 then ((p64 (some b60) 3 ([59]:List UInt8)).bind fun y61=>p46_j11 y52 c53 (!y61) (some b60)) else (p46_j11 y52 c53 false (some b60))
def p46_j12 (u62:(List UInt8)×(Option Tq5)) (c63:Int) (l64:Option Tq5) (c65:Int):Option ((Option Tq5)⊕(Option Tq5)):=(p69 l64 ([58]:List UInt8)).bind fun u66=>(loopC p46_l1 (0,u66,[],[])).bind fun res67=>(match res67 with | (l68,c69,c70)=>(p69 l68 ([45,62]:List UInt8)).bind fun u71=>(loopC p46_l2 (0,u71,[])).bind fun res72=>(match res72 with | (l73,c74)=>l73.bind fun b75=>(app 104 b75.n.Trans [(TTrans.mk u62.1 c63 c65 c69 c70 c74)]).bind fun b76=>p46_j4 (some (Tq5.mk b75.l b75.i b75.e b75.at_ (TNet.mk b75.n.Places b76) b75.places b75.told))))
def p46_j13 (u62:(List UInt8)×(Option Tq5)) (l77:Option Tq5) (c63:Int):Option ((Option Tq5)⊕(Option Tq5)):=(p64 l77 3 ([33]:List UInt8)).bind fun y78=>if y78=true then ((p65 l77).bind fun u79=>(p68 u79 0).bind fun u80=>p46_j12 u62 c63 u80.2 u80.1) else (p46_j12 u62 c63 l77 0)
def p46_j14 (l81:Option Tq5):Option ((Option Tq5)⊕(Option Tq5)):=(p67 l81).bind fun u62=>(p64 u62.2 3 ([64]:List UInt8)).bind fun y82=>if y82=true then ((p65 u62.2).bind fun u83=>(p68 u83 0).bind fun u84=>p46_j13 u62 u84.2 u84.1) else (p46_j13 u62 u62.2 0)
def p46_j15 (b85:Tq5) (b86:Bool):Option ((Option Tq5)⊕(Option Tq5)):=if b86=true then ((p64 (some b85) 1 ([112,108,97,99,101]:List UInt8)).bind fun y87=>if y87=true then ((p65 (some b85)).bind fun u88=>u88.bind fun b89=>if (b89.n.Places.length:Int)=32 then ((p66 (some b89) 5).bind fun u90=>p46_j6 u90) else (p46_j6 (some b89))) else ((p64 (some b85) 1 ([116,114,97,110,115]:List UInt8)).bind fun y91=>if y91=true then ((p65 (some b85)).bind fun u92=>u92.bind fun b93=>if (b93.n.Trans.length:Int)=32 then ((p66 (some b93) 5).bind fun u94=>p46_j14 u94) else (p46_j14 (some b93))) else ((p66 (some b85) 6).bind fun u95=>p46_j4 u95))) else (some (.inr (some b85)))
def p46_l3 (u12:(List TToken)×Int×Int) (l96:Option Tq5):Option ((Option Tq5)⊕(Option Tq5)):=l96.bind fun b85=>if b85.e=0 then ((idx u12.1 b85.i).bind fun e97=>p46_j15 b85 (!decide (e97.Kind=0))) else (p46_j15 b85 false)
def p46 (x0:List Int):Option (TNet×Int×Int):=(p19 x0).bind fun u12=>if (!decide (u12.2.1=0))=true then (some ((TNet.mk [] []),u12.2.1,u12.2.2)) else ((loopC (p46_l0 u12) (0,[])).bind fun res98=>((fun (c99:List (List UInt8))=>(loopC (p46_l3 u12) (some (Tq5.mk u12.1 0 0 0 (TNet.mk [] []) c99 []))).bind fun res100=>((fun (l101:Option Tq5)=>l101.bind fun b102=>if (!decide (b102.e=0))=true then (some ((TNet.mk [] []),b102.e,b102.at_)) else (some (b102.n,0,0))) res100)) res98))
theorem r46 {h:Heap} {a0_0:AV} {x0:List Int} (f0_0:SlR (rI .u8) (Snap h) a0_0 x0) {r:TNet×Int×Int} (hf:p46 x0=some r):ZC F 46 [a0_0] h fun v h'=>∃ cs0,v=.tuple [.agg cs0,.int .i64 r.2.1,.int .i64 r.2.2]∧St h none' [own oNet cs0 r.1] h':=by
 refine w46 ?_
 unfold W46
 unfold p46 at hf
 have S:St h none' [] h:=St.refl _ _
 intro h103
 have S:St _ _ [rowC h.n [.nilSlice,.nilSlice] 0] _:=S.pushRow [.nilSlice,.nilSlice]
 obtain ⟨u12,hu12,hf⟩:=oB hf
 refine ⟨_,Fz.refl _,?_⟩
 refine (r19 (x0:=x0) (f0_0:=(SlR.mono (sM S.le) f0_0)) hu12).frz fun v104 h105 T=>?_
 obtain ⟨w106,rfl,T⟩:=T
 have S:St _ _ [own (oSl (fz rToken)) [w106] u12.1,_] _:=S.comp T
 obtain ⟨h107,z108,S⟩:=St.freeze S
 refine ⟨h107,z108,?_⟩
 refine oI w106 rfl ?_
 refine oI (.int .i64 u12.2.1) rfl ⟨u12.2.1,rfl,?_⟩
 refine oI (.int .i64 u12.2.2) rfl ⟨u12.2.2,rfl,?_⟩
 refine bI (fun hc=>?_) (fun hc=>?_)
 ·rw [ifT hc] at hf
  have S:=S.sel [1,0] rfl
  obtain ⟨h109,e110,S⟩:=S.store (off:=0) (n:=2) (x:=(.agg [.nilSlice,.nilSlice])) (cs':=[.nilSlice,.nilSlice]) (nl rfl) rfl rfl rfl
  refine ⟨h109,e110,?_⟩
  refine ⟨.nilSlice,.nilSlice,S.rdN m0 (nl rfl) rfl,?_⟩
  have S:St _ _ [own (oSl (fz rPlace)) [.nilSlice] [],_,_] _:=S.addE (oSl_nil _ _)
  have S:St _ _ [own (oSl oTrans) [.nilSlice] [],_,_,_] _:=S.addE (oSl_nil _ _)
  have S:=S.sel [1,0,2,3] rfl
  have S:St _ _ [own oNet [.nilSlice,.nilSlice] (TNet.mk [] []),_,_] _:=oNet_close (x:=(TNet.mk [] [])) S
  obtain rfl:=oi hf
  exact ⟨_,rfl,S.sel [0] rfl⟩
 rw [ifF hc] at hf
 refine oI (.agg [w106,(.int .i64 0),(.int .i64 0),(.int .i64 0),.nilSlice,.nilSlice,.nilSlice,.nilSlice]) (by simp only [POp.ev,place,sl_cells ((S.slz (r:=rToken) m0)).is,sl_tup ((S.slz (r:=rToken) m0)).is]<;>first | rfl | (simp [AV.cells,AV.isTup,splice]; done) | (simp [AV.cells,AV.isTup,splice]; rfl)) ?_
 refine iI.2 ⟨rfl,?_⟩
 intro h111
 have S:St _ _ [rowC h107.n [w106,(.int .i64 0),(.int .i64 0),(.int .i64 0),.nilSlice,.nilSlice,.nilSlice,.nilSlice] 0,_,_] _:=S.pushRow [w106,(.int .i64 0),(.int .i64 0),(.int .i64 0),.nilSlice,.nilSlice,.nilSlice,.nilSlice]
 obtain ⟨res98,hL,hf⟩:=oB hf
 obtain ⟨n112,hL⟩:=loopC_iff.1 hL
 have S:St _ _ [own (oSl (fz rS)) [.nilSlice] [],_,_,_] _:=S.addE (oSl_nil _ _)
 have S:=S.sel [3,2,1,0] rfl
 refine loopm46_0 (X0:=fun (y113:AV) (y114:AV) (y115:AV) (y116:Int) (h117:Heap)=>∃ (c118:AV),∃ (c99:List (List UInt8)),AV.ptr h.n 0 0=y113∧w106=y114∧AV.ptr h107.n 0 0=y115∧St h none' [rowC h.n [.nilSlice,.nilSlice] 0,own (fz (rSl rToken)) [w106] u12.1,rowC h107.n [w106,(.int .i64 0),(.int .i64 0),(.int .i64 0),.nilSlice,.nilSlice,c118,.nilSlice] 0,own (oSl (fz rS)) [c118] c99] h117∧c99=res98) ?_ (loop46_0 (I:=fun (m119:Nat) (y120:AV) (y121:AV) (y122:AV) (y10:Int) (h123:Heap)=>∃ (c124:AV),∃ (c13:List (List UInt8)),AV.ptr h.n 0 0=y120∧w106=y121∧AV.ptr h107.n 0 0=y122∧St h none' [rowC h.n [.nilSlice,.nilSlice] 0,own (fz (rSl rToken)) [w106] u12.1,rowC h107.n [w106,(.int .i64 0),(.int .i64 0),(.int .i64 0),.nilSlice,.nilSlice,c124,.nilSlice] 0,own (oSl (fz rS)) [c124] c13] h123∧iter (p46_l0 u12) m119 (y10,c13)=some res98) ?_ (m:=n112) ?_)
 ·rintro y113 y114 y115 y116 h117 ⟨c118,c99,rfl,rfl,rfl,S,rfl⟩
  try dsimp only at hf
  obtain ⟨res100,hL,hf⟩:=oB hf
  obtain ⟨n125,hL⟩:=loopC_iff.1 hL
  have S:St _ _ [own (fz (rSl rToken)) [w106] u12.1,_,_,_,_] _:=S.add (rSl_mk (S.slz (r:=rToken) m1))
  have S:St _ _ [own (oSl (fz rPlace)) [.nilSlice] [],_,_,_,_,_] _:=S.addE (oSl_nil _ _)
  have S:St _ _ [own (oSl oTrans) [.nilSlice] [],_,_,_,_,_,_] _:=S.addE (oSl_nil _ _)
  have S:St _ _ [own (oSl (fz rS)) [.nilSlice] [],_,_,_,_,_,_,_] _:=S.addE (oSl_nil _ _)
  have S:=S.sel [3,2,1,7,0,6,4,5] rfl
  have S:St _ _ [own (oPtr oq5) [(.ptr h107.n 0 0)] (some (Tq5.mk u12.1 0 0 0 (TNet.mk [] []) c99 [])),_,_] _:=oq5_shut (x:=(Tq5.mk u12.1 0 0 0 (TNet.mk [] []) c99 [])) S
  have S:=S.sel [1,2,0] rfl
  refine loopm46_3 (X2:=fun (y126:AV) (y127:AV) (y128:AV) (h129:Heap)=>∃ (l101:Option Tq5),AV.ptr h.n 0 0=y126∧(AV.ptr h107.n 0 0)=y128∧St h none' [rowC h.n [.nilSlice,.nilSlice] 0,own (oPtr oq5) [(.ptr h107.n 0 0)] l101] h129∧l101=res100) ?_ (loop46_3 (I:=fun (m130:Nat) (y131:AV) (y132:AV) (y133:AV) (h134:Heap)=>∃ (l96:Option Tq5),AV.ptr h.n 0 0=y131∧w106=y132∧(AV.ptr h107.n 0 0)=y133∧St h none' [rowC h.n [.nilSlice,.nilSlice] 0,own (fz (rSl rToken)) [w106] u12.1,own (oPtr oq5) [(.ptr h107.n 0 0)] l96] h134∧iter (p46_l3 u12) m130 l96=some res100) ?_ (m:=n125) ?_)
  ·rintro y126 y127 y128 h129 ⟨l101,rfl,rfl,S,rfl⟩
   try dsimp only at hf
   obtain ⟨b102,hb102,hf⟩:=oB hf
   have S:=S.sel [1,0] rfl
   obtain ⟨b102c_0,b102c_4,b102c_5,b102c_6,b102c_7,S⟩:=oq5_derefAt hb102 S
   refine oI _ rfl ?_
   refine iI.2 ⟨rfl,?_⟩
   refine ⟨b102.e,S.rd1 m5 rfl,?_⟩
   refine bI (fun hc=>?_) (fun hc=>?_)
   ·rw [ifT hc] at hf
    refine oI (.ptr h107.n 0 0) rfl ?_
    refine iI.2 ⟨rfl,?_⟩
    have S_4:=S
    refine ⟨b102.e,S.rd1 m5 rfl,?_⟩
    refine oI (.ptr h107.n 0 0) rfl ?_
    refine iI.2 ⟨rfl,?_⟩
    have S_8:=S
    refine ⟨b102.at_,S.rd1 m5 rfl,?_⟩
    have S_9:=S
    have S:=S.sel [6,0,1,2,3,4,5] rfl
    obtain ⟨h135,e136,S⟩:=S.store (off:=0) (n:=2) (x:=(.agg [.nilSlice,.nilSlice])) (cs':=[.nilSlice,.nilSlice]) (nl rfl) rfl rfl rfl
    refine ⟨h135,e136,?_⟩
    have S_10:=S
    refine ⟨⟨(.int .i64 b102.e),rd1_ev (S_4.rd1 m5 rfl),rd1_ev (S_9.rd1 m5 rfl),rd1_ev (S_10.rd1 m6 rfl)⟩,?_⟩
    refine ⟨⟨(.int .i64 b102.at_),rd1_ev (S_8.rd1 m5 rfl),rd1_ev (S_9.rd1 m5 rfl),rd1_ev (S_10.rd1 m6 rfl)⟩,?_⟩
    refine ⟨.nilSlice,.nilSlice,S.rdN m0 (nl rfl) rfl,?_⟩
    have S:St _ _ [own (oSl (fz rPlace)) [.nilSlice] [],_,_,_,_,_,_,_] _:=S.addE (oSl_nil _ _)
    have S:St _ _ [own (oSl oTrans) [.nilSlice] [],_,_,_,_,_,_,_,_] _:=S.addE (oSl_nil _ _)
    have S:=S.sel [1,0,2,3,4,5,6,7,8] rfl
    have S:St _ _ [own oNet [.nilSlice,.nilSlice] (TNet.mk [] []),_,_,_,_,_,_,_] _:=oNet_close (x:=(TNet.mk [] [])) S
    obtain rfl:=oi hf
    exact ⟨_,rfl,S.sel [0] rfl⟩
   rw [ifF hc] at hf
   refine oI (.ptr h107.n 0 0) rfl ?_
   refine iI.2 ⟨rfl,?_⟩
   refine ⟨b102c_4,b102c_5,S.rdN m5 (nl rfl) rfl,?_⟩
   have S:=S.sel [6,0,1,2,3,4,5] rfl
   obtain ⟨h137,e138,S⟩:=S.store (off:=0) (n:=2) (x:=(.agg [b102c_4,b102c_5])) (cs':=[b102c_4,b102c_5]) (nl rfl) rfl rfl rfl
   refine ⟨h137,e138,?_⟩
   refine ⟨b102c_4,b102c_5,S.rdN m0 (nl rfl) rfl,?_⟩
   have S:=S.sel [2,3,0,1,4,5,6] rfl
   have S:St _ _ [own oNet [b102c_4,b102c_5] b102.n,_,_,_,_,_] _:=oNet_close (x:=b102.n) S
   obtain rfl:=oi hf
   exact ⟨_,rfl,S.sel [0] rfl⟩
  ·rintro m139 y131 y132 y133 h134 ⟨l96,rfl,rfl,rfl,S,hit⟩
   obtain ⟨m130,q140,rfl,hf,hk⟩:=iter_some hit
   clear hit
   unfold B46_3
   unfold p46_l3 at hf
   try dsimp only at hf
   obtain ⟨b85,hb85,hf⟩:=oB hf
   have S:=S.sel [2,0,1] rfl
   obtain ⟨b85c_0,b85c_4,b85c_5,b85c_6,b85c_7,S⟩:=oq5_derefAt hb85 S
   refine oI _ rfl ?_
   refine iI.2 ⟨rfl,?_⟩
   refine ⟨b85.e,S.rd1 m5 rfl,?_⟩
   intro jjj15
   have hjj15:∀ (b86:Bool) (h141:Heap),p46_j15 b85 b86=some q140→h134=h141→St h none' [rowC h.n [.nilSlice,.nilSlice] 0,own (fz (rSl rToken)) [w106] u12.1,rowC h107.n [b85c_0,(.int .i64 b85.i),(.int .i64 b85.e),(.int .i64 b85.at_),b85c_4,b85c_5,b85c_6,b85c_7] 0,own (fz (rSl rToken)) [b85c_0] b85.l,own (oSl (fz rPlace)) [b85c_4] b85.n.Places,own (oSl oTrans) [b85c_5] b85.n.Trans,own (oSl (fz rS)) [b85c_6] b85.places,own (oSl (fz rS)) [b85c_7] b85.told] h134→jjj15 b86 h141:=by
    rintro b86 h141 hf rfl S
    unfold p46_j15 at hf
    unfold jjj15
    refine bI (fun hc=>?_) (fun hc=>?_)
    ·rw [ifT hc] at hf
     obtain ⟨y87,hy87,hf⟩:=oB hf
     have S:St _ _ [own (fz (rSl rToken)) [b85c_0] b85.l,_,_,_,_,_,_,_,_] _:=S.add (rSl_mk (S.slz (r:=rToken) m3))
     have S:=S.sel [0,5,6,7,8,3,1,2,4] rfl
     have S:St _ _ [own (oPtr oq5) [(.ptr h107.n 0 0)] (some b85),_,_,_] _:=oq5_shut (x:=b85) S
     refine ⟨_,Fz.refl _,?_⟩
     refine (r64 (r0:=(some b85)) (kind1:=1) (s2:=([112,108,97,99,101]:List UInt8)) (f0_0:=S.pt (r:=oq5) m0) hy87).mono fun v142 h143 T=>?_
     obtain ⟨rfl,T⟩:=T
     have S:St _ _ [_,_,_,_] _:=S.comp T
     refine ⟨y87,rfl,?_⟩
     intro jjj4
     have hjj4:∀ (y144:AV) (y145:AV) (y146:AV) (h147:Heap) (l24:Option Tq5),p46_j4 l24=some q140→AV.ptr h.n 0 0=y144→w106=y145→(AV.ptr h107.n 0 0)=y146→St h none' [rowC h.n [.nilSlice,.nilSlice] 0,own (fz (rSl rToken)) [w106] u12.1,own (oPtr oq5) [(.ptr h107.n 0 0)] l24] h147→jjj4 y144 y145 y146 h147:=by
      rintro y144 y145 y146 h147 l24 hf rfl rfl rfl S
      unfold p46_j4 at hf
      unfold jjj4
      obtain ⟨u25,hu25,hf⟩:=oB hf
      refine ⟨_,Fz.refl _,?_⟩
      have S:=S.sel [2,0,1] rfl
      obtain ⟨fpu25,S1u3793,backu25⟩:=St.lend [_] S
      refine (r69 (r0:=l24) (s1:=([59]:List UInt8)) (S:=S1u3793) hu25).mono fun v148 h149 T=>?_
      obtain ⟨rfl,T⟩:=T
      have S:St _ _ [own (oPtr oq5) [(.ptr h107.n 0 0)] u25,_,_] _:=backu25 _ _ T
      have S:=S.sel [1,2,0] rfl
      obtain rfl:=oi hf
      exact ⟨m130,Nat.lt_succ_self _,u25,rfl,rfl,rfl,S,hk⟩
     refine bI (fun hc=>?_) (fun hc=>?_)
     ·rw [ifT hc] at hf
      obtain ⟨u88,hu88,hf⟩:=oB hf
      refine ⟨_,Fz.refl _,?_⟩
      obtain ⟨fpu88,S1u3797,backu88⟩:=St.lend [_] S
      refine (r65 (r0:=(some b85)) (S:=S1u3797) hu88).mono fun v150 h151 T=>?_
      obtain ⟨rfl,T⟩:=T
      have S:St _ _ [own (oPtr oq5) [(.ptr h107.n 0 0)] u88,_,_,_] _:=backu88 _ _ T
      obtain ⟨b89,hb89,hf⟩:=oB hf
      obtain ⟨b89c_0,b89c_4,b89c_5,b89c_6,b89c_7,S⟩:=oq5_derefAt hb89 S
      refine oI _ rfl ?_
      refine iI.2 ⟨rfl,?_⟩
      refine iI.2 ⟨rfl,?_⟩
      refine ⟨b89c_4,S.rd1 m5 rfl,?_⟩
      refine iI.2 ⟨((S.sl (r:=(fz rPlace)) m1)).is,?_⟩
      try rw [show (b89c_4).slen=_ from ((S.sl (r:=(fz rPlace)) m1)).slen]
      intro jjj6
      have hjj6:∀  (h152:Heap) (l31:Option Tq5),p46_j6 l31=some q140→St h none' [rowC h.n [.nilSlice,.nilSlice] 0,own (fz (rSl rToken)) [w106] u12.1,own (oPtr oq5) [(.ptr h107.n 0 0)] l31] h152→jjj6 h152:=by
       rintro h152 l31 hf S
       unfold p46_j6 at hf
       unfold jjj6
       obtain ⟨u26,hu26,hf⟩:=oB hf
       refine ⟨_,Fz.refl _,?_⟩
       have S:=S.sel [2,0,1] rfl
       obtain ⟨fpu26,S1u3818,backu26⟩:=St.lend [_] S
       refine (r67 (r0:=l31) (S:=S1u3818) hu26).mono fun v153 h154 T=>?_
       obtain ⟨rfl,T⟩:=T
       have S:St _ _ [own (oPtr oq5) [(.ptr h107.n 0 0)] u26.2,_,_] _:=backu26 _ _ T
       refine ⟨u26.1,rfl,?_⟩
       intro h155
       have S:St _ _ [rowC h154.n [(.str ([]:List UInt8)),(.int .i64 0)] 0,_,_,_] _:=S.pushRow [(.str ([]:List UInt8)),(.int .i64 0)]
       obtain ⟨h156,e157,S⟩:=S.store (off:=0) (n:=2) (x:=(.agg [(.str u26.1),(.int .i64 0)])) (cs':=[(.str u26.1),(.int .i64 0)]) (nl rfl) rfl rfl rfl
       refine ⟨h156,e157,?_⟩
       obtain ⟨y32,hy32,hf⟩:=oB hf
       refine ⟨_,Fz.refl _,?_⟩
       refine (r64 (r0:=u26.2) (kind1:=3) (s2:=([61]:List UInt8)) (f0_0:=S.pt (r:=oq5) m1) hy32).mono fun v158 h159 T=>?_
       obtain ⟨rfl,T⟩:=T
       have S:St _ _ [_,_,_,_] _:=S.comp T
       refine ⟨y32,rfl,?_⟩
       intro jjj5
       have hjj5:∀  (h160:Heap) (l27:Option Tq5) (c28:Int),p46_j5 u26 l27 c28=some q140→St h none' [rowC h.n [.nilSlice,.nilSlice] 0,own (fz (rSl rToken)) [w106] u12.1,own (oPtr oq5) [(.ptr h107.n 0 0)] l27,rowC h154.n [(.str u26.1),(.int .i64 c28)] 0] h160→jjj5 h160:=by
        rintro h160 l27 c28 hf S
        unfold p46_j5 at hf
        unfold jjj5
        obtain ⟨b29,hb29,hf⟩:=oB hf
        have S:=S.sel [2,0,1,3] rfl
        obtain ⟨b29c_0,b29c_4,b29c_5,b29c_6,b29c_7,S⟩:=oq5_derefAt hb29 S
        refine oI _ rfl ?_
        refine iI.2 ⟨rfl,?_⟩
        refine iI.2 ⟨rfl,?_⟩
        refine ⟨b29c_4,S.rd1 m5 rfl,?_⟩
        refine ⟨(.str u26.1),(.int .i64 c28),S.rdN m8 (nl rfl) rfl,?_⟩
        intro h161
        have S:St _ _ [rowC h160.n [(.str u26.1),(.int .i64 c28)] 0,_,_,_,_,_,_,_,_,_] _:=S.pushRow [(.str u26.1),(.int .i64 c28)]
        obtain ⟨b30,hb30,hf⟩:=oB hf
        have S:St _ _ [own (fz rPlace) [(.str u26.1),(.int .i64 c28)] (TPlace.mk u26.1 c28),_,_,_,_,_,_,_,_,_,_] _:=S.add (r:=rPlace) (x:=(TPlace.mk u26.1 c28)) (rPlace_mk (x:=(TPlace.mk u26.1 c28)))
        have S:=S.sel [3,0,1,2,4,5,6,7,8,9,10] rfl
        have mb30:=app_some hb30
        obtain ⟨v162,h163,e164,S⟩:=St.app1R (r:=(fz rPlace)) (b:=24) S mb30.1
        have S:St _ _ [own (oSl (fz rPlace)) [v162] b30,_,_,_,_,_,_,_,_] _:=S.cast1 (by rw [← mb30.2]<;>rfl)
        refine ⟨v162,h163,e164,?_⟩
        refine oI (.ptr h107.n 0 0) rfl ?_
        refine iI.2 ⟨rfl,?_⟩
        refine iI.2 ⟨rfl,?_⟩
        have S:=S.sel [5,0,1,2,3,4,6,7,8] rfl
        obtain ⟨h165,e166,S⟩:=S.storeS (off:=4) (x:=v162) (cs':=[b29c_0,(.int .i64 b29.i),(.int .i64 b29.e),(.int .i64 b29.at_),v162,b29c_5,b29c_6,b29c_7]) (nl rfl) ((S.sl (r:=(fz rPlace)) m1)).is rfl
        refine ⟨h165,e166,?_⟩
        have S:St _ _ [own (fz (rSl rToken)) [b29c_0] b29.l,_,_,_,_,_,_,_,_,_] _:=S.add (rSl_mk (S.slz (r:=rToken) m2))
        have S:=S.sel [0,2,4,5,6,1,3,7,8,9] rfl
        have S:St _ _ [own (oPtr oq5) [(.ptr h107.n 0 0)] (some (Tq5.mk b29.l b29.i b29.e b29.at_ (TNet.mk b30 b29.n.Trans) b29.places b29.told)),_,_,_,_] _:=oq5_shut (x:=(Tq5.mk b29.l b29.i b29.e b29.at_ (TNet.mk b30 b29.n.Trans) b29.places b29.told)) S
        have S:=S.sel [2,3,0] rfl
        exact hjj4 _ _ _ _ (some (Tq5.mk b29.l b29.i b29.e b29.at_ (TNet.mk b30 b29.n.Trans) b29.places b29.told)) hf rfl rfl rfl S
       refine bI (fun hc=>?_) (fun hc=>?_)
       ·rw [ifT hc] at hf
        obtain ⟨u33,hu33,hf⟩:=oB hf
        refine ⟨_,Fz.refl _,?_⟩
        have S:=S.sel [1,0,2,3] rfl
        obtain ⟨fpu33,S1u3863,backu33⟩:=St.lend [_] S
        refine (r65 (r0:=u26.2) (S:=S1u3863) hu33).mono fun v167 h168 T=>?_
        obtain ⟨rfl,T⟩:=T
        have S:St _ _ [own (oPtr oq5) [(.ptr h107.n 0 0)] u33,_,_,_] _:=backu33 _ _ T
        obtain ⟨u34,hu34,hf⟩:=oB hf
        refine ⟨_,Fz.refl _,?_⟩
        obtain ⟨fpu34,S1u3866,backu34⟩:=St.lend [_] S
        refine (r68 (r0:=u33) (least1:=0) (S:=S1u3866) hu34).mono fun v169 h170 T=>?_
        obtain ⟨rfl,T⟩:=T
        have S:St _ _ [own (oPtr oq5) [(.ptr h107.n 0 0)] u34.2,_,_,_] _:=backu34 _ _ T
        refine ⟨u34.1,rfl,?_⟩
        have S:=S.sel [1,0,2,3] rfl
        obtain ⟨h171,e172,S⟩:=S.store (off:=1) (n:=1) (x:=(.int .i64 u34.1)) (cs':=[(.str u26.1),(.int .i64 u34.1)]) (nl rfl) rfl rfl rfl
        refine ⟨h171,e172,?_⟩
        have S:=S.sel [2,3,1,0] rfl
        exact hjj5  _ u34.2 u34.1 hf  S
       rw [ifF hc] at hf
       have S:=S.sel [2,3,1,0] rfl
       exact hjj5  _ u26.2 0 hf  S
      refine bI (fun hc=>?_) (fun hc=>?_)
      ·rw [ifD hc] at hf
       obtain ⟨u90,hu90,hf⟩:=oB hf
       have S:St _ _ [own (fz (rSl rToken)) [b89c_0] b89.l,_,_,_,_,_,_,_,_,_] _:=S.add (rSl_mk (S.slz (r:=rToken) m0))
       have S:=S.sel [0,2,3,4,5,6,1,7,8,9] rfl
       have S:St _ _ [own (oPtr oq5) [(.ptr h107.n 0 0)] (some b89),_,_,_,_] _:=oq5_shut (x:=b89) S
       refine ⟨_,Fz.refl _,?_⟩
       obtain ⟨fpu90,S1u3873,backu90⟩:=St.lend [_] S
       refine (r66 (r0:=(some b89)) (e1:=5) (S:=S1u3873) hu90).mono fun v173 h174 T=>?_
       obtain ⟨rfl,T⟩:=T
       have S:St _ _ [own (oPtr oq5) [(.ptr h107.n 0 0)] u90,_,_,_,_] _:=backu90 _ _ T
       have S:=S.sel [2,3,0] rfl
       exact hjj6  _ u90 hf  S
      rw [ifE hc] at hf
      have S:St _ _ [own (fz (rSl rToken)) [b89c_0] b89.l,_,_,_,_,_,_,_,_,_] _:=S.add (rSl_mk (S.slz (r:=rToken) m0))
      have S:=S.sel [0,2,3,4,5,6,1,7,8,9] rfl
      have S:St _ _ [own (oPtr oq5) [(.ptr h107.n 0 0)] (some b89),_,_,_,_] _:=oq5_shut (x:=b89) S
      have S:=S.sel [2,3,0] rfl
      exact hjj6  _ (some b89) hf  S
     rw [ifF hc] at hf
     obtain ⟨y91,hy91,hf⟩:=oB hf
     refine ⟨_,Fz.refl _,?_⟩
     refine (r64 (r0:=(some b85)) (kind1:=1) (s2:=([116,114,97,110,115]:List UInt8)) (f0_0:=S.pt (r:=oq5) m0) hy91).mono fun v175 h176 T=>?_
     obtain ⟨rfl,T⟩:=T
     have S:St _ _ [_,_,_,_] _:=S.comp T
     refine ⟨y91,rfl,?_⟩
     refine bI (fun hc=>?_) (fun hc=>?_)
     ·rw [ifT hc] at hf
      obtain ⟨u92,hu92,hf⟩:=oB hf
      refine ⟨_,Fz.refl _,?_⟩
      obtain ⟨fpu92,S1u3880,backu92⟩:=St.lend [_] S
      refine (r65 (r0:=(some b85)) (S:=S1u3880) hu92).mono fun v177 h178 T=>?_
      obtain ⟨rfl,T⟩:=T
      have S:St _ _ [own (oPtr oq5) [(.ptr h107.n 0 0)] u92,_,_,_] _:=backu92 _ _ T
      obtain ⟨b93,hb93,hf⟩:=oB hf
      obtain ⟨b93c_0,b93c_4,b93c_5,b93c_6,b93c_7,S⟩:=oq5_derefAt hb93 S
      refine oI _ rfl ?_
      refine iI.2 ⟨rfl,?_⟩
      refine iI.2 ⟨rfl,?_⟩
      refine ⟨b93c_5,S.rd1 m5 rfl,?_⟩
      refine iI.2 ⟨((S.sl (r:=oTrans) m2)).is,?_⟩
      try rw [show (b93c_5).slen=_ from ((S.sl (r:=oTrans) m2)).slen]
      intro jjj14
      have hjj14:∀  (h179:Heap) (l81:Option Tq5),p46_j14 l81=some q140→St h none' [rowC h.n [.nilSlice,.nilSlice] 0,own (fz (rSl rToken)) [w106] u12.1,own (oPtr oq5) [(.ptr h107.n 0 0)] l81] h179→jjj14 h179:=by
       rintro h179 l81 hf S
       unfold p46_j14 at hf
       unfold jjj14
       obtain ⟨u62,hu62,hf⟩:=oB hf
       refine ⟨_,Fz.refl _,?_⟩
       have S:=S.sel [2,0,1] rfl
       obtain ⟨fpu62,S1u3901,backu62⟩:=St.lend [_] S
       refine (r67 (r0:=l81) (S:=S1u3901) hu62).mono fun v180 h181 T=>?_
       obtain ⟨rfl,T⟩:=T
       have S:St _ _ [own (oPtr oq5) [(.ptr h107.n 0 0)] u62.2,_,_] _:=backu62 _ _ T
       refine ⟨u62.1,rfl,?_⟩
       intro h182
       have S:St _ _ [rowC h181.n [(.str ([]:List UInt8)),(.int .i64 0),(.int .i64 0),.nilSlice,.nilSlice,.nilSlice] 0,_,_,_] _:=S.pushRow [(.str ([]:List UInt8)),(.int .i64 0),(.int .i64 0),.nilSlice,.nilSlice,.nilSlice]
       obtain ⟨h183,e184,S⟩:=S.store (off:=0) (n:=6) (x:=(.agg [(.str u62.1),(.int .i64 0),(.int .i64 0),.nilSlice,.nilSlice,.nilSlice])) (cs':=[(.str u62.1),(.int .i64 0),(.int .i64 0),.nilSlice,.nilSlice,.nilSlice]) (nl rfl) rfl rfl rfl
       refine ⟨h183,e184,?_⟩
       obtain ⟨y82,hy82,hf⟩:=oB hf
       refine ⟨_,Fz.refl _,?_⟩
       refine (r64 (r0:=u62.2) (kind1:=3) (s2:=([64]:List UInt8)) (f0_0:=S.pt (r:=oq5) m1) hy82).mono fun v185 h186 T=>?_
       obtain ⟨rfl,T⟩:=T
       have S:St _ _ [_,_,_,_] _:=S.comp T
       refine ⟨y82,rfl,?_⟩
       intro jjj13
       have hjj13:∀  (h187:Heap) (l77:Option Tq5) (c63:Int),p46_j13 u62 l77 c63=some q140→St h none' [rowC h.n [.nilSlice,.nilSlice] 0,own (fz (rSl rToken)) [w106] u12.1,own (oPtr oq5) [(.ptr h107.n 0 0)] l77,rowC h181.n [(.str u62.1),(.int .i64 c63),(.int .i64 0),.nilSlice,.nilSlice,.nilSlice] 0] h187→jjj13 h187:=by
        rintro h187 l77 c63 hf S
        unfold p46_j13 at hf
        unfold jjj13
        obtain ⟨y78,hy78,hf⟩:=oB hf
        refine ⟨_,Fz.refl _,?_⟩
        refine (r64 (r0:=l77) (kind1:=3) (s2:=([33]:List UInt8)) (f0_0:=S.pt (r:=oq5) m2) hy78).mono fun v188 h189 T=>?_
        obtain ⟨rfl,T⟩:=T
        have S:St _ _ [_,_,_,_] _:=S.comp T
        refine ⟨y78,rfl,?_⟩
        intro jjj12
        have hjj12:∀  (h190:Heap) (l64:Option Tq5) (c65:Int),p46_j12 u62 c63 l64 c65=some q140→St h none' [rowC h.n [.nilSlice,.nilSlice] 0,own (fz (rSl rToken)) [w106] u12.1,own (oPtr oq5) [(.ptr h107.n 0 0)] l64,rowC h181.n [(.str u62.1),(.int .i64 c63),(.int .i64 c65),.nilSlice,.nilSlice,.nilSlice] 0] h190→jjj12 h190:=by
         rintro h190 l64 c65 hf S
         unfold p46_j12 at hf
         unfold jjj12
         obtain ⟨u66,hu66,hf⟩:=oB hf
         refine ⟨_,Fz.refl _,?_⟩
         have S:=S.sel [2,0,1,3] rfl
         obtain ⟨fpu66,S1u3944,backu66⟩:=St.lend [_] S
         refine (r69 (r0:=l64) (s1:=([58]:List UInt8)) (S:=S1u3944) hu66).mono fun v191 h192 T=>?_
         obtain ⟨rfl,T⟩:=T
         have S:St _ _ [own (oPtr oq5) [(.ptr h107.n 0 0)] u66,_,_,_] _:=backu66 _ _ T
         obtain ⟨res67,hL,hf⟩:=oB hf
         obtain ⟨n193,hL⟩:=loopC_iff.1 hL
         have S:St _ _ [own (oSl (fz rArc)) [.nilSlice] [],_,_,_,_] _:=S.addE (oSl_nil _ _)
         have S:St _ _ [own (oSl (fz rArc)) [.nilSlice] [],_,_,_,_,_] _:=S.addE (oSl_nil _ _)
         have S:=S.sel [3,4,2,5,1,0] rfl
         refine loopm46_1 (X4:=fun (y194:AV) (y195:AV) (y196:AV) (y197:AV) (y198:Int) (h199:Heap)=>∃ (l68:Option Tq5),∃ (c200:AV),∃ (c201:AV),∃ (c69:List TArc),∃ (c70:List TArc),AV.ptr h.n 0 0=y194∧w106=y195∧(AV.ptr h107.n 0 0)=y196∧AV.ptr h181.n 0 0=y197∧St h none' [rowC h.n [.nilSlice,.nilSlice] 0,own (fz (rSl rToken)) [w106] u12.1,own (oPtr oq5) [(.ptr h107.n 0 0)] l68,rowC h181.n [(.str u62.1),(.int .i64 c63),(.int .i64 c65),c200,c201,.nilSlice] 0,own (oSl (fz rArc)) [c200] c69,own (oSl (fz rArc)) [c201] c70] h199∧(l68,c69,c70)=res67) ?_ (loop46_1 (I:=fun (m202:Nat) (y203:AV) (y204:AV) (y205:AV) (y206:AV) (y35:Int) (h207:Heap)=>∃ (l49:Option Tq5),∃ (c208:AV),∃ (c209:AV),∃ (c39:List TArc),∃ (c40:List TArc),AV.ptr h.n 0 0=y203∧w106=y204∧(AV.ptr h107.n 0 0)=y205∧AV.ptr h181.n 0 0=y206∧St h none' [rowC h.n [.nilSlice,.nilSlice] 0,own (fz (rSl rToken)) [w106] u12.1,own (oPtr oq5) [(.ptr h107.n 0 0)] l49,rowC h181.n [(.str u62.1),(.int .i64 c63),(.int .i64 c65),c208,c209,.nilSlice] 0,own (oSl (fz rArc)) [c208] c39,own (oSl (fz rArc)) [c209] c40] h207∧iter p46_l1 m202 (y35,l49,c39,c40)=some res67) ?_ (m:=n193) ?_)
         ·rintro y194 y195 y196 y197 y198 h199 ⟨l68,c200,c201,c69,c70,rfl,rfl,rfl,rfl,S,rfl⟩
          try dsimp only at hf
          obtain ⟨u71,hu71,hf⟩:=oB hf
          refine ⟨_,Fz.refl _,?_⟩
          have S:=S.sel [2,0,1,3,4,5] rfl
          obtain ⟨fpu71,S1u4246,backu71⟩:=St.lend [_] S
          refine (r69 (r0:=l68) (s1:=([45,62]:List UInt8)) (S:=S1u4246) hu71).mono fun v210 h211 T=>?_
          obtain ⟨rfl,T⟩:=T
          have S:St _ _ [own (oPtr oq5) [(.ptr h107.n 0 0)] u71,_,_,_,_,_] _:=backu71 _ _ T
          obtain ⟨res72,hL,hf⟩:=oB hf
          obtain ⟨n212,hL⟩:=loopC_iff.1 hL
          have S:St _ _ [own (oSl (fz rArc)) [.nilSlice] [],_,_,_,_,_,_] _:=S.addE (oSl_nil _ _)
          have S:=S.sel [2,3,1,4,5,6,0] rfl
          refine loopm46_2 (X6:=fun (y213:AV) (y214:AV) (y215:AV) (y216:AV) (y217:Int) (h218:Heap)=>∃ (l73:Option Tq5),∃ (c219:AV),∃ (c74:List TArc),AV.ptr h.n 0 0=y213∧w106=y214∧(AV.ptr h107.n 0 0)=y215∧AV.ptr h181.n 0 0=y216∧St h none' [rowC h.n [.nilSlice,.nilSlice] 0,own (fz (rSl rToken)) [w106] u12.1,own (oPtr oq5) [(.ptr h107.n 0 0)] l73,rowC h181.n [(.str u62.1),(.int .i64 c63),(.int .i64 c65),c200,c201,c219] 0,own (oSl (fz rArc)) [c200] c69,own (oSl (fz rArc)) [c201] c70,own (oSl (fz rArc)) [c219] c74] h218∧(l73,c74)=res72) ?_ (loop46_2 (I:=fun (m220:Nat) (y221:AV) (y222:AV) (y223:AV) (y224:AV) (y52:Int) (h225:Heap)=>∃ (l59:Option Tq5),∃ (c226:AV),∃ (c53:List TArc),AV.ptr h.n 0 0=y221∧w106=y222∧(AV.ptr h107.n 0 0)=y223∧AV.ptr h181.n 0 0=y224∧St h none' [rowC h.n [.nilSlice,.nilSlice] 0,own (fz (rSl rToken)) [w106] u12.1,own (oPtr oq5) [(.ptr h107.n 0 0)] l59,rowC h181.n [(.str u62.1),(.int .i64 c63),(.int .i64 c65),c200,c201,c226] 0,own (oSl (fz rArc)) [c200] c69,own (oSl (fz rArc)) [c201] c70,own (oSl (fz rArc)) [c226] c53] h225∧iter p46_l2 m220 (y52,l59,c53)=some res72) ?_ (m:=n212) ?_)
          ·rintro y213 y214 y215 y216 y217 h218 ⟨l73,c219,c74,rfl,rfl,rfl,rfl,S,rfl⟩
           try dsimp only at hf
           obtain ⟨b75,hb75,hf⟩:=oB hf
           have S:=S.sel [2,0,1,3,4,5,6] rfl
           obtain ⟨b75c_0,b75c_4,b75c_5,b75c_6,b75c_7,S⟩:=oq5_derefAt hb75 S
           refine oI _ rfl ?_
           refine iI.2 ⟨rfl,?_⟩
           refine iI.2 ⟨rfl,?_⟩
           refine ⟨b75c_5,S.rd1 m5 rfl,?_⟩
           refine ⟨(.str u62.1),(.int .i64 c63),(.int .i64 c65),c200,c201,c219,S.rdN m8 (nl rfl) rfl,?_⟩
           intro h227
           have S:St _ _ [rowC h218.n [(.str u62.1),(.int .i64 c63),(.int .i64 c65),c200,c201,c219] 0,_,_,_,_,_,_,_,_,_,_,_,_] _:=S.pushRow [(.str u62.1),(.int .i64 c63),(.int .i64 c65),c200,c201,c219]
           obtain ⟨b76,hb76,hf⟩:=oB hf
           have S:=S.sel [10,11,12,0,1,2,3,4,5,6,7,8,9] rfl
           have S:St _ _ [own oTrans [(.str u62.1),(.int .i64 c63),(.int .i64 c65),c200,c201,c219] (TTrans.mk u62.1 c63 c65 c69 c70 c74),_,_,_,_,_,_,_,_,_,_] _:=oTrans_close (x:=(TTrans.mk u62.1 c63 c65 c69 c70 c74)) S
           have S:=S.sel [4,0,1,2,3,5,6,7,8,9,10] rfl
           have mb76:=app_some hb76
           obtain ⟨v228,h229,e230,S⟩:=St.app1R (r:=oTrans) (b:=104) S mb76.1
           have S:St _ _ [own (oSl oTrans) [v228] b76,_,_,_,_,_,_,_,_] _:=S.cast1 (by rw [← mb76.2]<;>rfl)
           refine ⟨v228,h229,e230,?_⟩
           refine oI (.ptr h107.n 0 0) rfl ?_
           refine iI.2 ⟨rfl,?_⟩
           refine iI.2 ⟨rfl,?_⟩
           have S:=S.sel [5,0,1,2,3,4,6,7,8] rfl
           obtain ⟨h231,e232,S⟩:=S.storeS (off:=5) (x:=v228) (cs':=[b75c_0,(.int .i64 b75.i),(.int .i64 b75.e),(.int .i64 b75.at_),b75c_4,v228,b75c_6,b75c_7]) (nl rfl) ((S.sl (r:=oTrans) m1)).is rfl
           refine ⟨h231,e232,?_⟩
           have S:St _ _ [own (fz (rSl rToken)) [b75c_0] b75.l,_,_,_,_,_,_,_,_,_] _:=S.add (rSl_mk (S.slz (r:=rToken) m2))
           have S:=S.sel [0,4,2,5,6,1,3,7,8,9] rfl
           have S:St _ _ [own (oPtr oq5) [(.ptr h107.n 0 0)] (some (Tq5.mk b75.l b75.i b75.e b75.at_ (TNet.mk b75.n.Places b76) b75.places b75.told)),_,_,_,_] _:=oq5_shut (x:=(Tq5.mk b75.l b75.i b75.e b75.at_ (TNet.mk b75.n.Places b76) b75.places b75.told)) S
           have S:=S.sel [2,3,0] rfl
           exact hjj4 _ _ _ _ (some (Tq5.mk b75.l b75.i b75.e b75.at_ (TNet.mk b75.n.Places b76) b75.places b75.told)) hf rfl rfl rfl S
          ·rintro m233 y221 y222 y223 y224 y52 h225 ⟨l59,c226,c53,rfl,rfl,rfl,rfl,S,hit⟩
           obtain ⟨m220,q234,rfl,hf,hk⟩:=iter_some hit
           clear hit
           unfold B46_2
           unfold p46_l2 at hf
           try dsimp only at hf
           obtain ⟨b60,hb60,hf⟩:=oB hf
           have S:=S.sel [2,0,1,3,4,5,6] rfl
           obtain ⟨b60c_0,b60c_4,b60c_5,b60c_6,b60c_7,S⟩:=oq5_derefAt hb60 S
           refine oI _ rfl ?_
           refine iI.2 ⟨rfl,?_⟩
           refine ⟨b60.e,S.rd1 m5 rfl,?_⟩
           intro jjj11
           have hjj11:∀ (b56:Bool) (h235:Heap) (l57:Option Tq5),p46_j11 y52 c53 b56 l57=some q234→St h none' [rowC h.n [.nilSlice,.nilSlice] 0,own (fz (rSl rToken)) [w106] u12.1,own (oPtr oq5) [(.ptr h107.n 0 0)] l57,rowC h181.n [(.str u62.1),(.int .i64 c63),(.int .i64 c65),c200,c201,c226] 0,own (oSl (fz rArc)) [c200] c69,own (oSl (fz rArc)) [c201] c70,own (oSl (fz rArc)) [c226] c53] h235→jjj11 b56 h235:=by
            rintro b56 h235 l57 hf S
            unfold p46_j11 at hf
            unfold jjj11
            refine bI (fun hc=>?_) (fun hc=>?_)
            ·rw [ifT hc] at hf
             intro jjj10
             have hjj10:∀  (h236:Heap) (l54:Option Tq5),p46_j10 y52 c53 l54=some q234→St h none' [rowC h.n [.nilSlice,.nilSlice] 0,own (fz (rSl rToken)) [w106] u12.1,own (oPtr oq5) [(.ptr h107.n 0 0)] l54,rowC h181.n [(.str u62.1),(.int .i64 c63),(.int .i64 c65),c200,c201,c226] 0,own (oSl (fz rArc)) [c200] c69,own (oSl (fz rArc)) [c201] c70,own (oSl (fz rArc)) [c226] c53] h236→jjj10 h236:=by
              rintro h236 l54 hf S
              unfold p46_j10 at hf
              unfold jjj10
              refine iI.2 ⟨rfl,?_⟩
              refine ⟨c226,S.rd1 m3 rfl,?_⟩
              obtain ⟨u55,hu55,hf⟩:=oB hf
              refine ⟨_,Fz.refl _,?_⟩
              have S:=S.sel [2,6,0,1,3,4,5] rfl
              obtain ⟨fpu55,S1u4402,backu55⟩:=St.lend [_,_] S
              refine (r70 (x0:=l54) (x1:=c53) (S:=S1u4402) hu55).mono fun v237 h238 T=>?_
              have S:St _ _ [own (oSl (fz rArc)) [v237] u55.1,own (oPtr oq5) [(.ptr h107.n 0 0)] u55.2,_,_,_,_,_] _:=backu55 _ _ T
              refine iI.2 ⟨rfl,?_⟩
              have S:=S.sel [4,0,1,2,3,5,6] rfl
              obtain ⟨h239,e240,S⟩:=S.storeS (off:=5) (x:=v237) (cs':=[(.str u62.1),(.int .i64 c63),(.int .i64 c65),c200,c201,v237]) (nl rfl) ((S.sl (r:=(fz rArc)) m1)).is rfl
              refine ⟨h239,e240,?_⟩
              have S:=S.sel [3,4,2,0,5,6,1] rfl
              obtain rfl:=oi hf
              exact ⟨m220,Nat.lt_succ_self _,u55.2,v237,u55.1,rfl,rfl,rfl,rfl,S,hk⟩
             refine bI (fun hc=>?_) (fun hc=>?_)
             ·rw [ifD hc] at hf
              obtain ⟨u58,hu58,hf⟩:=oB hf
              refine ⟨_,Fz.refl _,?_⟩
              have S:=S.sel [2,0,1,3,4,5,6] rfl
              obtain ⟨fpu58,S1u4409,backu58⟩:=St.lend [_] S
              refine (r69 (r0:=l57) (s1:=([44]:List UInt8)) (S:=S1u4409) hu58).mono fun v241 h242 T=>?_
              obtain ⟨rfl,T⟩:=T
              have S:St _ _ [own (oPtr oq5) [(.ptr h107.n 0 0)] u58,_,_,_,_,_,_] _:=backu58 _ _ T
              have S:=S.sel [1,2,0,3,4,5,6] rfl
              exact hjj10  _ u58 hf  S
             rw [ifE hc] at hf
             exact hjj10  _ l57 hf  S
            rw [ifF hc] at hf
            obtain rfl:=oi hf
            obtain rfl:=hk
            exact ⟨l57,c226,c53,rfl,rfl,rfl,rfl,S,rfl⟩
           refine bI (fun hc=>?_) (fun hc=>?_)
           ·rw [ifD hc] at hf
            obtain ⟨y61,hy61,hf⟩:=oB hf
            have S:St _ _ [own (fz (rSl rToken)) [b60c_0] b60.l,_,_,_,_,_,_,_,_,_,_,_,_] _:=S.add (rSl_mk (S.slz (r:=rToken) m0))
            have S:=S.sel [0,2,3,4,5,6,1,7,8,9,10,11,12] rfl
            have S:St _ _ [own (oPtr oq5) [(.ptr h107.n 0 0)] (some b60),_,_,_,_,_,_,_] _:=oq5_shut (x:=b60) S
            refine ⟨_,Fz.refl _,?_⟩
            refine (r64 (r0:=(some b60)) (kind1:=3) (s2:=([59]:List UInt8)) (f0_0:=S.pt (r:=oq5) m0) hy61).mono fun v243 h244 T=>?_
            obtain ⟨rfl,T⟩:=T
            have S:St _ _ [_,_,_,_,_,_,_,_] _:=S.comp T
            refine ⟨y61,rfl,?_⟩
            have S:=S.sel [2,3,0,4,5,6,7] rfl
            exact hjj11 _ _ (some b60) hf  S
           rw [ifE hc] at hf
           have S:St _ _ [own (fz (rSl rToken)) [b60c_0] b60.l,_,_,_,_,_,_,_,_,_,_,_,_] _:=S.add (rSl_mk (S.slz (r:=rToken) m0))
           have S:=S.sel [0,2,3,4,5,6,1,7,8,9,10,11,12] rfl
           have S:St _ _ [own (oPtr oq5) [(.ptr h107.n 0 0)] (some b60),_,_,_,_,_,_,_] _:=oq5_shut (x:=b60) S
           have S:=S.sel [2,3,0,4,5,6,7] rfl
           exact hjj11 _ _ (some b60) hf  S
          exact ⟨u71,.nilSlice,[],rfl,rfl,rfl,rfl,S,hL⟩
         ·rintro m245 y203 y204 y205 y206 y35 h207 ⟨l49,c208,c209,c39,c40,rfl,rfl,rfl,rfl,S,hit⟩
          obtain ⟨m202,q246,rfl,hf,hk⟩:=iter_some hit
          clear hit
          unfold B46_1
          unfold p46_l1 at hf
          try dsimp only at hf
          obtain ⟨b50,hb50,hf⟩:=oB hf
          have S:=S.sel [2,0,1,3,4,5] rfl
          obtain ⟨b50c_0,b50c_4,b50c_5,b50c_6,b50c_7,S⟩:=oq5_derefAt hb50 S
          refine oI _ rfl ?_
          refine iI.2 ⟨rfl,?_⟩
          refine ⟨b50.e,S.rd1 m5 rfl,?_⟩
          intro jjj9
          have hjj9:∀ (b46:Bool) (h247:Heap) (l47:Option Tq5),p46_j9 y35 c39 c40 b46 l47=some q246→St h none' [rowC h.n [.nilSlice,.nilSlice] 0,own (fz (rSl rToken)) [w106] u12.1,own (oPtr oq5) [(.ptr h107.n 0 0)] l47,rowC h181.n [(.str u62.1),(.int .i64 c63),(.int .i64 c65),c208,c209,.nilSlice] 0,own (oSl (fz rArc)) [c208] c39,own (oSl (fz rArc)) [c209] c40] h247→jjj9 b46 h247:=by
           rintro b46 h247 l47 hf S
           unfold p46_j9 at hf
           unfold jjj9
           refine bI (fun hc=>?_) (fun hc=>?_)
           ·rw [ifT hc] at hf
            intro jjj8
            have hjj8:∀  (h248:Heap) (l41:Option Tq5),p46_j8 y35 c39 c40 l41=some q246→St h none' [rowC h.n [.nilSlice,.nilSlice] 0,own (fz (rSl rToken)) [w106] u12.1,own (oPtr oq5) [(.ptr h107.n 0 0)] l41,rowC h181.n [(.str u62.1),(.int .i64 c63),(.int .i64 c65),c208,c209,.nilSlice] 0,own (oSl (fz rArc)) [c208] c39,own (oSl (fz rArc)) [c209] c40] h248→jjj8 h248:=by
             rintro h248 l41 hf S
             unfold p46_j8 at hf
             unfold jjj8
             obtain ⟨y42,hy42,hf⟩:=oB hf
             refine ⟨_,Fz.refl _,?_⟩
             refine (r64 (r0:=l41) (kind1:=3) (s2:=([126]:List UInt8)) (f0_0:=S.pt (r:=oq5) m2) hy42).mono fun v249 h250 T=>?_
             obtain ⟨rfl,T⟩:=T
             have S:St _ _ [_,_,_,_,_,_] _:=S.comp T
             refine ⟨y42,rfl,?_⟩
             intro jjj7
             have hjj7:∀  (h251:Heap) (l36:Option Tq5) (c252:AV) (c253:AV) (c37:List TArc) (c38:List TArc),p46_j7 y35 l36 c37 c38=some q246→St h none' [rowC h.n [.nilSlice,.nilSlice] 0,own (fz (rSl rToken)) [w106] u12.1,own (oPtr oq5) [(.ptr h107.n 0 0)] l36,rowC h181.n [(.str u62.1),(.int .i64 c63),(.int .i64 c65),c252,c253,.nilSlice] 0,own (oSl (fz rArc)) [c252] c37,own (oSl (fz rArc)) [c253] c38] h251→jjj7 h251:=by
              rintro h251 l36 c252 c253 c37 c38 hf S
              unfold p46_j7 at hf
              unfold jjj7
              obtain rfl:=oi hf
              exact ⟨m202,Nat.lt_succ_self _,l36,c252,c253,c37,c38,rfl,rfl,rfl,rfl,S,hk⟩
             refine bI (fun hc=>?_) (fun hc=>?_)
             ·rw [ifT hc] at hf
              obtain ⟨u43,hu43,hf⟩:=oB hf
              refine ⟨_,Fz.refl _,?_⟩
              have S:=S.sel [2,0,1,3,4,5] rfl
              obtain ⟨fpu43,S1u4219,backu43⟩:=St.lend [_] S
              refine (r65 (r0:=l41) (S:=S1u4219) hu43).mono fun v254 h255 T=>?_
              obtain ⟨rfl,T⟩:=T
              have S:St _ _ [own (oPtr oq5) [(.ptr h107.n 0 0)] u43,_,_,_,_,_] _:=backu43 _ _ T
              refine iI.2 ⟨rfl,?_⟩
              refine ⟨c209,S.rd1 m3 rfl,?_⟩
              obtain ⟨u44,hu44,hf⟩:=oB hf
              refine ⟨_,Fz.refl _,?_⟩
              have S:=S.sel [0,5,1,2,3,4] rfl
              obtain ⟨fpu44,S1u4222,backu44⟩:=St.lend [_,_] S
              refine (r70 (x0:=u43) (x1:=c40) (S:=S1u4222) hu44).mono fun v256 h257 T=>?_
              have S:St _ _ [own (oSl (fz rArc)) [v256] u44.1,own (oPtr oq5) [(.ptr h107.n 0 0)] u44.2,_,_,_,_] _:=backu44 _ _ T
              refine iI.2 ⟨rfl,?_⟩
              have S:=S.sel [4,0,1,2,3,5] rfl
              obtain ⟨h258,e259,S⟩:=S.storeS (off:=4) (x:=v256) (cs':=[(.str u62.1),(.int .i64 c63),(.int .i64 c65),c208,v256,.nilSlice]) (nl rfl) ((S.sl (r:=(fz rArc)) m1)).is rfl
              refine ⟨h258,e259,?_⟩
              have S:=S.sel [3,4,2,0,5,1] rfl
              exact hjj7  _ u44.2 c208 v256 c39 u44.1 hf  S
             rw [ifF hc] at hf
             refine iI.2 ⟨rfl,?_⟩
             refine ⟨c208,S.rd1 m3 rfl,?_⟩
             obtain ⟨u45,hu45,hf⟩:=oB hf
             refine ⟨_,Fz.refl _,?_⟩
             have S:=S.sel [2,4,0,1,3,5] rfl
             obtain ⟨fpu45,S1u4228,backu45⟩:=St.lend [_,_] S
             refine (r70 (x0:=l41) (x1:=c39) (S:=S1u4228) hu45).mono fun v260 h261 T=>?_
             have S:St _ _ [own (oSl (fz rArc)) [v260] u45.1,own (oPtr oq5) [(.ptr h107.n 0 0)] u45.2,_,_,_,_] _:=backu45 _ _ T
             refine iI.2 ⟨rfl,?_⟩
             have S:=S.sel [4,0,1,2,3,5] rfl
             obtain ⟨h262,e263,S⟩:=S.storeS (off:=3) (x:=v260) (cs':=[(.str u62.1),(.int .i64 c63),(.int .i64 c65),v260,c209,.nilSlice]) (nl rfl) ((S.sl (r:=(fz rArc)) m1)).is rfl
             refine ⟨h262,e263,?_⟩
             have S:=S.sel [3,4,2,0,1,5] rfl
             exact hjj7  _ u45.2 v260 c209 u45.1 c40 hf  S
            refine bI (fun hc=>?_) (fun hc=>?_)
            ·rw [ifD hc] at hf
             obtain ⟨u48,hu48,hf⟩:=oB hf
             refine ⟨_,Fz.refl _,?_⟩
             have S:=S.sel [2,0,1,3,4,5] rfl
             obtain ⟨fpu48,S1u4235,backu48⟩:=St.lend [_] S
             refine (r69 (r0:=l47) (s1:=([44]:List UInt8)) (S:=S1u4235) hu48).mono fun v264 h265 T=>?_
             obtain ⟨rfl,T⟩:=T
             have S:St _ _ [own (oPtr oq5) [(.ptr h107.n 0 0)] u48,_,_,_,_,_] _:=backu48 _ _ T
             have S:=S.sel [1,2,0,3,4,5] rfl
             exact hjj8  _ u48 hf  S
            rw [ifE hc] at hf
            exact hjj8  _ l47 hf  S
           rw [ifF hc] at hf
           obtain rfl:=oi hf
           obtain rfl:=hk
           exact ⟨l47,c208,c209,c39,c40,rfl,rfl,rfl,rfl,S,rfl⟩
          refine bI (fun hc=>?_) (fun hc=>?_)
          ·rw [ifD hc] at hf
           obtain ⟨y51,hy51,hf⟩:=oB hf
           have S:St _ _ [own (fz (rSl rToken)) [b50c_0] b50.l,_,_,_,_,_,_,_,_,_,_,_] _:=S.add (rSl_mk (S.slz (r:=rToken) m0))
           have S:=S.sel [0,2,3,4,5,6,1,7,8,9,10,11] rfl
           have S:St _ _ [own (oPtr oq5) [(.ptr h107.n 0 0)] (some b50),_,_,_,_,_,_] _:=oq5_shut (x:=b50) S
           refine ⟨_,Fz.refl _,?_⟩
           refine (r64 (r0:=(some b50)) (kind1:=3) (s2:=([45,62]:List UInt8)) (f0_0:=S.pt (r:=oq5) m0) hy51).mono fun v266 h267 T=>?_
           obtain ⟨rfl,T⟩:=T
           have S:St _ _ [_,_,_,_,_,_,_] _:=S.comp T
           refine ⟨y51,rfl,?_⟩
           have S:=S.sel [2,3,0,4,5,6] rfl
           exact hjj9 _ _ (some b50) hf  S
          rw [ifE hc] at hf
          have S:St _ _ [own (fz (rSl rToken)) [b50c_0] b50.l,_,_,_,_,_,_,_,_,_,_,_] _:=S.add (rSl_mk (S.slz (r:=rToken) m0))
          have S:=S.sel [0,2,3,4,5,6,1,7,8,9,10,11] rfl
          have S:St _ _ [own (oPtr oq5) [(.ptr h107.n 0 0)] (some b50),_,_,_,_,_,_] _:=oq5_shut (x:=b50) S
          have S:=S.sel [2,3,0,4,5,6] rfl
          exact hjj9 _ _ (some b50) hf  S
         exact ⟨u66,.nilSlice,.nilSlice,[],[],rfl,rfl,rfl,rfl,S,hL⟩
        refine bI (fun hc=>?_) (fun hc=>?_)
        ·rw [ifT hc] at hf
         obtain ⟨u79,hu79,hf⟩:=oB hf
         refine ⟨_,Fz.refl _,?_⟩
         have S:=S.sel [2,0,1,3] rfl
         obtain ⟨fpu79,S1u4439,backu79⟩:=St.lend [_] S
         refine (r65 (r0:=l77) (S:=S1u4439) hu79).mono fun v268 h269 T=>?_
         obtain ⟨rfl,T⟩:=T
         have S:St _ _ [own (oPtr oq5) [(.ptr h107.n 0 0)] u79,_,_,_] _:=backu79 _ _ T
         obtain ⟨u80,hu80,hf⟩:=oB hf
         refine ⟨_,Fz.refl _,?_⟩
         obtain ⟨fpu80,S1u4442,backu80⟩:=St.lend [_] S
         refine (r68 (r0:=u79) (least1:=0) (S:=S1u4442) hu80).mono fun v270 h271 T=>?_
         obtain ⟨rfl,T⟩:=T
         have S:St _ _ [own (oPtr oq5) [(.ptr h107.n 0 0)] u80.2,_,_,_] _:=backu80 _ _ T
         refine ⟨u80.1,rfl,?_⟩
         refine iI.2 ⟨rfl,?_⟩
         have S:=S.sel [3,0,1,2] rfl
         obtain ⟨h272,e273,S⟩:=S.store (off:=2) (n:=1) (x:=(.int .i64 u80.1)) (cs':=[(.str u62.1),(.int .i64 c63),(.int .i64 u80.1),.nilSlice,.nilSlice,.nilSlice]) (nl rfl) rfl rfl rfl
         refine ⟨h272,e273,?_⟩
         have S:=S.sel [2,3,1,0] rfl
         exact hjj12  _ u80.2 u80.1 hf  S
        rw [ifF hc] at hf
        exact hjj12  _ l77 0 hf  S
       refine bI (fun hc=>?_) (fun hc=>?_)
       ·rw [ifT hc] at hf
        obtain ⟨u83,hu83,hf⟩:=oB hf
        refine ⟨_,Fz.refl _,?_⟩
        have S:=S.sel [1,0,2,3] rfl
        obtain ⟨fpu83,S1u4448,backu83⟩:=St.lend [_] S
        refine (r65 (r0:=u62.2) (S:=S1u4448) hu83).mono fun v274 h275 T=>?_
        obtain ⟨rfl,T⟩:=T
        have S:St _ _ [own (oPtr oq5) [(.ptr h107.n 0 0)] u83,_,_,_] _:=backu83 _ _ T
        obtain ⟨u84,hu84,hf⟩:=oB hf
        refine ⟨_,Fz.refl _,?_⟩
        obtain ⟨fpu84,S1u4451,backu84⟩:=St.lend [_] S
        refine (r68 (r0:=u83) (least1:=0) (S:=S1u4451) hu84).mono fun v276 h277 T=>?_
        obtain ⟨rfl,T⟩:=T
        have S:St _ _ [own (oPtr oq5) [(.ptr h107.n 0 0)] u84.2,_,_,_] _:=backu84 _ _ T
        refine ⟨u84.1,rfl,?_⟩
        have S:=S.sel [1,0,2,3] rfl
        obtain ⟨h278,e279,S⟩:=S.store (off:=1) (n:=1) (x:=(.int .i64 u84.1)) (cs':=[(.str u62.1),(.int .i64 u84.1),(.int .i64 0),.nilSlice,.nilSlice,.nilSlice]) (nl rfl) rfl rfl rfl
        refine ⟨h278,e279,?_⟩
        have S:=S.sel [2,3,1,0] rfl
        exact hjj13  _ u84.2 u84.1 hf  S
       rw [ifF hc] at hf
       have S:=S.sel [2,3,1,0] rfl
       exact hjj13  _ u62.2 0 hf  S
      refine bI (fun hc=>?_) (fun hc=>?_)
      ·rw [ifD hc] at hf
       obtain ⟨u94,hu94,hf⟩:=oB hf
       have S:St _ _ [own (fz (rSl rToken)) [b93c_0] b93.l,_,_,_,_,_,_,_,_,_] _:=S.add (rSl_mk (S.slz (r:=rToken) m0))
       have S:=S.sel [0,2,3,4,5,6,1,7,8,9] rfl
       have S:St _ _ [own (oPtr oq5) [(.ptr h107.n 0 0)] (some b93),_,_,_,_] _:=oq5_shut (x:=b93) S
       refine ⟨_,Fz.refl _,?_⟩
       obtain ⟨fpu94,S1u4458,backu94⟩:=St.lend [_] S
       refine (r66 (r0:=(some b93)) (e1:=5) (S:=S1u4458) hu94).mono fun v280 h281 T=>?_
       obtain ⟨rfl,T⟩:=T
       have S:St _ _ [own (oPtr oq5) [(.ptr h107.n 0 0)] u94,_,_,_,_] _:=backu94 _ _ T
       have S:=S.sel [2,3,0] rfl
       exact hjj14  _ u94 hf  S
      rw [ifE hc] at hf
      have S:St _ _ [own (fz (rSl rToken)) [b93c_0] b93.l,_,_,_,_,_,_,_,_,_] _:=S.add (rSl_mk (S.slz (r:=rToken) m0))
      have S:=S.sel [0,2,3,4,5,6,1,7,8,9] rfl
      have S:St _ _ [own (oPtr oq5) [(.ptr h107.n 0 0)] (some b93),_,_,_,_] _:=oq5_shut (x:=b93) S
      have S:=S.sel [2,3,0] rfl
      exact hjj14  _ (some b93) hf  S
     rw [ifF hc] at hf
     obtain ⟨u95,hu95,hf⟩:=oB hf
     refine ⟨_,Fz.refl _,?_⟩
     obtain ⟨fpu95,S1u4462,backu95⟩:=St.lend [_] S
     refine (r66 (r0:=(some b85)) (e1:=6) (S:=S1u4462) hu95).mono fun v282 h283 T=>?_
     obtain ⟨rfl,T⟩:=T
     have S:St _ _ [own (oPtr oq5) [(.ptr h107.n 0 0)] u95,_,_,_] _:=backu95 _ _ T
     have S:=S.sel [1,2,0] rfl
     exact hjj4 _ _ _ _ u95 hf rfl rfl rfl S
    rw [ifF hc] at hf
    have S:St _ _ [own (fz (rSl rToken)) [b85c_0] b85.l,_,_,_,_,_,_,_,_] _:=S.add (rSl_mk (S.slz (r:=rToken) m3))
    have S:=S.sel [0,5,6,7,8,3,1,2,4] rfl
    have S:St _ _ [own (oPtr oq5) [(.ptr h107.n 0 0)] (some b85),_,_,_] _:=oq5_shut (x:=b85) S
    have S:=S.sel [1,0] rfl
    obtain rfl:=oi hf
    obtain rfl:=hk
    exact ⟨(some b85),rfl,rfl,S,rfl⟩
   refine bI (fun hc=>?_) (fun hc=>?_)
   ·rw [ifD hc] at hf
    refine oI (.ptr h107.n 0 0) rfl ?_
    refine iI.2 ⟨rfl,?_⟩
    refine ⟨b85.i,S.rd1 m5 rfl,?_⟩
    obtain ⟨e97,he97,hf⟩:=oB hf
    refine ix_go (S.slz (r:=rToken) m7) (frz_snap _) he97 fun pe97=>?_
    refine iI.2 ⟨pe97,?_⟩
    obtain ⟨_,cr284,Rr284,Nr284,Or284,Zr284⟩:=SlR.idx (S.slz (r:=rToken) m7) (frz_snap _) he97
    obtain rfl:=rToken_open Rr284
    refine ⟨e97.Kind,Or284 0 _ rfl,?_⟩
    have S:=S.sel [6,7,5,0,1,2,3,4] rfl
    exact hjj15 _ _  hf rfl S
   rw [ifE hc] at hf
   have S:=S.sel [6,7,5,0,1,2,3,4] rfl
   exact hjj15 _ _  hf rfl S
  exact ⟨(some (Tq5.mk u12.1 0 0 0 (TNet.mk [] []) c99 [])),rfl,rfl,rfl,S,hL⟩
 ·rintro m285 y120 y121 y122 y10 h123 ⟨c124,c13,rfl,rfl,rfl,S,hit⟩
  obtain ⟨m119,q286,rfl,hf,hk⟩:=iter_some hit
  clear hit
  unfold B46_0
  unfold p46_l0 at hf
  try dsimp only at hf
  refine iI.2 ⟨((S.slz (r:=rToken) m1)).is,?_⟩
  try rw [show (w106).slen=_ from ((S.slz (r:=rToken) m1)).slen]
  refine bI (fun hc=>?_) (fun hc=>?_)
  ·rw [ifD hc] at hf
   obtain ⟨e22,he22,hf⟩:=oB hf
   refine ix_go (S.slz (r:=rToken) m1) (frz_snap _) he22 fun pe22=>?_
   refine iI.2 ⟨pe22,?_⟩
   obtain ⟨_,cr287,Rr287,Nr287,Or287,Zr287⟩:=SlR.idx (S.slz (r:=rToken) m1) (frz_snap _) he22
   obtain rfl:=rToken_open Rr287
   refine ⟨e22.Kind,Or287 0 _ rfl,?_⟩
   intro jjj3
   have hjj3:∀ (b20:Bool) (h288:Heap),p46_j3 u12 y10 c13 b20=some q286→h123=h288→St h none' [rowC h.n [.nilSlice,.nilSlice] 0,own (fz (rSl rToken)) [w106] u12.1,rowC h107.n [w106,(.int .i64 0),(.int .i64 0),(.int .i64 0),.nilSlice,.nilSlice,c124,.nilSlice] 0,own (oSl (fz rS)) [c124] c13] h123→jjj3 b20 h288:=by
    rintro b20 h288 hf rfl S
    unfold p46_j3 at hf
    unfold jjj3
    intro jjj2
    have hjj2:∀ (b17:Bool) (h289:Heap),p46_j2 u12 y10 c13 b17=some q286→h123=h289→St h none' [rowC h.n [.nilSlice,.nilSlice] 0,own (fz (rSl rToken)) [w106] u12.1,rowC h107.n [w106,(.int .i64 0),(.int .i64 0),(.int .i64 0),.nilSlice,.nilSlice,c124,.nilSlice] 0,own (oSl (fz rS)) [c124] c13] h123→jjj2 b17 h289:=by
     rintro b17 h289 hf rfl S
     unfold p46_j2 at hf
     unfold jjj2
     intro jjj1
     have hjj1:∀ (b14:Bool) (h290:Heap),p46_j1 u12 y10 c13 b14=some q286→St h none' [rowC h.n [.nilSlice,.nilSlice] 0,own (fz (rSl rToken)) [w106] u12.1,rowC h107.n [w106,(.int .i64 0),(.int .i64 0),(.int .i64 0),.nilSlice,.nilSlice,c124,.nilSlice] 0,own (oSl (fz rS)) [c124] c13] h290→jjj1 b14 h290:=by
      rintro b14 h290 hf S
      unfold p46_j1 at hf
      unfold jjj1
      intro jjj0
      have hjj0:∀  (h291:Heap) (c292:AV) (c11:List (List UInt8)),p46_j0 y10 c11=some q286→St h none' [rowC h.n [.nilSlice,.nilSlice] 0,own (fz (rSl rToken)) [w106] u12.1,rowC h107.n [w106,(.int .i64 0),(.int .i64 0),(.int .i64 0),.nilSlice,.nilSlice,c292,.nilSlice] 0,own (oSl (fz rS)) [c292] c11] h291→jjj0 h291:=by
       rintro h291 c292 c11 hf S
       unfold p46_j0 at hf
       unfold jjj0
       obtain rfl:=oi hf
       exact ⟨m119,Nat.lt_succ_self _,c292,c11,rfl,rfl,rfl,S,hk⟩
      refine bI (fun hc=>?_) (fun hc=>?_)
      ·rw [ifT hc] at hf
       refine oI (.ptr h107.n 0 0) rfl ?_
       refine iI.2 ⟨rfl,?_⟩
       refine ⟨c124,S.rd1 m2 rfl,?_⟩
       obtain ⟨e15,he15,hf⟩:=oB hf
       refine ix_go (S.slz (r:=rToken) m1) (frz_snap _) he15 fun pe15=>?_
       refine iI.2 ⟨pe15,?_⟩
       obtain ⟨_,cr293,Rr293,Nr293,Or293,Zr293⟩:=SlR.idx (S.slz (r:=rToken) m1) (frz_snap _) he15
       obtain rfl:=rToken_open Rr293
       refine ⟨e15.Text,Or293 1 _ rfl,?_⟩
       intro h294
       have S:St _ _ [rowC h290.n [(.str e15.Text)] 0,_,_,_,_] _:=S.pushRow [(.str e15.Text)]
       obtain ⟨c16,hc16,hf⟩:=oB hf
       have S:St _ _ [own (fz rS) [(.str e15.Text)] e15.Text,_,_,_,_,_] _:=S.add (r:=rS) (x:=e15.Text) rfl
       have S:=S.sel [5,0,1,2,3,4] rfl
       have mc16:=app_some hc16
       obtain ⟨v295,h296,e297,S⟩:=St.app1R (r:=(fz rS)) (b:=16) S mc16.1
       have S:St _ _ [own (oSl (fz rS)) [v295] c16,_,_,_] _:=S.cast1 (by rw [← mc16.2]<;>rfl)
       refine ⟨v295,h296,e297,?_⟩
       refine oI (.ptr h107.n 0 0) rfl ?_
       refine iI.2 ⟨rfl,?_⟩
       have S:=S.sel [3,0,1,2] rfl
       obtain ⟨h298,e299,S⟩:=S.storeS (off:=6) (x:=v295) (cs':=[w106,(.int .i64 0),(.int .i64 0),(.int .i64 0),.nilSlice,.nilSlice,v295,.nilSlice]) (nl rfl) ((S.sl (r:=(fz rS)) m1)).is rfl
       refine ⟨h298,e299,?_⟩
       have S:=S.sel [2,3,0,1] rfl
       exact hjj0  _ v295 c16 hf  S
      rw [ifF hc] at hf
      exact hjj0  _ c124 c13 hf  S
     refine bI (fun hc=>?_) (fun hc=>?_)
     ·rw [ifT hc] at hf
      refine oI (.ptr h107.n 0 0) rfl ?_
      refine iI.2 ⟨rfl,?_⟩
      refine ⟨c124,S.rd1 m2 rfl,?_⟩
      obtain ⟨e18,he18,hf⟩:=oB hf
      refine ix_go (S.slz (r:=rToken) m1) (frz_snap _) he18 fun pe18=>?_
      refine iI.2 ⟨pe18,?_⟩
      obtain ⟨_,cr300,Rr300,Nr300,Or300,Zr300⟩:=SlR.idx (S.slz (r:=rToken) m1) (frz_snap _) he18
      obtain rfl:=rToken_open Rr300
      refine ⟨e18.Text,Or300 1 _ rfl,?_⟩
      obtain ⟨y19,hy19,hf⟩:=oB hf
      refine ⟨_,Fz.refl _,?_⟩
      refine (r63 (l0:=c13) (s1:=e18.Text) (f0_0:=(S.sl (r:=(fz rS)) m3)) hy19).mono fun v301 h302 T=>?_
      obtain ⟨rfl,T⟩:=T
      have S:St _ _ [_,_,_,_] _:=S.comp T
      refine ⟨y19,rfl,?_⟩
      exact hjj1 _ _  hf  S
     rw [ifF hc] at hf
     exact hjj1 _ _  hf  S
    refine bI (fun hc=>?_) (fun hc=>?_)
    ·rw [ifT hc] at hf
     obtain ⟨e21,he21,hf⟩:=oB hf
     refine ix_go (S.slz (r:=rToken) m1) (frz_snap _) he21 fun pe21=>?_
     refine iI.2 ⟨pe21,?_⟩
     obtain ⟨_,cr303,Rr303,Nr303,Or303,Zr303⟩:=SlR.idx (S.slz (r:=rToken) m1) (frz_snap _) he21
     obtain rfl:=rToken_open Rr303
     refine ⟨e21.Kind,Or303 0 _ rfl,?_⟩
     exact hjj2 _ _  hf rfl S
    rw [ifF hc] at hf
    exact hjj2 _ _  hf rfl S
   refine bI (fun hc=>?_) (fun hc=>?_)
   ·rw [ifD hc] at hf
    obtain ⟨e23,he23,hf⟩:=oB hf
    refine ix_go (S.slz (r:=rToken) m1) (frz_snap _) he23 fun pe23=>?_
    refine iI.2 ⟨pe23,?_⟩
    obtain ⟨_,cr304,Rr304,Nr304,Or304,Zr304⟩:=SlR.idx (S.slz (r:=rToken) m1) (frz_snap _) he23
    obtain rfl:=rToken_open Rr304
    refine ⟨e23.Text,Or304 1 _ rfl,?_⟩
    exact hjj3 _ _  hf rfl S
   rw [ifE hc] at hf
   exact hjj3 _ _  hf rfl S
  rw [ifE hc] at hf
  obtain rfl:=oi hf
  obtain rfl:=hk
  exact ⟨c124,c13,rfl,rfl,rfl,S,rfl⟩
 exact ⟨.nilSlice,[],rfl,rfl,rfl,S,hL⟩
def p80_j0 (b10:Bool):Option Bool:=some b10
def p80 (n0:Int) (least1:Int):Option Bool:=if n0 < least1 then (p80_j0 true) else (p80_j0 (decide (1000000 < n0)))
theorem r80 {h:Heap}  {n0:Int} {least1:Int} {r:Bool} (hf:p80 n0 least1=some r):ZC F 80 [(.int .i64 n0),(.int .i64 least1)] h fun v h'=>v=.bool r∧St h none' [] h':=by
 refine w80 ?_
 unfold W80
 unfold p80 at hf
 have S:St h none' [] h:=St.refl _ _
 intro jjj0
 have hjj0:∀ (b10:Bool) (h11:Heap),p80_j0 b10=some r→h=h11→St h none' [] h→jjj0 b10 h11:=by
  rintro b10 h11 hf rfl S
  unfold p80_j0 at hf
  unfold jjj0
  obtain rfl:=oi hf
  exact ⟨rfl,S.sel [] rfl⟩
 refine bI (fun hc=>?_) (fun hc=>?_)
 ·rw [ifD hc] at hf
  exact hjj0 _ _  hf rfl S
 rw [ifE hc] at hf
 exact hjj0 _ _  hf rfl S
def p88 (b0:TArc) (c1:TArc):Option Bool:=some (decide (b0.Place=c1.Place))
theorem r88 {h:Heap} {o1 v1:Nat} {b0:TArc} {c1:TArc} (g1:Snap h o1 [(.int .i64 c1.Place),(.int .i64 c1.N)] v1) {r:Bool} (hf:p88 b0 c1=some r):ZC F 88 [(.agg [(.int .i64 b0.Place),(.int .i64 b0.N)]),(.ptr o1 v1 0)] h fun v h'=>v=.bool r∧St h none' [] h':=by
 refine w88 ?_
 unfold W88
 unfold p88 at hf
 have S:St h none' [] h:=St.refl _ _
 intro h10
 have S:St _ _ [rowC h.n [(.int .i64 b0.Place),(.int .i64 b0.N)] 0] _:=S.pushRow [(.int .i64 b0.Place),(.int .i64 b0.N)]
 refine ⟨b0.Place,S.rd1 m0 rfl,?_⟩
 refine iI.2 ⟨rfl,?_⟩
 refine ⟨c1.Place,snap_rd1 (sM S.le _ _ _ g1) rfl,?_⟩
 obtain rfl:=oi hf
 exact ⟨rfl,S.sel [] rfl⟩
def p90_l0 (s0:List TArc) (f1:TArc→Option Bool) (y10:Int):Option (Int⊕(Int⊕Unit)):=if y10 < (s0.length:Int) then ((idx s0 y10).bind fun e11=>(f1 e11).bind fun r12=>if r12=true then (some (.inr (.inl y10))) else (some (.inl (IntKind.wrap .i64 (y10+1))))) else (some (.inr (.inr ())))
def p90 (s0:List TArc) (f1:TArc→Option Bool):Option Int:=(loopC (p90_l0 s0 f1) 0).bind fun res13=>(match res13 with | .inl y14=>some y14 | .inr _=>some ((-1):Int))
theorem r90 {h:Heap} {a0_0:AV} {a1_0:AV} {s0:List TArc} {f1:TArc→Option Bool} (f0_0:SlR rArc (Snap h) a0_0 s0) (f1_0:∀ (h':Heap) (y0:TArc) r,HLe h h'→f1 y0=some r→callW F a1_0 [.agg [.int .i64 y0.Place,.int .i64 y0.N]] h' fun v h2=>v=.bool r∧St h' none' [] h2) {r:Int} (hf:p90 s0 f1=some r):ZC F 90 [a0_0,a1_0] h fun v h'=>v=.int .i64 r∧St h none' [] h':=by
 refine w90 ?_
 unfold W90
 unfold p90 at hf
 have S:St h none' [] h:=St.refl _ _
 refine iI.2 ⟨(f0_0).is,?_⟩
 try rw [show (a0_0).slen=_ from (f0_0).slen]
 obtain ⟨res13,hL,hf⟩:=oB hf
 obtain ⟨n15,hL⟩:=loopC_iff.1 hL
 refine loopm90_0 (R:=fun (s16:AV) (f17:AV) (y14:Int) (y18:Int) (y19:Int) (h20:Heap)=>St h none' [] h20∧(.inl y14)=res13) (X0:=fun (s21:AV) (f22:AV) (y23:Int) (y24:Int) (y25:Int) (h26:Heap)=>St h none' [] h26∧(.inr ())=res13) ?_ ?_ (loop90_0 (I:=fun (m27:Nat) (s28:AV) (f29:AV) (y30:Int) (y31:Int) (y10:Int) (h32:Heap)=>a0_0=s28∧a1_0=f29∧(s0.length:Int)=y31∧St h none' [] h32∧iter (p90_l0 s0 f1) m27 y10=some res13) ?_ (m:=n15) ?_)
 ·rintro s16 f17 y14 y18 y19 h20 ⟨S,rfl⟩
  try dsimp only at hf
  obtain rfl:=oi hf
  exact ⟨rfl,S.sel [] rfl⟩
 ·rintro s21 f22 y23 y24 y25 h26 ⟨S,rfl⟩
  try dsimp only at hf
  obtain rfl:=oi hf
  exact ⟨rfl,S.sel [] rfl⟩
 ·rintro m33 s28 f29 y30 y31 y10 h32 ⟨rfl,rfl,rfl,S,hit⟩
  obtain ⟨m27,q34,rfl,hf,hk⟩:=iter_some hit
  clear hit
  unfold B90_0
  unfold p90_l0 at hf
  try dsimp only at hf
  refine bI (fun hc=>?_) (fun hc=>?_)
  ·rw [ifD hc] at hf
   obtain ⟨e11,he11,hf⟩:=oB hf
   refine ix_go f0_0 (sM S.le) he11 fun pe11=>?_
   obtain ⟨_,cr35,Rr35,Nr35,Or35,Zr35⟩:=SlR.idx f0_0 (sM S.le) he11
   obtain rfl:=rArc_open Rr35
   refine ⟨(.int .i64 e11.Place),(.int .i64 e11.N),Nr35,?_⟩
   obtain ⟨r12,hr12,hf⟩:=oB hf
   refine ⟨_,Fz.refl _,?_⟩
   refine callW_mono (f1_0 _ e11 _ S.le hr12) fun v36 h37 T=>?_
   obtain ⟨rfl,T⟩:=T
   have S:St _ _ [] _:=S.comp T
   refine ⟨r12,rfl,?_⟩
   refine bI (fun hc=>?_) (fun hc=>?_)
   ·rw [ifT hc] at hf
    obtain rfl:=oi hf
    obtain rfl:=hk
    exact ⟨S,rfl⟩
   rw [ifF hc] at hf
   obtain rfl:=oi hf
   exact ⟨m27,Nat.lt_succ_self _,rfl,rfl,rfl,S,hk⟩
  rw [ifE hc] at hf
  obtain rfl:=oi hf
  obtain rfl:=hk
  exact ⟨S,rfl⟩
 exact ⟨rfl,rfl,rfl,S,hL⟩
def p87 (s0:List TArc) (f1:TArc→Option Bool):Option Bool:=(p90 s0 f1).bind fun y10=>some (decide (0≤y10))
theorem r87 {h:Heap} {a0_0:AV} {a1_0:AV} {s0:List TArc} {f1:TArc→Option Bool} (f0_0:SlR rArc (Snap h) a0_0 s0) (f1_0:∀ (h':Heap) (y0:TArc) r,HLe h h'→f1 y0=some r→callW F a1_0 [.agg [.int .i64 y0.Place,.int .i64 y0.N]] h' fun v h2=>v=.bool r∧St h' none' [] h2) {r:Bool} (hf:p87 s0 f1=some r):ZC F 87 [a0_0,a1_0] h fun v h'=>v=.bool r∧St h none' [] h':=by
 refine w87 ?_
 unfold W87
 unfold p87 at hf
 have S:St h none' [] h:=St.refl _ _
 obtain ⟨y10,hy10,hf⟩:=oB hf
 refine ⟨_,Fz.refl _,?_⟩
 refine (r90 (s0:=s0) (f1:=f1) (f0_0:=(SlR.mono (sM S.le) f0_0)) (f1_0:=fun h1 y0 r hl hr=>f1_0 h1 y0 r (S.le.trans hl) hr) hy10).mono fun v11 h12 T=>?_
 obtain ⟨rfl,T⟩:=T
 have S:St _ _ [] _:=S.comp T
 refine ⟨y10,rfl,?_⟩
 obtain rfl:=oi hf
 exact ⟨rfl,S.sel [] rfl⟩
def p81_j0 (l0:List TArc) (y10:Int) (e11:TArc) (b12:Bool):Option (Int⊕(Int⊕Unit)):=if b12=true then (some (.inr (.inl 2))) else ((slc l0 0 y10).bind fun y13=>(p87 y13 (fun (y0:TArc)=>p88 y0 e11)).bind fun y14=>if y14=true then (some (.inr (.inl 1))) else (some (.inl (IntKind.wrap .i64 (y10+1)))))
def p81_l0 (l0:List TArc) (places1:Int) (y10:Int):Option (Int⊕(Int⊕Unit)):=if y10 < (l0.length:Int) then ((idx l0 y10).bind fun e11=>(p80 e11.N 1).bind fun y15=>if y15=true then (some (.inr (.inl 3))) else (if e11.Place < 0 then (p81_j0 l0 y10 e11 true) else (p81_j0 l0 y10 e11 (decide (places1≤e11.Place))))) else (some (.inr (.inr ())))
def p81 (l0:List TArc) (places1:Int):Option Int:=(loopC (p81_l0 l0 places1) 0).bind fun res16=>(match res16 with | .inl y17=>some y17 | .inr _=>some 0)
theorem r81 {h:Heap} {a0_0:AV} {l0:List TArc} {places1:Int} (f0_0:SlR rArc (Snap h) a0_0 l0) {r:Int} (hf:p81 l0 places1=some r):ZC F 81 [a0_0,(.int .i64 places1)] h fun v h'=>v=.int .i64 r∧St h none' [] h':=by
 refine w81 ?_
 unfold W81
 unfold p81 at hf
 have S:St h none' [] h:=St.refl _ _
 refine iI.2 ⟨(f0_0).is,?_⟩
 try rw [show (a0_0).slen=_ from (f0_0).slen]
 obtain ⟨res16,hL,hf⟩:=oB hf
 obtain ⟨n18,hL⟩:=loopC_iff.1 hL
 refine loopm81_0 (R:=fun (l19:AV) (places20:Int) (y17:Int) (y21:AV) (y22:Int) (y23:Int) (h24:Heap)=>St h none' [] h24∧(.inl y17)=res16) (X0:=fun (l25:AV) (places26:Int) (y27:Int) (y28:AV) (y29:Int) (y30:Int) (h31:Heap)=>St h none' [] h31∧(.inr ())=res16) ?_ ?_ (loop81_0 (I:=fun (m32:Nat) (l33:AV) (places34:Int) (y35:Int) (y36:AV) (y37:Int) (y10:Int) (h38:Heap)=>a0_0=l33∧places1=places34∧a0_0=y36∧(l0.length:Int)=y37∧St h none' [] h38∧iter (p81_l0 l0 places1) m32 y10=some res16) ?_ (m:=n18) ?_)
 ·rintro l19 places20 y17 y21 y22 y23 h24 ⟨S,rfl⟩
  try dsimp only at hf
  obtain rfl:=oi hf
  exact ⟨rfl,S.sel [] rfl⟩
 ·rintro l25 places26 y27 y28 y29 y30 h31 ⟨S,rfl⟩
  try dsimp only at hf
  obtain rfl:=oi hf
  exact ⟨rfl,S.sel [] rfl⟩
 ·rintro m39 l33 places34 y35 y36 y37 y10 h38 ⟨rfl,rfl,rfl,rfl,S,hit⟩
  obtain ⟨m32,q40,rfl,hf,hk⟩:=iter_some hit
  clear hit
  unfold B81_0
  unfold p81_l0 at hf
  try dsimp only at hf
  refine bI (fun hc=>?_) (fun hc=>?_)
  ·rw [ifD hc] at hf
   obtain ⟨e11,he11,hf⟩:=oB hf
   refine ix_go f0_0 (sM S.le) he11 fun pe11=>?_
   obtain ⟨_,cr41,Rr41,Nr41,Or41,Zr41⟩:=SlR.idx f0_0 (sM S.le) he11
   obtain rfl:=rArc_open Rr41
   refine ⟨(.int .i64 e11.Place),(.int .i64 e11.N),Nr41,?_⟩
   intro h42
   have S:St _ _ [rowC h38.n [(.int .i64 0),(.int .i64 0)] 0] _:=S.pushRow [(.int .i64 0),(.int .i64 0)]
   obtain ⟨h43,e44,S⟩:=S.store (off:=0) (n:=2) (x:=(.agg [(.int .i64 e11.Place),(.int .i64 e11.N)])) (cs':=[(.int .i64 e11.Place),(.int .i64 e11.N)]) (nl rfl) rfl rfl rfl
   refine ⟨h43,e44,?_⟩
   refine ⟨e11.N,S.rd1 m0 rfl,?_⟩
   obtain ⟨y15,hy15,hf⟩:=oB hf
   refine ⟨_,Fz.refl _,?_⟩
   refine (r80 (n0:=e11.N) (least1:=1) hy15).mono fun v45 h46 T=>?_
   obtain ⟨rfl,T⟩:=T
   have S:St _ _ [_] _:=S.comp T
   refine ⟨y15,rfl,?_⟩
   refine bI (fun hc=>?_) (fun hc=>?_)
   ·rw [ifT hc] at hf
    have S:=S.sel [] rfl
    obtain rfl:=oi hf
    obtain rfl:=hk
    exact ⟨S,rfl⟩
   rw [ifF hc] at hf
   refine ⟨e11.Place,S.rd1 m0 rfl,?_⟩
   intro jjj0
   have hjj0:∀ (b12:Bool) (h47:Heap),p81_j0 l0 y10 e11 b12=some q40→h46=h47→St h none' [rowC h38.n [(.int .i64 e11.Place),(.int .i64 e11.N)] 0] h46→jjj0 b12 h47:=by
    rintro b12 h47 hf rfl S
    unfold p81_j0 at hf
    unfold jjj0
    refine bI (fun hc=>?_) (fun hc=>?_)
    ·rw [ifT hc] at hf
     have S:=S.sel [] rfl
     obtain rfl:=oi hf
     obtain rfl:=hk
     exact ⟨S,rfl⟩
    rw [ifF hc] at hf
    obtain ⟨y13,hy13,hf⟩:=oB hf
    have ey13:=(sliceSl_ev01 (k:=.i64) f0_0 hy13)
    have fy13:SlR rArc (Snap h) (a0_0.sub 2 (0:Int).toNat (y10:Int).toNat) y13:=slc_eq hy13▸SlR.sub f0_0 (slc_le hy13).1 (slc_le hy13).2
    refine oI (a0_0.sub 2 (0:Int).toNat (y10:Int).toNat) ey13 ?_
    obtain ⟨y14,hy14,hf⟩:=oB hf
    refine ⟨_,Fz.refl _,?_⟩
    refine (r87 (s0:=y13) (f1:=(fun (y0:TArc)=>p88 y0 e11)) (f0_0:=(SlR.mono (sM S.le) fy13)) (f1_0:=fun h1 y0 r hl hr=>by show ZC F 88 _ h1 _; exact r88 (g1:=sM hl _ _ _ (S.row m0)) hr) hy14).mono fun v48 h49 T=>?_
    obtain ⟨rfl,T⟩:=T
    have S:St _ _ [_] _:=S.comp T
    refine ⟨y14,rfl,?_⟩
    refine bI (fun hc=>?_) (fun hc=>?_)
    ·rw [ifT hc] at hf
     have S:=S.sel [] rfl
     obtain rfl:=oi hf
     obtain rfl:=hk
     exact ⟨S,rfl⟩
    rw [ifF hc] at hf
    have S:=S.sel [] rfl
    obtain rfl:=oi hf
    exact ⟨m32,Nat.lt_succ_self _,rfl,rfl,rfl,rfl,S,hk⟩
   refine bI (fun hc=>?_) (fun hc=>?_)
   ·rw [ifD hc] at hf
    exact hjj0 _ _  hf rfl S
   rw [ifE hc] at hf
   refine ⟨e11.Place,S.rd1 m0 rfl,?_⟩
   exact hjj0 _ _  hf rfl S
  rw [ifE hc] at hf
  obtain rfl:=oi hf
  obtain rfl:=hk
  exact ⟨S,rfl⟩
 exact ⟨rfl,rfl,rfl,rfl,S,hL⟩
def p73_l0 (n0:TNet) (st:Int×Int):Option ((Int×Int)⊕(Unit⊕Int)):=match st with | (y10,y11)=>if y11 < (n0.Places.length:Int) then ((idx n0.Places y11).bind fun e12=>(p80 e12.Tokens 0).bind fun y13=>if y13=true then (some (.inr (.inl ()))) else (some (.inl (y10,(IntKind.wrap .i64 (y11+1)))))) else (some (.inr (.inr y10)))
def p73_l1 (n0:TNet) (st:Int×Int×(List (List TArc))):Option ((Int×Int×(List (List TArc)))⊕(Int⊕Int)):=match st with | (y14,y15,y16)=>if y15 < ((3:Nat):Int) then ((idx y16 y15).bind fun e17=>(p81 e17 (n0.Places.length:Int)).bind fun y18=>if (!decide (y18=0))=true then (some (.inr (.inl y18))) else (some (.inl (y14,(IntKind.wrap .i64 (y15+1)),y16)))) else (some (.inr (.inr y14)))
def p73_j0 (n0:TNet) (y19:Int) (y20:Int) (e21:TTrans) (b22:Bool):Option ((Int×Int)⊕(Int⊕Unit)):=if b22=true then (some (.inr (.inl 3))) else ((loopC (p73_l1 n0) (y19,0,[e21.In,e21.Not,e21.Out])).bind fun res23=>(match res23 with | .inl y24=>some (.inr (.inl y24)) | .inr y25=>some (.inl (y25,(IntKind.wrap .i64 (y20+1))))))
def p73_l2 (n0:TNet) (st:Int×Int):Option ((Int×Int)⊕(Int⊕Unit)):=match st with | (y19,y20)=>if y20 < (n0.Trans.length:Int) then ((idx n0.Trans y20).bind fun e21=>(p80 e21.Delay 0).bind fun y26=>if y26=true then (p73_j0 n0 y19 y20 e21 true) else ((p80 e21.Prio 0).bind fun y27=>p73_j0 n0 y19 y20 e21 y27)) else (some (.inr (.inr ())))
def p73 (n0:TNet):Option Int:=(loopC (p73_l0 n0) (0,0)).bind fun res28=>(match res28 with | .inl _=>some 3 | .inr y29=>(loopC (p73_l2 n0) (y29,0)).bind fun res30=>(match res30 with | .inl y31=>some y31 | .inr _=>some 0))
theorem r73 {h:Heap} {a0_0:AV} {a0_1:AV} {n0:TNet} (f0_0:SlR rPlace (Snap h) a0_0 n0.Places) (f0_1:SlR rTrans (Frz h) a0_1 n0.Trans) {r:Int} (hf:p73 n0=some r):ZC F 73 [(.agg [a0_0,a0_1])] h fun v h'=>v=.int .i64 r∧St h none' [] h':=by
 refine w73 ?_
 unfold W73
 unfold p73 at hf
 have S:St h none' [] h:=St.refl _ _
 have S:=S.add (rSl_mk f0_1)
 intro h32
 have S:St _ _ [rowC h.n [a0_0,a0_1] 0,own (fz (rSl rTrans)) [a0_1] n0.Trans] _:=S.pushRow [a0_0,a0_1]
 refine ⟨a0_0,S.rd1 m0 rfl,?_⟩
 refine iI.2 ⟨(f0_0).is,?_⟩
 try rw [show (a0_0).slen=_ from (f0_0).slen]
 obtain ⟨res28,hL,hf⟩:=oB hf
 obtain ⟨n33,hL⟩:=loopC_iff.1 hL
 refine loopm73_0 (R:=fun (n34:AV) (y35:Int) (y36:AV) (y37:Int) (y38:Int) (h39:Heap)=>3=y35∧St h none' [] h39∧(.inl ())=res28) (X0:=fun (n40:AV) (y29:Int) (y41:AV) (y42:Int) (y43:Int) (h44:Heap)=>AV.ptr h.n 0 0=n40∧St h none' [rowC h.n [a0_0,a0_1] 0,own (fz (rSl rTrans)) [a0_1] n0.Trans] h44∧(.inr y29)=res28) ?_ ?_ (loop73_0 (I:=fun (m45:Nat) (n46:AV) (y10:Int) (y47:AV) (y48:Int) (y11:Int) (h49:Heap)=>AV.ptr h.n 0 0=n46∧a0_0=y47∧(n0.Places.length:Int)=y48∧St h none' [rowC h.n [a0_0,a0_1] 0,own (fz (rSl rTrans)) [a0_1] n0.Trans] h49∧iter (p73_l0 n0) m45 (y10,y11)=some res28) ?_ (m:=n33) ?_)
 ·rintro n34 y35 y36 y37 y38 h39 ⟨rfl,S,rfl⟩
  try dsimp only at hf
  obtain rfl:=oi hf
  exact ⟨rfl,S.sel [] rfl⟩
 ·rintro n40 y29 y41 y42 y43 h44 ⟨rfl,S,rfl⟩
  try dsimp only at hf
  refine iI.2 ⟨rfl,?_⟩
  refine ⟨a0_1,S.rd1 m0 rfl,?_⟩
  refine iI.2 ⟨((S.slz (r:=rTrans) m1)).is,?_⟩
  try rw [show (a0_1).slen=_ from ((S.slz (r:=rTrans) m1)).slen]
  obtain ⟨res30,hL,hf⟩:=oB hf
  obtain ⟨n50,hL⟩:=loopC_iff.1 hL
  refine loopm73_2 (R:=fun (n51:AV) (y31:Int) (y52:AV) (y53:Int) (y54:Int) (h55:Heap)=>St h none' [] h55∧(.inl y31)=res30) (X2:=fun (n56:AV) (y57:Int) (y58:AV) (y59:Int) (y60:Int) (h61:Heap)=>St h none' [] h61∧(.inr ())=res30) ?_ ?_ (loop73_2 (I:=fun (m62:Nat) (n63:AV) (y19:Int) (y64:AV) (y65:Int) (y20:Int) (h66:Heap)=>AV.ptr h.n 0 0=n63∧a0_1=y64∧(n0.Trans.length:Int)=y65∧St h none' [rowC h.n [a0_0,a0_1] 0,own (fz (rSl rTrans)) [a0_1] n0.Trans] h66∧iter (p73_l2 n0) m62 (y19,y20)=some res30) ?_ (m:=n50) ?_)
  ·rintro n51 y31 y52 y53 y54 h55 ⟨S,rfl⟩
   try dsimp only at hf
   obtain rfl:=oi hf
   exact ⟨rfl,S.sel [] rfl⟩
  ·rintro n56 y57 y58 y59 y60 h61 ⟨S,rfl⟩
   try dsimp only at hf
   obtain rfl:=oi hf
   exact ⟨rfl,S.sel [] rfl⟩
  ·rintro m67 n63 y19 y64 y65 y20 h66 ⟨rfl,rfl,rfl,S,hit⟩
   obtain ⟨m62,q68,rfl,hf,hk⟩:=iter_some hit
   clear hit
   unfold B73_2
   unfold p73_l2 at hf
   try dsimp only at hf
   refine bI (fun hc=>?_) (fun hc=>?_)
   ·rw [ifD hc] at hf
    obtain ⟨e21,he21,hf⟩:=oB hf
    refine ix_go (S.slz (r:=rTrans) m1) (frz_snap _) he21 fun pe21=>?_
    obtain ⟨_,cr69,Rr69,Nr69,Or69,Zr69⟩:=SlR.idx (S.slz (r:=rTrans) m1) (frz_snap _) he21
    obtain ⟨cr69_3,cr69_4,cr69_5,rfl,Fr69_3,Fr69_4,Fr69_5⟩:=rTrans_open Rr69
    have S:St _ _ [own (fz (rSl rArc)) [cr69_3] e21.In,_,_] _:=S.add (rSl_mk Fr69_3)
    have S:St _ _ [own (fz (rSl rArc)) [cr69_4] e21.Not,_,_,_] _:=S.add (rSl_mk Fr69_4)
    have S:St _ _ [own (fz (rSl rArc)) [cr69_5] e21.Out,_,_,_,_] _:=S.add (rSl_mk Fr69_5)
    refine ⟨(.str e21.Name),(.int .i64 e21.Delay),(.int .i64 e21.Prio),cr69_3,cr69_4,cr69_5,Nr69,?_⟩
    intro h70
    have S:St _ _ [rowC h66.n [(.str ([]:List UInt8)),(.int .i64 0),(.int .i64 0),.nilSlice,.nilSlice,.nilSlice] 0,_,_,_,_,_] _:=S.pushRow [(.str ([]:List UInt8)),(.int .i64 0),(.int .i64 0),.nilSlice,.nilSlice,.nilSlice]
    obtain ⟨h71,e72,S⟩:=S.store (off:=0) (n:=6) (x:=(.agg [(.str e21.Name),(.int .i64 e21.Delay),(.int .i64 e21.Prio),cr69_3,cr69_4,cr69_5])) (cs':=[(.str e21.Name),(.int .i64 e21.Delay),(.int .i64 e21.Prio),cr69_3,cr69_4,cr69_5]) (nl rfl) rfl rfl rfl
    refine ⟨h71,e72,?_⟩
    refine ⟨e21.Delay,S.rd1 m0 rfl,?_⟩
    obtain ⟨y26,hy26,hf⟩:=oB hf
    refine ⟨_,Fz.refl _,?_⟩
    refine (r80 (n0:=e21.Delay) (least1:=0) hy26).mono fun v73 h74 T=>?_
    obtain ⟨rfl,T⟩:=T
    have S:St _ _ [_,_,_,_,_,_] _:=S.comp T
    refine ⟨y26,rfl,?_⟩
    intro jjj0
    have hjj0:∀ (b22:Bool) (h75:Heap),p73_j0 n0 y19 y20 e21 b22=some q68→St h none' [rowC h.n [a0_0,a0_1] 0,rowC h66.n [(.str e21.Name),(.int .i64 e21.Delay),(.int .i64 e21.Prio),cr69_3,cr69_4,cr69_5] 0,own (fz (rSl rTrans)) [a0_1] n0.Trans,own (fz (rSl rArc)) [cr69_3] e21.In,own (fz (rSl rArc)) [cr69_4] e21.Not,own (fz (rSl rArc)) [cr69_5] e21.Out] h75→jjj0 b22 h75:=by
     rintro b22 h75 hf S
     unfold p73_j0 at hf
     unfold jjj0
     refine bI (fun hc=>?_) (fun hc=>?_)
     ·rw [ifT hc] at hf
      have S:=S.sel [] rfl
      obtain rfl:=oi hf
      obtain rfl:=hk
      exact ⟨S,rfl⟩
     rw [ifF hc] at hf
     refine iI.2 ⟨rfl,?_⟩
     refine ⟨cr69_3,S.rd1 m1 rfl,?_⟩
     refine iI.2 ⟨rfl,?_⟩
     refine ⟨cr69_4,S.rd1 m1 rfl,?_⟩
     refine iI.2 ⟨rfl,?_⟩
     refine ⟨cr69_5,S.rd1 m1 rfl,?_⟩
     refine oI (.row [cr69_3,cr69_4,cr69_5] 0 true) (by simp only [NOp.ob,place,sl_cells ((S.slz (r:=rArc) m3)).is,sl_tup ((S.slz (r:=rArc) m3)).is,sl_cells ((S.slz (r:=rArc) m4)).is,sl_tup ((S.slz (r:=rArc) m4)).is,sl_cells ((S.slz (r:=rArc) m5)).is,sl_tup ((S.slz (r:=rArc) m5)).is]<;>first | rfl | (simp [AV.cells,AV.isTup,splice]; done) | (simp [AV.cells,AV.isTup,splice]; rfl)) ?_
     intro h76
     have S:St _ _ [rowC h75.n [cr69_3,cr69_4,cr69_5] 0,_,_,_,_,_,_] _:=S.pushRow [cr69_3,cr69_4,cr69_5]
     obtain ⟨res23,hL,hf⟩:=oB hf
     obtain ⟨n77,hL⟩:=loopC_iff.1 hL
     have S:St _ _ [own (oSl (fz (rSl rArc))) [(.slice h75.n 0 0 3 1)] [e21.In,e21.Not,e21.Out],_,_,_,_,_,_] _:=St.lit (r:=(rSl rArc)) (els:=[[cr69_3],[cr69_4],[cr69_5]]) (l:=[e21.In,e21.Not,e21.Out]) (n:=3) S rfl (.cons (rSl_mk (S.slz (r:=rArc) m4)) (.cons (rSl_mk (S.slz (r:=rArc) m5)) (.cons (rSl_mk (S.slz (r:=rArc) m6)) (.nil)))) rfl
     have S:=S.sel [1,3,0] rfl
     refine loopm73_1 (R:=fun (n78:AV) (y24:Int) (y79:AV) (y80:Int) (y81:Int) (y82:AV) (y83:Int) (y84:Int) (h85:Heap)=>St h none' [] h85∧(.inl y24)=res23) (X4:=fun (n86:AV) (y25:Int) (y87:AV) (y88:Int) (y89:Int) (y90:AV) (y91:Int) (y92:Int) (h93:Heap)=>AV.ptr h.n 0 0=n86∧a0_1=y87∧(n0.Trans.length:Int)=y88∧y20=y89∧St h none' [rowC h.n [a0_0,a0_1] 0,own (fz (rSl rTrans)) [a0_1] n0.Trans] h93∧(.inr y25)=res23) ?_ ?_ (loop73_1 (I:=fun (m94:Nat) (n95:AV) (y14:Int) (y96:AV) (y97:Int) (y98:Int) (y99:AV) (y100:Int) (y15:Int) (h101:Heap)=>∃ (y16:List (List TArc)),AV.ptr h.n 0 0=n95∧a0_1=y96∧(n0.Trans.length:Int)=y97∧y20=y98∧((3:Nat):Int)=y100∧St h none' [rowC h.n [a0_0,a0_1] 0,own (fz (rSl rTrans)) [a0_1] n0.Trans,own (oSl (fz (rSl rArc))) [y99] y16] h101∧iter (p73_l1 n0) m94 (y14,y15,y16)=some res23) ?_ (m:=n77) ?_)
     ·rintro n78 y24 y79 y80 y81 y82 y83 y84 h85 ⟨S,rfl⟩
      try dsimp only at hf
      obtain rfl:=oi hf
      obtain rfl:=hk
      exact ⟨S,rfl⟩
     ·rintro n86 y25 y87 y88 y89 y90 y91 y92 h93 ⟨rfl,rfl,rfl,rfl,S,rfl⟩
      try dsimp only at hf
      obtain rfl:=oi hf
      exact ⟨m62,Nat.lt_succ_self _,rfl,rfl,rfl,S,hk⟩
     ·rintro m102 n95 y14 y96 y97 y98 y99 y100 y15 h101 ⟨y16,rfl,rfl,rfl,rfl,rfl,S,hit⟩
      obtain ⟨m94,q103,rfl,hf,hk⟩:=iter_some hit
      clear hit
      unfold B73_1
      unfold p73_l1 at hf
      try dsimp only at hf
      refine bI (fun hc=>?_) (fun hc=>?_)
      ·rw [ifD hc] at hf
       obtain ⟨e17,he17,hf⟩:=oB hf
       refine ix_go (S.sl (r:=(fz (rSl rArc))) m2) (Hp.le_refl _) he17 fun pe17=>?_
       obtain ⟨_,cr104,Rr104,Nr104,Or104,Zr104⟩:=St.idxO (r:=(rSl rArc)) S m2 he17
       obtain ⟨cr104,rfl,Fr104⟩:=Rr104
       have S:St _ _ [own (fz (rSl rArc)) [cr104] e17,_,_,_] _:=S.add (rSl_mk Fr104)
       refine ⟨cr104,Zr104 _ rfl,?_⟩
       refine iI.2 ⟨rfl,?_⟩
       refine ⟨a0_0,S.rd1 m1 rfl,?_⟩
       refine iI.2 ⟨(f0_0).is,?_⟩
       try rw [show (a0_0).slen=_ from (f0_0).slen]
       obtain ⟨y18,hy18,hf⟩:=oB hf
       refine ⟨_,Fz.refl _,?_⟩
       refine (r81 (l0:=e17) (places1:=(n0.Places.length:Int)) (f0_0:=(SlR.mono (frz_snap _) (S.slz (r:=rArc) m0))) hy18).mono fun v105 h106 T=>?_
       obtain ⟨rfl,T⟩:=T
       have S:St _ _ [_,_,_,_] _:=S.comp T
       refine ⟨y18,rfl,?_⟩
       refine bI (fun hc=>?_) (fun hc=>?_)
       ·rw [ifT hc] at hf
        have S:=S.sel [] rfl
        obtain rfl:=oi hf
        obtain rfl:=hk
        exact ⟨S,rfl⟩
       rw [ifF hc] at hf
       have S:=S.sel [1,2,3] rfl
       obtain rfl:=oi hf
       exact ⟨m94,Nat.lt_succ_self _,y16,rfl,rfl,rfl,rfl,rfl,S,hk⟩
      rw [ifE hc] at hf
      have S:=S.sel [0,1] rfl
      obtain rfl:=oi hf
      obtain rfl:=hk
      exact ⟨rfl,rfl,rfl,rfl,S,rfl⟩
     exact ⟨[e21.In,e21.Not,e21.Out],rfl,rfl,rfl,rfl,rfl,S,hL⟩
    refine bI (fun hc=>?_) (fun hc=>?_)
    ·rw [ifT hc] at hf
     have S:=S.sel [4,0,5,3,2,1] rfl
     exact hjj0 _ _  hf  S
    rw [ifF hc] at hf
    refine ⟨e21.Prio,S.rd1 m0 rfl,?_⟩
    obtain ⟨y27,hy27,hf⟩:=oB hf
    refine ⟨_,Fz.refl _,?_⟩
    refine (r80 (n0:=e21.Prio) (least1:=0) hy27).mono fun v107 h108 T=>?_
    obtain ⟨rfl,T⟩:=T
    have S:St _ _ [_,_,_,_,_,_] _:=S.comp T
    refine ⟨y27,rfl,?_⟩
    have S:=S.sel [4,0,5,3,2,1] rfl
    exact hjj0 _ _  hf  S
   rw [ifE hc] at hf
   have S:=S.sel [] rfl
   obtain rfl:=oi hf
   obtain rfl:=hk
   exact ⟨S,rfl⟩
  exact ⟨rfl,rfl,rfl,S,hL⟩
 ·rintro m109 n46 y10 y47 y48 y11 h49 ⟨rfl,rfl,rfl,S,hit⟩
  obtain ⟨m45,q110,rfl,hf,hk⟩:=iter_some hit
  clear hit
  unfold B73_0
  unfold p73_l0 at hf
  try dsimp only at hf
  refine bI (fun hc=>?_) (fun hc=>?_)
  ·rw [ifD hc] at hf
   obtain ⟨e12,he12,hf⟩:=oB hf
   refine ix_go f0_0 (sM S.le) he12 fun pe12=>?_
   obtain ⟨_,cr111,Rr111,Nr111,Or111,Zr111⟩:=SlR.idx f0_0 (sM S.le) he12
   obtain rfl:=rPlace_open Rr111
   refine ⟨(.str e12.Name),(.int .i64 e12.Tokens),Nr111,?_⟩
   intro h112
   have S:St _ _ [rowC h49.n [(.str ([]:List UInt8)),(.int .i64 0)] 0,_,_] _:=S.pushRow [(.str ([]:List UInt8)),(.int .i64 0)]
   obtain ⟨h113,e114,S⟩:=S.store (off:=0) (n:=2) (x:=(.agg [(.str e12.Name),(.int .i64 e12.Tokens)])) (cs':=[(.str e12.Name),(.int .i64 e12.Tokens)]) (nl rfl) rfl rfl rfl
   refine ⟨h113,e114,?_⟩
   refine ⟨e12.Tokens,S.rd1 m0 rfl,?_⟩
   obtain ⟨y13,hy13,hf⟩:=oB hf
   refine ⟨_,Fz.refl _,?_⟩
   refine (r80 (n0:=e12.Tokens) (least1:=0) hy13).mono fun v115 h116 T=>?_
   obtain ⟨rfl,T⟩:=T
   have S:St _ _ [_,_,_] _:=S.comp T
   refine ⟨y13,rfl,?_⟩
   refine bI (fun hc=>?_) (fun hc=>?_)
   ·rw [ifT hc] at hf
    have S:=S.sel [] rfl
    obtain rfl:=oi hf
    obtain rfl:=hk
    exact ⟨rfl,S,rfl⟩
   rw [ifF hc] at hf
   have S:=S.sel [1,2] rfl
   obtain rfl:=oi hf
   exact ⟨m45,Nat.lt_succ_self _,rfl,rfl,rfl,S,hk⟩
  rw [ifE hc] at hf
  obtain rfl:=oi hf
  obtain rfl:=hk
  exact ⟨rfl,S,rfl⟩
 exact ⟨rfl,rfl,rfl,S,hL⟩
def p79_l0 (n0:TNet) (st:Int×(List (List UInt8))):Option ((Int×(List (List UInt8)))⊕(List (List UInt8))):=match st with | (y10,l11)=>if y10 < (n0.Places.length:Int) then ((idx n0.Places y10).bind fun e12=>(app 16 l11 [e12.Name]).bind fun l13=>some (.inl ((IntKind.wrap .i64 (y10+1)),l13))) else (some (.inr l11))
def p79_l1 (n0:TNet) (st:Int×(List (List UInt8))):Option ((Int×(List (List UInt8)))⊕(List (List UInt8))):=match st with | (y14,l15)=>if y14 < (n0.Trans.length:Int) then ((idx n0.Trans y14).bind fun e16=>(app 16 l15 [e16.Name]).bind fun l17=>some (.inl ((IntKind.wrap .i64 (y14+1)),l17))) else (some (.inr l15))
def p79 (n0:TNet):Option (List (List UInt8)):=(loopC (p79_l0 n0) (0,[])).bind fun res18=>((fun (l19:List (List UInt8))=>(loopC (p79_l1 n0) (0,l19)).bind fun res20=>((fun (l21:List (List UInt8))=>some l21) res20)) res18)
theorem r79 {h:Heap} {a0_0:AV} {a0_1:AV} {n0:TNet} (f0_0:SlR rPlace (Snap h) a0_0 n0.Places) (f0_1:SlR rTrans (Snap h) a0_1 n0.Trans) {r:(List (List UInt8))} (hf:p79 n0=some r):ZC F 79 [(.agg [a0_0,a0_1])] h fun v h'=>St h none' [own (oSl (fz rS)) [v] r] h':=by
 refine w79 ?_
 unfold W79
 unfold p79 at hf
 have S:St h none' [] h:=St.refl _ _
 intro h22
 have S:St _ _ [rowC h.n [a0_0,a0_1] 0] _:=S.pushRow [a0_0,a0_1]
 refine ⟨a0_0,S.rd1 m0 rfl,?_⟩
 refine iI.2 ⟨(f0_0).is,?_⟩
 try rw [show (a0_0).slen=_ from (f0_0).slen]
 obtain ⟨res18,hL,hf⟩:=oB hf
 obtain ⟨n23,hL⟩:=loopC_iff.1 hL
 have S:St _ _ [own (oSl (fz rS)) [.nilSlice] [],_] _:=S.addE (oSl_nil _ _)
 have S:=S.sel [1,0] rfl
 refine loopm79_0 (X0:=fun (n24:AV) (l25:AV) (y26:AV) (y27:Int) (y28:Int) (h29:Heap)=>∃ (l19:List (List UInt8)),AV.ptr h.n 0 0=n24∧St h none' [rowC h.n [a0_0,a0_1] 0,own (oSl (fz rS)) [l25] l19] h29∧l19=res18) ?_ (loop79_0 (I:=fun (m30:Nat) (n31:AV) (l32:AV) (y33:AV) (y34:Int) (y10:Int) (h35:Heap)=>∃ (l11:List (List UInt8)),AV.ptr h.n 0 0=n31∧a0_0=y33∧(n0.Places.length:Int)=y34∧St h none' [rowC h.n [a0_0,a0_1] 0,own (oSl (fz rS)) [l32] l11] h35∧iter (p79_l0 n0) m30 (y10,l11)=some res18) ?_ (m:=n23) ?_)
 ·rintro n24 l25 y26 y27 y28 h29 ⟨l19,rfl,S,rfl⟩
  try dsimp only at hf
  refine iI.2 ⟨rfl,?_⟩
  refine ⟨a0_1,S.rd1 m0 rfl,?_⟩
  refine iI.2 ⟨(f0_1).is,?_⟩
  try rw [show (a0_1).slen=_ from (f0_1).slen]
  obtain ⟨res20,hL,hf⟩:=oB hf
  obtain ⟨n36,hL⟩:=loopC_iff.1 hL
  have S:=S.sel [1] rfl
  refine loopm79_1 (X2:=fun (l37:AV) (y38:AV) (y39:Int) (y40:Int) (h41:Heap)=>∃ (l21:List (List UInt8)),St h none' [own (oSl (fz rS)) [l37] l21] h41∧l21=res20) ?_ (loop79_1 (I:=fun (m42:Nat) (l43:AV) (y44:AV) (y45:Int) (y14:Int) (h46:Heap)=>∃ (l15:List (List UInt8)),a0_1=y44∧(n0.Trans.length:Int)=y45∧St h none' [own (oSl (fz rS)) [l43] l15] h46∧iter (p79_l1 n0) m42 (y14,l15)=some res20) ?_ (m:=n36) ?_)
  ·rintro l37 y38 y39 y40 h41 ⟨l21,S,rfl⟩
   try dsimp only at hf
   obtain rfl:=oi hf
   exact S.sel [0] rfl
  ·rintro m47 l43 y44 y45 y14 h46 ⟨l15,rfl,rfl,S,hit⟩
   obtain ⟨m42,q48,rfl,hf,hk⟩:=iter_some hit
   clear hit
   unfold B79_1
   unfold p79_l1 at hf
   try dsimp only at hf
   refine bI (fun hc=>?_) (fun hc=>?_)
   ·rw [ifD hc] at hf
    obtain ⟨e16,he16,hf⟩:=oB hf
    refine ix_go f0_1 (sM S.le) he16 fun pe16=>?_
    obtain ⟨_,cr49,Rr49,Nr49,Or49,Zr49⟩:=SlR.idx f0_1 (sM S.le) he16
    obtain ⟨cr49_3,cr49_4,cr49_5,rfl,Fr49_3,Fr49_4,Fr49_5⟩:=rTrans_open Rr49
    refine ⟨(.str e16.Name),(.int .i64 e16.Delay),(.int .i64 e16.Prio),cr49_3,cr49_4,cr49_5,Nr49,?_⟩
    intro h50
    have S:St _ _ [rowC h46.n [(.str ([]:List UInt8)),(.int .i64 0),(.int .i64 0),.nilSlice,.nilSlice,.nilSlice] 0,_] _:=S.pushRow [(.str ([]:List UInt8)),(.int .i64 0),(.int .i64 0),.nilSlice,.nilSlice,.nilSlice]
    obtain ⟨h51,e52,S⟩:=S.store (off:=0) (n:=6) (x:=(.agg [(.str e16.Name),(.int .i64 e16.Delay),(.int .i64 e16.Prio),cr49_3,cr49_4,cr49_5])) (cs':=[(.str e16.Name),(.int .i64 e16.Delay),(.int .i64 e16.Prio),cr49_3,cr49_4,cr49_5]) (nl rfl) rfl rfl rfl
    refine ⟨h51,e52,?_⟩
    refine ⟨e16.Name,S.rd1 m0 rfl,?_⟩
    intro h53
    have S:St _ _ [rowC h51.n [(.str e16.Name)] 0,_,_] _:=S.pushRow [(.str e16.Name)]
    obtain ⟨l17,hl17,hf⟩:=oB hf
    have S:St _ _ [own (fz rS) [(.str e16.Name)] e16.Name,_,_,_] _:=S.add (r:=rS) (x:=e16.Name) rfl
    have S:=S.sel [3,0,1,2] rfl
    have ml17:=app_some hl17
    obtain ⟨v54,h55,e56,S⟩:=St.app1R (r:=(fz rS)) (b:=16) S ml17.1
    have S:St _ _ [own (oSl (fz rS)) [v54] l17,_] _:=S.cast1 (by rw [← ml17.2]<;>rfl)
    refine ⟨v54,h55,e56,?_⟩
    have S:=S.sel [0] rfl
    obtain rfl:=oi hf
    exact ⟨m42,Nat.lt_succ_self _,l17,rfl,rfl,S,hk⟩
   rw [ifE hc] at hf
   obtain rfl:=oi hf
   obtain rfl:=hk
   exact ⟨l15,S,rfl⟩
  exact ⟨l19,rfl,rfl,S,hL⟩
 ·rintro m57 n31 l32 y33 y34 y10 h35 ⟨l11,rfl,rfl,rfl,S,hit⟩
  obtain ⟨m30,q58,rfl,hf,hk⟩:=iter_some hit
  clear hit
  unfold B79_0
  unfold p79_l0 at hf
  try dsimp only at hf
  refine bI (fun hc=>?_) (fun hc=>?_)
  ·rw [ifD hc] at hf
   obtain ⟨e12,he12,hf⟩:=oB hf
   refine ix_go f0_0 (sM S.le) he12 fun pe12=>?_
   obtain ⟨_,cr59,Rr59,Nr59,Or59,Zr59⟩:=SlR.idx f0_0 (sM S.le) he12
   obtain rfl:=rPlace_open Rr59
   refine ⟨(.str e12.Name),(.int .i64 e12.Tokens),Nr59,?_⟩
   intro h60
   have S:St _ _ [rowC h35.n [(.str ([]:List UInt8)),(.int .i64 0)] 0,_,_] _:=S.pushRow [(.str ([]:List UInt8)),(.int .i64 0)]
   obtain ⟨h61,e62,S⟩:=S.store (off:=0) (n:=2) (x:=(.agg [(.str e12.Name),(.int .i64 e12.Tokens)])) (cs':=[(.str e12.Name),(.int .i64 e12.Tokens)]) (nl rfl) rfl rfl rfl
   refine ⟨h61,e62,?_⟩
   refine ⟨e12.Name,S.rd1 m0 rfl,?_⟩
   intro h63
   have S:St _ _ [rowC h61.n [(.str e12.Name)] 0,_,_,_] _:=S.pushRow [(.str e12.Name)]
   obtain ⟨l13,hl13,hf⟩:=oB hf
   have S:St _ _ [own (fz rS) [(.str e12.Name)] e12.Name,_,_,_,_] _:=S.add (r:=rS) (x:=e12.Name) rfl
   have S:=S.sel [4,0,1,2,3] rfl
   have ml13:=app_some hl13
   obtain ⟨v64,h65,e66,S⟩:=St.app1R (r:=(fz rS)) (b:=16) S ml13.1
   have S:St _ _ [own (oSl (fz rS)) [v64] l13,_,_] _:=S.cast1 (by rw [← ml13.2]<;>rfl)
   refine ⟨v64,h65,e66,?_⟩
   have S:=S.sel [2,0] rfl
   obtain rfl:=oi hf
   exact ⟨m30,Nat.lt_succ_self _,l13,rfl,rfl,rfl,S,hk⟩
  rw [ifE hc] at hf
  obtain rfl:=oi hf
  obtain rfl:=hk
  exact ⟨l11,rfl,S,rfl⟩
 exact ⟨[],rfl,rfl,rfl,S,hL⟩
def p72_j0 (y10:Int) (l11:List (List UInt8×Bool)) (e12:List UInt8) (b13:Bool):Option ((Int×(List (List UInt8×Bool)))⊕(Unit⊕Unit)):=if b13=true then (some (.inr (.inl ()))) else (some (.inl ((IntKind.wrap .i64 (y10+1)),(mput keS l11 e12 true))))
def p72_l0 (y14:(List (List UInt8))) (st:Int×(List (List UInt8×Bool))):Option ((Int×(List (List UInt8×Bool)))⊕(Unit⊕Unit)):=match st with | (y10,l11)=>if y10 < (y14.length:Int) then ((idx y14 y10).bind fun e12=>(p23 e12).bind fun y15=>if (!y15)=true then (p72_j0 y10 l11 e12 true) else (p72_j0 y10 l11 e12 ((mget keS l11 e12).getD false))) else (some (.inr (.inr ())))
def p72 (n0:TNet):Option Bool:=(p79 n0).bind fun y14=>(loopC (p72_l0 y14) (0,[])).bind fun res16=>(match res16 with | .inl _=>some false | .inr _=>some true)
theorem r72 {h:Heap} {a0_0:AV} {a0_1:AV} {n0:TNet} (f0_0:SlR rPlace (Snap h) a0_0 n0.Places) (f0_1:SlR rTrans (Snap h) a0_1 n0.Trans) {r:Bool} (hf:p72 n0=some r):ZC F 72 [(.agg [a0_0,a0_1])] h fun v h'=>v=.bool r∧St h none' [] h':=by
 refine w72 ?_
 unfold W72
 unfold p72 at hf
 have S:St h none' [] h:=St.refl _ _
 intro h17
 have S:St _ _ [rowC h.n [a0_0,a0_1] 0] _:=S.pushRow [a0_0,a0_1]
 refine oI _ rfl ?_
 intro h18
 have S:St _ _ [own (oMap keS AV.bool) [(.map h17.n)] [],_] _:=S.pushM keS AV.bool
 refine ⟨a0_0,a0_1,S.rdN m1 (nl rfl) rfl,?_⟩
 obtain ⟨y14,hy14,hf⟩:=oB hf
 refine ⟨_,Fz.refl _,?_⟩
 refine (r79 (n0:=n0) (f0_0:=(SlR.mono (sM S.le) f0_0)) (f0_1:=(SlR.mono (sM S.le) f0_1)) hy14).mono fun v19 h20 T=>?_
 have S:St _ _ [own (oSl (fz rS)) [v19] y14,_,_] _:=S.comp T
 refine iI.2 ⟨((S.sl (r:=(fz rS)) m0)).is,?_⟩
 try rw [show (v19).slen=_ from ((S.sl (r:=(fz rS)) m0)).slen]
 obtain ⟨res16,hL,hf⟩:=oB hf
 obtain ⟨n21,hL⟩:=loopC_iff.1 hL
 have S:=S.sel [1,0] rfl
 refine loopm72_0 (R:=fun (y22:Bool) (seen23:AV) (y24:AV) (y25:Int) (y26:Int) (h27:Heap)=>false=y22∧St h none' [] h27∧(.inl ())=res16) (X0:=fun (y28:Bool) (seen29:AV) (y30:AV) (y31:Int) (y32:Int) (h33:Heap)=>St h none' [] h33∧(.inr ())=res16) ?_ ?_ (loop72_0 (I:=fun (m34:Nat) (y35:Bool) (seen36:AV) (y37:AV) (y38:Int) (y10:Int) (h39:Heap)=>∃ (l11:List (List UInt8×Bool)),(AV.map h17.n)=seen36∧v19=y37∧(y14.length:Int)=y38∧St h none' [own (oMap keS AV.bool) [(.map h17.n)] l11,own (oSl (fz rS)) [v19] y14] h39∧iter (p72_l0 y14) m34 (y10,l11)=some res16) ?_ (m:=n21) ?_)
 ·rintro y22 seen23 y24 y25 y26 h27 ⟨rfl,S,rfl⟩
  try dsimp only at hf
  obtain rfl:=oi hf
  exact ⟨rfl,S.sel [] rfl⟩
 ·rintro y28 seen29 y30 y31 y32 h33 ⟨S,rfl⟩
  try dsimp only at hf
  obtain rfl:=oi hf
  exact ⟨rfl,S.sel [] rfl⟩
 ·rintro m40 y35 seen36 y37 y38 y10 h39 ⟨l11,rfl,rfl,rfl,S,hit⟩
  obtain ⟨m34,q41,rfl,hf,hk⟩:=iter_some hit
  clear hit
  unfold B72_0
  unfold p72_l0 at hf
  try dsimp only at hf
  refine bI (fun hc=>?_) (fun hc=>?_)
  ·rw [ifD hc] at hf
   obtain ⟨e12,he12,hf⟩:=oB hf
   refine ix_go (S.sl (r:=(fz rS)) m1) (Hp.le_refl _) he12 fun pe12=>?_
   obtain ⟨_,cr42,Rr42,Nr42,Or42,Zr42⟩:=St.idxO (r:=rS) S m1 he12
   obtain rfl:cr42=[(.str e12)]:=Rr42
   refine ⟨e12,Zr42 _ rfl,?_⟩
   obtain ⟨y15,hy15,hf⟩:=oB hf
   refine ⟨_,Fz.refl _,?_⟩
   refine (r23 (s0:=e12) hy15).mono fun v43 h44 T=>?_
   obtain ⟨rfl,T⟩:=T
   have S:St _ _ [_,_] _:=S.comp T
   refine ⟨y15,rfl,?_⟩
   intro jjj0
   have hjj0:∀ (b13:Bool) (h45:Heap),p72_j0 y10 l11 e12 b13=some q41→h44=h45→St h none' [own (oMap keS AV.bool) [(.map h17.n)] l11,own (oSl (fz rS)) [v19] y14] h44→jjj0 b13 h45:=by
    rintro b13 h45 hf rfl S
    unfold p72_j0 at hf
    unfold jjj0
    refine bI (fun hc=>?_) (fun hc=>?_)
    ·rw [ifT hc] at hf
     have S:=S.sel [] rfl
     obtain rfl:=oi hf
     obtain rfl:=hk
     exact ⟨rfl,S,rfl⟩
    rw [ifF hc] at hf
    obtain ⟨h46,e47,S⟩:=S.setM e12 true
    refine ⟨_,h46,e47,?_⟩
    obtain rfl:=oi hf
    exact ⟨m34,Nat.lt_succ_self _,(mput keS l11 e12 true),rfl,rfl,rfl,S,hk⟩
   refine bI (fun hc=>?_) (fun hc=>?_)
   ·rw [ifT hc] at hf
    exact hjj0 _ _  hf rfl S
   rw [ifF hc] at hf
   refine ⟨_,S.look1 (e:=keS) (ve:=AV.bool) m0 e12 false,_,rfl,?_⟩
   exact hjj0 _ _  hf rfl S
  rw [ifE hc] at hf
  have S:=S.sel [] rfl
  obtain rfl:=oi hf
  obtain rfl:=hk
  exact ⟨S,rfl⟩
 exact ⟨[],rfl,rfl,rfl,S,hL⟩
def p78 (l0:List TArc):Option Bool:=some (decide (8 < (l0.length:Int)))
theorem r78 {h:Heap} {a0_0:AV} {l0:List TArc} (f0_0:SlR rArc (Snap h) a0_0 l0) {r:Bool} (hf:p78 l0=some r):ZC F 78 [a0_0] h fun v h'=>v=.bool r∧St h none' [] h':=by
 refine w78 ?_
 unfold W78
 unfold p78 at hf
 have S:St h none' [] h:=St.refl _ _
 refine iI.2 ⟨(f0_0).is,?_⟩
 try rw [show (a0_0).slen=_ from (f0_0).slen]
 obtain rfl:=oi hf
 exact ⟨rfl,S.sel [] rfl⟩
def p86_l0 (s0:List (List TArc)) (f1:(List TArc)→Option Bool) (y10:Int):Option (Int⊕(Int⊕Unit)):=if y10 < (s0.length:Int) then ((idx s0 y10).bind fun e11=>(f1 e11).bind fun r12=>if r12=true then (some (.inr (.inl y10))) else (some (.inl (IntKind.wrap .i64 (y10+1))))) else (some (.inr (.inr ())))
def p86 (s0:List (List TArc)) (f1:(List TArc)→Option Bool):Option Int:=(loopC (p86_l0 s0 f1) 0).bind fun res13=>(match res13 with | .inl y14=>some y14 | .inr _=>some ((-1):Int))
theorem r86 {h:Heap} {a0_0:AV} {a1_0:AV} {s0:List (List TArc)} {f1:(List TArc)→Option Bool} (f0_0:SlR (rSl rArc) (Snap h) a0_0 s0) (f1_0:∀ (h':Heap) (y0:List TArc) (b0:AV) r,HLe h h'→SlR rArc (Snap h') b0 y0→f1 y0=some r→callW F a1_0 [b0] h' fun v h2=>v=.bool r∧St h' none' [] h2) {r:Int} (hf:p86 s0 f1=some r):ZC F 86 [a0_0,a1_0] h fun v h'=>v=.int .i64 r∧St h none' [] h':=by
 refine w86 ?_
 unfold W86
 unfold p86 at hf
 have S:St h none' [] h:=St.refl _ _
 refine iI.2 ⟨(f0_0).is,?_⟩
 try rw [show (a0_0).slen=_ from (f0_0).slen]
 obtain ⟨res13,hL,hf⟩:=oB hf
 obtain ⟨n15,hL⟩:=loopC_iff.1 hL
 refine loopm86_0 (R:=fun (s16:AV) (f17:AV) (y14:Int) (y18:Int) (y19:Int) (h20:Heap)=>St h none' [] h20∧(.inl y14)=res13) (X0:=fun (s21:AV) (f22:AV) (y23:Int) (y24:Int) (y25:Int) (h26:Heap)=>St h none' [] h26∧(.inr ())=res13) ?_ ?_ (loop86_0 (I:=fun (m27:Nat) (s28:AV) (f29:AV) (y30:Int) (y31:Int) (y10:Int) (h32:Heap)=>a0_0=s28∧a1_0=f29∧(s0.length:Int)=y31∧St h none' [] h32∧iter (p86_l0 s0 f1) m27 y10=some res13) ?_ (m:=n15) ?_)
 ·rintro s16 f17 y14 y18 y19 h20 ⟨S,rfl⟩
  try dsimp only at hf
  obtain rfl:=oi hf
  exact ⟨rfl,S.sel [] rfl⟩
 ·rintro s21 f22 y23 y24 y25 h26 ⟨S,rfl⟩
  try dsimp only at hf
  obtain rfl:=oi hf
  exact ⟨rfl,S.sel [] rfl⟩
 ·rintro m33 s28 f29 y30 y31 y10 h32 ⟨rfl,rfl,rfl,S,hit⟩
  obtain ⟨m27,q34,rfl,hf,hk⟩:=iter_some hit
  clear hit
  unfold B86_0
  unfold p86_l0 at hf
  try dsimp only at hf
  refine bI (fun hc=>?_) (fun hc=>?_)
  ·rw [ifD hc] at hf
   obtain ⟨e11,he11,hf⟩:=oB hf
   refine ix_go f0_0 (sM S.le) he11 fun pe11=>?_
   obtain ⟨_,cr35,Rr35,Nr35,Or35,Zr35⟩:=SlR.idx f0_0 (sM S.le) he11
   obtain ⟨cr35,rfl,Fr35⟩:=Rr35
   refine ⟨cr35,Zr35 _ rfl,?_⟩
   obtain ⟨r12,hr12,hf⟩:=oB hf
   refine ⟨_,Fz.refl _,?_⟩
   refine callW_mono (f1_0 _ e11 cr35 _ S.le (SlR.mono (sM S.le) Fr35) hr12) fun v36 h37 T=>?_
   obtain ⟨rfl,T⟩:=T
   have S:St _ _ [] _:=S.comp T
   refine ⟨r12,rfl,?_⟩
   refine bI (fun hc=>?_) (fun hc=>?_)
   ·rw [ifT hc] at hf
    obtain rfl:=oi hf
    obtain rfl:=hk
    exact ⟨S,rfl⟩
   rw [ifF hc] at hf
   obtain rfl:=oi hf
   exact ⟨m27,Nat.lt_succ_self _,rfl,rfl,rfl,S,hk⟩
  rw [ifE hc] at hf
  obtain rfl:=oi hf
  obtain rfl:=hk
  exact ⟨S,rfl⟩
 exact ⟨rfl,rfl,rfl,S,hL⟩
def p77 (s0:List (List TArc)) (f1:(List TArc)→Option Bool):Option Bool:=(p86 s0 f1).bind fun y10=>some (decide (0≤y10))
theorem r77 {h:Heap} {a0_0:AV} {a1_0:AV} {s0:List (List TArc)} {f1:(List TArc)→Option Bool} (f0_0:SlR (rSl rArc) (Snap h) a0_0 s0) (f1_0:∀ (h':Heap) (y0:List TArc) (b0:AV) r,HLe h h'→SlR rArc (Snap h') b0 y0→f1 y0=some r→callW F a1_0 [b0] h' fun v h2=>v=.bool r∧St h' none' [] h2) {r:Bool} (hf:p77 s0 f1=some r):ZC F 77 [a0_0,a1_0] h fun v h'=>v=.bool r∧St h none' [] h':=by
 refine w77 ?_
 unfold W77
 unfold p77 at hf
 have S:St h none' [] h:=St.refl _ _
 obtain ⟨y10,hy10,hf⟩:=oB hf
 refine ⟨_,Fz.refl _,?_⟩
 refine (r86 (s0:=s0) (f1:=f1) (f0_0:=(SlR.mono (sM S.le) f0_0)) (f1_0:=fun h1 y0 b0 r hl k0 hr=>f1_0 h1 y0 b0 r (S.le.trans hl) k0 hr) hy10).mono fun v11 h12 T=>?_
 obtain ⟨rfl,T⟩:=T
 have S:St _ _ [] _:=S.comp T
 refine ⟨y10,rfl,?_⟩
 obtain rfl:=oi hf
 exact ⟨rfl,S.sel [] rfl⟩
def p71 (lists0:List (List TArc)):Option Bool:=(p77 lists0 (fun (y0:List TArc)=>p78 y0)).bind fun y10=>some y10
theorem r71 {h:Heap} {a0_0:AV} {lists0:List (List TArc)} (f0_0:SlR (rSl rArc) (Snap h) a0_0 lists0) {r:Bool} (hf:p71 lists0=some r):ZC F 71 [a0_0] h fun v h'=>v=.bool r∧St h none' [] h':=by
 refine w71 ?_
 unfold W71
 unfold p71 at hf
 have S:St h none' [] h:=St.refl _ _
 obtain ⟨y10,hy10,hf⟩:=oB hf
 refine ⟨_,Fz.refl _,?_⟩
 refine (r77 (s0:=lists0) (f1:=(fun (y0:List TArc)=>p78 y0)) (f0_0:=(SlR.mono (sM S.le) f0_0)) (f1_0:=fun h1 y0 b0 r hl k0 hr=>by show ZC F 78 _ h1 _; exact r78 (f0_0:=k0) hr) hy10).mono fun v11 h12 T=>?_
 obtain ⟨rfl,T⟩:=T
 have S:St _ _ [] _:=S.comp T
 refine ⟨y10,rfl,?_⟩
 obtain rfl:=oi hf
 exact ⟨rfl,S.sel [] rfl⟩
def p47_l0 (n0:TNet) (y10:Int):Option (Int⊕(Unit⊕Unit)):=if y10 < (n0.Trans.length:Int) then ((idx n0.Trans y10).bind fun e11=>(p71 [e11.In,e11.Not,e11.Out]).bind fun y12=>if y12=true then (some (.inr (.inl ()))) else (some (.inl (IntKind.wrap .i64 (y10+1))))) else (some (.inr (.inr ())))
def p47_j0 (n0:TNet) (b13:Bool):Option Int:=if b13=true then (some 5) else ((loopC (p47_l0 n0) 0).bind fun res14=>(match res14 with | .inl _=>some 5 | .inr _=>(p72 n0).bind fun y15=>if (!y15)=true then (some 7) else ((p73 n0).bind fun y16=>some y16)))
def p47 (n0:TNet):Option Int:=if 32 < (n0.Places.length:Int) then (p47_j0 n0 true) else (p47_j0 n0 (decide (32 < (n0.Trans.length:Int))))
theorem r47 {h:Heap} {a0_0:AV} {a0_1:AV} {n0:TNet} (f0_0:SlR rPlace (Snap h) a0_0 n0.Places) (f0_1:SlR rTrans (Frz h) a0_1 n0.Trans) {r:Int} (hf:p47 n0=some r):ZC F 47 [(.agg [a0_0,a0_1])] h fun v h'=>v=.int .i64 r∧St h none' [] h':=by
 refine w47 ?_
 unfold W47
 unfold p47 at hf
 have S:St h none' [] h:=St.refl _ _
 have S:=S.add (rSl_mk f0_1)
 intro h17
 have S:St _ _ [rowC h.n [a0_0,a0_1] 0,own (fz (rSl rTrans)) [a0_1] n0.Trans] _:=S.pushRow [a0_0,a0_1]
 refine ⟨a0_0,S.rd1 m0 rfl,?_⟩
 refine iI.2 ⟨(f0_0).is,?_⟩
 try rw [show (a0_0).slen=_ from (f0_0).slen]
 intro jjj0
 have hjj0:∀ (b13:Bool) (h18:Heap),p47_j0 n0 b13=some r→h17=h18→St h none' [rowC h.n [a0_0,a0_1] 0,own (fz (rSl rTrans)) [a0_1] n0.Trans] h17→jjj0 b13 h18:=by
  rintro b13 h18 hf rfl S
  unfold p47_j0 at hf
  unfold jjj0
  refine bI (fun hc=>?_) (fun hc=>?_)
  ·rw [ifT hc] at hf
   obtain rfl:=oi hf
   exact ⟨rfl,S.sel [] rfl⟩
  rw [ifF hc] at hf
  refine iI.2 ⟨rfl,?_⟩
  refine ⟨a0_1,S.rd1 m0 rfl,?_⟩
  refine iI.2 ⟨((S.slz (r:=rTrans) m1)).is,?_⟩
  try rw [show (a0_1).slen=_ from ((S.slz (r:=rTrans) m1)).slen]
  obtain ⟨res14,hL,hf⟩:=oB hf
  obtain ⟨n19,hL⟩:=loopC_iff.1 hL
  refine loopm47_0 (R:=fun (n20:AV) (y21:Int) (y22:AV) (y23:Int) (y24:Int) (h25:Heap)=>5=y21∧St h none' [] h25∧(.inl ())=res14) (X0:=fun (n26:AV) (y27:Int) (y28:AV) (y29:Int) (y30:Int) (h31:Heap)=>AV.ptr h.n 0 0=n26∧St h none' [rowC h.n [a0_0,a0_1] 0,own (fz (rSl rTrans)) [a0_1] n0.Trans] h31∧(.inr ())=res14) ?_ ?_ (loop47_0 (I:=fun (m32:Nat) (n33:AV) (y34:Int) (y35:AV) (y36:Int) (y10:Int) (h37:Heap)=>AV.ptr h.n 0 0=n33∧a0_1=y35∧(n0.Trans.length:Int)=y36∧St h none' [rowC h.n [a0_0,a0_1] 0,own (fz (rSl rTrans)) [a0_1] n0.Trans] h37∧iter (p47_l0 n0) m32 y10=some res14) ?_ (m:=n19) ?_)
  ·rintro n20 y21 y22 y23 y24 h25 ⟨rfl,S,rfl⟩
   try dsimp only at hf
   obtain rfl:=oi hf
   exact ⟨rfl,S.sel [] rfl⟩
  ·rintro n26 y27 y28 y29 y30 h31 ⟨rfl,S,rfl⟩
   try dsimp only at hf
   refine ⟨a0_0,a0_1,S.rdN m0 (nl rfl) rfl,?_⟩
   obtain ⟨y15,hy15,hf⟩:=oB hf
   refine ⟨_,Fz.refl _,?_⟩
   refine (r72 (n0:=n0) (f0_0:=(SlR.mono (sM S.le) f0_0)) (f0_1:=(SlR.mono (frz_snap _) (S.slz (r:=rTrans) m1))) hy15).mono fun v38 h39 T=>?_
   obtain ⟨rfl,T⟩:=T
   have S:St _ _ [_,_] _:=S.comp T
   refine ⟨y15,rfl,?_⟩
   refine bI (fun hc=>?_) (fun hc=>?_)
   ·rw [ifT hc] at hf
    obtain rfl:=oi hf
    exact ⟨rfl,S.sel [] rfl⟩
   rw [ifF hc] at hf
   refine ⟨a0_0,a0_1,S.rdN m0 (nl rfl) rfl,?_⟩
   obtain ⟨y16,hy16,hf⟩:=oB hf
   refine ⟨_,Fz.refl _,?_⟩
   refine (r73 (n0:=n0) (f0_0:=(SlR.mono (sM S.le) f0_0)) (f0_1:=S.slz (r:=rTrans) m1) hy16).mono fun v40 h41 T=>?_
   obtain ⟨rfl,T⟩:=T
   have S:St _ _ [_,_] _:=S.comp T
   refine ⟨y16,rfl,?_⟩
   obtain rfl:=oi hf
   exact ⟨rfl,S.sel [] rfl⟩
  ·rintro m42 n33 y34 y35 y36 y10 h37 ⟨rfl,rfl,rfl,S,hit⟩
   obtain ⟨m32,q43,rfl,hf,hk⟩:=iter_some hit
   clear hit
   unfold B47_0
   unfold p47_l0 at hf
   try dsimp only at hf
   refine bI (fun hc=>?_) (fun hc=>?_)
   ·rw [ifD hc] at hf
    obtain ⟨e11,he11,hf⟩:=oB hf
    refine ix_go (S.slz (r:=rTrans) m1) (frz_snap _) he11 fun pe11=>?_
    obtain ⟨_,cr44,Rr44,Nr44,Or44,Zr44⟩:=SlR.idx (S.slz (r:=rTrans) m1) (frz_snap _) he11
    obtain ⟨cr44_3,cr44_4,cr44_5,rfl,Fr44_3,Fr44_4,Fr44_5⟩:=rTrans_open Rr44
    have S:St _ _ [own (fz (rSl rArc)) [cr44_3] e11.In,_,_] _:=S.add (rSl_mk Fr44_3)
    have S:St _ _ [own (fz (rSl rArc)) [cr44_4] e11.Not,_,_,_] _:=S.add (rSl_mk Fr44_4)
    have S:St _ _ [own (fz (rSl rArc)) [cr44_5] e11.Out,_,_,_,_] _:=S.add (rSl_mk Fr44_5)
    refine ⟨(.str e11.Name),(.int .i64 e11.Delay),(.int .i64 e11.Prio),cr44_3,cr44_4,cr44_5,Nr44,?_⟩
    intro h45
    have S:St _ _ [rowC h37.n [(.str ([]:List UInt8)),(.int .i64 0),(.int .i64 0),.nilSlice,.nilSlice,.nilSlice] 0,_,_,_,_,_] _:=S.pushRow [(.str ([]:List UInt8)),(.int .i64 0),(.int .i64 0),.nilSlice,.nilSlice,.nilSlice]
    obtain ⟨h46,e47,S⟩:=S.store (off:=0) (n:=6) (x:=(.agg [(.str e11.Name),(.int .i64 e11.Delay),(.int .i64 e11.Prio),cr44_3,cr44_4,cr44_5])) (cs':=[(.str e11.Name),(.int .i64 e11.Delay),(.int .i64 e11.Prio),cr44_3,cr44_4,cr44_5]) (nl rfl) rfl rfl rfl
    refine ⟨h46,e47,?_⟩
    refine ⟨cr44_3,S.rd1 m0 rfl,?_⟩
    refine ⟨cr44_4,S.rd1 m0 rfl,?_⟩
    refine ⟨cr44_5,S.rd1 m0 rfl,?_⟩
    refine oI (.row [cr44_3,cr44_4,cr44_5] 0 true) (by simp only [NOp.ob,place,sl_cells ((S.slz (r:=rArc) m3)).is,sl_tup ((S.slz (r:=rArc) m3)).is,sl_cells ((S.slz (r:=rArc) m2)).is,sl_tup ((S.slz (r:=rArc) m2)).is,sl_cells ((S.slz (r:=rArc) m1)).is,sl_tup ((S.slz (r:=rArc) m1)).is]<;>first | rfl | (simp [AV.cells,AV.isTup,splice]; done) | (simp [AV.cells,AV.isTup,splice]; rfl)) ?_
    intro h48
    have S:St _ _ [rowC h46.n [cr44_3,cr44_4,cr44_5] 0,_,_,_,_,_,_] _:=S.pushRow [cr44_3,cr44_4,cr44_5]
    obtain ⟨y12,hy12,hf⟩:=oB hf
    have S:St _ _ [own (oSl (fz (rSl rArc))) [(.slice h46.n 0 0 3 1)] [e11.In,e11.Not,e11.Out],_,_,_,_,_,_] _:=St.lit (r:=(rSl rArc)) (els:=[[cr44_3],[cr44_4],[cr44_5]]) (l:=[e11.In,e11.Not,e11.Out]) (n:=3) S rfl (.cons (rSl_mk (S.slz (r:=rArc) m4)) (.cons (rSl_mk (S.slz (r:=rArc) m3)) (.cons (rSl_mk (S.slz (r:=rArc) m2)) (.nil)))) rfl
    refine ⟨_,Fz.refl _,?_⟩
    refine (r71 (lists0:=[e11.In,e11.Not,e11.Out]) (f0_0:=(S.sl (r:=(fz (rSl rArc))) m0)) hy12).mono fun v49 h50 T=>?_
    obtain ⟨rfl,T⟩:=T
    have S:St _ _ [_,_,_,_,_,_,_] _:=S.comp T
    refine ⟨y12,rfl,?_⟩
    refine bI (fun hc=>?_) (fun hc=>?_)
    ·rw [ifT hc] at hf
     have S:=S.sel [] rfl
     obtain rfl:=oi hf
     obtain rfl:=hk
     exact ⟨rfl,S,rfl⟩
    rw [ifF hc] at hf
    have S:=S.sel [5,6] rfl
    obtain rfl:=oi hf
    exact ⟨m32,Nat.lt_succ_self _,rfl,rfl,rfl,S,hk⟩
   rw [ifE hc] at hf
   obtain rfl:=oi hf
   obtain rfl:=hk
   exact ⟨rfl,S,rfl⟩
  exact ⟨rfl,rfl,rfl,S,hL⟩
 refine bI (fun hc=>?_) (fun hc=>?_)
 ·rw [ifD hc] at hf
  exact hjj0 _ _  hf rfl S
 rw [ifE hc] at hf
 refine ⟨a0_1,S.rd1 m0 rfl,?_⟩
 refine iI.2 ⟨((S.slz (r:=rTrans) m1)).is,?_⟩
 try rw [show (a0_1).slen=_ from ((S.slz (r:=rTrans) m1)).slen]
 exact hjj0 _ _  hf rfl S
def p30_j0 (b10:Bool):Option Bool:=some b10
def p30_j1 (b11:Bool):Option Bool:=some b11
def p30_j2 (u12:TNet×TFault) (b13:Bool):Option Bool:=if b13=true then ((p47 u12.1).bind fun y14=>p30_j1 (decide (y14=0))) else (p30_j1 false)
def p30 (p0:List Int):Option Bool:=(p26 p0).bind fun u12=>(p46 p0).bind fun u15=>if (!decide (u15.2.1=0))=true then ((p20 p0 u15.2.2).bind fun u16=>if ((decide (u12.2.Err=u15.2.1))&&((decide (u12.2.At=u15.2.2))&&((decide (u12.2.Line=u16.1))&&((decide (u12.2.Col=u16.2))&&true))))=true then (p30_j0 (decide ((IntKind.wrap .i64 ((u12.1.Places.length:Int)+(u12.1.Trans.length:Int)))=0))) else (p30_j0 false)) else (if ((decide (u12.2.Err=0))&&((decide (u12.2.At=0))&&((decide (u12.2.Line=0))&&((decide (u12.2.Col=0))&&true))))=true then ((p29 u12.1 u15.1).bind fun y17=>p30_j2 u12 y17) else (p30_j2 u12 false))
theorem r30 {h:Heap} {a0_0:AV} {p0:List Int} (f0_0:SlR (rI .u8) (Frz h) a0_0 p0) {r:Bool} (hf:p30 p0=some r):ZC F 30 [a0_0] h fun v h'=>v=.bool r∧St h none' [] h':=by
 refine w30 ?_
 unfold W30
 unfold p30 at hf
 have S:St h none' [] h:=St.refl _ _
 have S:=S.add (rSl_mk f0_0)
 obtain ⟨u12,hu12,hf⟩:=oB hf
 refine ⟨_,Fz.refl _,?_⟩
 refine (r26 (x0:=p0) (f0_0:=S.slz (r:=(rI .u8)) m0) hu12).mono fun v18 h19 T=>?_
 obtain ⟨c20,rfl,T⟩:=T
 have S:=S.comp T
 obtain ⟨au12_0,au12_1,rfl,Fau12_0,Fau12_1⟩:=rNet_open (S.fzr (.head _))
 have S:=S.drop
 have S:St _ _ [own (fz (rSl rPlace)) [au12_0] u12.1.Places,own (fz (rSl (rI .u8))) [a0_0] p0] _:=S.add (rSl_mk Fau12_0)
 have S:St _ _ [own (fz (rSl rTrans)) [au12_1] u12.1.Trans,_,_] _:=S.add (rSl_mk Fau12_1)
 refine oI (.agg [au12_0,au12_1]) rfl ?_
 refine oI (.agg [(.int .i64 u12.2.Err),(.int .i64 u12.2.At),(.int .i64 u12.2.Line),(.int .i64 u12.2.Col)]) rfl ?_
 intro h21
 have S:St _ _ [rowC h19.n [.nilSlice,.nilSlice] 0,_,_,_] _:=S.pushRow [.nilSlice,.nilSlice]
 intro h22
 have S:St _ _ [rowC h21.n [(.int .i64 0),(.int .i64 0),(.int .i64 0),(.int .i64 0)] 0,_,_,_,_] _:=S.pushRow [(.int .i64 0),(.int .i64 0),(.int .i64 0),(.int .i64 0)]
 have S:=S.sel [1,0,2,3,4] rfl
 obtain ⟨h23,e24,S⟩:=S.store (off:=0) (n:=2) (x:=(.agg [au12_0,au12_1])) (cs':=[au12_0,au12_1]) (nl rfl) rfl rfl rfl
 refine ⟨h23,e24,?_⟩
 have S:=S.sel [1,0,2,3,4] rfl
 obtain ⟨h25,e26,S⟩:=S.store (off:=0) (n:=4) (x:=(.agg [(.int .i64 u12.2.Err),(.int .i64 u12.2.At),(.int .i64 u12.2.Line),(.int .i64 u12.2.Col)])) (cs':=[(.int .i64 u12.2.Err),(.int .i64 u12.2.At),(.int .i64 u12.2.Line),(.int .i64 u12.2.Col)]) (nl rfl) rfl rfl rfl
 refine ⟨h25,e26,?_⟩
 obtain ⟨u15,hu15,hf⟩:=oB hf
 refine ⟨_,Fz.refl _,?_⟩
 refine (r46 (x0:=p0) (f0_0:=(SlR.mono (frz_snap _) (S.slz (r:=(rI .u8)) m4))) hu15).mono fun v27 h28 T=>?_
 obtain ⟨c29,rfl,T⟩:=T
 have S:=S.comp T
 obtain ⟨au15_0,au15_1,eS,S2⟩:=oNet_open S
 subst eS
 have S:St _ _ [own (oSl (fz rPlace)) [au15_0] u15.1.Places,own (oSl oTrans) [au15_1] u15.1.Trans,_,_,_,_,_] _:=S2
 refine oI (.agg [au15_0,au15_1]) rfl ?_
 refine oI (.int .i64 u15.2.1) rfl ⟨u15.2.1,rfl,?_⟩
 refine oI (.int .i64 u15.2.2) rfl ⟨u15.2.2,rfl,?_⟩
 intro h30
 have S:St _ _ [rowC h28.n [.nilSlice,.nilSlice] 0,_,_,_,_,_,_,_] _:=S.pushRow [.nilSlice,.nilSlice]
 obtain ⟨h31,e32,S⟩:=S.store (off:=0) (n:=2) (x:=(.agg [au15_0,au15_1])) (cs':=[au15_0,au15_1]) (nl rfl) rfl rfl rfl
 refine ⟨h31,e32,?_⟩
 refine bI (fun hc=>?_) (fun hc=>?_)
 ·rw [ifT hc] at hf
  obtain ⟨u16,hu16,hf⟩:=oB hf
  refine ⟨_,Fz.refl _,?_⟩
  refine (r20 (p0:=p0) (at1:=u15.2.2) (f0_0:=(SlR.mono (frz_snap _) (S.slz (r:=(rI .u8)) m7))) hu16).mono fun v33 h34 T=>?_
  obtain ⟨rfl,T⟩:=T
  have S:St _ _ [_,_,_,_,_,_,_,_] _:=S.comp T
  refine oI (.int .i64 u16.1) rfl ⟨u16.1,rfl,?_⟩
  refine oI (.int .i64 u16.2) rfl ⟨u16.2,rfl,?_⟩
  refine ⟨(.int .i64 u12.2.Err),(.int .i64 u12.2.At),(.int .i64 u12.2.Line),(.int .i64 u12.2.Col),S.rdN m3 (nl rfl) rfl,?_⟩
  refine oI (.bool ((decide (u12.2.Err=u15.2.1))&&((decide (u12.2.At=u15.2.2))&&((decide (u12.2.Line=u16.1))&&((decide (u12.2.Col=u16.2))&&true))))) rfl ⟨((decide (u12.2.Err=u15.2.1))&&((decide (u12.2.At=u15.2.2))&&((decide (u12.2.Line=u16.1))&&((decide (u12.2.Col=u16.2))&&true)))),rfl,?_⟩
  intro jjj0
  have hjj0:∀ (b10:Bool) (h35:Heap),p30_j0 b10=some r→h34=h35→St h none' [] h34→jjj0 b10 h35:=by
   rintro b10 h35 hf rfl S
   unfold p30_j0 at hf
   unfold jjj0
   obtain rfl:=oi hf
   exact ⟨rfl,S.sel [] rfl⟩
  refine bI (fun hc=>?_) (fun hc=>?_)
  ·rw [ifT hc] at hf
   refine ⟨au12_0,S.rd1 m4 rfl,?_⟩
   refine iI.2 ⟨((S.slz (r:=rPlace) m6)).is,?_⟩
   try rw [show (au12_0).slen=_ from ((S.slz (r:=rPlace) m6)).slen]
   refine ⟨au12_1,S.rd1 m4 rfl,?_⟩
   refine iI.2 ⟨((S.slz (r:=rTrans) m5)).is,?_⟩
   try rw [show (au12_1).slen=_ from ((S.slz (r:=rTrans) m5)).slen]
   have S:=S.sel [] rfl
   exact hjj0 _ _  hf rfl S
  rw [ifF hc] at hf
  have S:=S.sel [] rfl
  exact hjj0 _ _  hf rfl S
 rw [ifF hc] at hf
 refine ⟨(.int .i64 u12.2.Err),(.int .i64 u12.2.At),(.int .i64 u12.2.Line),(.int .i64 u12.2.Col),S.rdN m3 (nl rfl) rfl,?_⟩
 refine oI (.bool ((decide (u12.2.Err=0))&&((decide (u12.2.At=0))&&((decide (u12.2.Line=0))&&((decide (u12.2.Col=0))&&true))))) rfl ⟨((decide (u12.2.Err=0))&&((decide (u12.2.At=0))&&((decide (u12.2.Line=0))&&((decide (u12.2.Col=0))&&true)))),rfl,?_⟩
 intro jjj2
 have hjj2:∀ (b13:Bool) (h36:Heap),p30_j2 u12 b13=some r→St h none' [rowC h19.n [au12_0,au12_1] 0,own (fz (rSl rPlace)) [au12_0] u12.1.Places,own (fz (rSl rTrans)) [au12_1] u12.1.Trans] h36→jjj2 b13 h36:=by
  rintro b13 h36 hf S
  unfold p30_j2 at hf
  unfold jjj2
  intro jjj1
  have hjj1:∀ (b11:Bool) (h37:Heap),p30_j1 b11=some r→St h none' [] h37→jjj1 b11 h37:=by
   rintro b11 h37 hf S
   unfold p30_j1 at hf
   unfold jjj1
   obtain rfl:=oi hf
   exact ⟨rfl,S.sel [] rfl⟩
  refine bI (fun hc=>?_) (fun hc=>?_)
  ·rw [ifT hc] at hf
   refine ⟨au12_0,au12_1,S.rdN m0 (nl rfl) rfl,?_⟩
   obtain ⟨y14,hy14,hf⟩:=oB hf
   refine ⟨_,Fz.refl _,?_⟩
   refine (r47 (n0:=u12.1) (f0_0:=(SlR.mono (frz_snap _) (S.slz (r:=rPlace) m1))) (f0_1:=S.slz (r:=rTrans) m2) hy14).mono fun v38 h39 T=>?_
   obtain ⟨rfl,T⟩:=T
   have S:St _ _ [_,_,_] _:=S.comp T
   refine ⟨y14,rfl,?_⟩
   have S:=S.sel [] rfl
   exact hjj1 _ _  hf  S
  rw [ifF hc] at hf
  have S:=S.sel [] rfl
  exact hjj1 _ _  hf  S
 refine bI (fun hc=>?_) (fun hc=>?_)
 ·rw [ifT hc] at hf
  refine ⟨au12_0,au12_1,S.rdN m4 (nl rfl) rfl,?_⟩
  refine ⟨au15_0,au15_1,S.rdN m0 (nl rfl) rfl,?_⟩
  obtain ⟨y17,hy17,hf⟩:=oB hf
  refine ⟨_,Fz.refl _,?_⟩
  refine (r29 (x0:=u12.1) (x1:=u15.1) (f0_0:=(SlR.mono (frz_snap _) (S.slz (r:=rPlace) m6))) (f0_1:=(SlR.mono (frz_snap _) (S.slz (r:=rTrans) m5))) (f1_0:=(S.sl (r:=(fz rPlace)) m1)) (f1_1:=(S.sl (r:=oTrans) m2)) hy17).mono fun v40 h41 T=>?_
  obtain ⟨rfl,T⟩:=T
  have S:St _ _ [_,_,_,_,_,_,_,_] _:=S.comp T
  refine ⟨y17,rfl,?_⟩
  have S:=S.sel [4,6,5] rfl
  exact hjj2 _ _  hf  S
 rw [ifF hc] at hf
 have S:=S.sel [4,6,5] rfl
 exact hjj2 _ _  hf  S
def p25_j0 (b10:Bool):Option Bool:=some b10
def p25_j1 (u11:TNet×TFault) (b12:Bool):Option Bool:=if b12=true then ((idx u11.1.Trans 0).bind fun e13=>p25_j0 (decide (e13.Delay=2))) else (p25_j0 false)
def p25_j2 (u11:TNet×TFault) (b14:Bool):Option Bool:=if b14=true then (p25_j1 u11 (decide ((u11.1.Trans.length:Int)=1))) else (p25_j1 u11 false)
def p25:Option Bool:=(p26 [112,108,97,99,101,32,112,32,61,32,49,59,32,116,114,97,110,115,32,116,32,64,50,58,32,112,32,45,62,32,112,59]).bind fun u11=>if ((decide (u11.2.Err=0))&&((decide (u11.2.At=0))&&((decide (u11.2.Line=0))&&((decide (u11.2.Col=0))&&true))))=true then (p25_j2 u11 (decide ((u11.1.Places.length:Int)=1))) else (p25_j2 u11 false)
theorem r25 {h:Heap}   {r:Bool} (hf:p25  = some r):ZC F 25 [] h fun v h'=>v=.bool r∧St h none' [] h':=by
 refine w25 ?_
 unfold W25
 unfold p25 at hf
 have S:St h none' [] h:=St.refl _ _
 intro h15
 have S:St _ _ [rowC h.n [(.int .u8 112),(.int .u8 108),(.int .u8 97),(.int .u8 99),(.int .u8 101),(.int .u8 32),(.int .u8 112),(.int .u8 32),(.int .u8 61),(.int .u8 32),(.int .u8 49),(.int .u8 59),(.int .u8 32),(.int .u8 116),(.int .u8 114),(.int .u8 97),(.int .u8 110),(.int .u8 115),(.int .u8 32),(.int .u8 116),(.int .u8 32),(.int .u8 64),(.int .u8 50),(.int .u8 58),(.int .u8 32),(.int .u8 112),(.int .u8 32),(.int .u8 45),(.int .u8 62),(.int .u8 32),(.int .u8 112),(.int .u8 59)] 0] _:=S.pushRow [(.int .u8 112),(.int .u8 108),(.int .u8 97),(.int .u8 99),(.int .u8 101),(.int .u8 32),(.int .u8 112),(.int .u8 32),(.int .u8 61),(.int .u8 32),(.int .u8 49),(.int .u8 59),(.int .u8 32),(.int .u8 116),(.int .u8 114),(.int .u8 97),(.int .u8 110),(.int .u8 115),(.int .u8 32),(.int .u8 116),(.int .u8 32),(.int .u8 64),(.int .u8 50),(.int .u8 58),(.int .u8 32),(.int .u8 112),(.int .u8 32),(.int .u8 45),(.int .u8 62),(.int .u8 32),(.int .u8 112),(.int .u8 59)]
 have S:St _ _ [own (oSl (fz (rI .u8))) [(.slice h.n 0 0 32 1)] [112,108,97,99,101,32,112,32,61,32,49,59,32,116,114,97,110,115,32,116,32,64,50,58,32,112,32,45,62,32,112,59]] _:=St.lit (r:=(rI .u8)) (els:=([112,108,97,99,101,32,112,32,61,32,49,59,32,116,114,97,110,115,32,116,32,64,50,58,32,112,32,45,62,32,112,59]:List Int).map fun n=>[AV.int .u8 n]) (l:=([112,108,97,99,101,32,112,32,61,32,49,59,32,116,114,97,110,115,32,116,32,64,50,58,32,112,32,45,62,32,112,59]:List Int)) (n:=32) S rfl (all2_intL _) rfl
 refine ⟨_,_,S.byteConv (r:=(fz (rI .u8))) m0 (by simp [AV.slen]),?_⟩
 obtain ⟨u11,hu11,hf⟩:=oB hf
 obtain ⟨h16,z17,S⟩:=St.freeze S
 refine ⟨_,z17,?_⟩
 refine (r26 (x0:=[112,108,97,99,101,32,112,32,61,32,49,59,32,116,114,97,110,115,32,116,32,64,50,58,32,112,32,45,62,32,112,59]) (f0_0:=S.slz (r:=(rI .u8)) m0) hu11).mono fun v18 h19 T=>?_
 obtain ⟨c20,rfl,T⟩:=T
 have S:=S.comp T
 obtain ⟨au11_0,au11_1,rfl,Fau11_0,Fau11_1⟩:=rNet_open (S.fzr (.head _))
 have S:=S.drop
 have S:St _ _ [own (fz (rSl rPlace)) [au11_0] u11.1.Places,_] _:=S.add (rSl_mk Fau11_0)
 have S:St _ _ [own (fz (rSl rTrans)) [au11_1] u11.1.Trans,_,_] _:=S.add (rSl_mk Fau11_1)
 refine oI (.agg [au11_0,au11_1]) rfl ?_
 refine oI (.agg [(.int .i64 u11.2.Err),(.int .i64 u11.2.At),(.int .i64 u11.2.Line),(.int .i64 u11.2.Col)]) rfl ?_
 intro h21
 have S:St _ _ [rowC h19.n [.nilSlice,.nilSlice] 0,_,_,_] _:=S.pushRow [.nilSlice,.nilSlice]
 intro h22
 have S:St _ _ [rowC h21.n [(.int .i64 0),(.int .i64 0),(.int .i64 0),(.int .i64 0)] 0,_,_,_,_] _:=S.pushRow [(.int .i64 0),(.int .i64 0),(.int .i64 0),(.int .i64 0)]
 have S:=S.sel [1,0,2,3,4] rfl
 obtain ⟨h23,e24,S⟩:=S.store (off:=0) (n:=2) (x:=(.agg [au11_0,au11_1])) (cs':=[au11_0,au11_1]) (nl rfl) rfl rfl rfl
 refine ⟨h23,e24,?_⟩
 have S:=S.sel [1,0,2,3,4] rfl
 obtain ⟨h25,e26,S⟩:=S.store (off:=0) (n:=4) (x:=(.agg [(.int .i64 u11.2.Err),(.int .i64 u11.2.At),(.int .i64 u11.2.Line),(.int .i64 u11.2.Col)])) (cs':=[(.int .i64 u11.2.Err),(.int .i64 u11.2.At),(.int .i64 u11.2.Line),(.int .i64 u11.2.Col)]) (nl rfl) rfl rfl rfl
 refine ⟨h25,e26,?_⟩
 refine ⟨(.int .i64 u11.2.Err),(.int .i64 u11.2.At),(.int .i64 u11.2.Line),(.int .i64 u11.2.Col),S.rdN m0 (nl rfl) rfl,?_⟩
 refine oI (.bool ((decide (u11.2.Err=0))&&((decide (u11.2.At=0))&&((decide (u11.2.Line=0))&&((decide (u11.2.Col=0))&&true))))) rfl ⟨((decide (u11.2.Err=0))&&((decide (u11.2.At=0))&&((decide (u11.2.Line=0))&&((decide (u11.2.Col=0))&&true)))),rfl,?_⟩
 intro jjj2
 have hjj2:∀ (b14:Bool) (h27:Heap),p25_j2 u11 b14=some r→h25=h27→St h none' [rowC h19.n [au11_0,au11_1] 0,own (fz (rSl rPlace)) [au11_0] u11.1.Places,own (fz (rSl rTrans)) [au11_1] u11.1.Trans] h25→jjj2 b14 h27:=by
  rintro b14 h27 hf rfl S
  unfold p25_j2 at hf
  unfold jjj2
  intro jjj1
  have hjj1:∀ (b12:Bool) (h28:Heap),p25_j1 u11 b12=some r→h25=h28→St h none' [rowC h19.n [au11_0,au11_1] 0,own (fz (rSl rPlace)) [au11_0] u11.1.Places,own (fz (rSl rTrans)) [au11_1] u11.1.Trans] h25→jjj1 b12 h28:=by
   rintro b12 h28 hf rfl S
   unfold p25_j1 at hf
   unfold jjj1
   intro jjj0
   have hjj0:∀ (b10:Bool) (h29:Heap),p25_j0 b10=some r→h25=h29→St h none' [] h25→jjj0 b10 h29:=by
    rintro b10 h29 hf rfl S
    unfold p25_j0 at hf
    unfold jjj0
    obtain rfl:=oi hf
    exact ⟨rfl,S.sel [] rfl⟩
   refine bI (fun hc=>?_) (fun hc=>?_)
   ·rw [ifT hc] at hf
    refine iI.2 ⟨rfl,?_⟩
    refine ⟨au11_1,S.rd1 m0 rfl,?_⟩
    obtain ⟨e13,he13,hf⟩:=oB hf
    refine ix_go (S.slz (r:=rTrans) m2) (frz_snap _) he13 fun pe13=>?_
    refine iI.2 ⟨pe13,?_⟩
    obtain ⟨_,cr30,Rr30,Nr30,Or30,Zr30⟩:=SlR.idx (S.slz (r:=rTrans) m2) (frz_snap _) he13
    obtain ⟨cr30_3,cr30_4,cr30_5,rfl,Fr30_3,Fr30_4,Fr30_5⟩:=rTrans_open Rr30
    refine ⟨e13.Delay,Or30 1 _ rfl,?_⟩
    have S:=S.sel [] rfl
    exact hjj0 _ _  hf rfl S
   rw [ifF hc] at hf
   have S:=S.sel [] rfl
   exact hjj0 _ _  hf rfl S
  refine bI (fun hc=>?_) (fun hc=>?_)
  ·rw [ifT hc] at hf
   refine iI.2 ⟨rfl,?_⟩
   refine ⟨au11_1,S.rd1 m0 rfl,?_⟩
   refine iI.2 ⟨((S.slz (r:=rTrans) m2)).is,?_⟩
   try rw [show (au11_1).slen=_ from ((S.slz (r:=rTrans) m2)).slen]
   exact hjj1 _ _  hf rfl S
  rw [ifF hc] at hf
  exact hjj1 _ _  hf rfl S
 refine bI (fun hc=>?_) (fun hc=>?_)
 ·rw [ifT hc] at hf
  refine ⟨au11_0,S.rd1 m1 rfl,?_⟩
  refine iI.2 ⟨((S.slz (r:=rPlace) m3)).is,?_⟩
  try rw [show (au11_0).slen=_ from ((S.slz (r:=rPlace) m3)).slen]
  have S:=S.sel [1,3,2] rfl
  exact hjj2 _ _  hf rfl S
 rw [ifF hc] at hf
 have S:=S.sel [1,3,2] rfl
 exact hjj2 _ _  hf rfl S
def p16_j0 (d0:TDraft) (at1:Int) (with2:List Int) (less3:Int) (b10:Bool):Option Bool:=if b10=true then ((p25 ).bind fun y11=>some y11) else ((p28 d0).bind fun y12=>(p27 y12).bind fun y13=>(bytesI y13).bind fun y14=>(remI .i64 (IntKind.wrap .i64 at1) (IntKind.wrap .i64 ((y14.length:Int)+1))).bind fun d15=>(slc y14 0 d15).bind fun y16=>(app 1 [] y16).bind fun y17=>(app 1 y17 with2).bind fun y18=>(slc y14 (if (y14.length:Int) < (IntKind.wrap .i64 (d15+(IntKind.wrap .i64 (Int.tmod less3 9)))) then (y14.length:Int) else (IntKind.wrap .i64 (d15+(IntKind.wrap .i64 (Int.tmod less3 9))))) (y14.length:Int)).bind fun y19=>(app 1 y18 y19).bind fun y20=>(p30 y20).bind fun y21=>some y21)
def p16_j1 (d0:TDraft) (at1:Int) (with2:List Int) (less3:Int) (b22:Bool):Option Bool:=if b22=true then (p16_j0 d0 at1 with2 less3 true) else (p16_j0 d0 at1 with2 less3 (decide (10 < (with2.length:Int))))
def p16_j2 (d0:TDraft) (at1:Int) (with2:List Int) (less3:Int) (b23:Bool):Option Bool:=if b23=true then (p16_j1 d0 at1 with2 less3 true) else (p16_j1 d0 at1 with2 less3 (decide (12 < (d0.Acts.length:Int))))
def p16 (d0:TDraft) (at1:Int) (with2:List Int) (less3:Int):Option Bool:=(p25 ).bind fun y24=>if (!y24)=true then (p16_j2 d0 at1 with2 less3 true) else (p16_j2 d0 at1 with2 less3 (decide (60 < (d0.Tokens.length:Int))))
theorem r16 {h:Heap} {a0_0:AV} {a0_1:AV} {a2_0:AV} {d0:TDraft} {at1:Int} {with2:List Int} {less3:Int} (f0_0:SlR (rI .u8) (Snap h) a0_0 d0.Tokens) (f0_1:SlR rAct (Snap h) a0_1 d0.Acts) (f2_0:SlR (rI .u8) (Snap h) a2_0 with2) {r:Bool} (hf:p16 d0 at1 with2 less3=some r):ZC F 16 [(.agg [a0_0,a0_1]),(.int .u16 at1),a2_0,(.int .u8 less3)] h fun v h'=>v=.bool r∧St h none' [] h':=by
 refine w16 ?_
 unfold W16
 unfold p16 at hf
 have S:St h none' [] h:=St.refl _ _
 intro h25
 have S:St _ _ [rowC h.n [a0_0,a0_1] 0] _:=S.pushRow [a0_0,a0_1]
 obtain ⟨y24,hy24,hf⟩:=oB hf
 refine ⟨_,Fz.refl _,?_⟩
 refine (r25  hy24).mono fun v26 h27 T=>?_
 obtain ⟨rfl,T⟩:=T
 have S:St _ _ [_] _:=S.comp T
 refine ⟨y24,rfl,?_⟩
 intro jjj2
 have hjj2:∀ (b23:Bool) (h28:Heap),p16_j2 d0 at1 with2 less3 b23=some r→h27=h28→St h none' [rowC h.n [a0_0,a0_1] 0] h27→jjj2 b23 h28:=by
  rintro b23 h28 hf rfl S
  unfold p16_j2 at hf
  unfold jjj2
  intro jjj1
  have hjj1:∀ (b22:Bool) (h29:Heap),p16_j1 d0 at1 with2 less3 b22=some r→h27=h29→St h none' [rowC h.n [a0_0,a0_1] 0] h27→jjj1 b22 h29:=by
   rintro b22 h29 hf rfl S
   unfold p16_j1 at hf
   unfold jjj1
   intro jjj0
   have hjj0:∀ (b10:Bool) (h30:Heap),p16_j0 d0 at1 with2 less3 b10=some r→h27=h30→St h none' [rowC h.n [a0_0,a0_1] 0] h27→jjj0 b10 h30:=by
    rintro b10 h30 hf rfl S
    unfold p16_j0 at hf
    unfold jjj0
    refine bI (fun hc=>?_) (fun hc=>?_)
    ·rw [ifT hc] at hf
     obtain ⟨y11,hy11,hf⟩:=oB hf
     refine ⟨_,Fz.refl _,?_⟩
     refine (r25  hy11).mono fun v31 h32 T=>?_
     obtain ⟨rfl,T⟩:=T
     have S:St _ _ [_] _:=S.comp T
     refine ⟨y11,rfl,?_⟩
     obtain rfl:=oi hf
     exact ⟨rfl,S.sel [] rfl⟩
    rw [ifF hc] at hf
    refine ⟨a0_0,a0_1,S.rdN m0 (nl rfl) rfl,?_⟩
    obtain ⟨y12,hy12,hf⟩:=oB hf
    refine ⟨_,Fz.refl _,?_⟩
    refine (r28 (x0:=d0) (f0_0:=(SlR.mono (sM S.le) f0_0)) (f0_1:=(SlR.mono (sM S.le) f0_1)) hy12).frz fun v33 h34 T=>?_
    obtain ⟨c35,rfl,T⟩:=T
    have S:=S.comp T
    obtain ⟨h36,z37,S⟩:=St.freeze S
    refine ⟨h36,z37,?_⟩
    obtain ⟨ay12_0,ay12_1,rfl,Fay12_0,Fay12_1⟩:=rNet_open (S.fzr (.head _))
    have S:=S.drop
    have S:St _ _ [own (fz (rSl rPlace)) [ay12_0] y12.Places,_] _:=S.add (rSl_mk Fay12_0)
    have S:St _ _ [own (fz (rSl rTrans)) [ay12_1] y12.Trans,_,_] _:=S.add (rSl_mk Fay12_1)
    obtain ⟨y13,hy13,hf⟩:=oB hf
    refine ⟨_,Fz.refl _,?_⟩
    refine (r27 (x0:=y12) (f0_0:=(SlR.mono (frz_snap _) (S.slz (r:=rPlace) m1))) (f0_1:=(SlR.mono (frz_snap _) (S.slz (r:=rTrans) m0))) hy13).mono fun v38 h39 T=>?_
    obtain ⟨rfl,T⟩:=T
    have S:St _ _ [_,_,_] _:=S.comp T
    refine ⟨y13,rfl,?_⟩
    obtain ⟨y14,hy14,hf⟩:=oB hf
    refine oI _ (bytesI_ob hy14) ?_
    intro h40
    have S:St _ _ [own (oSl (fz (rI .u8))) [(NOp.mk .strToBytes [(.str y13)] h39.n)] y14,_,_,_] _:=(S.ofStr y13).cast1 (by rw [(bytesI_some hy14).2])
    refine iI.2 ⟨((S.sl (r:=(fz (rI .u8))) m0)).is,?_⟩
    try rw [show ((NOp.mk .strToBytes [(.str y13)] h39.n)).slen=_ from ((S.sl (r:=(fz (rI .u8))) m0)).slen]
    obtain ⟨d15,hd15,hf⟩:=oB hf
    refine oI (.int .i64 d15) (remI_ev hd15) ⟨d15,rfl,?_⟩
    refine iI.2 ⟨((S.sl (r:=(fz (rI .u8))) m0)).is,?_⟩
    try rw [show ((NOp.mk .strToBytes [(.str y13)] h39.n)).slen=_ from ((S.sl (r:=(fz (rI .u8))) m0)).slen]
    obtain ⟨y16,hy16,hf⟩:=oB hf
    have ey16:=(sliceSl_ev01 (k:=.i64) (S.sl (r:=(fz (rI .u8))) m0) hy16)
    refine oI ((NOp.mk .strToBytes [(.str y13)] h39.n).sub 1 (0:Int).toNat (d15:Int).toNat) ey16 ?_
    obtain ⟨y17,hy17,hf⟩:=oB hf
    have V41:SlR (rI .u8) (Snap h40) ((NOp.mk .strToBytes [(.str y13)] h39.n).sub 1 (0:Int).toNat (d15:Int).toNat) y16:=slc_eq hy16▸SlR.sub (S.sl (r:=(fz (rI .u8))) m0) (slc_le hy16).1 (slc_le hy16).2
    have my17:=app_nil hy17
    obtain ⟨o42,gy17,S⟩:=St.clone (r:=(rI .u8)) (b:=1) S (Hp.le_refl _) V41 (.inl (flat_I _)) my17.1
    refine oI _ gy17 ?_
    intro h43
    have S:St _ _ [own (oSl (fz (rI .u8))) [(NOp.mk (.appendNil 1 1) [((NOp.mk .strToBytes [(.str y13)] h39.n).sub 1 (0:Int).toNat (d15:Int).toNat)] h40.n)] y17,_,_,_,_] _:=S.cast1 (by rw [my17.2]<;>rfl)
    obtain ⟨y18,hy18,hf⟩:=oB hf
    have Fy18:=(SlR.mono (sM S.le) f2_0)
    have my18:=app_some hy18
    obtain ⟨v44,h45,e46,S⟩:=St.appF (r:=(rI .u8)) (b:=1) S (Hp.le_refl _) Fy18 (.inl (flat_I _)) my18.1
    have S:St _ _ [own (oSl (fz (rI .u8))) [v44] y18,_,_,_,_] _:=S.cast1 (by rw [← my18.2]<;>rfl)
    refine ⟨v44,h45,e46,?_⟩
    obtain ⟨y19,hy19,hf⟩:=oB hf
    have ey19:=(sliceSl_ev10 (k:=.i64) (S.sl (r:=(fz (rI .u8))) m1) hy19)
    have S:=S.sel [1,0,2,3,4] rfl
    have S:St _ _ [own (oSl (fz (rI .u8))) [((NOp.mk .strToBytes [(.str y13)] h39.n).sub 1 ((if (y14.length:Int) < (IntKind.wrap .i64 (d15+(IntKind.wrap .i64 (Int.tmod less3 9)))) then (y14.length:Int) else (IntKind.wrap .i64 (d15+(IntKind.wrap .i64 (Int.tmod less3 9))))):Int).toNat ((y14.length:Int):Int).toNat)] y19,_,_,_,_] _:=(S.sub (slc_le hy19).1 (slc_le hy19).2).cast1 (by rw [← slc_eq hy19]<;>rfl)
    refine oI ((NOp.mk .strToBytes [(.str y13)] h39.n).sub 1 ((if (y14.length:Int) < (IntKind.wrap .i64 (d15+(IntKind.wrap .i64 (Int.tmod less3 9)))) then (y14.length:Int) else (IntKind.wrap .i64 (d15+(IntKind.wrap .i64 (Int.tmod less3 9))))):Int).toNat ((y14.length:Int):Int).toNat) ey19 ?_
    obtain ⟨y20,hy20,hf⟩:=oB hf
    have Fy20:=(S.sl (r:=(fz (rI .u8))) m0)
    have S:=S.sel [1,0,2,3,4] rfl
    have my20:=app_some hy20
    obtain ⟨v47,h48,e49,S⟩:=St.appF (r:=(rI .u8)) (b:=1) S (Hp.le_refl _) Fy20 (.inl (flat_I _)) my20.1
    have S:St _ _ [own (oSl (fz (rI .u8))) [v47] y20,_,_,_,_] _:=S.cast1 (by rw [← my20.2]<;>rfl)
    refine ⟨v47,h48,e49,?_⟩
    obtain ⟨y21,hy21,hf⟩:=oB hf
    obtain ⟨h50,z51,S⟩:=St.freeze S
    refine ⟨_,z51,?_⟩
    refine (r30 (p0:=y20) (f0_0:=S.slz (r:=(rI .u8)) m0) hy21).mono fun v52 h53 T=>?_
    obtain ⟨rfl,T⟩:=T
    have S:St _ _ [_,_,_,_,_] _:=S.comp T
    refine ⟨y21,rfl,?_⟩
    obtain rfl:=oi hf
    exact ⟨rfl,S.sel [] rfl⟩
   refine bI (fun hc=>?_) (fun hc=>?_)
   ·rw [ifT hc] at hf
    exact hjj0 _ _  hf rfl S
   rw [ifF hc] at hf
   refine iI.2 ⟨(f2_0).is,?_⟩
   try rw [show (a2_0).slen=_ from (f2_0).slen]
   exact hjj0 _ _  hf rfl S
  refine bI (fun hc=>?_) (fun hc=>?_)
  ·rw [ifT hc] at hf
   exact hjj1 _ _  hf rfl S
  rw [ifF hc] at hf
  refine iI.2 ⟨rfl,?_⟩
  refine ⟨a0_1,S.rd1 m0 rfl,?_⟩
  refine iI.2 ⟨(f0_1).is,?_⟩
  try rw [show (a0_1).slen=_ from (f0_1).slen]
  exact hjj1 _ _  hf rfl S
 refine bI (fun hc=>?_) (fun hc=>?_)
 ·rw [ifT hc] at hf
  exact hjj2 _ _  hf rfl S
 rw [ifF hc] at hf
 refine ⟨a0_0,S.rd1 m0 rfl,?_⟩
 refine iI.2 ⟨(f0_0).is,?_⟩
 try rw [show (a0_0).slen=_ from (f0_0).slen]
 exact hjj2 _ _  hf rfl S
end
end Go.Proofs.Ytloaoofdbilpeaa
