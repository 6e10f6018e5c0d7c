/- Pure functions, and that the machine's functions answer as they do. No condition. Own work. -/
import Derived.Test.YtloaoofdbilpeaaPaParseDefaults
/- Pure functions, and that the machine's functions answer as they do; printed by a program of mine (pm.py). Own work. -/
namespace Go.Proofs.Ytloaoofdbilpeaa
open Go Go.Am
set_option linter.unusedVariables false
set_option linter.unusedSimpArgs false
/-! 13: marblerun/marblerunlaw06.ParseDefaults -/
noncomputable def p13_j0 (b10:Bool):Option Bool:=some b10
noncomputable def p13_j1 (u11:TNet×TFault) (b12:Bool):Option Bool:=if b12=true then ((idx u11.1.Places (0:Int)).bind fun e13=>p13_j0 (decide (e13.Tokens=(0:Int)))) else (p13_j0 false)
noncomputable def p13_j2 (u11:TNet×TFault) (b14:Bool):Option Bool:=if b14=true then ((idx u11.1.Trans (0:Int)).bind fun e15=>(idx e15.In (0:Int)).bind fun e16=>p13_j1 u11 (decide (e16.N=(1:Int)))) else (p13_j1 u11 false)
noncomputable def p13_j3 (u11:TNet×TFault) (b17:Bool):Option Bool:=if b17=true then ((idx u11.1.Trans (0:Int)).bind fun e18=>p13_j2 u11 (decide (e18.Prio=(0:Int)))) else (p13_j2 u11 false)
noncomputable def p13_j4 (u11:TNet×TFault) (b19:Bool):Option Bool:=if b19=true then ((idx u11.1.Trans (0:Int)).bind fun e20=>p13_j3 u11 (decide (e20.Delay=(0:Int)))) else (p13_j3 u11 false)
noncomputable def p13_j5 (u11:TNet×TFault) (b21:Bool):Option Bool:=if b21=true then (p13_j4 u11 (decide ((u11.1.Trans.length:Int)=(1:Int)))) else (p13_j4 u11 false)
noncomputable def p13_j6 (u11:TNet×TFault) (b22:Bool):Option Bool:=if b22=true then (p13_j5 u11 ((decide (u11.2.Err=(0:Int)))&&((decide (u11.2.At=(0:Int)))&&((decide (u11.2.Line=(0:Int)))&&((decide (u11.2.Col=(0:Int)))&&true))))) else (p13_j5 u11 false)
noncomputable def p13_j7 (x0:Int) (x1:Int) (x2:Int) (x3:Int) (u23:TNet×TFault) (u11:TNet×TFault) (b24:Bool):Option Bool:=if b24=true then ((p29 u23.1 (TNet.mk [(TPlace.mk ([112]:List UInt8) (IntKind.wrap .i64 x3))] [(TTrans.mk ([116]:List UInt8) (IntKind.wrap .i64 x0) (IntKind.wrap .i64 x1) [(TArc.mk (0:Int) (IntKind.wrap .i64 ((1:Int)+(IntKind.wrap .i64 x2))))] [] [])])).bind fun y25=>p13_j6 u11 y25) else (p13_j6 u11 false)
noncomputable def p13_j8 (x0:Int) (x1:Int) (x2:Int) (x3:Int) (u23:TNet×TFault) (y26:List UInt8) (y27:List UInt8):Option Bool:=(catS y26 ([59,32]:List UInt8)).bind fun s28=>(catS s28 y27).bind fun s29=>(catS s29 ([58,32,112,42,49,32,45,62,32,59]:List UInt8)).bind fun s30=>(bytesI s30).bind fun y31=>(p26 y31).bind fun u11=>(p25 ).bind fun y32=>if y32=true then (p13_j7 x0 x1 x2 x3 u23 u11 ((decide (u23.2.Err=(0:Int)))&&((decide (u23.2.At=(0:Int)))&&((decide (u23.2.Line=(0:Int)))&&((decide (u23.2.Col=(0:Int)))&&true))))) else (p13_j7 x0 x1 x2 x3 u23 u11 false)
noncomputable def p13_j9 (x0:Int) (x1:Int) (x2:Int) (x3:Int) (u23:TNet×TFault) (y26:List UInt8) (y33:List UInt8):Option Bool:=if x1=(0:Int) then ((catS y33 ([32,33,48]:List UInt8)).bind fun s34=>p13_j8 x0 x1 x2 x3 u23 y26 s34) else (p13_j8 x0 x1 x2 x3 u23 y26 y33)
noncomputable def p13_j10 (x0:Int) (x1:Int) (x2:Int) (x3:Int) (u23:TNet×TFault) (y26:List UInt8):Option Bool:=if x0=(0:Int) then ((catS ([116,114,97,110,115,32,116]:List UInt8) ([32,64,48]:List UInt8)).bind fun s35=>p13_j9 x0 x1 x2 x3 u23 y26 s35) else (p13_j9 x0 x1 x2 x3 u23 y26 ([116,114,97,110,115,32,116]:List UInt8))
noncomputable def p13 (x0:Int) (x1:Int) (x2:Int) (x3:Int):Option Bool:=(p27 (TNet.mk [(TPlace.mk ([112]:List UInt8) (IntKind.wrap .i64 x3))] [(TTrans.mk ([116]:List UInt8) (IntKind.wrap .i64 x0) (IntKind.wrap .i64 x1) [(TArc.mk (0:Int) (IntKind.wrap .i64 ((1:Int)+(IntKind.wrap .i64 x2))))] [] [])])).bind fun y36=>(bytesI y36).bind fun y37=>(p26 y37).bind fun u23=>if x3=(0:Int) then ((catS ([112,108,97,99,101,32,112]:List UInt8) ([32,61,32,48]:List UInt8)).bind fun s38=>p13_j10 x0 x1 x2 x3 u23 s38) else (p13_j10 x0 x1 x2 x3 u23 ([112,108,97,99,101,32,112]:List UInt8))
theorem r13 {h:Heap}  {x0:Int} {x1:Int} {x2:Int} {x3:Int} {r:Bool} (hf:p13 x0 x1 x2 x3=some r):ZCalls F 13 [(.int .u16 x0),(.int .u16 x1),(.int .u16 x2),(.int .u16 x3)] h fun v h'=>v=.bool r∧St h none' [] h':=by
 refine w13 ?_
 unfold W13
 unfold p13 at hf
 have S:St h none' [] h:=St.refl _ _
 intro h39
 have S:St _ _ [rowC h.n [(.str ([112]:List UInt8)),(.int .i64 (IntKind.wrap .i64 x3))] 0] _:=S.pushRow [(.str ([112]:List UInt8)),(.int .i64 (IntKind.wrap .i64 x3))]
 intro h40
 have S:St _ _ [rowC h39.n [(.int .i64 0),(.int .i64 (IntKind.wrap .i64 ((1:Int)+(IntKind.wrap .i64 x2))))] 0,_] _:=S.pushRow [(.int .i64 0),(.int .i64 (IntKind.wrap .i64 ((1:Int)+(IntKind.wrap .i64 x2))))]
 intro h41
 have S:St _ _ [rowC h40.n [(.str ([116]:List UInt8)),(.int .i64 (IntKind.wrap .i64 x0)),(.int .i64 (IntKind.wrap .i64 x1)),(.slice h39.n 0 0 1 2),.nilSlice,.nilSlice] 0,_,_] _:=S.pushRow [(.str ([116]:List UInt8)),(.int .i64 (IntKind.wrap .i64 x0)),(.int .i64 (IntKind.wrap .i64 x1)),(.slice h39.n 0 0 1 2),.nilSlice,.nilSlice]
 intro h42
 have S:St _ _ [rowC h41.n [.nilSlice,.nilSlice] 0,_,_,_] _:=S.pushRow [.nilSlice,.nilSlice]
 obtain ⟨h43,e44,S⟩:=S.store (off:=0) (n:=2) (x:=(.agg [(.slice h.n 0 0 1 2),(.slice h40.n 0 0 1 6)])) (cs':=[(.slice h.n 0 0 1 2),(.slice h40.n 0 0 1 6)]) (nl rfl) rfl rfl rfl
 refine ⟨h43,e44,?_⟩
 refine ⟨(.slice h.n 0 0 1 2),(.slice h40.n 0 0 1 6),S.rdN m0 (nl rfl) rfl,?_⟩
 obtain ⟨y36,hy36,hf⟩:=obind hf
 have S:=S.sel [3,0,1,2] rfl
 have S:St _ _ [own (oSl (fz rPlace)) [(.slice h.n 0 0 1 2)] [(TPlace.mk ([112]:List UInt8) (IntKind.wrap .i64 x3))],_,_,_] _:=St.lit (r:=rPlace) (els:=[[(.str ([112]:List UInt8)),(.int .i64 (IntKind.wrap .i64 x3))]]) (l:=[(TPlace.mk ([112]:List UInt8) (IntKind.wrap .i64 x3))]) (n:=1) S rfl (.cons (rPlace_mk (x:=(TPlace.mk ([112]:List UInt8) (IntKind.wrap .i64 x3)))) (.nil)) rfl
 have S:=S.sel [2,0,1,3] rfl
 have S:=S.catNil oTrans
 have S:=S.sel [4,0,1,2,3] rfl
 have S:St _ _ [own (oSl (fz rArc)) [(.slice h39.n 0 0 1 2)] [(TArc.mk (0:Int) (IntKind.wrap .i64 ((1:Int)+(IntKind.wrap .i64 x2))))],_,_,_,_] _:=St.lit (r:=rArc) (els:=[[(.int .i64 0),(.int .i64 (IntKind.wrap .i64 ((1:Int)+(IntKind.wrap .i64 x2))))]]) (l:=[(TArc.mk (0:Int) (IntKind.wrap .i64 ((1:Int)+(IntKind.wrap .i64 x2))))]) (n:=1) S rfl (.cons (rArc_mk (x:=(TArc.mk (0:Int) (IntKind.wrap .i64 ((1:Int)+(IntKind.wrap .i64 x2)))))) (.nil)) rfl
 have S:St _ _ [own (oSl (fz rArc)) [.nilSlice] [],_,_,_,_,_] _:=S.addE (oSl_nil _ _)
 have S:St _ _ [own (oSl (fz rArc)) [.nilSlice] [],_,_,_,_,_,_] _:=S.addE (oSl_nil _ _)
 have S:=S.sel [2,1,0,3,4,5,6] rfl
 have S:St _ _ [own oTrans [(.str ([116]:List UInt8)),(.int .i64 (IntKind.wrap .i64 x0)),(.int .i64 (IntKind.wrap .i64 x1)),(.slice h39.n 0 0 1 2),.nilSlice,.nilSlice] (TTrans.mk ([116]:List UInt8) (IntKind.wrap .i64 x0) (IntKind.wrap .i64 x1) [(TArc.mk (0:Int) (IntKind.wrap .i64 ((1:Int)+(IntKind.wrap .i64 x2))))] [] []),_,_,_,_] _:=oTrans_close (x:=(TTrans.mk ([116]:List UInt8) (IntKind.wrap .i64 x0) (IntKind.wrap .i64 x1) [(TArc.mk (0:Int) (IntKind.wrap .i64 ((1:Int)+(IntKind.wrap .i64 x2))))] [] [])) S
 have S:St _ _ [catC oTrans [(.str ([116]:List UInt8)),(.int .i64 (IntKind.wrap .i64 x0)),(.int .i64 (IntKind.wrap .i64 x1)),(.slice h39.n 0 0 1 2),.nilSlice,.nilSlice] [(TTrans.mk ([116]:List UInt8) (IntKind.wrap .i64 x0) (IntKind.wrap .i64 x1) [(TArc.mk (0:Int) (IntKind.wrap .i64 ((1:Int)+(IntKind.wrap .i64 x2))))] [] [])],_,_,_] _:=S.catCons
 have S:=S.sel [1,0,2,3] rfl
 have S:St _ _ [own (oSl oTrans) [(.slice h40.n 0 0 1 6)] [(TTrans.mk ([116]:List UInt8) (IntKind.wrap .i64 x0) (IntKind.wrap .i64 x1) [(TArc.mk (0:Int) (IntKind.wrap .i64 ((1:Int)+(IntKind.wrap .i64 x2))))] [] [])],_,_] _:=S.litO (n:=1) rfl
 refine ⟨_,Fz.refl _,?_⟩
 refine (r27 (x0:=(TNet.mk [(TPlace.mk ([112]:List UInt8) (IntKind.wrap .i64 x3))] [(TTrans.mk ([116]:List UInt8) (IntKind.wrap .i64 x0) (IntKind.wrap .i64 x1) [(TArc.mk (0:Int) (IntKind.wrap .i64 ((1:Int)+(IntKind.wrap .i64 x2))))] [] [])])) (f0_0:=(S.sl (r:=(fz rPlace)) m1)) (f0_1:=(S.sl (r:=oTrans) m0)) hy36).mono fun v45 h46 T=>?_
 obtain ⟨rfl,T⟩:=T
 have S:St _ _ [_,_,_] _:=S.comp T
 refine ⟨y36,rfl,?_⟩
 obtain ⟨y37,hy37,hf⟩:=obind hf
 refine oP_intro _ (bytesI_ob hy37) ?_
 intro h47
 have S:St _ _ [own (oSl (fz (rI .u8))) [(NOp.mk .strToBytes [(.str y36)] h46.n)] y37,_,_,_] _:=(S.ofStr y36).cast1 (by rw [(bytesI_some hy37).2])
 obtain ⟨u23,hu23,hf⟩:=obind hf
 obtain ⟨h48,z49,S⟩:=St.freeze S
 refine ⟨_,z49,?_⟩
 refine (r26 (x0:=y37) (f0_0:=S.slz (r:=(rI .u8)) m0) hu23).mono fun v50 h51 T=>?_
 obtain ⟨c52,rfl,T⟩:=T
 have S:=S.comp T
 obtain ⟨au23_0,au23_1,rfl,Fau23_0,Fau23_1⟩:=rNet_open (S.fzr (.head _))
 have S:=S.drop
 have S:St _ _ [own (fz (rSl rPlace)) [au23_0] u23.1.Places,_,_,_,_] _:=S.add (rSl_mk Fau23_0)
 have S:St _ _ [own (fz (rSl rTrans)) [au23_1] u23.1.Trans,_,_,_,_,_] _:=S.add (rSl_mk Fau23_1)
 refine oP_intro (.agg [au23_0,au23_1]) rfl ?_
 refine oP_intro (.agg [(.int .i64 u23.2.Err),(.int .i64 u23.2.At),(.int .i64 u23.2.Line),(.int .i64 u23.2.Col)]) rfl ?_
 intro h53
 have S:St _ _ [rowC h51.n [.nilSlice,.nilSlice] 0,_,_,_,_,_,_] _:=S.pushRow [.nilSlice,.nilSlice]
 intro h54
 have S:St _ _ [rowC h53.n [(.int .i64 0),(.int .i64 0),(.int .i64 0),(.int .i64 0)] 0,_,_,_,_,_,_,_] _:=S.pushRow [(.int .i64 0),(.int .i64 0),(.int .i64 0),(.int .i64 0)]
 have S:=S.sel [1,0,2,3,4,5,6,7] rfl
 obtain ⟨h55,e56,S⟩:=S.store (off:=0) (n:=2) (x:=(.agg [au23_0,au23_1])) (cs':=[au23_0,au23_1]) (nl rfl) rfl rfl rfl
 refine ⟨h55,e56,?_⟩
 have S:=S.sel [1,0,2,3,4,5,6,7] rfl
 obtain ⟨h57,e58,S⟩:=S.store (off:=0) (n:=4) (x:=(.agg [(.int .i64 u23.2.Err),(.int .i64 u23.2.At),(.int .i64 u23.2.Line),(.int .i64 u23.2.Col)])) (cs':=[(.int .i64 u23.2.Err),(.int .i64 u23.2.At),(.int .i64 u23.2.Line),(.int .i64 u23.2.Col)]) (nl rfl) rfl rfl rfl
 refine ⟨h57,e58,?_⟩
 intro jjj10
 have hjj10:∀ (y26:List UInt8) (h59:Heap),p13_j10 x0 x1 x2 x3 u23 y26=some r→St h none' [rowC h41.n [(.slice h.n 0 0 1 2),(.slice h40.n 0 0 1 6)] 0,rowC h51.n [au23_0,au23_1] 0,rowC h53.n [(.int .i64 u23.2.Err),(.int .i64 u23.2.At),(.int .i64 u23.2.Line),(.int .i64 u23.2.Col)] 0,own (oSl (fz rPlace)) [(.slice h.n 0 0 1 2)] [(TPlace.mk ([112]:List UInt8) (IntKind.wrap .i64 x3))],own (oSl oTrans) [(.slice h40.n 0 0 1 6)] [(TTrans.mk ([116]:List UInt8) (IntKind.wrap .i64 x0) (IntKind.wrap .i64 x1) [(TArc.mk (0:Int) (IntKind.wrap .i64 ((1:Int)+(IntKind.wrap .i64 x2))))] [] [])],own (fz (rSl rPlace)) [au23_0] u23.1.Places,own (fz (rSl rTrans)) [au23_1] u23.1.Trans] h59→jjj10 y26 h59:=by
  rintro y26 h59 hf S
  unfold p13_j10 at hf
  unfold jjj10
  intro jjj9
  have hjj9:∀ (y33:List UInt8) (h60:Heap),p13_j9 x0 x1 x2 x3 u23 y26 y33=some r→St h none' [rowC h41.n [(.slice h.n 0 0 1 2),(.slice h40.n 0 0 1 6)] 0,rowC h51.n [au23_0,au23_1] 0,rowC h53.n [(.int .i64 u23.2.Err),(.int .i64 u23.2.At),(.int .i64 u23.2.Line),(.int .i64 u23.2.Col)] 0,own (oSl (fz rPlace)) [(.slice h.n 0 0 1 2)] [(TPlace.mk ([112]:List UInt8) (IntKind.wrap .i64 x3))],own (oSl oTrans) [(.slice h40.n 0 0 1 6)] [(TTrans.mk ([116]:List UInt8) (IntKind.wrap .i64 x0) (IntKind.wrap .i64 x1) [(TArc.mk (0:Int) (IntKind.wrap .i64 ((1:Int)+(IntKind.wrap .i64 x2))))] [] [])],own (fz (rSl rPlace)) [au23_0] u23.1.Places,own (fz (rSl rTrans)) [au23_1] u23.1.Trans] h60→jjj9 y33 h60:=by
   rintro y33 h60 hf S
   unfold p13_j9 at hf
   unfold jjj9
   intro jjj8
   have hjj8:∀ (y27:List UInt8) (h61:Heap),p13_j8 x0 x1 x2 x3 u23 y26 y27=some r→St h none' [rowC h41.n [(.slice h.n 0 0 1 2),(.slice h40.n 0 0 1 6)] 0,rowC h51.n [au23_0,au23_1] 0,rowC h53.n [(.int .i64 u23.2.Err),(.int .i64 u23.2.At),(.int .i64 u23.2.Line),(.int .i64 u23.2.Col)] 0,own (oSl (fz rPlace)) [(.slice h.n 0 0 1 2)] [(TPlace.mk ([112]:List UInt8) (IntKind.wrap .i64 x3))],own (oSl oTrans) [(.slice h40.n 0 0 1 6)] [(TTrans.mk ([116]:List UInt8) (IntKind.wrap .i64 x0) (IntKind.wrap .i64 x1) [(TArc.mk (0:Int) (IntKind.wrap .i64 ((1:Int)+(IntKind.wrap .i64 x2))))] [] [])],own (fz (rSl rPlace)) [au23_0] u23.1.Places,own (fz (rSl rTrans)) [au23_1] u23.1.Trans] h61→jjj8 y27 h61:=by
    rintro y27 h61 hf S
    unfold p13_j8 at hf
    unfold jjj8
    obtain ⟨s28,hs28,hf⟩:=obind hf
    refine oP_intro (.str s28) (catS_ev hs28) ⟨s28,rfl,?_⟩
    obtain ⟨s29,hs29,hf⟩:=obind hf
    refine oP_intro (.str s29) (catS_ev hs29) ⟨s29,rfl,?_⟩
    obtain ⟨s30,hs30,hf⟩:=obind hf
    refine oP_intro (.str s30) (catS_ev hs30) ⟨s30,rfl,?_⟩
    obtain ⟨y31,hy31,hf⟩:=obind hf
    refine oP_intro _ (bytesI_ob hy31) ?_
    intro h62
    have S:St _ _ [own (oSl (fz (rI .u8))) [(NOp.mk .strToBytes [(.str s30)] h61.n)] y31,_,_,_,_,_,_,_] _:=(S.ofStr s30).cast1 (by rw [(bytesI_some hy31).2])
    obtain ⟨u11,hu11,hf⟩:=obind hf
    obtain ⟨h63,z64,S⟩:=St.freeze S
    refine ⟨_,z64,?_⟩
    refine (r26 (x0:=y31) (f0_0:=S.slz (r:=(rI .u8)) m0) hu11).mono fun v65 h66 T=>?_
    obtain ⟨c67,rfl,T⟩:=T
    have S:=S.comp T
    obtain ⟨au11_0,au11_1,rfl,Fau11_0,Fau11_1⟩:=rNet_open (S.fzr (.head _))
    have S:=S.drop
    have S:St _ _ [own (fz (rSl rPlace)) [au11_0] u11.1.Places,_,_,_,_,_,_,_,_] _:=S.add (rSl_mk Fau11_0)
    have S:St _ _ [own (fz (rSl rTrans)) [au11_1] u11.1.Trans,_,_,_,_,_,_,_,_,_] _:=S.add (rSl_mk Fau11_1)
    refine oP_intro (.agg [au11_0,au11_1]) rfl ?_
    refine oP_intro (.agg [(.int .i64 u11.2.Err),(.int .i64 u11.2.At),(.int .i64 u11.2.Line),(.int .i64 u11.2.Col)]) rfl ?_
    intro h68
    have S:St _ _ [rowC h66.n [.nilSlice,.nilSlice] 0,_,_,_,_,_,_,_,_,_,_] _:=S.pushRow [.nilSlice,.nilSlice]
    intro h69
    have S:St _ _ [rowC h68.n [(.int .i64 0),(.int .i64 0),(.int .i64 0),(.int .i64 0)] 0,_,_,_,_,_,_,_,_,_,_,_] _:=S.pushRow [(.int .i64 0),(.int .i64 0),(.int .i64 0),(.int .i64 0)]
    have S:=S.sel [1,0,2,3,4,5,6,7,8,9,10,11] rfl
    obtain ⟨h70,e71,S⟩:=S.store (off:=0) (n:=2) (x:=(.agg [au11_0,au11_1])) (cs':=[au11_0,au11_1]) (nl rfl) rfl rfl rfl
    refine ⟨h70,e71,?_⟩
    have S:=S.sel [1,0,2,3,4,5,6,7,8,9,10,11] rfl
    obtain ⟨h72,e73,S⟩:=S.store (off:=0) (n:=4) (x:=(.agg [(.int .i64 u11.2.Err),(.int .i64 u11.2.At),(.int .i64 u11.2.Line),(.int .i64 u11.2.Col)])) (cs':=[(.int .i64 u11.2.Err),(.int .i64 u11.2.At),(.int .i64 u11.2.Line),(.int .i64 u11.2.Col)]) (nl rfl) rfl rfl rfl
    refine ⟨h72,e73,?_⟩
    obtain ⟨y32,hy32,hf⟩:=obind hf
    refine ⟨_,Fz.refl _,?_⟩
    refine (r25  hy32).mono fun v74 h75 T=>?_
    obtain ⟨rfl,T⟩:=T
    have S:St _ _ [_,_,_,_,_,_,_,_,_,_,_,_] _:=S.comp T
    refine ⟨y32,rfl,?_⟩
    intro jjj7
    have hjj7:∀ (b24:Bool) (h76:Heap),p13_j7 x0 x1 x2 x3 u23 u11 b24=some r→h75=h76→St h none' [rowC h41.n [(.slice h.n 0 0 1 2),(.slice h40.n 0 0 1 6)] 0,rowC h51.n [au23_0,au23_1] 0,rowC h66.n [au11_0,au11_1] 0,rowC h68.n [(.int .i64 u11.2.Err),(.int .i64 u11.2.At),(.int .i64 u11.2.Line),(.int .i64 u11.2.Col)] 0,own (oSl (fz rPlace)) [(.slice h.n 0 0 1 2)] [(TPlace.mk ([112]:List UInt8) (IntKind.wrap .i64 x3))],own (oSl oTrans) [(.slice h40.n 0 0 1 6)] [(TTrans.mk ([116]:List UInt8) (IntKind.wrap .i64 x0) (IntKind.wrap .i64 x1) [(TArc.mk (0:Int) (IntKind.wrap .i64 ((1:Int)+(IntKind.wrap .i64 x2))))] [] [])],own (fz (rSl rPlace)) [au23_0] u23.1.Places,own (fz (rSl rTrans)) [au23_1] u23.1.Trans,own (fz (rSl rPlace)) [au11_0] u11.1.Places,own (fz (rSl rTrans)) [au11_1] u11.1.Trans] h75→jjj7 b24 h76:=by
     rintro b24 h76 hf rfl S
     unfold p13_j7 at hf
     unfold jjj7
     intro jjj6
     have hjj6:∀ (b22:Bool) (h77:Heap),p13_j6 u11 b22=some r→St h none' [rowC h66.n [au11_0,au11_1] 0,rowC h68.n [(.int .i64 u11.2.Err),(.int .i64 u11.2.At),(.int .i64 u11.2.Line),(.int .i64 u11.2.Col)] 0,own (fz (rSl rPlace)) [au11_0] u11.1.Places,own (fz (rSl rTrans)) [au11_1] u11.1.Trans] h77→jjj6 b22 h77:=by
      rintro b22 h77 hf S
      unfold p13_j6 at hf
      unfold jjj6
      intro jjj5
      have hjj5:∀ (b21:Bool) (h78:Heap),p13_j5 u11 b21=some r→h77=h78→St h none' [rowC h66.n [au11_0,au11_1] 0,own (fz (rSl rPlace)) [au11_0] u11.1.Places,own (fz (rSl rTrans)) [au11_1] u11.1.Trans] h77→jjj5 b21 h78:=by
       rintro b21 h78 hf rfl S
       unfold p13_j5 at hf
       unfold jjj5
       intro jjj4
       have hjj4:∀ (b19:Bool) (h79:Heap),p13_j4 u11 b19=some r→h77=h79→St h none' [rowC h66.n [au11_0,au11_1] 0,own (fz (rSl rPlace)) [au11_0] u11.1.Places,own (fz (rSl rTrans)) [au11_1] u11.1.Trans] h77→jjj4 b19 h79:=by
        rintro b19 h79 hf rfl S
        unfold p13_j4 at hf
        unfold jjj4
        intro jjj3
        have hjj3:∀ (b17:Bool) (h80:Heap),p13_j3 u11 b17=some r→h77=h80→St h none' [rowC h66.n [au11_0,au11_1] 0,own (fz (rSl rPlace)) [au11_0] u11.1.Places,own (fz (rSl rTrans)) [au11_1] u11.1.Trans] h77→jjj3 b17 h80:=by
         rintro b17 h80 hf rfl S
         unfold p13_j3 at hf
         unfold jjj3
         intro jjj2
         have hjj2:∀ (b14:Bool) (h81:Heap),p13_j2 u11 b14=some r→h77=h81→St h none' [rowC h66.n [au11_0,au11_1] 0,own (fz (rSl rPlace)) [au11_0] u11.1.Places,own (fz (rSl rTrans)) [au11_1] u11.1.Trans] h77→jjj2 b14 h81:=by
          rintro b14 h81 hf rfl S
          unfold p13_j2 at hf
          unfold jjj2
          intro jjj1
          have hjj1:∀ (b12:Bool) (h82:Heap),p13_j1 u11 b12=some r→h77=h82→St h none' [rowC h66.n [au11_0,au11_1] 0,own (fz (rSl rPlace)) [au11_0] u11.1.Places,own (fz (rSl rTrans)) [au11_1] u11.1.Trans] h77→jjj1 b12 h82:=by
           rintro b12 h82 hf rfl S
           unfold p13_j1 at hf
           unfold jjj1
           intro jjj0
           have hjj0:∀ (b10:Bool) (h83:Heap),p13_j0 b10=some r→h77=h83→St h none' [] h77→jjj0 b10 h83:=by
            rintro b10 h83 hf rfl S
            unfold p13_j0 at hf
            unfold jjj0
            obtain rfl:=oi hf
            exact ⟨rfl,S.sel [] rfl⟩
           refine bP_intro (fun hc=>?_) (fun hc=>?_)
           ·rw [ifT hc] at hf
            refine ifP_iff.2 ⟨rfl,?_⟩
            refine ⟨au11_0,S.rd1 m0 rfl,?_⟩
            obtain ⟨e13,he13,hf⟩:=obind hf
            refine ix_go (S.slz (r:=rPlace) m1) (frz_snap _) he13 fun pe13=>?_
            refine ifP_iff.2 ⟨pe13,?_⟩
            obtain ⟨_,cr84,Rr84,Nr84,Or84,Zr84⟩:=SlR.idx (S.slz (r:=rPlace) m1) (frz_snap _) he13
            obtain rfl:=rPlace_open Rr84
            refine ⟨e13.Tokens,Or84 1 _ rfl,?_⟩
            have S:=S.sel [] rfl
            exact hjj0 _ _  hf rfl S
           ·rw [ifF hc] at hf
            have S:=S.sel [] rfl
            exact hjj0 _ _  hf rfl S
          refine bP_intro (fun hc=>?_) (fun hc=>?_)
          ·rw [ifT hc] at hf
           refine ifP_iff.2 ⟨rfl,?_⟩
           refine ⟨au11_1,S.rd1 m0 rfl,?_⟩
           obtain ⟨e15,he15,hf⟩:=obind hf
           refine ix_go (S.slz (r:=rTrans) m2) (frz_snap _) he15 fun pe15=>?_
           refine ifP_iff.2 ⟨pe15,?_⟩
           obtain ⟨_,cr85,Rr85,Nr85,Or85,Zr85⟩:=SlR.idx (S.slz (r:=rTrans) m2) (frz_snap _) he15
           obtain ⟨cr85_3,cr85_4,cr85_5,rfl,Fr85_3,Fr85_4,Fr85_5⟩:=rTrans_open Rr85
           have S:St _ _ [own (fz (rSl rArc)) [cr85_3] e15.In,_,_,_] _:=S.add (rSl_mk Fr85_3)
           refine ⟨cr85_3,Or85 3 _ rfl,?_⟩
           obtain ⟨e16,he16,hf⟩:=obind hf
           refine ix_go (S.slz (r:=rArc) m0) (frz_snap _) he16 fun pe16=>?_
           refine ifP_iff.2 ⟨pe16,?_⟩
           obtain ⟨_,cr86,Rr86,Nr86,Or86,Zr86⟩:=SlR.idx (S.slz (r:=rArc) m0) (frz_snap _) he16
           obtain rfl:=rArc_open Rr86
           refine ⟨e16.N,Or86 1 _ rfl,?_⟩
           have S:=S.sel [1,2,3] rfl
           exact hjj1 _ _  hf rfl S
          ·rw [ifF hc] at hf
           exact hjj1 _ _  hf rfl S
         refine bP_intro (fun hc=>?_) (fun hc=>?_)
         ·rw [ifT hc] at hf
          refine ifP_iff.2 ⟨rfl,?_⟩
          refine ⟨au11_1,S.rd1 m0 rfl,?_⟩
          obtain ⟨e18,he18,hf⟩:=obind hf
          refine ix_go (S.slz (r:=rTrans) m2) (frz_snap _) he18 fun pe18=>?_
          refine ifP_iff.2 ⟨pe18,?_⟩
          obtain ⟨_,cr87,Rr87,Nr87,Or87,Zr87⟩:=SlR.idx (S.slz (r:=rTrans) m2) (frz_snap _) he18
          obtain ⟨cr87_3,cr87_4,cr87_5,rfl,Fr87_3,Fr87_4,Fr87_5⟩:=rTrans_open Rr87
          refine ⟨e18.Prio,Or87 2 _ rfl,?_⟩
          exact hjj2 _ _  hf rfl S
         ·rw [ifF hc] at hf
          exact hjj2 _ _  hf rfl S
        refine bP_intro (fun hc=>?_) (fun hc=>?_)
        ·rw [ifT hc] at hf
         refine ifP_iff.2 ⟨rfl,?_⟩
         refine ⟨au11_1,S.rd1 m0 rfl,?_⟩
         obtain ⟨e20,he20,hf⟩:=obind hf
         refine ix_go (S.slz (r:=rTrans) m2) (frz_snap _) he20 fun pe20=>?_
         refine ifP_iff.2 ⟨pe20,?_⟩
         obtain ⟨_,cr88,Rr88,Nr88,Or88,Zr88⟩:=SlR.idx (S.slz (r:=rTrans) m2) (frz_snap _) he20
         obtain ⟨cr88_3,cr88_4,cr88_5,rfl,Fr88_3,Fr88_4,Fr88_5⟩:=rTrans_open Rr88
         refine ⟨e20.Delay,Or88 1 _ rfl,?_⟩
         exact hjj3 _ _  hf rfl S
        ·rw [ifF hc] at hf
         exact hjj3 _ _  hf rfl S
       refine bP_intro (fun hc=>?_) (fun hc=>?_)
       ·rw [ifT hc] at hf
        refine ifP_iff.2 ⟨rfl,?_⟩
        refine ⟨au11_1,S.rd1 m0 rfl,?_⟩
        refine ifP_iff.2 ⟨((S.slz (r:=rTrans) m2)).is,?_⟩
        try rw [show (au11_1).slen=_ from ((S.slz (r:=rTrans) m2)).slen]
        exact hjj4 _ _  hf rfl S
       ·rw [ifF hc] at hf
        exact hjj4 _ _  hf rfl S
      refine bP_intro (fun hc=>?_) (fun hc=>?_)
      ·rw [ifT hc] at hf
       refine ⟨(.int .i64 u11.2.Err),(.int .i64 u11.2.At),(.int .i64 u11.2.Line),(.int .i64 u11.2.Col),S.rdN m1 (nl rfl) rfl,?_⟩
       refine oP_intro (.bool ((decide (u11.2.Err=(0:Int)))&&((decide (u11.2.At=(0:Int)))&&((decide (u11.2.Line=(0:Int)))&&((decide (u11.2.Col=(0:Int)))&&true))))) rfl ⟨((decide (u11.2.Err=(0:Int)))&&((decide (u11.2.At=(0:Int)))&&((decide (u11.2.Line=(0:Int)))&&((decide (u11.2.Col=(0:Int)))&&true)))),rfl,?_⟩
       have S:=S.sel [0,2,3] rfl
       exact hjj5 _ _  hf rfl S
      ·rw [ifF hc] at hf
       have S:=S.sel [0,2,3] rfl
       exact hjj5 _ _  hf rfl S
     refine bP_intro (fun hc=>?_) (fun hc=>?_)
     ·rw [ifT hc] at hf
      refine ⟨au23_0,au23_1,S.rdN m1 (nl rfl) rfl,?_⟩
      refine ⟨(.slice h.n 0 0 1 2),(.slice h40.n 0 0 1 6),S.rdN m0 (nl rfl) rfl,?_⟩
      obtain ⟨y25,hy25,hf⟩:=obind hf
      refine ⟨_,Fz.refl _,?_⟩
      refine (r29 (x0:=u23.1) (x1:=(TNet.mk [(TPlace.mk ([112]:List UInt8) (IntKind.wrap .i64 x3))] [(TTrans.mk ([116]:List UInt8) (IntKind.wrap .i64 x0) (IntKind.wrap .i64 x1) [(TArc.mk (0:Int) (IntKind.wrap .i64 ((1:Int)+(IntKind.wrap .i64 x2))))] [] [])])) (f0_0:=(SlR.mono (frz_snap _) (S.slz (r:=rPlace) m6))) (f0_1:=(SlR.mono (frz_snap _) (S.slz (r:=rTrans) m7))) (f1_0:=(S.sl (r:=(fz rPlace)) m4)) (f1_1:=(S.sl (r:=oTrans) m5)) hy25).mono fun v89 h90 T=>?_
      obtain ⟨rfl,T⟩:=T
      have S:St _ _ [_,_,_,_,_,_,_,_,_,_] _:=S.comp T
      refine ⟨y25,rfl,?_⟩
      have S:=S.sel [2,3,8,9] rfl
      exact hjj6 _ _  hf  S
     ·rw [ifF hc] at hf
      have S:=S.sel [2,3,8,9] rfl
      exact hjj6 _ _  hf  S
    refine bP_intro (fun hc=>?_) (fun hc=>?_)
    ·rw [ifT hc] at hf
     refine ⟨(.int .i64 u23.2.Err),(.int .i64 u23.2.At),(.int .i64 u23.2.Line),(.int .i64 u23.2.Col),S.rdN m7 (nl rfl) rfl,?_⟩
     refine oP_intro (.bool ((decide (u23.2.Err=(0:Int)))&&((decide (u23.2.At=(0:Int)))&&((decide (u23.2.Line=(0:Int)))&&((decide (u23.2.Col=(0:Int)))&&true))))) rfl ⟨((decide (u23.2.Err=(0:Int)))&&((decide (u23.2.At=(0:Int)))&&((decide (u23.2.Line=(0:Int)))&&((decide (u23.2.Col=(0:Int)))&&true)))),rfl,?_⟩
     have S:=S.sel [5,6,1,0,8,9,10,11,3,2] rfl
     exact hjj7 _ _  hf rfl S
    ·rw [ifF hc] at hf
     have S:=S.sel [5,6,1,0,8,9,10,11,3,2] rfl
     exact hjj7 _ _  hf rfl S
   refine bP_intro (fun hc=>?_) (fun hc=>?_)
   ·rw [ifD hc] at hf
    obtain ⟨s34,hs34,hf⟩:=obind hf
    refine oP_intro (.str s34) (catS_ev hs34) ⟨s34,rfl,?_⟩
    exact hjj8 _ _  hf  S
   ·rw [ifE hc] at hf
    exact hjj8 _ _  hf  S
  refine bP_intro (fun hc=>?_) (fun hc=>?_)
  ·rw [ifD hc] at hf
   obtain ⟨s35,hs35,hf⟩:=obind hf
   refine oP_intro (.str s35) (catS_ev hs35) ⟨s35,rfl,?_⟩
   exact hjj9 _ _  hf  S
  ·rw [ifE hc] at hf
   exact hjj9 _ _  hf  S
 refine bP_intro (fun hc=>?_) (fun hc=>?_)
 ·rw [ifD hc] at hf
  obtain ⟨s38,hs38,hf⟩:=obind hf
  refine oP_intro (.str s38) (catS_ev hs38) ⟨s38,rfl,?_⟩
  have S:=S.sel [7,1,0,6,5,3,2] rfl
  exact hjj10 _ _  hf  S
 ·rw [ifE hc] at hf
  have S:=S.sel [7,1,0,6,5,3,2] rfl
  exact hjj10 _ _  hf  S
end Go.Proofs.Ytloaoofdbilpeaa
