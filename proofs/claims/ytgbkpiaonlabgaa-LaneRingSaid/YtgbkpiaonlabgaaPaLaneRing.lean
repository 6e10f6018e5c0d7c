/- Pure functions, and that the machine's functions answer as they do. No condition. Own work. -/
import Derived.Test.YtgbkpiaonlabgaaSLaneRing
import Derived.Test.YtgbkpiaonlabgaaTLaneRing
set_option linter.unusedSimpArgs false
set_option linter.unusedVariables false
namespace Go.Proofs.Ytgbkpiaonlabgaa
open Go Go.Am
noncomputable section
def p23_l0 (x0:TNet) (st:Int×(List TPlace)):Option ((Int×(List TPlace))⊕(List TPlace)):=match st with | (y10,c11)=>if y10 < (x0.Places.length:Int) then ((idx x0.Places y10).bind fun e12=>(catS ([112]:List UInt8) ([(IntKind.wrap .u8 (IntKind.wrap .i64 (97+(Int.tmod y10 26)))),(IntKind.wrap .u8 (IntKind.wrap .i64 (97+(IntKind.wrap .i64 (Int.tdiv y10 26)))))].map u8)).bind fun s13=>(app 24 c11 [(TPlace.mk s13 e12.Tokens)]).bind fun c14=>some (.inl ((IntKind.wrap .i64 (y10+1)),c14))) else (some (.inr c11))
def p23_l1 (x0:TNet) (st:Int×(List TTrans)):Option ((Int×(List TTrans))⊕(List TTrans)):=match st with | (y15,c16)=>if y15 < (x0.Trans.length:Int) then ((idx x0.Trans y15).bind fun e17=>(catS ([116]:List UInt8) ([(IntKind.wrap .u8 (IntKind.wrap .i64 (97+(Int.tmod y15 26)))),(IntKind.wrap .u8 (IntKind.wrap .i64 (97+(IntKind.wrap .i64 (Int.tdiv y15 26)))))].map u8)).bind fun s18=>(app 104 c16 [(TTrans.mk s18 e17.Delay e17.Prio e17.In e17.Not e17.Out)]).bind fun c19=>some (.inl ((IntKind.wrap .i64 (y15+1)),c19))) else (some (.inr c16))
def p23 (x0:TNet):Option TNet:=(loopC (p23_l0 x0) (0,[])).bind fun res20=>((fun (c21:List TPlace)=>(loopC (p23_l1 x0) (0,[])).bind fun res22=>((fun (c23:List TTrans)=>some (TNet.mk c21 c23)) res22)) res20)
theorem r23 {h:Heap} {a0_0:AV} {a0_1:AV} {x0:TNet} (f0_0:SlR rPlace (Snap h) a0_0 x0.Places) (f0_1:SlR rTrans (Frz h) a0_1 x0.Trans) {r:TNet} (hf:p23 x0=some r):ZC F 23 [(.agg [a0_0,a0_1])] h fun v h'=>∃ c0,∃ c1,v=.agg [c0,c1]∧St h none' [own (oSl (fz rPlace)) [c0] r.Places,own (oSl (fz rTrans)) [c1] r.Trans] h':=by
 refine w23 ?_
 unfold W23
 unfold p23 at hf
 have S:St h none' [] h:=St.refl _ _
 have S:=S.add (rSl_mk f0_1)
 intro h24
 have S:St _ _ [rowC h.n [a0_0,a0_1] 0,own (fz (rSl rTrans)) [a0_1] x0.Trans] _:=S.pushRow [a0_0,a0_1]
 intro h25
 have S:St _ _ [rowC h24.n [.nilSlice,.nilSlice] 0,_,_] _:=S.pushRow [.nilSlice,.nilSlice]
 intro h26
 have S:St _ _ [rowC h25.n [.nilSlice,.nilSlice] 0,_,_,_] _:=S.pushRow [.nilSlice,.nilSlice]
 obtain ⟨h27,e28,S⟩:=S.store (off:=0) (n:=2) (x:=(.agg [.nilSlice,.nilSlice])) (cs':=[.nilSlice,.nilSlice]) (nl rfl) rfl rfl rfl
 refine ⟨h27,e28,?_⟩
 obtain ⟨res20,hL,hf⟩:=oB hf
 obtain ⟨n29,hL⟩:=loopC_iff.1 hL
 have S:St _ _ [own (oSl (fz rPlace)) [.nilSlice] [],_,_,_,_] _:=S.addE (oSl_nil _ _)
 have S:=S.sel [3,2,1,4,0] rfl
 refine loopm23_0 (X0:=fun (y30:AV) (y31:AV) (y32:AV) (y33:Int) (h34:Heap)=>∃ (c35:AV),∃ (c21:List TPlace),AV.ptr h.n 0 0=y30∧AV.ptr h24.n 0 0=y31∧AV.ptr h25.n 0 0=y32∧St h none' [rowC h.n [a0_0,a0_1] 0,rowC h24.n [.nilSlice,.nilSlice] 0,rowC h25.n [c35,.nilSlice] 0,own (fz (rSl rTrans)) [a0_1] x0.Trans,own (oSl (fz rPlace)) [c35] c21] h34∧c21=res20) ?_ (loop23_0 (I:=fun (m36:Nat) (y37:AV) (y38:AV) (y39:AV) (y10:Int) (h40:Heap)=>∃ (c41:AV),∃ (c11:List TPlace),AV.ptr h.n 0 0=y37∧AV.ptr h24.n 0 0=y38∧AV.ptr h25.n 0 0=y39∧St h none' [rowC h.n [a0_0,a0_1] 0,rowC h24.n [.nilSlice,.nilSlice] 0,rowC h25.n [c41,.nilSlice] 0,own (fz (rSl rTrans)) [a0_1] x0.Trans,own (oSl (fz rPlace)) [c41] c11] h40∧iter (p23_l0 x0) m36 (y10,c11)=some res20) ?_ (m:=n29) ?_)
 ·rintro y30 y31 y32 y33 h34 ⟨c35,c21,rfl,rfl,rfl,S,rfl⟩
  try dsimp only at hf
  obtain ⟨res22,hL,hf⟩:=oB hf
  obtain ⟨n42,hL⟩:=loopC_iff.1 hL
  have S:St _ _ [own (oSl (fz rTrans)) [.nilSlice] [],_,_,_,_,_] _:=S.addE (oSl_nil _ _)
  have S:=S.sel [1,2,3,4,5,0] rfl
  refine loopm23_1 (X2:=fun (y43:AV) (y44:AV) (y45:AV) (y46:Int) (h47:Heap)=>∃ (c48:AV),∃ (c23:List TTrans),AV.ptr h24.n 0 0=y44∧AV.ptr h25.n 0 0=y45∧St h none' [rowC h24.n [.nilSlice,.nilSlice] 0,rowC h25.n [c35,c48] 0,own (oSl (fz rPlace)) [c35] c21,own (oSl (fz rTrans)) [c48] c23] h47∧c23=res22) ?_ (loop23_1 (I:=fun (m49:Nat) (y50:AV) (y51:AV) (y52:AV) (y15:Int) (h53:Heap)=>∃ (c54:AV),∃ (c16:List TTrans),AV.ptr h.n 0 0=y50∧AV.ptr h24.n 0 0=y51∧AV.ptr h25.n 0 0=y52∧St h none' [rowC h.n [a0_0,a0_1] 0,rowC h24.n [.nilSlice,.nilSlice] 0,rowC h25.n [c35,c54] 0,own (fz (rSl rTrans)) [a0_1] x0.Trans,own (oSl (fz rPlace)) [c35] c21,own (oSl (fz rTrans)) [c54] c16] h53∧iter (p23_l1 x0) m49 (y15,c16)=some res22) ?_ (m:=n42) ?_)
  ·rintro y43 y44 y45 y46 h47 ⟨c48,c23,rfl,rfl,S,rfl⟩
   try dsimp only at hf
   refine ⟨c35,c48,S.rdN m1 (nl rfl) rfl,?_⟩
   obtain ⟨h55,e56,S⟩:=S.store (off:=0) (n:=2) (x:=(.agg [c35,c48])) (cs':=[c35,c48]) (nl rfl) rfl rfl rfl
   refine ⟨h55,e56,?_⟩
   refine ⟨c35,c48,S.rdN m0 (nl rfl) rfl,?_⟩
   obtain rfl:=oi hf
   exact ⟨c35,c48,rfl,S.sel [2,3] rfl⟩
  ·rintro m57 y50 y51 y52 y15 h53 ⟨c54,c16,rfl,rfl,rfl,S,hit⟩
   obtain ⟨m49,q58,rfl,hf,hk⟩:=iter_some hit
   clear hit
   unfold B23_1
   unfold p23_l1 at hf
   try dsimp only at hf
   refine iI.2 ⟨rfl,?_⟩
   refine ⟨a0_1,S.rd1 m0 rfl,?_⟩
   refine iI.2 ⟨((S.slz (r:=rTrans) m3)).is,?_⟩
   try rw [show (a0_1).slen=_ from ((S.slz (r:=rTrans) m3)).slen]
   refine bI (fun hc=>?_) (fun hc=>?_)
   ·rw [ifD hc] at hf
    refine iI.2 ⟨rfl,?_⟩
    refine ⟨a0_1,S.rd1 m0 rfl,?_⟩
    obtain ⟨e17,he17,hf⟩:=oB hf
    refine ix_go (S.slz (r:=rTrans) m3) (frz_snap _) he17 fun pe17=>?_
    obtain ⟨_,cr59,Rr59,Nr59,Or59,Zr59⟩:=SlR.idx (S.slz (r:=rTrans) m3) (frz_snap _) he17
    obtain ⟨cr59_3,cr59_4,cr59_5,rfl,Fr59_3,Fr59_4,Fr59_5⟩:=rTrans_open Rr59
    have S:St _ _ [own (fz (rSl rArc)) [cr59_3] e17.In,_,_,_,_,_,_] _:=S.add (rSl_mk Fr59_3)
    have S:St _ _ [own (fz (rSl rArc)) [cr59_4] e17.Not,_,_,_,_,_,_,_] _:=S.add (rSl_mk Fr59_4)
    have S:St _ _ [own (fz (rSl rArc)) [cr59_5] e17.Out,_,_,_,_,_,_,_,_] _:=S.add (rSl_mk Fr59_5)
    refine ⟨(.str e17.Name),(.int .i64 e17.Delay),(.int .i64 e17.Prio),cr59_3,cr59_4,cr59_5,Nr59,?_⟩
    intro h60
    have S:St _ _ [rowC h53.n [(.str ([]:List UInt8)),(.int .i64 0),(.int .i64 0),.nilSlice,.nilSlice,.nilSlice] 0,_,_,_,_,_,_,_,_,_] _:=S.pushRow [(.str ([]:List UInt8)),(.int .i64 0),(.int .i64 0),.nilSlice,.nilSlice,.nilSlice]
    obtain ⟨h61,e62,S⟩:=S.store (off:=0) (n:=6) (x:=(.agg [(.str e17.Name),(.int .i64 e17.Delay),(.int .i64 e17.Prio),cr59_3,cr59_4,cr59_5])) (cs':=[(.str e17.Name),(.int .i64 e17.Delay),(.int .i64 e17.Prio),cr59_3,cr59_4,cr59_5]) (nl rfl) rfl rfl rfl
    refine ⟨h61,e62,?_⟩
    intro h63
    have S:St _ _ [rowC h61.n [(.int .u8 (IntKind.wrap .u8 (IntKind.wrap .i64 (97+(Int.tmod y15 26))))),(.int .u8 (IntKind.wrap .u8 (IntKind.wrap .i64 (97+(IntKind.wrap .i64 (Int.tdiv y15 26))))))] 0,_,_,_,_,_,_,_,_,_,_] _:=S.pushRow [(.int .u8 (IntKind.wrap .u8 (IntKind.wrap .i64 (97+(Int.tmod y15 26))))),(.int .u8 (IntKind.wrap .u8 (IntKind.wrap .i64 (97+(IntKind.wrap .i64 (Int.tdiv y15 26))))))]
    have S:St _ _ [own (oSl (fz (rI .u8))) [(.slice h61.n 0 0 2 1)] [(IntKind.wrap .u8 (IntKind.wrap .i64 (97+(Int.tmod y15 26)))),(IntKind.wrap .u8 (IntKind.wrap .i64 (97+(IntKind.wrap .i64 (Int.tdiv y15 26)))))],_,_,_,_,_,_,_,_,_,_] _:=St.lit (r:=(rI .u8)) (els:=([(IntKind.wrap .u8 (IntKind.wrap .i64 (97+(Int.tmod y15 26)))),(IntKind.wrap .u8 (IntKind.wrap .i64 (97+(IntKind.wrap .i64 (Int.tdiv y15 26)))))]:List Int).map fun n=>[AV.int .u8 n]) (l:=([(IntKind.wrap .u8 (IntKind.wrap .i64 (97+(Int.tmod y15 26)))),(IntKind.wrap .u8 (IntKind.wrap .i64 (97+(IntKind.wrap .i64 (Int.tdiv y15 26)))))]:List Int)) (n:=2) S rfl (all2_intL _) rfl
    refine ⟨_,bytes_ev (S.sl (r:=(fz (rI .u8))) m0),([(IntKind.wrap .u8 (IntKind.wrap .i64 (97+(Int.tmod y15 26)))),(IntKind.wrap .u8 (IntKind.wrap .i64 (97+(IntKind.wrap .i64 (Int.tdiv y15 26)))))].map u8),rfl,?_⟩
    obtain ⟨s18,hs18,hf⟩:=oB hf
    refine oI (.str s18) (catS_ev hs18) ⟨s18,rfl,?_⟩
    have S:=S.sel [1,0,2,3,4,5,6,7,8,9,10] rfl
    obtain ⟨h64,e65,S⟩:=S.store (off:=0) (n:=1) (x:=(.str s18)) (cs':=[(.str s18),(.int .i64 e17.Delay),(.int .i64 e17.Prio),cr59_3,cr59_4,cr59_5]) (nl rfl) rfl rfl rfl
    refine ⟨h64,e65,?_⟩
    refine iI.2 ⟨rfl,?_⟩
    refine ⟨c54,S.rd1 m7 rfl,?_⟩
    refine ⟨(.str s18),(.int .i64 e17.Delay),(.int .i64 e17.Prio),cr59_3,cr59_4,cr59_5,S.rdN m0 (nl rfl) rfl,?_⟩
    intro h66
    have S:St _ _ [rowC h64.n [(.str s18),(.int .i64 e17.Delay),(.int .i64 e17.Prio),cr59_3,cr59_4,cr59_5] 0,_,_,_,_,_,_,_,_,_,_,_] _:=S.pushRow [(.str s18),(.int .i64 e17.Delay),(.int .i64 e17.Prio),cr59_3,cr59_4,cr59_5]
    obtain ⟨c19,hc19,hf⟩:=oB hf
    have S:St _ _ [own (fz rTrans) [(.str s18),(.int .i64 e17.Delay),(.int .i64 e17.Prio),cr59_3,cr59_4,cr59_5] (TTrans.mk s18 e17.Delay e17.Prio e17.In e17.Not e17.Out),_,_,_,_,_,_,_,_,_,_,_,_] _:=S.add (r:=rTrans) (x:=(TTrans.mk s18 e17.Delay e17.Prio e17.In e17.Not e17.Out)) (rTrans_mk (x:=(TTrans.mk s18 e17.Delay e17.Prio e17.In e17.Not e17.Out)) (S.slz (r:=rArc) m5) (S.slz (r:=rArc) m4) (S.slz (r:=rArc) m3))
    have S:=S.sel [12,0,1,2,3,4,5,6,7,8,9,10,11] rfl
    have mc19:=app_some hc19
    obtain ⟨v67,h68,e69,S⟩:=St.app1R (r:=(fz rTrans)) (b:=104) S mc19.1
    have S:St _ _ [own (oSl (fz rTrans)) [v67] c19,_,_,_,_,_,_,_,_,_,_] _:=S.cast1 (by rw [← mc19.2]<;>rfl)
    refine ⟨v67,h68,e69,?_⟩
    refine iI.2 ⟨rfl,?_⟩
    have S:=S.sel [8,0,1,2,3,4,5,6,7,9,10] rfl
    obtain ⟨h70,e71,S⟩:=S.storeS (off:=1) (x:=v67) (cs':=[c35,v67]) (nl rfl) ((S.sl (r:=(fz rTrans)) m1)).is rfl
    refine ⟨h70,e71,?_⟩
    have S:=S.sel [7,8,0,9,10,1] rfl
    obtain rfl:=oi hf
    exact ⟨m49,Nat.lt_succ_self _,v67,c19,rfl,rfl,rfl,S,hk⟩
   rw [ifE hc] at hf
   have S:=S.sel [1,2,4,5] rfl
   obtain rfl:=oi hf
   obtain rfl:=hk
   exact ⟨c54,c16,rfl,rfl,S,rfl⟩
  exact ⟨.nilSlice,[],rfl,rfl,rfl,S,hL⟩
 ·rintro m72 y37 y38 y39 y10 h40 ⟨c41,c11,rfl,rfl,rfl,S,hit⟩
  obtain ⟨m36,q73,rfl,hf,hk⟩:=iter_some hit
  clear hit
  unfold B23_0
  unfold p23_l0 at hf
  try dsimp only at hf
  refine iI.2 ⟨rfl,?_⟩
  refine ⟨a0_0,S.rd1 m0 rfl,?_⟩
  refine iI.2 ⟨(f0_0).is,?_⟩
  try rw [show (a0_0).slen=_ from (f0_0).slen]
  refine bI (fun hc=>?_) (fun hc=>?_)
  ·rw [ifD hc] at hf
   refine iI.2 ⟨rfl,?_⟩
   refine ⟨a0_0,S.rd1 m0 rfl,?_⟩
   obtain ⟨e12,he12,hf⟩:=oB hf
   refine ix_go f0_0 (sM S.le) he12 fun pe12=>?_
   obtain ⟨_,cr74,Rr74,Nr74,Or74,Zr74⟩:=SlR.idx f0_0 (sM S.le) he12
   obtain rfl:=rPlace_open Rr74
   refine ⟨(.str e12.Name),(.int .i64 e12.Tokens),Nr74,?_⟩
   intro h75
   have S:St _ _ [rowC h40.n [(.str ([]:List UInt8)),(.int .i64 0)] 0,_,_,_,_,_] _:=S.pushRow [(.str ([]:List UInt8)),(.int .i64 0)]
   obtain ⟨h76,e77,S⟩:=S.store (off:=0) (n:=2) (x:=(.agg [(.str e12.Name),(.int .i64 e12.Tokens)])) (cs':=[(.str e12.Name),(.int .i64 e12.Tokens)]) (nl rfl) rfl rfl rfl
   refine ⟨h76,e77,?_⟩
   intro h78
   have S:St _ _ [rowC h76.n [(.int .u8 (IntKind.wrap .u8 (IntKind.wrap .i64 (97+(Int.tmod y10 26))))),(.int .u8 (IntKind.wrap .u8 (IntKind.wrap .i64 (97+(IntKind.wrap .i64 (Int.tdiv y10 26))))))] 0,_,_,_,_,_,_] _:=S.pushRow [(.int .u8 (IntKind.wrap .u8 (IntKind.wrap .i64 (97+(Int.tmod y10 26))))),(.int .u8 (IntKind.wrap .u8 (IntKind.wrap .i64 (97+(IntKind.wrap .i64 (Int.tdiv y10 26))))))]
   have S:St _ _ [own (oSl (fz (rI .u8))) [(.slice h76.n 0 0 2 1)] [(IntKind.wrap .u8 (IntKind.wrap .i64 (97+(Int.tmod y10 26)))),(IntKind.wrap .u8 (IntKind.wrap .i64 (97+(IntKind.wrap .i64 (Int.tdiv y10 26)))))],_,_,_,_,_,_] _:=St.lit (r:=(rI .u8)) (els:=([(IntKind.wrap .u8 (IntKind.wrap .i64 (97+(Int.tmod y10 26)))),(IntKind.wrap .u8 (IntKind.wrap .i64 (97+(IntKind.wrap .i64 (Int.tdiv y10 26)))))]:List Int).map fun n=>[AV.int .u8 n]) (l:=([(IntKind.wrap .u8 (IntKind.wrap .i64 (97+(Int.tmod y10 26)))),(IntKind.wrap .u8 (IntKind.wrap .i64 (97+(IntKind.wrap .i64 (Int.tdiv y10 26)))))]:List Int)) (n:=2) S rfl (all2_intL _) rfl
   refine ⟨_,bytes_ev (S.sl (r:=(fz (rI .u8))) m0),([(IntKind.wrap .u8 (IntKind.wrap .i64 (97+(Int.tmod y10 26)))),(IntKind.wrap .u8 (IntKind.wrap .i64 (97+(IntKind.wrap .i64 (Int.tdiv y10 26)))))].map u8),rfl,?_⟩
   obtain ⟨s13,hs13,hf⟩:=oB hf
   refine oI (.str s13) (catS_ev hs13) ⟨s13,rfl,?_⟩
   have S:=S.sel [1,0,2,3,4,5,6] rfl
   obtain ⟨h79,e80,S⟩:=S.store (off:=0) (n:=1) (x:=(.str s13)) (cs':=[(.str s13),(.int .i64 e12.Tokens)]) (nl rfl) rfl rfl rfl
   refine ⟨h79,e80,?_⟩
   refine iI.2 ⟨rfl,?_⟩
   refine ⟨c41,S.rd1 m4 rfl,?_⟩
   refine ⟨(.str s13),(.int .i64 e12.Tokens),S.rdN m0 (nl rfl) rfl,?_⟩
   intro h81
   have S:St _ _ [rowC h79.n [(.str s13),(.int .i64 e12.Tokens)] 0,_,_,_,_,_,_,_] _:=S.pushRow [(.str s13),(.int .i64 e12.Tokens)]
   obtain ⟨c14,hc14,hf⟩:=oB hf
   have S:St _ _ [own (fz rPlace) [(.str s13),(.int .i64 e12.Tokens)] (TPlace.mk s13 e12.Tokens),_,_,_,_,_,_,_,_] _:=S.add (r:=rPlace) (x:=(TPlace.mk s13 e12.Tokens)) (rPlace_mk (x:=(TPlace.mk s13 e12.Tokens)))
   have S:=S.sel [8,0,1,2,3,4,5,6,7] rfl
   have mc14:=app_some hc14
   obtain ⟨v82,h83,e84,S⟩:=St.app1R (r:=(fz rPlace)) (b:=24) S mc14.1
   have S:St _ _ [own (oSl (fz rPlace)) [v82] c14,_,_,_,_,_,_] _:=S.cast1 (by rw [← mc14.2]<;>rfl)
   refine ⟨v82,h83,e84,?_⟩
   refine iI.2 ⟨rfl,?_⟩
   have S:=S.sel [5,0,1,2,3,4,6] rfl
   obtain ⟨h85,e86,S⟩:=S.storeS (off:=0) (x:=v82) (cs':=[v82,.nilSlice]) (nl rfl) ((S.sl (r:=(fz rPlace)) m1)).is rfl
   refine ⟨h85,e86,?_⟩
   have S:=S.sel [4,5,0,6,1] rfl
   obtain rfl:=oi hf
   exact ⟨m36,Nat.lt_succ_self _,v82,c14,rfl,rfl,rfl,S,hk⟩
  rw [ifE hc] at hf
  obtain rfl:=oi hf
  obtain rfl:=hk
  exact ⟨c41,c11,rfl,rfl,rfl,S,rfl⟩
 exact ⟨.nilSlice,[],rfl,rfl,rfl,S,hL⟩
def p56_l0 (y10:List TArc) (st:Int×(List Int)):Option ((Int×(List Int))⊕(List Int)):=match st with | (y11,l12)=>if y11 < (y10.length:Int) then ((idx y10 y11).bind fun e13=>(app 8 l12 [e13.Place]).bind fun l14=>some (.inl ((IntKind.wrap .i64 (y11+1)),l14))) else (some (.inr l12))
def p56_l1 (t0:TTrans) (st:Int×(List Int)):Option ((Int×(List Int))⊕(List Int)):=match st with | (y15,l16)=>if y15 < 2 then ((idx [t0.In,t0.Not] y15).bind fun y10=>(loopC (p56_l0 y10) (0,l16)).bind fun res17=>((fun (l18:List Int)=>some (.inl ((IntKind.wrap .i64 (y15+1)),l18))) res17)) else (some (.inr l16))
def p56 (t0:TTrans):Option (List Int):=(loopC (p56_l1 t0) (0,[])).bind fun res19=>((fun (l20:List Int)=>some l20) res19)
theorem r56 {h:Heap} {a0_3:AV} {a0_4:AV} {a0_5:AV} {t0:TTrans} (f0_3:SlR rArc (Snap h) a0_3 t0.In) (f0_4:SlR rArc (Snap h) a0_4 t0.Not) (f0_5:SlR rArc (Snap h) a0_5 t0.Out) {r:(List Int)} (hf:p56 t0=some r):ZC F 56 [(.agg [(.str t0.Name),(.int .i64 t0.Delay),(.int .i64 t0.Prio),a0_3,a0_4,a0_5])] h fun v h'=>St h none' [own (oSl (fz (rI .i64))) [v] r] h':=by
 refine w56 ?_
 unfold W56
 unfold p56 at hf
 have S:St h none' [] h:=St.refl _ _
 intro h21
 have S:St _ _ [rowC h.n [(.str t0.Name),(.int .i64 t0.Delay),(.int .i64 t0.Prio),a0_3,a0_4,a0_5] 0] _:=S.pushRow [(.str t0.Name),(.int .i64 t0.Delay),(.int .i64 t0.Prio),a0_3,a0_4,a0_5]
 refine ⟨a0_3,S.rd1 m0 rfl,?_⟩
 refine ⟨a0_4,S.rd1 m0 rfl,?_⟩
 refine oI (.agg [a0_3,a0_4]) (by simp only [POp.ev,place,sl_cells (f0_3).is,sl_tup (f0_3).is,sl_cells (f0_4).is,sl_tup (f0_4).is]<;>first | rfl | (simp [AV.cells,AV.isTup,splice]; done) | (simp [AV.cells,AV.isTup,splice]; rfl)) ?_
 obtain ⟨res19,hL,hf⟩:=oB hf
 obtain ⟨n22,hL⟩:=loopC_iff.1 hL
 have S:St _ _ [own (oSl (fz (rI .i64))) [.nilSlice] [],_] _:=S.addE (oSl_nil _ _)
 have S:=S.sel [0] rfl
 refine loopm56_1 (X0:=fun (l23:AV) (y24:AV) (y25:Int) (h26:Heap)=>∃ (l20:List Int),St h none' [own (oSl (fz (rI .i64))) [l23] l20] h26∧l20=res19) ?_ (loop56_1 (I:=fun (m27:Nat) (l28:AV) (y29:AV) (y15:Int) (h30:Heap)=>∃ (l16:List Int),AV.agg [a0_3,a0_4]=y29∧St h none' [own (oSl (fz (rI .i64))) [l28] l16] h30∧iter (p56_l1 t0) m27 (y15,l16)=some res19) ?_ (m:=n22) ?_)
 ·rintro l23 y24 y25 h26 ⟨l20,S,rfl⟩
  try dsimp only at hf
  obtain rfl:=oi hf
  exact S.sel [0] rfl
 ·rintro m31 l28 y29 y15 h30 ⟨l16,rfl,S,hit⟩
  obtain ⟨m27,q32,rfl,hf,hk⟩:=iter_some hit
  clear hit
  unfold B56_1
  unfold p56_l1 at hf
  try dsimp only at hf
  refine bI (fun hc=>?_) (fun hc=>?_)
  ·rw [ifD hc] at hf
   obtain ⟨y10,hy10,hf⟩:=oB hf
   obtain ⟨y33,ey33,Fy33⟩:=arr1_sl (r:=rArc) (k:=.i64) (.cons f0_3 (.cons f0_4 .nil)) rfl hy10
   refine oI y33 ey33 ?_
   refine iI.2 ⟨(Fy33).is,?_⟩
   try rw [show (y33).slen=_ from (Fy33).slen]
   obtain ⟨res17,hL,hf⟩:=oB hf
   obtain ⟨n34,hL⟩:=loopC_iff.1 hL
   refine loopm56_0 (X2:=fun (l35:AV) (y36:AV) (y37:Int) (y38:AV) (y39:Int) (y40:Int) (h41:Heap)=>∃ (l18:List Int),AV.agg [a0_3,a0_4]=y36∧y15=y37∧St h none' [own (oSl (fz (rI .i64))) [l35] l18] h41∧l18=res17) ?_ (loop56_0 (I:=fun (m42:Nat) (l43:AV) (y44:AV) (y45:Int) (y46:AV) (y47:Int) (y11:Int) (h48:Heap)=>∃ (l12:List Int),AV.agg [a0_3,a0_4]=y44∧y15=y45∧y33=y46∧(y10.length:Int)=y47∧St h none' [own (oSl (fz (rI .i64))) [l43] l12] h48∧iter (p56_l0 y10) m42 (y11,l12)=some res17) ?_ (m:=n34) ?_)
   ·rintro l35 y36 y37 y38 y39 y40 h41 ⟨l18,rfl,rfl,S,rfl⟩
    try dsimp only at hf
    obtain rfl:=oi hf
    exact ⟨m27,Nat.lt_succ_self _,l18,rfl,S,hk⟩
   ·rintro m49 l43 y44 y45 y46 y47 y11 h48 ⟨l12,rfl,rfl,rfl,rfl,S,hit⟩
    obtain ⟨m42,q50,rfl,hf,hk⟩:=iter_some hit
    clear hit
    unfold B56_0
    unfold p56_l0 at hf
    try dsimp only at hf
    refine bI (fun hc=>?_) (fun hc=>?_)
    ·rw [ifD hc] at hf
     obtain ⟨e13,he13,hf⟩:=oB hf
     refine ix_go Fy33 (sM S.le) he13 fun pe13=>?_
     obtain ⟨_,cr51,Rr51,Nr51,Or51,Zr51⟩:=SlR.idx Fy33 (sM S.le) he13
     obtain rfl:=rArc_open Rr51
     refine ⟨(.int .i64 e13.Place),(.int .i64 e13.N),Nr51,?_⟩
     intro h52
     have S:St _ _ [rowC h48.n [(.int .i64 0),(.int .i64 0)] 0,_] _:=S.pushRow [(.int .i64 0),(.int .i64 0)]
     obtain ⟨h53,e54,S⟩:=S.store (off:=0) (n:=2) (x:=(.agg [(.int .i64 e13.Place),(.int .i64 e13.N)])) (cs':=[(.int .i64 e13.Place),(.int .i64 e13.N)]) (nl rfl) rfl rfl rfl
     refine ⟨h53,e54,?_⟩
     refine ⟨e13.Place,S.rd1 m0 rfl,?_⟩
     intro h55
     have S:St _ _ [rowC h53.n [(.int .i64 e13.Place)] 0,_,_] _:=S.pushRow [(.int .i64 e13.Place)]
     obtain ⟨l14,hl14,hf⟩:=oB hf
     have S:St _ _ [own (fz (rI .i64)) [(.int .i64 e13.Place)] e13.Place,_,_,_] _:=S.add (r:=(rI .i64)) (x:=e13.Place) rfl
     have S:=S.sel [3,0,1,2] rfl
     have ml14:=app_some hl14
     obtain ⟨v56,h57,e58,S⟩:=St.app1R (r:=(fz (rI .i64))) (b:=8) S ml14.1
     have S:St _ _ [own (oSl (fz (rI .i64))) [v56] l14,_] _:=S.cast1 (by rw [← ml14.2]<;>rfl)
     refine ⟨v56,h57,e58,?_⟩
     have S:=S.sel [0] rfl
     obtain rfl:=oi hf
     exact ⟨m42,Nat.lt_succ_self _,l14,rfl,rfl,rfl,rfl,S,hk⟩
    rw [ifE hc] at hf
    obtain rfl:=oi hf
    obtain rfl:=hk
    exact ⟨l12,rfl,rfl,S,rfl⟩
   exact ⟨l16,rfl,rfl,rfl,rfl,S,hL⟩
  rw [ifE hc] at hf
  obtain rfl:=oi hf
  obtain rfl:=hk
  exact ⟨l16,S,rfl⟩
 exact ⟨[],rfl,S,hL⟩
def p43_j0 (y10:Int) (y11:Int) (b12:Bool):Option ((Int×Int)⊕(Unit⊕Int)):=if b12=true then (some (.inr (.inl ()))) else (some (.inl (y10,(IntKind.wrap .i64 (y11+1)))))
def p43_l0 (x1:TPart) (y13:List Int) (st:Int×Int):Option ((Int×Int)⊕(Unit⊕Int)):=match st with | (y10,y11)=>if y11 < (y13.length:Int) then ((idx y13 y11).bind fun e14=>if e14 < 0 then (p43_j0 y10 y11 true) else (p43_j0 y10 y11 (decide (x1.N≤e14)))) else (some (.inr (.inr y10)))
def p43_l1 (x1:TPart) (st:Int×Int):Option ((Int×Int)⊕(Unit⊕Int)):=match st with | (y15,y16)=>if y16 < 2 then ((idx [x1.Places,x1.Trans] y16).bind fun y13=>(loopC (p43_l0 x1 y13) (y15,0)).bind fun res17=>(match res17 with | .inl _=>some (.inr (.inl ())) | .inr y18=>some (.inl (y18,(IntKind.wrap .i64 (y16+1)))))) else (some (.inr (.inr y15)))
def p43_l2 (x1:TPart) (y19:Int) (y20:(List Int)) (st:Int×Int):Option ((Int×Int)⊕(Unit⊕Int)):=match st with | (y21,y22)=>if y22 < (y20.length:Int) then ((idx y20 y22).bind fun e23=>(idx x1.Places e23).bind fun e24=>(idx x1.Trans y19).bind fun e25=>if (!decide (e24=e25))=true then (some (.inr (.inl ()))) else (some (.inl (y21,(IntKind.wrap .i64 (y22+1)))))) else (some (.inr (.inr y21)))
def p43_j1 (y26:Int) (y27:Int) (b28:Bool):Option ((Int×Int)⊕(Unit⊕Int)):=if b28=true then (some (.inr (.inl ()))) else (some (.inl (y26,(IntKind.wrap .i64 (y27+1)))))
def p43_l3 (x1:TPart) (y19:Int) (e29:TTrans) (st:Int×Int):Option ((Int×Int)⊕(Unit⊕Int)):=match st with | (y26,y27)=>if y27 < (e29.Out.length:Int) then ((idx e29.Out y27).bind fun e30=>if e29.Delay=0 then ((idx x1.Places e30.Place).bind fun e31=>(idx x1.Trans y19).bind fun e32=>p43_j1 y26 y27 (!decide (e31=e32))) else (p43_j1 y26 y27 false)) else (some (.inr (.inr y26)))
def p43_l4 (x0:TNet) (x1:TPart) (st:Int×Int):Option ((Int×Int)⊕(Unit⊕Unit)):=match st with | (y33,y19)=>if y19 < (x0.Trans.length:Int) then ((idx x0.Trans y19).bind fun e29=>(p56 e29).bind fun y20=>(loopC (p43_l2 x1 y19 y20) (y33,0)).bind fun res34=>(match res34 with | .inl _=>some (.inr (.inl ())) | .inr y35=>(loopC (p43_l3 x1 y19 e29) (y35,0)).bind fun res36=>(match res36 with | .inl _=>some (.inr (.inl ())) | .inr y37=>some (.inl (y37,(IntKind.wrap .i64 (y19+1))))))) else (some (.inr (.inr ())))
def p43_j2 (x0:TNet) (x1:TPart) (b38:Bool):Option Int:=if b38=true then (some 1) else ((loopC (p43_l1 x1) (0,0)).bind fun res39=>(match res39 with | .inl _=>some 1 | .inr y40=>(loopC (p43_l4 x0 x1) (y40,0)).bind fun res41=>(match res41 with | .inl _=>some 9 | .inr _=>some 0)))
def p43_j3 (x0:TNet) (x1:TPart) (b42:Bool):Option Int:=if b42=true then (p43_j2 x0 x1 true) else (p43_j2 x0 x1 (decide (32 < x1.N)))
def p43_j4 (x0:TNet) (x1:TPart) (b43:Bool):Option Int:=if b43=true then (p43_j3 x0 x1 true) else (p43_j3 x0 x1 (decide (x1.N < 1)))
def p43 (x0:TNet) (x1:TPart):Option Int:=if (!decide ((x1.Places.length:Int)=(x0.Places.length:Int)))=true then (p43_j4 x0 x1 true) else (p43_j4 x0 x1 (!decide ((x1.Trans.length:Int)=(x0.Trans.length:Int))))
theorem r43 {h:Heap} {a0_0:AV} {a0_1:AV} {a1_1:AV} {a1_2:AV} {x0:TNet} {x1:TPart} (f0_0:SlR rPlace (Snap h) a0_0 x0.Places) (f0_1:SlR rTrans (Snap h) a0_1 x0.Trans) (f1_1:SlR (rI .i64) (Snap h) a1_1 x1.Places) (f1_2:SlR (rI .i64) (Snap h) a1_2 x1.Trans) {r:Int} (hf:p43 x0 x1=some r):ZC F 43 [(.agg [a0_0,a0_1]),(.agg [(.int .i64 x1.N),a1_1,a1_2])] h fun v h'=>v=.int .i64 r∧St h none' [] h':=by
 refine w43 ?_
 unfold W43
 unfold p43 at hf
 have S:St h none' [] h:=St.refl _ _
 intro h44
 have S:St _ _ [rowC h.n [a0_0,a0_1] 0] _:=S.pushRow [a0_0,a0_1]
 intro h45
 have S:St _ _ [rowC h44.n [(.int .i64 x1.N),a1_1,a1_2] 0,_] _:=S.pushRow [(.int .i64 x1.N),a1_1,a1_2]
 refine ⟨a1_1,S.rd1 m0 rfl,?_⟩
 refine iI.2 ⟨(f1_1).is,?_⟩
 try rw [show (a1_1).slen=_ from (f1_1).slen]
 refine ⟨a0_0,S.rd1 m1 rfl,?_⟩
 refine iI.2 ⟨(f0_0).is,?_⟩
 try rw [show (a0_0).slen=_ from (f0_0).slen]
 intro jjj4
 have hjj4:∀ (b43:Bool) (h46:Heap),p43_j4 x0 x1 b43=some r→h45=h46→St h none' [rowC h.n [a0_0,a0_1] 0,rowC h44.n [(.int .i64 x1.N),a1_1,a1_2] 0] h45→jjj4 b43 h46:=by
  rintro b43 h46 hf rfl S
  unfold p43_j4 at hf
  unfold jjj4
  intro jjj3
  have hjj3:∀ (b42:Bool) (h47:Heap),p43_j3 x0 x1 b42=some r→h45=h47→St h none' [rowC h.n [a0_0,a0_1] 0,rowC h44.n [(.int .i64 x1.N),a1_1,a1_2] 0] h45→jjj3 b42 h47:=by
   rintro b42 h47 hf rfl S
   unfold p43_j3 at hf
   unfold jjj3
   intro jjj2
   have hjj2:∀ (b38:Bool) (h48:Heap),p43_j2 x0 x1 b38=some r→h45=h48→St h none' [rowC h.n [a0_0,a0_1] 0,rowC h44.n [(.int .i64 x1.N),a1_1,a1_2] 0] h45→jjj2 b38 h48:=by
    rintro b38 h48 hf rfl S
    unfold p43_j2 at hf
    unfold jjj2
    refine bI (fun hc=>?_) (fun hc=>?_)
    ·rw [ifT hc] at hf
     obtain rfl:=oi hf
     exact ⟨rfl,S.sel [] rfl⟩
    rw [ifF hc] at hf
    refine iI.2 ⟨rfl,?_⟩
    refine ⟨a1_1,S.rd1 m1 rfl,?_⟩
    refine iI.2 ⟨rfl,?_⟩
    refine ⟨a1_2,S.rd1 m1 rfl,?_⟩
    refine oI (.agg [a1_1,a1_2]) (by simp only [POp.ev,place,sl_cells (f1_1).is,sl_tup (f1_1).is,sl_cells (f1_2).is,sl_tup (f1_2).is]<;>first | rfl | (simp [AV.cells,AV.isTup,splice]; done) | (simp [AV.cells,AV.isTup,splice]; rfl)) ?_
    obtain ⟨res39,hL,hf⟩:=oB hf
    obtain ⟨n49,hL⟩:=loopC_iff.1 hL
    refine loopm43_1 (R:=fun (y50:AV) (y51:AV) (y52:Int) (y53:AV) (y54:Int) (h55:Heap)=>1=y52∧St h none' [] h55∧(.inl ())=res39) (X0:=fun (y56:AV) (y57:AV) (y40:Int) (y58:AV) (y59:Int) (h60:Heap)=>AV.ptr h.n 0 0=y56∧AV.ptr h44.n 0 0=y57∧St h none' [rowC h.n [a0_0,a0_1] 0,rowC h44.n [(.int .i64 x1.N),a1_1,a1_2] 0] h60∧(.inr y40)=res39) ?_ ?_ (loop43_1 (I:=fun (m61:Nat) (y62:AV) (y63:AV) (y15:Int) (y64:AV) (y16:Int) (h65:Heap)=>AV.ptr h.n 0 0=y62∧AV.ptr h44.n 0 0=y63∧AV.agg [a1_1,a1_2]=y64∧St h none' [rowC h.n [a0_0,a0_1] 0,rowC h44.n [(.int .i64 x1.N),a1_1,a1_2] 0] h65∧iter (p43_l1 x1) m61 (y15,y16)=some res39) ?_ (m:=n49) ?_)
    ·rintro y50 y51 y52 y53 y54 h55 ⟨rfl,S,rfl⟩
     try dsimp only at hf
     obtain rfl:=oi hf
     exact ⟨rfl,S.sel [] rfl⟩
    ·rintro y56 y57 y40 y58 y59 h60 ⟨rfl,rfl,S,rfl⟩
     try dsimp only at hf
     refine iI.2 ⟨rfl,?_⟩
     refine ⟨a0_1,S.rd1 m0 rfl,?_⟩
     refine iI.2 ⟨(f0_1).is,?_⟩
     try rw [show (a0_1).slen=_ from (f0_1).slen]
     obtain ⟨res41,hL,hf⟩:=oB hf
     obtain ⟨n66,hL⟩:=loopC_iff.1 hL
     have S:=S.sel [1] rfl
     refine loopm43_4 (R:=fun (y67:AV) (y68:Int) (y69:AV) (y70:Int) (y71:Int) (h72:Heap)=>9=y68∧St h none' [] h72∧(.inl ())=res41) (X4:=fun (y73:AV) (y74:Int) (y75:AV) (y76:Int) (y77:Int) (h78:Heap)=>St h none' [] h78∧(.inr ())=res41) ?_ ?_ (loop43_4 (I:=fun (m79:Nat) (y80:AV) (y33:Int) (y81:AV) (y82:Int) (y19:Int) (h83:Heap)=>AV.ptr h44.n 0 0=y80∧a0_1=y81∧(x0.Trans.length:Int)=y82∧St h none' [rowC h44.n [(.int .i64 x1.N),a1_1,a1_2] 0] h83∧iter (p43_l4 x0 x1) m79 (y33,y19)=some res41) ?_ (m:=n66) ?_)
     ·rintro y67 y68 y69 y70 y71 h72 ⟨rfl,S,rfl⟩
      try dsimp only at hf
      obtain rfl:=oi hf
      exact ⟨rfl,S.sel [] rfl⟩
     ·rintro y73 y74 y75 y76 y77 h78 ⟨S,rfl⟩
      try dsimp only at hf
      obtain rfl:=oi hf
      exact ⟨rfl,S.sel [] rfl⟩
     ·rintro m84 y80 y33 y81 y82 y19 h83 ⟨rfl,rfl,rfl,S,hit⟩
      obtain ⟨m79,q85,rfl,hf,hk⟩:=iter_some hit
      clear hit
      unfold B43_4
      unfold p43_l4 at hf
      try dsimp only at hf
      refine bI (fun hc=>?_) (fun hc=>?_)
      ·rw [ifD hc] at hf
       obtain ⟨e29,he29,hf⟩:=oB hf
       refine ix_go f0_1 (sM S.le) he29 fun pe29=>?_
       obtain ⟨_,cr86,Rr86,Nr86,Or86,Zr86⟩:=SlR.idx f0_1 (sM S.le) he29
       obtain ⟨cr86_3,cr86_4,cr86_5,rfl,Fr86_3,Fr86_4,Fr86_5⟩:=rTrans_open Rr86
       refine ⟨(.str e29.Name),(.int .i64 e29.Delay),(.int .i64 e29.Prio),cr86_3,cr86_4,cr86_5,Nr86,?_⟩
       intro h87
       have S:St _ _ [rowC h83.n [(.str ([]:List UInt8)),(.int .i64 0),(.int .i64 0),.nilSlice,.nilSlice,.nilSlice] 0,_] _:=S.pushRow [(.str ([]:List UInt8)),(.int .i64 0),(.int .i64 0),.nilSlice,.nilSlice,.nilSlice]
       obtain ⟨h88,e89,S⟩:=S.store (off:=0) (n:=6) (x:=(.agg [(.str e29.Name),(.int .i64 e29.Delay),(.int .i64 e29.Prio),cr86_3,cr86_4,cr86_5])) (cs':=[(.str e29.Name),(.int .i64 e29.Delay),(.int .i64 e29.Prio),cr86_3,cr86_4,cr86_5]) (nl rfl) rfl rfl rfl
       refine ⟨h88,e89,?_⟩
       refine ⟨(.str e29.Name),(.int .i64 e29.Delay),(.int .i64 e29.Prio),cr86_3,cr86_4,cr86_5,S.rdN m0 (nl rfl) rfl,?_⟩
       obtain ⟨y20,hy20,hf⟩:=oB hf
       refine ⟨_,Fz.refl _,?_⟩
       refine (r56 (t0:=e29) (f0_3:=(SlR.mono (sM S.le) Fr86_3)) (f0_4:=(SlR.mono (sM S.le) Fr86_4)) (f0_5:=(SlR.mono (sM S.le) Fr86_5)) hy20).mono fun v90 h91 T=>?_
       have S:St _ _ [own (oSl (fz (rI .i64))) [v90] y20,_,_] _:=S.comp T
       refine iI.2 ⟨((S.sl (r:=(fz (rI .i64))) m0)).is,?_⟩
       try rw [show (v90).slen=_ from ((S.sl (r:=(fz (rI .i64))) m0)).slen]
       obtain ⟨res34,hL,hf⟩:=oB hf
       obtain ⟨n92,hL⟩:=loopC_iff.1 hL
       have S:=S.sel [2,1,0] rfl
       refine loopm43_2 (R:=fun (y93:AV) (y94:Int) (y95:Int) (y96:AV) (y97:AV) (y98:Int) (y99:Int) (y100:AV) (y101:Int) (y102:Int) (h103:Heap)=>9=y94∧St h none' [] h103∧(.inl ())=res34) (X6:=fun (y104:AV) (y35:Int) (y105:Int) (y106:AV) (y107:AV) (y108:Int) (y109:Int) (y110:AV) (y111:Int) (y112:Int) (h113:Heap)=>AV.ptr h44.n 0 0=y104∧y19=y105∧AV.ptr h83.n 0 0=y106∧a0_1=y107∧(x0.Trans.length:Int)=y108∧y19=y109∧St h none' [rowC h44.n [(.int .i64 x1.N),a1_1,a1_2] 0,rowC h83.n [(.str e29.Name),(.int .i64 e29.Delay),(.int .i64 e29.Prio),cr86_3,cr86_4,cr86_5] 0] h113∧(.inr y35)=res34) ?_ ?_ (loop43_2 (I:=fun (m114:Nat) (y115:AV) (y21:Int) (y116:Int) (y117:AV) (y118:AV) (y119:Int) (y120:Int) (y121:AV) (y122:Int) (y22:Int) (h123:Heap)=>AV.ptr h44.n 0 0=y115∧y19=y116∧AV.ptr h83.n 0 0=y117∧a0_1=y118∧(x0.Trans.length:Int)=y119∧y19=y120∧v90=y121∧(y20.length:Int)=y122∧St h none' [rowC h44.n [(.int .i64 x1.N),a1_1,a1_2] 0,rowC h83.n [(.str e29.Name),(.int .i64 e29.Delay),(.int .i64 e29.Prio),cr86_3,cr86_4,cr86_5] 0,own (oSl (fz (rI .i64))) [v90] y20] h123∧iter (p43_l2 x1 y19 y20) m114 (y21,y22)=some res34) ?_ (m:=n92) ?_)
       ·rintro y93 y94 y95 y96 y97 y98 y99 y100 y101 y102 h103 ⟨rfl,S,rfl⟩
        try dsimp only at hf
        obtain rfl:=oi hf
        obtain rfl:=hk
        exact ⟨rfl,S,rfl⟩
       ·rintro y104 y35 y105 y106 y107 y108 y109 y110 y111 y112 h113 ⟨rfl,rfl,rfl,rfl,rfl,rfl,S,rfl⟩
        try dsimp only at hf
        refine iI.2 ⟨rfl,?_⟩
        refine ⟨cr86_5,S.rd1 m1 rfl,?_⟩
        refine iI.2 ⟨(Fr86_5).is,?_⟩
        try rw [show (cr86_5).slen=_ from (Fr86_5).slen]
        obtain ⟨res36,hL,hf⟩:=oB hf
        obtain ⟨n124,hL⟩:=loopC_iff.1 hL
        refine loopm43_3 (R:=fun (y125:AV) (y126:Int) (y127:Int) (y128:AV) (y129:AV) (y130:Int) (y131:Int) (y132:AV) (y133:Int) (y134:Int) (h135:Heap)=>9=y126∧St h none' [] h135∧(.inl ())=res36) (X8:=fun (y136:AV) (y37:Int) (y137:Int) (y138:AV) (y139:AV) (y140:Int) (y141:Int) (y142:AV) (y143:Int) (y144:Int) (h145:Heap)=>AV.ptr h44.n 0 0=y136∧a0_1=y139∧(x0.Trans.length:Int)=y140∧y19=y141∧St h none' [rowC h44.n [(.int .i64 x1.N),a1_1,a1_2] 0] h145∧(.inr y37)=res36) ?_ ?_ (loop43_3 (I:=fun (m146:Nat) (y147:AV) (y26:Int) (y148:Int) (y149:AV) (y150:AV) (y151:Int) (y152:Int) (y153:AV) (y154:Int) (y27:Int) (h155:Heap)=>AV.ptr h44.n 0 0=y147∧y19=y148∧AV.ptr h83.n 0 0=y149∧a0_1=y150∧(x0.Trans.length:Int)=y151∧y19=y152∧cr86_5=y153∧(e29.Out.length:Int)=y154∧St h none' [rowC h44.n [(.int .i64 x1.N),a1_1,a1_2] 0,rowC h83.n [(.str e29.Name),(.int .i64 e29.Delay),(.int .i64 e29.Prio),cr86_3,cr86_4,cr86_5] 0] h155∧iter (p43_l3 x1 y19 e29) m146 (y26,y27)=some res36) ?_ (m:=n124) ?_)
        ·rintro y125 y126 y127 y128 y129 y130 y131 y132 y133 y134 h135 ⟨rfl,S,rfl⟩
         try dsimp only at hf
         obtain rfl:=oi hf
         obtain rfl:=hk
         exact ⟨rfl,S,rfl⟩
        ·rintro y136 y37 y137 y138 y139 y140 y141 y142 y143 y144 h145 ⟨rfl,rfl,rfl,rfl,S,rfl⟩
         try dsimp only at hf
         obtain rfl:=oi hf
         exact ⟨m79,Nat.lt_succ_self _,rfl,rfl,rfl,S,hk⟩
        ·rintro m156 y147 y26 y148 y149 y150 y151 y152 y153 y154 y27 h155 ⟨rfl,rfl,rfl,rfl,rfl,rfl,rfl,rfl,S,hit⟩
         obtain ⟨m146,q157,rfl,hf,hk⟩:=iter_some hit
         clear hit
         unfold B43_3
         unfold p43_l3 at hf
         try dsimp only at hf
         refine bI (fun hc=>?_) (fun hc=>?_)
         ·rw [ifD hc] at hf
          obtain ⟨e30,he30,hf⟩:=oB hf
          refine ix_go Fr86_5 (sM S.le) he30 fun pe30=>?_
          obtain ⟨_,cr158,Rr158,Nr158,Or158,Zr158⟩:=SlR.idx Fr86_5 (sM S.le) he30
          obtain rfl:=rArc_open Rr158
          refine ⟨(.int .i64 e30.Place),(.int .i64 e30.N),Nr158,?_⟩
          intro h159
          have S:St _ _ [rowC h155.n [(.int .i64 0),(.int .i64 0)] 0,_,_] _:=S.pushRow [(.int .i64 0),(.int .i64 0)]
          obtain ⟨h160,e161,S⟩:=S.store (off:=0) (n:=2) (x:=(.agg [(.int .i64 e30.Place),(.int .i64 e30.N)])) (cs':=[(.int .i64 e30.Place),(.int .i64 e30.N)]) (nl rfl) rfl rfl rfl
          refine ⟨h160,e161,?_⟩
          refine iI.2 ⟨rfl,?_⟩
          refine ⟨e29.Delay,S.rd1 m2 rfl,?_⟩
          intro jjj1
          have hjj1:∀ (b28:Bool) (h162:Heap),p43_j1 y26 y27 b28=some q157→h160=h162→St h none' [rowC h44.n [(.int .i64 x1.N),a1_1,a1_2] 0,rowC h83.n [(.str e29.Name),(.int .i64 e29.Delay),(.int .i64 e29.Prio),cr86_3,cr86_4,cr86_5] 0] h160→jjj1 b28 h162:=by
           rintro b28 h162 hf rfl S
           unfold p43_j1 at hf
           unfold jjj1
           refine bI (fun hc=>?_) (fun hc=>?_)
           ·rw [ifT hc] at hf
            have S:=S.sel [] rfl
            obtain rfl:=oi hf
            obtain rfl:=hk
            exact ⟨rfl,S,rfl⟩
           rw [ifF hc] at hf
           obtain rfl:=oi hf
           exact ⟨m146,Nat.lt_succ_self _,rfl,rfl,rfl,rfl,rfl,rfl,rfl,rfl,S,hk⟩
          refine bI (fun hc=>?_) (fun hc=>?_)
          ·rw [ifD hc] at hf
           refine iI.2 ⟨rfl,?_⟩
           refine ⟨a1_1,S.rd1 m1 rfl,?_⟩
           refine ⟨e30.Place,S.rd1 m0 rfl,?_⟩
           obtain ⟨e31,he31,hf⟩:=oB hf
           refine ix_go f1_1 (sM S.le) he31 fun pe31=>?_
           obtain ⟨_,cr163,Rr163,Nr163,Or163,Zr163⟩:=SlR.idx f1_1 (sM S.le) he31
           obtain rfl:cr163=[(.int .i64 e31)]:=Rr163
           refine ⟨e31,Zr163 _ rfl,?_⟩
           refine iI.2 ⟨rfl,?_⟩
           refine ⟨a1_2,S.rd1 m1 rfl,?_⟩
           obtain ⟨e32,he32,hf⟩:=oB hf
           refine ix_go f1_2 (sM S.le) he32 fun pe32=>?_
           obtain ⟨_,cr164,Rr164,Nr164,Or164,Zr164⟩:=SlR.idx f1_2 (sM S.le) he32
           obtain rfl:cr164=[(.int .i64 e32)]:=Rr164
           refine ⟨e32,Zr164 _ rfl,?_⟩
           have S:=S.sel [1,2] rfl
           exact hjj1 _ _  hf rfl S
          rw [ifE hc] at hf
          have S:=S.sel [1,2] rfl
          exact hjj1 _ _  hf rfl S
         rw [ifE hc] at hf
         have S:=S.sel [0] rfl
         obtain rfl:=oi hf
         obtain rfl:=hk
         exact ⟨rfl,rfl,rfl,rfl,S,rfl⟩
        exact ⟨rfl,rfl,rfl,rfl,rfl,rfl,rfl,rfl,S,hL⟩
       ·rintro m165 y115 y21 y116 y117 y118 y119 y120 y121 y122 y22 h123 ⟨rfl,rfl,rfl,rfl,rfl,rfl,rfl,rfl,S,hit⟩
        obtain ⟨m114,q166,rfl,hf,hk⟩:=iter_some hit
        clear hit
        unfold B43_2
        unfold p43_l2 at hf
        try dsimp only at hf
        refine bI (fun hc=>?_) (fun hc=>?_)
        ·rw [ifD hc] at hf
         obtain ⟨e23,he23,hf⟩:=oB hf
         refine ix_go (S.sl (r:=(fz (rI .i64))) m2) (Hp.le_refl _) he23 fun pe23=>?_
         obtain ⟨_,cr167,Rr167,Nr167,Or167,Zr167⟩:=St.idxO (r:=(rI .i64)) S m2 he23
         obtain rfl:cr167=[(.int .i64 e23)]:=Rr167
         refine ⟨e23,Zr167 _ rfl,?_⟩
         refine iI.2 ⟨rfl,?_⟩
         refine ⟨a1_1,S.rd1 m0 rfl,?_⟩
         obtain ⟨e24,he24,hf⟩:=oB hf
         refine ix_go f1_1 (sM S.le) he24 fun pe24=>?_
         obtain ⟨_,cr168,Rr168,Nr168,Or168,Zr168⟩:=SlR.idx f1_1 (sM S.le) he24
         obtain rfl:cr168=[(.int .i64 e24)]:=Rr168
         refine ⟨e24,Zr168 _ rfl,?_⟩
         refine iI.2 ⟨rfl,?_⟩
         refine ⟨a1_2,S.rd1 m0 rfl,?_⟩
         obtain ⟨e25,he25,hf⟩:=oB hf
         refine ix_go f1_2 (sM S.le) he25 fun pe25=>?_
         obtain ⟨_,cr169,Rr169,Nr169,Or169,Zr169⟩:=SlR.idx f1_2 (sM S.le) he25
         obtain rfl:cr169=[(.int .i64 e25)]:=Rr169
         refine ⟨e25,Zr169 _ rfl,?_⟩
         refine bI (fun hc=>?_) (fun hc=>?_)
         ·rw [ifT hc] at hf
          have S:=S.sel [] rfl
          obtain rfl:=oi hf
          obtain rfl:=hk
          exact ⟨rfl,S,rfl⟩
         rw [ifF hc] at hf
         obtain rfl:=oi hf
         exact ⟨m114,Nat.lt_succ_self _,rfl,rfl,rfl,rfl,rfl,rfl,rfl,rfl,S,hk⟩
        rw [ifE hc] at hf
        have S:=S.sel [0,1] rfl
        obtain rfl:=oi hf
        obtain rfl:=hk
        exact ⟨rfl,rfl,rfl,rfl,rfl,rfl,S,rfl⟩
       exact ⟨rfl,rfl,rfl,rfl,rfl,rfl,rfl,rfl,S,hL⟩
      rw [ifE hc] at hf
      have S:=S.sel [] rfl
      obtain rfl:=oi hf
      obtain rfl:=hk
      exact ⟨S,rfl⟩
     exact ⟨rfl,rfl,rfl,S,hL⟩
    ·rintro m170 y62 y63 y15 y64 y16 h65 ⟨rfl,rfl,rfl,S,hit⟩
     obtain ⟨m61,q171,rfl,hf,hk⟩:=iter_some hit
     clear hit
     unfold B43_1
     unfold p43_l1 at hf
     try dsimp only at hf
     refine bI (fun hc=>?_) (fun hc=>?_)
     ·rw [ifD hc] at hf
      obtain ⟨y13,hy13,hf⟩:=oB hf
      obtain ⟨y172,ey172,Fy172⟩:=arr1_sl (r:=(rI .i64)) (k:=.i64) (.cons f1_1 (.cons f1_2 .nil)) rfl hy13
      refine oI y172 ey172 ?_
      refine iI.2 ⟨(Fy172).is,?_⟩
      try rw [show (y172).slen=_ from (Fy172).slen]
      obtain ⟨res17,hL,hf⟩:=oB hf
      obtain ⟨n173,hL⟩:=loopC_iff.1 hL
      refine loopm43_0 (R:=fun (y174:AV) (y175:AV) (y176:Int) (y177:AV) (y178:Int) (y179:AV) (y180:Int) (y181:Int) (h182:Heap)=>1=y176∧St h none' [] h182∧(.inl ())=res17) (X2:=fun (y183:AV) (y184:AV) (y18:Int) (y185:AV) (y186:Int) (y187:AV) (y188:Int) (y189:Int) (h190:Heap)=>AV.ptr h.n 0 0=y183∧AV.ptr h44.n 0 0=y184∧AV.agg [a1_1,a1_2]=y185∧y16=y186∧St h none' [rowC h.n [a0_0,a0_1] 0,rowC h44.n [(.int .i64 x1.N),a1_1,a1_2] 0] h190∧(.inr y18)=res17) ?_ ?_ (loop43_0 (I:=fun (m191:Nat) (y192:AV) (y193:AV) (y10:Int) (y194:AV) (y195:Int) (y196:AV) (y197:Int) (y11:Int) (h198:Heap)=>AV.ptr h.n 0 0=y192∧AV.ptr h44.n 0 0=y193∧AV.agg [a1_1,a1_2]=y194∧y16=y195∧y172=y196∧(y13.length:Int)=y197∧St h none' [rowC h.n [a0_0,a0_1] 0,rowC h44.n [(.int .i64 x1.N),a1_1,a1_2] 0] h198∧iter (p43_l0 x1 y13) m191 (y10,y11)=some res17) ?_ (m:=n173) ?_)
      ·rintro y174 y175 y176 y177 y178 y179 y180 y181 h182 ⟨rfl,S,rfl⟩
       try dsimp only at hf
       obtain rfl:=oi hf
       obtain rfl:=hk
       exact ⟨rfl,S,rfl⟩
      ·rintro y183 y184 y18 y185 y186 y187 y188 y189 h190 ⟨rfl,rfl,rfl,rfl,S,rfl⟩
       try dsimp only at hf
       obtain rfl:=oi hf
       exact ⟨m61,Nat.lt_succ_self _,rfl,rfl,rfl,S,hk⟩
      ·rintro m199 y192 y193 y10 y194 y195 y196 y197 y11 h198 ⟨rfl,rfl,rfl,rfl,rfl,rfl,S,hit⟩
       obtain ⟨m191,q200,rfl,hf,hk⟩:=iter_some hit
       clear hit
       unfold B43_0
       unfold p43_l0 at hf
       try dsimp only at hf
       refine bI (fun hc=>?_) (fun hc=>?_)
       ·rw [ifD hc] at hf
        obtain ⟨e14,he14,hf⟩:=oB hf
        refine ix_go Fy172 (sM S.le) he14 fun pe14=>?_
        obtain ⟨_,cr201,Rr201,Nr201,Or201,Zr201⟩:=SlR.idx Fy172 (sM S.le) he14
        obtain rfl:cr201=[(.int .i64 e14)]:=Rr201
        refine ⟨e14,Zr201 _ rfl,?_⟩
        intro jjj0
        have hjj0:∀ (b12:Bool) (h202:Heap),p43_j0 y10 y11 b12=some q200→h198=h202→St h none' [rowC h.n [a0_0,a0_1] 0,rowC h44.n [(.int .i64 x1.N),a1_1,a1_2] 0] h198→jjj0 b12 h202:=by
         rintro b12 h202 hf rfl S
         unfold p43_j0 at hf
         unfold jjj0
         refine bI (fun hc=>?_) (fun hc=>?_)
         ·rw [ifT hc] at hf
          have S:=S.sel [] rfl
          obtain rfl:=oi hf
          obtain rfl:=hk
          exact ⟨rfl,S,rfl⟩
         rw [ifF hc] at hf
         obtain rfl:=oi hf
         exact ⟨m191,Nat.lt_succ_self _,rfl,rfl,rfl,rfl,rfl,rfl,S,hk⟩
        refine bI (fun hc=>?_) (fun hc=>?_)
        ·rw [ifD hc] at hf
         exact hjj0 _ _  hf rfl S
        rw [ifE hc] at hf
        refine iI.2 ⟨rfl,?_⟩
        refine ⟨x1.N,S.rd1 m1 rfl,?_⟩
        exact hjj0 _ _  hf rfl S
       rw [ifE hc] at hf
       obtain rfl:=oi hf
       obtain rfl:=hk
       exact ⟨rfl,rfl,rfl,rfl,S,rfl⟩
      exact ⟨rfl,rfl,rfl,rfl,rfl,rfl,S,hL⟩
     rw [ifE hc] at hf
     obtain rfl:=oi hf
     obtain rfl:=hk
     exact ⟨rfl,rfl,S,rfl⟩
    exact ⟨rfl,rfl,rfl,S,hL⟩
   refine bI (fun hc=>?_) (fun hc=>?_)
   ·rw [ifT hc] at hf
    exact hjj2 _ _  hf rfl S
   rw [ifF hc] at hf
   refine iI.2 ⟨rfl,?_⟩
   refine ⟨x1.N,S.rd1 m1 rfl,?_⟩
   exact hjj2 _ _  hf rfl S
  refine bI (fun hc=>?_) (fun hc=>?_)
  ·rw [ifT hc] at hf
   exact hjj3 _ _  hf rfl S
  rw [ifF hc] at hf
  refine iI.2 ⟨rfl,?_⟩
  refine ⟨x1.N,S.rd1 m1 rfl,?_⟩
  exact hjj3 _ _  hf rfl S
 refine bI (fun hc=>?_) (fun hc=>?_)
 ·rw [ifT hc] at hf
  have S:=S.sel [1,0] rfl
  exact hjj4 _ _  hf rfl S
 rw [ifF hc] at hf
 refine ⟨a1_2,S.rd1 m0 rfl,?_⟩
 refine iI.2 ⟨(f1_2).is,?_⟩
 try rw [show (a1_2).slen=_ from (f1_2).slen]
 refine ⟨a0_1,S.rd1 m1 rfl,?_⟩
 refine iI.2 ⟨(f0_1).is,?_⟩
 try rw [show (a0_1).slen=_ from (f0_1).slen]
 have S:=S.sel [1,0] rfl
 exact hjj4 _ _  hf rfl S
def p61_j0 (j10:Int) (data11:List TLane) (b12:Bool):Option ((Int×(List TLane))⊕(List TLane)):=if b12=true then ((idx data11 (IntKind.wrap .i64 (j10 - 1))).bind fun e13=>(idx data11 j10).bind fun e14=>(idx data11 j10).bind fun e15=>(some (data11.set (j10:Int).toNat e13)).bind fun data16=>(idx data16 (IntKind.wrap .i64 (j10 - 1))).bind fun e17=>(some (data16.set ((IntKind.wrap .i64 (j10 - 1)):Int).toNat e14)).bind fun data18=>some (.inl ((IntKind.wrap .i64 (j10 - 1)),data18))) else (some (.inr data11))
def p61_l0 (a1:Int) (cmp3:TLane→TLane→Option Int) (st:Int×(List TLane)):Option ((Int×(List TLane))⊕(List TLane)):=match st with | (j10,data11)=>if a1 < j10 then ((idx data11 j10).bind fun e19=>(idx data11 (IntKind.wrap .i64 (j10 - 1))).bind fun e20=>(cmp3 e19 e20).bind fun r21=>p61_j0 j10 data11 (decide (r21 < 0))) else (p61_j0 j10 data11 false)
def p61_l1 (a1:Int) (b2:Int) (cmp3:TLane→TLane→Option Int) (st:Int×(List TLane)):Option ((Int×(List TLane))⊕(List TLane)):=match st with | (i22,data23)=>if i22 < b2 then ((loopC (p61_l0 a1 cmp3) (i22,data23)).bind fun res24=>((fun (data25:List TLane)=>some (.inl ((IntKind.wrap .i64 (i22+1)),data25))) res24)) else (some (.inr data23))
def p61 (data0:List TLane) (a1:Int) (b2:Int) (cmp3:TLane→TLane→Option Int):Option (List TLane):=(loopC (p61_l1 a1 b2 cmp3) ((IntKind.wrap .i64 (a1+1)),data0)).bind fun res26=>((fun (c27:List TLane)=>some c27) res26)
theorem r61 {h:Heap} {a0_0:AV} {a3_0:AV} {M:Nat→Prop} {data0:List TLane} {a1:Int} {b2:Int} {cmp3:TLane→TLane→Option Int} (S:St h M [own (oSl (fz rLane)) [a0_0] data0] h) (f3_0:∀ (h':Heap) (y0:TLane) (y1:TLane) r,cmp3 y0 y1=some r→callW F a3_0 [.agg [.int .i64 y0.From,.int .i64 y0.To,.int .i64 y0.Ahead],.agg [.int .i64 y1.From,.int .i64 y1.To,.int .i64 y1.Ahead]] h' fun v h2=>v=.int .i64 r∧St h' none' [] h2) {r:(List TLane)} (hf:p61 data0 a1 b2 cmp3=some r):ZC F 61 [a0_0,(.int .i64 a1),(.int .i64 b2),a3_0] h fun v h'=>v=.tuple []∧St h M [own (oSl (fz rLane)) [a0_0] r] h':=by
 refine w61 ?_
 unfold W61
 unfold p61 at hf
 obtain ⟨res26,hL,hf⟩:=oB hf
 obtain ⟨n28,hL⟩:=loopC_iff.1 hL
 refine loopm61_1 (X0:=fun (data29:AV) (a30:Int) (b31:Int) (cmp32:AV) (i33:Int) (h34:Heap)=>∃ (c27:List TLane),St h M [own (oSl (fz rLane)) [a0_0] c27] h34∧c27=res26) ?_ (loop61_1 (I:=fun (m35:Nat) (data36:AV) (a37:Int) (b38:Int) (cmp39:AV) (i22:Int) (h40:Heap)=>∃ (data23:List TLane),a0_0=data36∧a1=a37∧b2=b38∧a3_0=cmp39∧St h M [own (oSl (fz rLane)) [a0_0] data23] h40∧iter (p61_l1 a1 b2 cmp3) m35 (i22,data23)=some res26) ?_ (m:=n28) ?_)
 ·rintro data29 a30 b31 cmp32 i33 h34 ⟨c27,S,rfl⟩
  try dsimp only at hf
  obtain rfl:=oi hf
  exact ⟨rfl,S.sel [0] rfl⟩
 ·rintro m41 data36 a37 b38 cmp39 i22 h40 ⟨data23,rfl,rfl,rfl,rfl,S,hit⟩
  obtain ⟨m35,q42,rfl,hf,hk⟩:=iter_some hit
  clear hit
  unfold B61_1
  unfold p61_l1 at hf
  try dsimp only at hf
  refine bI (fun hc=>?_) (fun hc=>?_)
  ·rw [ifD hc] at hf
   obtain ⟨res24,hL,hf⟩:=oB hf
   obtain ⟨n43,hL⟩:=loopC_iff.1 hL
   refine loopm61_0 (X2:=fun (data44:AV) (a45:Int) (b46:Int) (cmp47:AV) (i48:Int) (j49:Int) (h50:Heap)=>∃ (data25:List TLane),a0_0=data44∧a1=a45∧b2=b46∧a3_0=cmp47∧i22=i48∧St h M [own (oSl (fz rLane)) [a0_0] data25] h50∧data25=res24) ?_ (loop61_0 (I:=fun (m51:Nat) (data52:AV) (a53:Int) (b54:Int) (cmp55:AV) (i56:Int) (j10:Int) (h57:Heap)=>∃ (data11:List TLane),a0_0=data52∧a1=a53∧b2=b54∧a3_0=cmp55∧i22=i56∧St h M [own (oSl (fz rLane)) [a0_0] data11] h57∧iter (p61_l0 a1 cmp3) m51 (j10,data11)=some res24) ?_ (m:=n43) ?_)
   ·rintro data44 a45 b46 cmp47 i48 j49 h50 ⟨data25,rfl,rfl,rfl,rfl,rfl,S,rfl⟩
    try dsimp only at hf
    obtain rfl:=oi hf
    exact ⟨m35,Nat.lt_succ_self _,data25,rfl,rfl,rfl,rfl,S,hk⟩
   ·rintro m58 data52 a53 b54 cmp55 i56 j10 h57 ⟨data11,rfl,rfl,rfl,rfl,rfl,S,hit⟩
    obtain ⟨m51,q59,rfl,hf,hk⟩:=iter_some hit
    clear hit
    unfold B61_0
    unfold p61_l0 at hf
    try dsimp only at hf
    intro jjj0
    have hjj0:∀ (b12:Bool) (h60:Heap),p61_j0 j10 data11 b12=some q59→St h M [own (oSl (fz rLane)) [a0_0] data11] h60→jjj0 b12 h60:=by
     rintro b12 h60 hf S
     unfold p61_j0 at hf
     unfold jjj0
     refine bI (fun hc=>?_) (fun hc=>?_)
     ·rw [ifT hc] at hf
      obtain ⟨e13,he13,hf⟩:=oB hf
      refine ix_go (S.sl (r:=(fz rLane)) m0) (Hp.le_refl _) he13 fun pe13=>?_
      obtain ⟨_,cr61,Rr61,Nr61,Or61,Zr61⟩:=St.idxO (r:=rLane) S m0 he13
      obtain rfl:=rLane_open Rr61
      refine ⟨(.int .i64 e13.From),(.int .i64 e13.To),(.int .i64 e13.Ahead),Nr61,?_⟩
      obtain ⟨e14,he14,hf⟩:=oB hf
      refine ix_go (S.sl (r:=(fz rLane)) m0) (Hp.le_refl _) he14 fun pe14=>?_
      obtain ⟨_,cr62,Rr62,Nr62,Or62,Zr62⟩:=St.idxO (r:=rLane) S m0 he14
      obtain rfl:=rLane_open Rr62
      refine ⟨(.int .i64 e14.From),(.int .i64 e14.To),(.int .i64 e14.Ahead),Nr62,?_⟩
      obtain ⟨e15,he15,hf⟩:=oB hf
      refine ix_go (S.sl (r:=(fz rLane)) m0) (Hp.le_refl _) he15 fun pe15=>?_
      obtain ⟨data16,hdata16,hf⟩:=oB hf
      obtain ⟨h63,e64,S⟩:=St.setE (r:=rLane) (x':=e13) (k:=0) (n:=3) (y:=(.agg [(.int .i64 e13.From),(.int .i64 e13.To),(.int .i64 e13.Ahead)])) S he15 rfl rfl (nl rfl) (by rintro _ h; obtain rfl:=rLane_open h; exact rLane_mk (x:=e13))
      rw [padd_zero] at e64
      have S:St _ _ [own (oSl (fz rLane)) [a0_0] data16] _:=S.cast1 (by rw [← oi hdata16]<;>rfl)
      have hqdata16:idx data16 j10=some e13:=oi hdata16▸idx_set he15
      refine ⟨h63,e64,?_⟩
      obtain ⟨e17,he17,hf⟩:=oB hf
      refine ix_go (S.sl (r:=(fz rLane)) m0) (Hp.le_refl _) he17 fun pe17=>?_
      obtain ⟨data18,hdata18,hf⟩:=oB hf
      obtain ⟨h65,e66,S⟩:=St.setE (r:=rLane) (x':=e14) (k:=0) (n:=3) (y:=(.agg [(.int .i64 e14.From),(.int .i64 e14.To),(.int .i64 e14.Ahead)])) S he17 rfl rfl (nl rfl) (by rintro _ h; obtain rfl:=rLane_open h; exact rLane_mk (x:=e14))
      rw [padd_zero] at e66
      have S:St _ _ [own (oSl (fz rLane)) [a0_0] data18] _:=S.cast1 (by rw [← oi hdata18]<;>rfl)
      have hqdata18:idx data18 (IntKind.wrap .i64 (j10 - 1))=some e14:=oi hdata18▸idx_set he17
      refine ⟨h65,e66,?_⟩
      obtain rfl:=oi hf
      exact ⟨m51,Nat.lt_succ_self _,data18,rfl,rfl,rfl,rfl,rfl,S,hk⟩
     rw [ifF hc] at hf
     obtain rfl:=oi hf
     obtain rfl:=hk
     exact ⟨data11,rfl,rfl,rfl,rfl,rfl,S,rfl⟩
    refine bI (fun hc=>?_) (fun hc=>?_)
    ·rw [ifD hc] at hf
     obtain ⟨e19,he19,hf⟩:=oB hf
     refine ix_go (S.sl (r:=(fz rLane)) m0) (Hp.le_refl _) he19 fun pe19=>?_
     obtain ⟨_,cr67,Rr67,Nr67,Or67,Zr67⟩:=St.idxO (r:=rLane) S m0 he19
     obtain rfl:=rLane_open Rr67
     refine ⟨(.int .i64 e19.From),(.int .i64 e19.To),(.int .i64 e19.Ahead),Nr67,?_⟩
     obtain ⟨e20,he20,hf⟩:=oB hf
     refine ix_go (S.sl (r:=(fz rLane)) m0) (Hp.le_refl _) he20 fun pe20=>?_
     obtain ⟨_,cr68,Rr68,Nr68,Or68,Zr68⟩:=St.idxO (r:=rLane) S m0 he20
     obtain rfl:=rLane_open Rr68
     refine ⟨(.int .i64 e20.From),(.int .i64 e20.To),(.int .i64 e20.Ahead),Nr68,?_⟩
     obtain ⟨r21,hr21,hf⟩:=oB hf
     refine ⟨_,Fz.refl _,?_⟩
     refine callW_mono (f3_0 _ e19 e20 _ hr21) fun v69 h70 T=>?_
     obtain ⟨rfl,T⟩:=T
     have S:St _ _ [_] _:=S.comp T
     refine ⟨r21,rfl,?_⟩
     exact hjj0 _ _  hf  S
    rw [ifE hc] at hf
    exact hjj0 _ _  hf  S
   exact ⟨data23,rfl,rfl,rfl,rfl,rfl,S,hL⟩
  rw [ifE hc] at hf
  obtain rfl:=oi hf
  obtain rfl:=hk
  exact ⟨data23,S,rfl⟩
 exact ⟨data0,rfl,rfl,rfl,rfl,S,hL⟩
def p73_j0 (x3:Int) (x4:TLane→TLane→Option Int) (y10:Int) (y11:List TLane) (y12:Int):Option ((Int×(List TLane))⊕((List TLane)⊕(List TLane))):=(idx y11 (IntKind.wrap .i64 (x3+y10))).bind fun e13=>(idx y11 (IntKind.wrap .i64 (x3+y12))).bind fun e14=>(x4 e13 e14).bind fun r15=>if (!(decide (r15 < 0)))=true then (some (.inr (.inl y11))) else ((idx y11 (IntKind.wrap .i64 (x3+y12))).bind fun e16=>(idx y11 (IntKind.wrap .i64 (x3+y10))).bind fun e17=>(idx y11 (IntKind.wrap .i64 (x3+y10))).bind fun e18=>(some (y11.set ((IntKind.wrap .i64 (x3+y10)):Int).toNat e16)).bind fun y19=>(idx y19 (IntKind.wrap .i64 (x3+y12))).bind fun e20=>(some (y19.set ((IntKind.wrap .i64 (x3+y12)):Int).toNat e17)).bind fun y21=>some (.inl (y12,y21)))
def p73_j1 (x3:Int) (x4:TLane→TLane→Option Int) (y10:Int) (y11:List TLane) (b22:Bool):Option ((Int×(List TLane))⊕((List TLane)⊕(List TLane))):=if b22=true then (p73_j0 x3 x4 y10 y11 (IntKind.wrap .i64 ((IntKind.wrap .i64 ((IntKind.wrap .i64 (2 * y10))+1))+1))) else (p73_j0 x3 x4 y10 y11 (IntKind.wrap .i64 ((IntKind.wrap .i64 (2 * y10))+1)))
def p73_l0 (x2:Int) (x3:Int) (x4:TLane→TLane→Option Int) (st:Int×(List TLane)):Option ((Int×(List TLane))⊕((List TLane)⊕(List TLane))):=match st with | (y10,y11)=>if x2≤(IntKind.wrap .i64 ((IntKind.wrap .i64 (2 * y10))+1)) then (some (.inr (.inr y11))) else (if (IntKind.wrap .i64 ((IntKind.wrap .i64 ((IntKind.wrap .i64 (2 * y10))+1))+1)) < x2 then ((idx y11 (IntKind.wrap .i64 (x3+(IntKind.wrap .i64 ((IntKind.wrap .i64 (2 * y10))+1))))).bind fun e23=>(idx y11 (IntKind.wrap .i64 ((IntKind.wrap .i64 (x3+(IntKind.wrap .i64 ((IntKind.wrap .i64 (2 * y10))+1))))+1))).bind fun e24=>(x4 e23 e24).bind fun r25=>p73_j1 x3 x4 y10 y11 (decide (r25 < 0))) else (p73_j1 x3 x4 y10 y11 false))
def p73 (x0:List TLane) (x1:Int) (x2:Int) (x3:Int) (x4:TLane→TLane→Option Int):Option (List TLane):=(loopC (p73_l0 x2 x3 x4) (x1,x0)).bind fun res26=>(match res26 with | .inl c27=>some c27 | .inr c28=>some c28)
theorem r73 {h:Heap} {a0_0:AV} {a4_0:AV} {M:Nat→Prop} {x0:List TLane} {x1:Int} {x2:Int} {x3:Int} {x4:TLane→TLane→Option Int} (S:St h M [own (oSl (fz rLane)) [a0_0] x0] h) (f4_0:∀ (h':Heap) (y0:TLane) (y1:TLane) r,x4 y0 y1=some r→callW F a4_0 [.agg [.int .i64 y0.From,.int .i64 y0.To,.int .i64 y0.Ahead],.agg [.int .i64 y1.From,.int .i64 y1.To,.int .i64 y1.Ahead]] h' fun v h2=>v=.int .i64 r∧St h' none' [] h2) {r:(List TLane)} (hf:p73 x0 x1 x2 x3 x4=some r):ZC F 73 [a0_0,(.int .i64 x1),(.int .i64 x2),(.int .i64 x3),a4_0] h fun v h'=>v=.tuple []∧St h M [own (oSl (fz rLane)) [a0_0] r] h':=by
 refine w73 ?_
 unfold W73
 unfold p73 at hf
 obtain ⟨res26,hL,hf⟩:=oB hf
 obtain ⟨n29,hL⟩:=loopC_iff.1 hL
 refine loopm73_0 (R:=fun (y30:AV) (y31:Int) (y32:Int) (y33:AV) (y34:Int) (h35:Heap)=>∃ (c27:List TLane),St h M [own (oSl (fz rLane)) [a0_0] c27] h35∧(.inl c27)=res26) (X0:=fun (y36:AV) (y37:Int) (y38:Int) (y39:AV) (y40:Int) (h41:Heap)=>∃ (c28:List TLane),St h M [own (oSl (fz rLane)) [a0_0] c28] h41∧(.inr c28)=res26) ?_ ?_ (loop73_0 (I:=fun (m42:Nat) (y43:AV) (y44:Int) (y45:Int) (y46:AV) (y10:Int) (h47:Heap)=>∃ (y11:List TLane),a0_0=y43∧x2=y44∧x3=y45∧a4_0=y46∧St h M [own (oSl (fz rLane)) [a0_0] y11] h47∧iter (p73_l0 x2 x3 x4) m42 (y10,y11)=some res26) ?_ (m:=n29) ?_)
 ·rintro y30 y31 y32 y33 y34 h35 ⟨c27,S,rfl⟩
  try dsimp only at hf
  obtain rfl:=oi hf
  exact ⟨rfl,S.sel [0] rfl⟩
 ·rintro y36 y37 y38 y39 y40 h41 ⟨c28,S,rfl⟩
  try dsimp only at hf
  obtain rfl:=oi hf
  exact ⟨rfl,S.sel [0] rfl⟩
 ·rintro m48 y43 y44 y45 y46 y10 h47 ⟨y11,rfl,rfl,rfl,rfl,S,hit⟩
  obtain ⟨m42,q49,rfl,hf,hk⟩:=iter_some hit
  clear hit
  unfold B73_0
  unfold p73_l0 at hf
  try dsimp only at hf
  refine bI (fun hc=>?_) (fun hc=>?_)
  ·rw [ifD hc] at hf
   obtain rfl:=oi hf
   obtain rfl:=hk
   exact ⟨y11,S,rfl⟩
  rw [ifE hc] at hf
  intro jjj1
  have hjj1:∀ (b22:Bool) (h50:Heap),p73_j1 x3 x4 y10 y11 b22=some q49→St h M [own (oSl (fz rLane)) [a0_0] y11] h50→jjj1 b22 h50:=by
   rintro b22 h50 hf S
   unfold p73_j1 at hf
   unfold jjj1
   intro jjj0
   have hjj0:∀ (y12:Int) (h51:Heap),p73_j0 x3 x4 y10 y11 y12=some q49→St h M [own (oSl (fz rLane)) [a0_0] y11] h51→jjj0 y12 h51:=by
    rintro y12 h51 hf S
    unfold p73_j0 at hf
    unfold jjj0
    obtain ⟨e13,he13,hf⟩:=oB hf
    refine ix_go (S.sl (r:=(fz rLane)) m0) (Hp.le_refl _) he13 fun pe13=>?_
    obtain ⟨_,cr52,Rr52,Nr52,Or52,Zr52⟩:=St.idxO (r:=rLane) S m0 he13
    obtain rfl:=rLane_open Rr52
    refine ⟨(.int .i64 e13.From),(.int .i64 e13.To),(.int .i64 e13.Ahead),Nr52,?_⟩
    obtain ⟨e14,he14,hf⟩:=oB hf
    refine ix_go (S.sl (r:=(fz rLane)) m0) (Hp.le_refl _) he14 fun pe14=>?_
    obtain ⟨_,cr53,Rr53,Nr53,Or53,Zr53⟩:=St.idxO (r:=rLane) S m0 he14
    obtain rfl:=rLane_open Rr53
    refine ⟨(.int .i64 e14.From),(.int .i64 e14.To),(.int .i64 e14.Ahead),Nr53,?_⟩
    obtain ⟨r15,hr15,hf⟩:=oB hf
    refine ⟨_,Fz.refl _,?_⟩
    refine callW_mono (f4_0 _ e13 e14 _ hr15) fun v54 h55 T=>?_
    obtain ⟨rfl,T⟩:=T
    have S:St _ _ [_] _:=S.comp T
    refine ⟨r15,rfl,?_⟩
    refine bI (fun hc=>?_) (fun hc=>?_)
    ·rw [ifT hc] at hf
     obtain rfl:=oi hf
     obtain rfl:=hk
     exact ⟨y11,S,rfl⟩
    rw [ifF hc] at hf
    obtain ⟨e16,he16,hf⟩:=oB hf
    refine ix_go (S.sl (r:=(fz rLane)) m0) (Hp.le_refl _) he16 fun pe16=>?_
    obtain ⟨_,cr56,Rr56,Nr56,Or56,Zr56⟩:=St.idxO (r:=rLane) S m0 he16
    obtain rfl:=rLane_open Rr56
    refine ⟨(.int .i64 e16.From),(.int .i64 e16.To),(.int .i64 e16.Ahead),Nr56,?_⟩
    obtain ⟨e17,he17,hf⟩:=oB hf
    refine ix_go (S.sl (r:=(fz rLane)) m0) (Hp.le_refl _) he17 fun pe17=>?_
    obtain ⟨_,cr57,Rr57,Nr57,Or57,Zr57⟩:=St.idxO (r:=rLane) S m0 he17
    obtain rfl:=rLane_open Rr57
    refine ⟨(.int .i64 e17.From),(.int .i64 e17.To),(.int .i64 e17.Ahead),Nr57,?_⟩
    obtain ⟨e18,he18,hf⟩:=oB hf
    refine ix_go (S.sl (r:=(fz rLane)) m0) (Hp.le_refl _) he18 fun pe18=>?_
    obtain ⟨y19,hy19,hf⟩:=oB hf
    obtain ⟨h58,e59,S⟩:=St.setE (r:=rLane) (x':=e16) (k:=0) (n:=3) (y:=(.agg [(.int .i64 e16.From),(.int .i64 e16.To),(.int .i64 e16.Ahead)])) S he18 rfl rfl (nl rfl) (by rintro _ h; obtain rfl:=rLane_open h; exact rLane_mk (x:=e16))
    rw [padd_zero] at e59
    have S:St _ _ [own (oSl (fz rLane)) [a0_0] y19] _:=S.cast1 (by rw [← oi hy19]<;>rfl)
    have hqy19:idx y19 (IntKind.wrap .i64 (x3+y10))=some e16:=oi hy19▸idx_set he18
    refine ⟨h58,e59,?_⟩
    obtain ⟨e20,he20,hf⟩:=oB hf
    refine ix_go (S.sl (r:=(fz rLane)) m0) (Hp.le_refl _) he20 fun pe20=>?_
    obtain ⟨y21,hy21,hf⟩:=oB hf
    obtain ⟨h60,e61,S⟩:=St.setE (r:=rLane) (x':=e17) (k:=0) (n:=3) (y:=(.agg [(.int .i64 e17.From),(.int .i64 e17.To),(.int .i64 e17.Ahead)])) S he20 rfl rfl (nl rfl) (by rintro _ h; obtain rfl:=rLane_open h; exact rLane_mk (x:=e17))
    rw [padd_zero] at e61
    have S:St _ _ [own (oSl (fz rLane)) [a0_0] y21] _:=S.cast1 (by rw [← oi hy21]<;>rfl)
    have hqy21:idx y21 (IntKind.wrap .i64 (x3+y12))=some e17:=oi hy21▸idx_set he20
    refine ⟨h60,e61,?_⟩
    obtain rfl:=oi hf
    exact ⟨m42,Nat.lt_succ_self _,y21,rfl,rfl,rfl,rfl,S,hk⟩
   refine bI (fun hc=>?_) (fun hc=>?_)
   ·rw [ifT hc] at hf
    exact hjj0 _ _  hf  S
   rw [ifF hc] at hf
   exact hjj0 _ _  hf  S
  refine bI (fun hc=>?_) (fun hc=>?_)
  ·rw [ifD hc] at hf
   obtain ⟨e23,he23,hf⟩:=oB hf
   refine ix_go (S.sl (r:=(fz rLane)) m0) (Hp.le_refl _) he23 fun pe23=>?_
   obtain ⟨_,cr62,Rr62,Nr62,Or62,Zr62⟩:=St.idxO (r:=rLane) S m0 he23
   obtain rfl:=rLane_open Rr62
   refine ⟨(.int .i64 e23.From),(.int .i64 e23.To),(.int .i64 e23.Ahead),Nr62,?_⟩
   obtain ⟨e24,he24,hf⟩:=oB hf
   refine ix_go (S.sl (r:=(fz rLane)) m0) (Hp.le_refl _) he24 fun pe24=>?_
   obtain ⟨_,cr63,Rr63,Nr63,Or63,Zr63⟩:=St.idxO (r:=rLane) S m0 he24
   obtain rfl:=rLane_open Rr63
   refine ⟨(.int .i64 e24.From),(.int .i64 e24.To),(.int .i64 e24.Ahead),Nr63,?_⟩
   obtain ⟨r25,hr25,hf⟩:=oB hf
   refine ⟨_,Fz.refl _,?_⟩
   refine callW_mono (f4_0 _ e23 e24 _ hr25) fun v64 h65 T=>?_
   obtain ⟨rfl,T⟩:=T
   have S:St _ _ [_] _:=S.comp T
   refine ⟨r25,rfl,?_⟩
   exact hjj1 _ _  hf  S
  rw [ifE hc] at hf
  exact hjj1 _ _  hf  S
 exact ⟨x0,rfl,rfl,rfl,rfl,S,hL⟩
def p62_l0 (a1:Int) (b2:Int) (cmp3:TLane→TLane→Option Int) (st:Int×(List TLane)):Option ((Int×(List TLane))⊕(List TLane)):=match st with | (i10,data11)=>if 0≤i10 then ((p73 data11 i10 (IntKind.wrap .i64 (b2 - a1)) a1 cmp3).bind fun u12=>some (.inl ((IntKind.wrap .i64 (i10 - 1)),u12))) else (some (.inr data11))
def p62_l1 (a1:Int) (cmp3:TLane→TLane→Option Int) (st:Int×(List TLane)):Option ((Int×(List TLane))⊕(List TLane)):=match st with | (i13,data14)=>if 0≤i13 then ((idx data14 (IntKind.wrap .i64 (a1+i13))).bind fun e15=>(idx data14 a1).bind fun e16=>(idx data14 a1).bind fun e17=>(some (data14.set (a1:Int).toNat e15)).bind fun data18=>(idx data18 (IntKind.wrap .i64 (a1+i13))).bind fun e19=>(some (data18.set ((IntKind.wrap .i64 (a1+i13)):Int).toNat e16)).bind fun data20=>(p73 data20 0 i13 a1 cmp3).bind fun u21=>some (.inl ((IntKind.wrap .i64 (i13 - 1)),u21))) else (some (.inr data14))
def p62 (data0:List TLane) (a1:Int) (b2:Int) (cmp3:TLane→TLane→Option Int):Option (List TLane):=(loopC (p62_l0 a1 b2 cmp3) ((IntKind.wrap .i64 (Int.tdiv (IntKind.wrap .i64 ((IntKind.wrap .i64 (b2 - a1)) - 1)) 2)),data0)).bind fun res22=>((fun (data23:List TLane)=>(loopC (p62_l1 a1 cmp3) ((IntKind.wrap .i64 ((IntKind.wrap .i64 (b2 - a1)) - 1)),data23)).bind fun res24=>((fun (c25:List TLane)=>some c25) res24)) res22)
theorem r62 {h:Heap} {a0_0:AV} {a3_0:AV} {M:Nat→Prop} {data0:List TLane} {a1:Int} {b2:Int} {cmp3:TLane→TLane→Option Int} (S:St h M [own (oSl (fz rLane)) [a0_0] data0] h) (f3_0:∀ (h':Heap) (y0:TLane) (y1:TLane) r,cmp3 y0 y1=some r→callW F a3_0 [.agg [.int .i64 y0.From,.int .i64 y0.To,.int .i64 y0.Ahead],.agg [.int .i64 y1.From,.int .i64 y1.To,.int .i64 y1.Ahead]] h' fun v h2=>v=.int .i64 r∧St h' none' [] h2) {r:(List TLane)} (hf:p62 data0 a1 b2 cmp3=some r):ZC F 62 [a0_0,(.int .i64 a1),(.int .i64 b2),a3_0] h fun v h'=>v=.tuple []∧St h M [own (oSl (fz rLane)) [a0_0] r] h':=by
 refine w62 ?_
 unfold W62
 unfold p62 at hf
 obtain ⟨res22,hL,hf⟩:=oB hf
 obtain ⟨n26,hL⟩:=loopC_iff.1 hL
 refine loopm62_0 (X0:=fun (data27:AV) (cmp28:AV) (first29:Int) (lo30:Int) (hi31:Int) (i32:Int) (h33:Heap)=>∃ (data23:List TLane),a0_0=data27∧a3_0=cmp28∧a1=first29∧0=lo30∧(IntKind.wrap .i64 (b2 - a1))=hi31∧St h M [own (oSl (fz rLane)) [a0_0] data23] h33∧data23=res22) ?_ (loop62_0 (I:=fun (m34:Nat) (data35:AV) (cmp36:AV) (first37:Int) (lo38:Int) (hi39:Int) (i10:Int) (h40:Heap)=>∃ (data11:List TLane),a0_0=data35∧a3_0=cmp36∧a1=first37∧0=lo38∧(IntKind.wrap .i64 (b2 - a1))=hi39∧St h M [own (oSl (fz rLane)) [a0_0] data11] h40∧iter (p62_l0 a1 b2 cmp3) m34 (i10,data11)=some res22) ?_ (m:=n26) ?_)
 ·rintro data27 cmp28 first29 lo30 hi31 i32 h33 ⟨data23,rfl,rfl,rfl,rfl,rfl,S,rfl⟩
  try dsimp only at hf
  obtain ⟨res24,hL,hf⟩:=oB hf
  obtain ⟨n41,hL⟩:=loopC_iff.1 hL
  refine loopm62_1 (X2:=fun (data42:AV) (cmp43:AV) (first44:Int) (lo45:Int) (i46:Int) (h47:Heap)=>∃ (c25:List TLane),St h M [own (oSl (fz rLane)) [a0_0] c25] h47∧c25=res24) ?_ (loop62_1 (I:=fun (m48:Nat) (data49:AV) (cmp50:AV) (first51:Int) (lo52:Int) (i13:Int) (h53:Heap)=>∃ (data14:List TLane),a0_0=data49∧a3_0=cmp50∧a1=first51∧0=lo52∧St h M [own (oSl (fz rLane)) [a0_0] data14] h53∧iter (p62_l1 a1 cmp3) m48 (i13,data14)=some res24) ?_ (m:=n41) ?_)
  ·rintro data42 cmp43 first44 lo45 i46 h47 ⟨c25,S,rfl⟩
   try dsimp only at hf
   obtain rfl:=oi hf
   exact ⟨rfl,S.sel [0] rfl⟩
  ·rintro m54 data49 cmp50 first51 lo52 i13 h53 ⟨data14,rfl,rfl,rfl,rfl,S,hit⟩
   obtain ⟨m48,q55,rfl,hf,hk⟩:=iter_some hit
   clear hit
   unfold B62_1
   unfold p62_l1 at hf
   try dsimp only at hf
   refine bI (fun hc=>?_) (fun hc=>?_)
   ·rw [ifD hc] at hf
    obtain ⟨e15,he15,hf⟩:=oB hf
    refine ix_go (S.sl (r:=(fz rLane)) m0) (Hp.le_refl _) he15 fun pe15=>?_
    obtain ⟨_,cr56,Rr56,Nr56,Or56,Zr56⟩:=St.idxO (r:=rLane) S m0 he15
    obtain rfl:=rLane_open Rr56
    refine ⟨(.int .i64 e15.From),(.int .i64 e15.To),(.int .i64 e15.Ahead),Nr56,?_⟩
    obtain ⟨e16,he16,hf⟩:=oB hf
    refine ix_go (S.sl (r:=(fz rLane)) m0) (Hp.le_refl _) he16 fun pe16=>?_
    obtain ⟨_,cr57,Rr57,Nr57,Or57,Zr57⟩:=St.idxO (r:=rLane) S m0 he16
    obtain rfl:=rLane_open Rr57
    refine ⟨(.int .i64 e16.From),(.int .i64 e16.To),(.int .i64 e16.Ahead),Nr57,?_⟩
    obtain ⟨e17,he17,hf⟩:=oB hf
    refine ix_go (S.sl (r:=(fz rLane)) m0) (Hp.le_refl _) he17 fun pe17=>?_
    obtain ⟨data18,hdata18,hf⟩:=oB hf
    obtain ⟨h58,e59,S⟩:=St.setE (r:=rLane) (x':=e15) (k:=0) (n:=3) (y:=(.agg [(.int .i64 e15.From),(.int .i64 e15.To),(.int .i64 e15.Ahead)])) S he17 rfl rfl (nl rfl) (by rintro _ h; obtain rfl:=rLane_open h; exact rLane_mk (x:=e15))
    rw [padd_zero] at e59
    have S:St _ _ [own (oSl (fz rLane)) [a0_0] data18] _:=S.cast1 (by rw [← oi hdata18]<;>rfl)
    have hqdata18:idx data18 a1=some e15:=oi hdata18▸idx_set he17
    refine ⟨h58,e59,?_⟩
    obtain ⟨e19,he19,hf⟩:=oB hf
    refine ix_go (S.sl (r:=(fz rLane)) m0) (Hp.le_refl _) he19 fun pe19=>?_
    obtain ⟨data20,hdata20,hf⟩:=oB hf
    obtain ⟨h60,e61,S⟩:=St.setE (r:=rLane) (x':=e16) (k:=0) (n:=3) (y:=(.agg [(.int .i64 e16.From),(.int .i64 e16.To),(.int .i64 e16.Ahead)])) S he19 rfl rfl (nl rfl) (by rintro _ h; obtain rfl:=rLane_open h; exact rLane_mk (x:=e16))
    rw [padd_zero] at e61
    have S:St _ _ [own (oSl (fz rLane)) [a0_0] data20] _:=S.cast1 (by rw [← oi hdata20]<;>rfl)
    have hqdata20:idx data20 (IntKind.wrap .i64 (a1+i13))=some e16:=oi hdata20▸idx_set he19
    refine ⟨h60,e61,?_⟩
    obtain ⟨u21,hu21,hf⟩:=oB hf
    refine ⟨_,Fz.refl _,?_⟩
    obtain ⟨fpu21,S1u199,backu21⟩:=St.lend [_] S
    refine (r73 (x0:=data20) (x1:=0) (x2:=i13) (x3:=a1) (x4:=cmp3) (f4_0:=f3_0) (S:=S1u199) hu21).mono fun v62 h63 T=>?_
    obtain ⟨rfl,T⟩:=T
    have S:St _ _ [own (oSl (fz rLane)) [a0_0] u21] _:=backu21 _ _ T
    obtain rfl:=oi hf
    exact ⟨m48,Nat.lt_succ_self _,u21,rfl,rfl,rfl,rfl,S,hk⟩
   rw [ifE hc] at hf
   obtain rfl:=oi hf
   obtain rfl:=hk
   exact ⟨data14,S,rfl⟩
  exact ⟨data23,rfl,rfl,rfl,rfl,S,hL⟩
 ·rintro m64 data35 cmp36 first37 lo38 hi39 i10 h40 ⟨data11,rfl,rfl,rfl,rfl,rfl,S,hit⟩
  obtain ⟨m34,q65,rfl,hf,hk⟩:=iter_some hit
  clear hit
  unfold B62_0
  unfold p62_l0 at hf
  try dsimp only at hf
  refine bI (fun hc=>?_) (fun hc=>?_)
  ·rw [ifD hc] at hf
   obtain ⟨u12,hu12,hf⟩:=oB hf
   refine ⟨_,Fz.refl _,?_⟩
   obtain ⟨fpu12,S1u133,backu12⟩:=St.lend [_] S
   refine (r73 (x0:=data11) (x1:=i10) (x2:=(IntKind.wrap .i64 (b2 - a1))) (x3:=a1) (x4:=cmp3) (f4_0:=f3_0) (S:=S1u133) hu12).mono fun v66 h67 T=>?_
   obtain ⟨rfl,T⟩:=T
   have S:St _ _ [own (oSl (fz rLane)) [a0_0] u12] _:=backu12 _ _ T
   obtain rfl:=oi hf
   exact ⟨m34,Nat.lt_succ_self _,u12,rfl,rfl,rfl,rfl,rfl,S,hk⟩
  rw [ifE hc] at hf
  obtain rfl:=oi hf
  obtain rfl:=hk
  exact ⟨data11,rfl,rfl,rfl,rfl,rfl,S,rfl⟩
 exact ⟨data0,rfl,rfl,rfl,rfl,rfl,S,hL⟩
def p69_j0 (x10:Int) (n11:Int):Option Int:=(idxS ([0,1,2,2,3,3,3,3,4,4,4,4,4,4,4,4,5,5,5,5,5,5,5,5,5,5,5,5,5,5,5,5,6,6,6,6,6,6,6,6,6,6,6,6,6,6,6,6,6,6,6,6,6,6,6,6,6,6,6,6,6,6,6,6,7,7,7,7,7,7,7,7,7,7,7,7,7,7,7,7,7,7,7,7,7,7,7,7,7,7,7,7,7,7,7,7,7,7,7,7,7,7,7,7,7,7,7,7,7,7,7,7,7,7,7,7,7,7,7,7,7,7,7,7,7,7,7,7,8,8,8,8,8,8,8,8,8,8,8,8,8,8,8,8,8,8,8,8,8,8,8,8,8,8,8,8,8,8,8,8,8,8,8,8,8,8,8,8,8,8,8,8,8,8,8,8,8,8,8,8,8,8,8,8,8,8,8,8,8,8,8,8,8,8,8,8,8,8,8,8,8,8,8,8,8,8,8,8,8,8,8,8,8,8,8,8,8,8,8,8,8,8,8,8,8,8,8,8,8,8,8,8,8,8,8,8,8,8,8,8,8,8,8,8,8,8,8,8,8,8,8,8,8,8,8,8]:List UInt8) (IntKind.wrap .u8 x10)).bind fun y12=>some (IntKind.wrap .i64 (n11+(IntKind.wrap .i64 y12)))
def p69_j1 (x13:Int) (n14:Int):Option Int:=if 256≤x13 then ((shrI .u32 x13 8).bind fun d15=>p69_j0 d15 (IntKind.wrap .i64 (n14+8))) else (p69_j0 x13 n14)
def p69 (x0:Int):Option Int:=if 65536≤x0 then ((shrI .u32 x0 16).bind fun d16=>p69_j1 d16 16) else (p69_j1 x0 0)
def p70_j0 (x10:Int) (n11:Int):Option Int:=(idxS ([0,1,2,2,3,3,3,3,4,4,4,4,4,4,4,4,5,5,5,5,5,5,5,5,5,5,5,5,5,5,5,5,6,6,6,6,6,6,6,6,6,6,6,6,6,6,6,6,6,6,6,6,6,6,6,6,6,6,6,6,6,6,6,6,7,7,7,7,7,7,7,7,7,7,7,7,7,7,7,7,7,7,7,7,7,7,7,7,7,7,7,7,7,7,7,7,7,7,7,7,7,7,7,7,7,7,7,7,7,7,7,7,7,7,7,7,7,7,7,7,7,7,7,7,7,7,7,7,8,8,8,8,8,8,8,8,8,8,8,8,8,8,8,8,8,8,8,8,8,8,8,8,8,8,8,8,8,8,8,8,8,8,8,8,8,8,8,8,8,8,8,8,8,8,8,8,8,8,8,8,8,8,8,8,8,8,8,8,8,8,8,8,8,8,8,8,8,8,8,8,8,8,8,8,8,8,8,8,8,8,8,8,8,8,8,8,8,8,8,8,8,8,8,8,8,8,8,8,8,8,8,8,8,8,8,8,8,8,8,8,8,8,8,8,8,8,8,8,8,8,8,8,8,8,8,8]:List UInt8) (IntKind.wrap .u8 x10)).bind fun y12=>some (IntKind.wrap .i64 (n11+(IntKind.wrap .i64 y12)))
def p70_j1 (x13:Int) (n14:Int):Option Int:=if 256≤x13 then ((shrI .u64 x13 8).bind fun d15=>p70_j0 d15 (IntKind.wrap .i64 (n14+8))) else (p70_j0 x13 n14)
def p70_j2 (x16:Int) (n17:Int):Option Int:=if 65536≤x16 then ((shrI .u64 x16 16).bind fun d18=>p70_j1 d18 (IntKind.wrap .i64 (n17+16))) else (p70_j1 x16 n17)
def p70 (x0:Int):Option Int:=if 4294967296≤x0 then ((shrI .u64 x0 32).bind fun d19=>p70_j2 d19 32) else (p70_j2 x0 0)
theorem r70 {h:Heap}  {x0:Int} {r:Int} (hf:p70 x0=some r):ZC F 70 [(.int .u64 x0)] h fun v h'=>v=.int .i64 r∧St h none' [] h':=by
 refine w70 ?_
 unfold W70
 unfold p70 at hf
 have S:St h none' [] h:=St.refl _ _
 intro jjj2
 have hjj2:∀ (x16:Int) (n17:Int) (h20:Heap),p70_j2 x16 n17=some r→St h none' [] h20→jjj2 x16 n17 h20:=by
  rintro x16 n17 h20 hf S
  unfold p70_j2 at hf
  unfold jjj2
  intro jjj1
  have hjj1:∀ (x13:Int) (n14:Int) (h21:Heap),p70_j1 x13 n14=some r→St h none' [] h21→jjj1 x13 n14 h21:=by
   rintro x13 n14 h21 hf S
   unfold p70_j1 at hf
   unfold jjj1
   intro jjj0
   have hjj0:∀ (x10:Int) (n11:Int) (h22:Heap),p70_j0 x10 n11=some r→St h none' [] h22→jjj0 x10 n11 h22:=by
    rintro x10 n11 h22 hf S
    unfold p70_j0 at hf
    unfold jjj0
    obtain ⟨y12,hy12,hf⟩:=oB hf
    refine oI (.int .u8 y12) (idxS_ev hy12) ⟨y12,rfl,?_⟩
    obtain rfl:=oi hf
    exact ⟨rfl,S.sel [] rfl⟩
   refine bI (fun hc=>?_) (fun hc=>?_)
   ·rw [ifD hc] at hf
    obtain ⟨d15,hd15,hf⟩:=oB hf
    refine oI (.int .u64 d15) (shrI_ev hd15) ⟨d15,rfl,?_⟩
    exact hjj0 _ _ _  hf  S
   rw [ifE hc] at hf
   exact hjj0 _ _ _  hf  S
  refine bI (fun hc=>?_) (fun hc=>?_)
  ·rw [ifD hc] at hf
   obtain ⟨d18,hd18,hf⟩:=oB hf
   refine oI (.int .u64 d18) (shrI_ev hd18) ⟨d18,rfl,?_⟩
   exact hjj1 _ _ _  hf  S
  rw [ifE hc] at hf
  exact hjj1 _ _ _  hf  S
 refine bI (fun hc=>?_) (fun hc=>?_)
 ·rw [ifD hc] at hf
  obtain ⟨d19,hd19,hf⟩:=oB hf
  refine oI (.int .u64 d19) (shrI_ev hd19) ⟨d19,rfl,?_⟩
  exact hjj2 _ _ _  hf  S
 rw [ifE hc] at hf
 exact hjj2 _ _ _  hf  S
def p58 (x0:Int):Option Int:=(p70 x0).bind fun y10=>some y10
theorem r58 {h:Heap}  {x0:Int} {r:Int} (hf:p58 x0=some r):ZC F 58 [(.int .u64 x0)] h fun v h'=>v=.int .i64 r∧St h none' [] h':=by
 refine w58 ?_
 unfold W58
 unfold p58 at hf
 have S:St h none' [] h:=St.refl _ _
 obtain ⟨y10,hy10,hf⟩:=oB hf
 refine ⟨_,Fz.refl _,?_⟩
 refine (r70 (x0:=x0) hy10).mono fun v11 h12 T=>?_
 obtain ⟨rfl,T⟩:=T
 have S:St _ _ [] _:=S.comp T
 refine ⟨y10,rfl,?_⟩
 obtain rfl:=oi hf
 exact ⟨rfl,S.sel [] rfl⟩
def p74 (length0:Int):Option Int:=(p58 (IntKind.wrap .u64 length0)).bind fun y10=>(shlI .u64 1 y10).bind fun d11=>some d11
theorem r74 {h:Heap}  {length0:Int} {r:Int} (hf:p74 length0=some r):ZC F 74 [(.int .i64 length0)] h fun v h'=>v=.int .u64 r∧St h none' [] h':=by
 refine w74 ?_
 unfold W74
 unfold p74 at hf
 have S:St h none' [] h:=St.refl _ _
 obtain ⟨y10,hy10,hf⟩:=oB hf
 refine ⟨_,Fz.refl _,?_⟩
 refine (r58 (x0:=(IntKind.wrap .u64 length0)) hy10).mono fun v12 h13 T=>?_
 obtain ⟨rfl,T⟩:=T
 have S:St _ _ [] _:=S.comp T
 refine ⟨y10,rfl,?_⟩
 obtain ⟨d11,hd11,hf⟩:=oB hf
 refine oI (.int .u64 d11) (shlI_ev hd11) ⟨d11,rfl,?_⟩
 obtain rfl:=oi hf
 exact ⟨rfl,S.sel [] rfl⟩
def p75 (r0:Option Int):Option (Int×(Option Int)):=r0.bind fun b10=>(shlI .u64 b10 13).bind fun d11=>(shrI .u64 (IntKind.wrap .u64 ((BitVec.ofInt (IntKind.bits .u64) b10 ^^^ BitVec.ofInt (IntKind.bits .u64) d11).toNat)) 7).bind fun d12=>(shlI .u64 (IntKind.wrap .u64 ((BitVec.ofInt (IntKind.bits .u64) (IntKind.wrap .u64 ((BitVec.ofInt (IntKind.bits .u64) b10 ^^^ BitVec.ofInt (IntKind.bits .u64) d11).toNat)) ^^^ BitVec.ofInt (IntKind.bits .u64) d12).toNat)) 17).bind fun d13=>some ((IntKind.wrap .u64 ((BitVec.ofInt (IntKind.bits .u64) (IntKind.wrap .u64 ((BitVec.ofInt (IntKind.bits .u64) (IntKind.wrap .u64 ((BitVec.ofInt (IntKind.bits .u64) b10 ^^^ BitVec.ofInt (IntKind.bits .u64) d11).toNat)) ^^^ BitVec.ofInt (IntKind.bits .u64) d12).toNat)) ^^^ BitVec.ofInt (IntKind.bits .u64) d13).toNat)),(some (IntKind.wrap .u64 ((BitVec.ofInt (IntKind.bits .u64) (IntKind.wrap .u64 ((BitVec.ofInt (IntKind.bits .u64) (IntKind.wrap .u64 ((BitVec.ofInt (IntKind.bits .u64) b10 ^^^ BitVec.ofInt (IntKind.bits .u64) d11).toNat)) ^^^ BitVec.ofInt (IntKind.bits .u64) d12).toNat)) ^^^ BitVec.ofInt (IntKind.bits .u64) d13).toNat))))
theorem r75 {h:Heap} {a0_0:AV} {M:Nat→Prop} {r0:Option Int} (S:St h M [own (oPtr (fz (rI .u64))) [a0_0] r0] h) {r:Int×(Option Int)} (hf:p75 r0=some r):ZC F 75 [a0_0] h fun v h'=>v=.int .u64 r.1∧St h M [own (oPtr (fz (rI .u64))) [a0_0] r.2] h':=by
 refine w75 ?_
 unfold W75
 unfold p75 at hf
 obtain ⟨b10,hb10,hf⟩:=oB hf
 have S:St _ _ [own (oPtr (fz (rI .u64))) [a0_0] (some b10)] _:=S.cast1 (by rw [hb10])
 obtain ⟨o14,v15,rwb10,eP,S2⟩:=St.ptrOpen S
 subst eP
 have S:=S2
 have S:=S.swap
 obtain rfl:=rI_open (S.fzr (.head _))
 have S:=S.drop
 refine oI _ rfl ?_
 refine ⟨b10,S.rd1 m0 rfl,?_⟩
 refine oI (.ptr o14 v15 0) rfl ?_
 refine ⟨b10,S.rd1 m0 rfl,?_⟩
 obtain ⟨d11,hd11,hf⟩:=oB hf
 refine oI (.int .u64 d11) (shlI_ev hd11) ⟨d11,rfl,?_⟩
 refine oI (.ptr o14 v15 0) rfl ?_
 obtain ⟨h16,e17,S⟩:=S.store (off:=0) (n:=1) (x:=(.int .u64 (IntKind.wrap .u64 ((BitVec.ofInt (IntKind.bits .u64) b10 ^^^ BitVec.ofInt (IntKind.bits .u64) d11).toNat)))) (cs':=[(.int .u64 (IntKind.wrap .u64 ((BitVec.ofInt (IntKind.bits .u64) b10 ^^^ BitVec.ofInt (IntKind.bits .u64) d11).toNat)))]) (nl rfl) rfl rfl rfl
 refine ⟨h16,e17,?_⟩
 refine oI (.ptr o14 v15 0) rfl ?_
 refine ⟨(IntKind.wrap .u64 ((BitVec.ofInt (IntKind.bits .u64) b10 ^^^ BitVec.ofInt (IntKind.bits .u64) d11).toNat)),S.rd1 m0 rfl,?_⟩
 refine oI (.ptr o14 v15 0) rfl ?_
 refine ⟨(IntKind.wrap .u64 ((BitVec.ofInt (IntKind.bits .u64) b10 ^^^ BitVec.ofInt (IntKind.bits .u64) d11).toNat)),S.rd1 m0 rfl,?_⟩
 obtain ⟨d12,hd12,hf⟩:=oB hf
 refine oI (.int .u64 d12) (shrI_ev hd12) ⟨d12,rfl,?_⟩
 refine oI (.ptr o14 v15 0) rfl ?_
 obtain ⟨h18,e19,S⟩:=S.store (off:=0) (n:=1) (x:=(.int .u64 (IntKind.wrap .u64 ((BitVec.ofInt (IntKind.bits .u64) (IntKind.wrap .u64 ((BitVec.ofInt (IntKind.bits .u64) b10 ^^^ BitVec.ofInt (IntKind.bits .u64) d11).toNat)) ^^^ BitVec.ofInt (IntKind.bits .u64) d12).toNat)))) (cs':=[(.int .u64 (IntKind.wrap .u64 ((BitVec.ofInt (IntKind.bits .u64) (IntKind.wrap .u64 ((BitVec.ofInt (IntKind.bits .u64) b10 ^^^ BitVec.ofInt (IntKind.bits .u64) d11).toNat)) ^^^ BitVec.ofInt (IntKind.bits .u64) d12).toNat)))]) (nl rfl) rfl rfl rfl
 refine ⟨h18,e19,?_⟩
 refine oI (.ptr o14 v15 0) rfl ?_
 refine ⟨(IntKind.wrap .u64 ((BitVec.ofInt (IntKind.bits .u64) (IntKind.wrap .u64 ((BitVec.ofInt (IntKind.bits .u64) b10 ^^^ BitVec.ofInt (IntKind.bits .u64) d11).toNat)) ^^^ BitVec.ofInt (IntKind.bits .u64) d12).toNat)),S.rd1 m0 rfl,?_⟩
 refine oI (.ptr o14 v15 0) rfl ?_
 refine ⟨(IntKind.wrap .u64 ((BitVec.ofInt (IntKind.bits .u64) (IntKind.wrap .u64 ((BitVec.ofInt (IntKind.bits .u64) b10 ^^^ BitVec.ofInt (IntKind.bits .u64) d11).toNat)) ^^^ BitVec.ofInt (IntKind.bits .u64) d12).toNat)),S.rd1 m0 rfl,?_⟩
 obtain ⟨d13,hd13,hf⟩:=oB hf
 refine oI (.int .u64 d13) (shlI_ev hd13) ⟨d13,rfl,?_⟩
 refine oI (.ptr o14 v15 0) rfl ?_
 obtain ⟨h20,e21,S⟩:=S.store (off:=0) (n:=1) (x:=(.int .u64 (IntKind.wrap .u64 ((BitVec.ofInt (IntKind.bits .u64) (IntKind.wrap .u64 ((BitVec.ofInt (IntKind.bits .u64) (IntKind.wrap .u64 ((BitVec.ofInt (IntKind.bits .u64) b10 ^^^ BitVec.ofInt (IntKind.bits .u64) d11).toNat)) ^^^ BitVec.ofInt (IntKind.bits .u64) d12).toNat)) ^^^ BitVec.ofInt (IntKind.bits .u64) d13).toNat)))) (cs':=[(.int .u64 (IntKind.wrap .u64 ((BitVec.ofInt (IntKind.bits .u64) (IntKind.wrap .u64 ((BitVec.ofInt (IntKind.bits .u64) (IntKind.wrap .u64 ((BitVec.ofInt (IntKind.bits .u64) b10 ^^^ BitVec.ofInt (IntKind.bits .u64) d11).toNat)) ^^^ BitVec.ofInt (IntKind.bits .u64) d12).toNat)) ^^^ BitVec.ofInt (IntKind.bits .u64) d13).toNat)))]) (nl rfl) rfl rfl rfl
 refine ⟨h20,e21,?_⟩
 refine oI (.ptr o14 v15 0) rfl ?_
 refine ⟨(IntKind.wrap .u64 ((BitVec.ofInt (IntKind.bits .u64) (IntKind.wrap .u64 ((BitVec.ofInt (IntKind.bits .u64) (IntKind.wrap .u64 ((BitVec.ofInt (IntKind.bits .u64) b10 ^^^ BitVec.ofInt (IntKind.bits .u64) d11).toNat)) ^^^ BitVec.ofInt (IntKind.bits .u64) d12).toNat)) ^^^ BitVec.ofInt (IntKind.bits .u64) d13).toNat)),S.rd1 m0 rfl,?_⟩
 have S:St _ _ [own (fz (rI .u64)) [(.int .u64 (IntKind.wrap .u64 ((BitVec.ofInt (IntKind.bits .u64) (IntKind.wrap .u64 ((BitVec.ofInt (IntKind.bits .u64) (IntKind.wrap .u64 ((BitVec.ofInt (IntKind.bits .u64) b10 ^^^ BitVec.ofInt (IntKind.bits .u64) d11).toNat)) ^^^ BitVec.ofInt (IntKind.bits .u64) d12).toNat)) ^^^ BitVec.ofInt (IntKind.bits .u64) d13).toNat)))] (IntKind.wrap .u64 ((BitVec.ofInt (IntKind.bits .u64) (IntKind.wrap .u64 ((BitVec.ofInt (IntKind.bits .u64) (IntKind.wrap .u64 ((BitVec.ofInt (IntKind.bits .u64) b10 ^^^ BitVec.ofInt (IntKind.bits .u64) d11).toNat)) ^^^ BitVec.ofInt (IntKind.bits .u64) d12).toNat)) ^^^ BitVec.ofInt (IntKind.bits .u64) d13).toNat)),_] _:=S.add (r:=(rI .u64)) (x:=(IntKind.wrap .u64 ((BitVec.ofInt (IntKind.bits .u64) (IntKind.wrap .u64 ((BitVec.ofInt (IntKind.bits .u64) (IntKind.wrap .u64 ((BitVec.ofInt (IntKind.bits .u64) b10 ^^^ BitVec.ofInt (IntKind.bits .u64) d11).toNat)) ^^^ BitVec.ofInt (IntKind.bits .u64) d12).toNat)) ^^^ BitVec.ofInt (IntKind.bits .u64) d13).toNat))) rfl
 have S:=S.sel [1,0] rfl
 have S:St _ _ [own (oPtr (fz (rI .u64))) [(.ptr o14 v15 0)] (some (IntKind.wrap .u64 ((BitVec.ofInt (IntKind.bits .u64) (IntKind.wrap .u64 ((BitVec.ofInt (IntKind.bits .u64) (IntKind.wrap .u64 ((BitVec.ofInt (IntKind.bits .u64) b10 ^^^ BitVec.ofInt (IntKind.bits .u64) d11).toNat)) ^^^ BitVec.ofInt (IntKind.bits .u64) d12).toNat)) ^^^ BitVec.ofInt (IntKind.bits .u64) d13).toNat)))] _:=S.ptrClose
 obtain rfl:=oi hf
 exact ⟨rfl,S.sel [0] rfl⟩
def p63_j0 (x1:Int) (y10:Int) (y11:List TLane) (u12:Int×(Option Int)) (y13:Int):Option ((Int×(List TLane)×(Option Int))⊕(List TLane)):=(idx y11 (IntKind.wrap .i64 (x1+y13))).bind fun e14=>(idx y11 y10).bind fun e15=>(idx y11 y10).bind fun e16=>(some (y11.set (y10:Int).toNat e14)).bind fun y17=>(idx y17 (IntKind.wrap .i64 (x1+y13))).bind fun e18=>(some (y17.set ((IntKind.wrap .i64 (x1+y13)):Int).toNat e15)).bind fun y19=>some (.inl ((IntKind.wrap .i64 (y10+1)),y19,u12.2))
def p63_l0 (x1:Int) (x2:Int) (y20:Int) (st:Int×(List TLane)×(Option Int)):Option ((Int×(List TLane)×(Option Int))⊕(List TLane)):=match st with | (y10,y11,l21)=>if y10≤(IntKind.wrap .i64 ((IntKind.wrap .i64 (x1+(IntKind.wrap .i64 ((IntKind.wrap .i64 (Int.tdiv (IntKind.wrap .i64 (x2 - x1)) 4)) * 2))))+1)) then ((p75 l21).bind fun u12=>if (IntKind.wrap .i64 (x2 - x1))≤(IntKind.wrap .i64 (IntKind.wrap .u64 ((BitVec.ofInt (IntKind.bits .u64) u12.1 &&& BitVec.ofInt (IntKind.bits .u64) (IntKind.wrap .u64 (y20 - 1))).toNat))) then (p63_j0 x1 y10 y11 u12 (IntKind.wrap .i64 ((IntKind.wrap .i64 (IntKind.wrap .u64 ((BitVec.ofInt (IntKind.bits .u64) u12.1 &&& BitVec.ofInt (IntKind.bits .u64) (IntKind.wrap .u64 (y20 - 1))).toNat))) - (IntKind.wrap .i64 (x2 - x1))))) else (p63_j0 x1 y10 y11 u12 (IntKind.wrap .i64 (IntKind.wrap .u64 ((BitVec.ofInt (IntKind.bits .u64) u12.1 &&& BitVec.ofInt (IntKind.bits .u64) (IntKind.wrap .u64 (y20 - 1))).toNat))))) else (some (.inr y11))
def p63 (x0:List TLane) (x1:Int) (x2:Int) (x3:TLane→TLane→Option Int):Option (List TLane):=if 8≤(IntKind.wrap .i64 (x2 - x1)) then ((p74 (IntKind.wrap .i64 (x2 - x1))).bind fun y20=>(loopC (p63_l0 x1 x2 y20) ((IntKind.wrap .i64 ((IntKind.wrap .i64 (x1+(IntKind.wrap .i64 ((IntKind.wrap .i64 (Int.tdiv (IntKind.wrap .i64 (x2 - x1)) 4)) * 2)))) - 1)),x0,(some (IntKind.wrap .u64 (IntKind.wrap .i64 (x2 - x1)))))).bind fun res22=>((fun (c23:List TLane)=>some c23) res22)) else (some x0)
theorem r63 {h:Heap} {a0_0:AV} {a3_0:AV} {M:Nat→Prop} {x0:List TLane} {x1:Int} {x2:Int} {x3:TLane→TLane→Option Int} (S:St h M [own (oSl (fz rLane)) [a0_0] x0] h) (f3_0:∀ (h':Heap) (y0:TLane) (y1:TLane) r,x3 y0 y1=some r→callW F a3_0 [.agg [.int .i64 y0.From,.int .i64 y0.To,.int .i64 y0.Ahead],.agg [.int .i64 y1.From,.int .i64 y1.To,.int .i64 y1.Ahead]] h' fun v h2=>v=.int .i64 r∧St h' none' [] h2) {r:(List TLane)} (hf:p63 x0 x1 x2 x3=some r):ZC F 63 [a0_0,(.int .i64 x1),(.int .i64 x2),a3_0] h fun v h'=>v=.tuple []∧St h M [own (oSl (fz rLane)) [a0_0] r] h':=by
 refine w63 ?_
 unfold W63
 unfold p63 at hf
 refine bI (fun hc=>?_) (fun hc=>?_)
 ·rw [ifD hc] at hf
  intro h24
  have S:St _ _ [rowC h.n [(.int .u64 0)] 0,own (oSl (fz rLane)) [a0_0] x0] _:=S.pushRow [(.int .u64 0)]
  obtain ⟨h25,e26,S⟩:=S.store (off:=0) (n:=1) (x:=(.int .u64 (IntKind.wrap .u64 (IntKind.wrap .i64 (x2 - x1))))) (cs':=[(.int .u64 (IntKind.wrap .u64 (IntKind.wrap .i64 (x2 - x1))))]) (nl rfl) rfl rfl rfl
  refine ⟨h25,e26,?_⟩
  obtain ⟨y20,hy20,hf⟩:=oB hf
  refine ⟨_,Fz.refl _,?_⟩
  refine (r74 (length0:=(IntKind.wrap .i64 (x2 - x1))) hy20).mono fun v27 h28 T=>?_
  obtain ⟨rfl,T⟩:=T
  have S:St _ _ [_,_] _:=S.comp T
  refine ⟨y20,rfl,?_⟩
  obtain ⟨res22,hL,hf⟩:=oB hf
  obtain ⟨n29,hL⟩:=loopC_iff.1 hL
  have S:St _ _ [own (fz (rI .u64)) [(.int .u64 (IntKind.wrap .u64 (IntKind.wrap .i64 (x2 - x1))))] (IntKind.wrap .u64 (IntKind.wrap .i64 (x2 - x1))),_,_] _:=S.add (r:=(rI .u64)) (x:=(IntKind.wrap .u64 (IntKind.wrap .i64 (x2 - x1)))) rfl
  have S:=S.sel [1,0,2] rfl
  have S:St _ _ [own (oPtr (fz (rI .u64))) [(.ptr h.n 0 0)] (some (IntKind.wrap .u64 (IntKind.wrap .i64 (x2 - x1)))),_] _:=S.ptrClose
  have S:=S.sel [1,0] rfl
  refine loopm63_0 (X0:=fun (y30:AV) (y31:Int) (y32:Int) (y33:AV) (y34:Int) (y35:Int) (h36:Heap)=>∃ (c23:List TLane),St h M [own (oSl (fz rLane)) [a0_0] c23] h36∧c23=res22) ?_ (loop63_0 (I:=fun (m37:Nat) (y38:AV) (y39:Int) (y40:Int) (y41:AV) (y42:Int) (y10:Int) (h43:Heap)=>∃ (y11:List TLane),∃ (l21:Option Int),a0_0=y38∧x1=y39∧(IntKind.wrap .i64 (x2 - x1))=y40∧(AV.ptr h.n 0 0)=y41∧y20=y42∧St h M [own (oSl (fz rLane)) [a0_0] y11,own (oPtr (fz (rI .u64))) [(.ptr h.n 0 0)] l21] h43∧iter (p63_l0 x1 x2 y20) m37 (y10,y11,l21)=some res22) ?_ (m:=n29) ?_)
  ·rintro y30 y31 y32 y33 y34 y35 h36 ⟨c23,S,rfl⟩
   try dsimp only at hf
   obtain rfl:=oi hf
   exact ⟨rfl,S.sel [0] rfl⟩
  ·rintro m44 y38 y39 y40 y41 y42 y10 h43 ⟨y11,l21,rfl,rfl,rfl,rfl,rfl,S,hit⟩
   obtain ⟨m37,q45,rfl,hf,hk⟩:=iter_some hit
   clear hit
   unfold B63_0
   unfold p63_l0 at hf
   try dsimp only at hf
   refine bI (fun hc=>?_) (fun hc=>?_)
   ·rw [ifD hc] at hf
    obtain ⟨u12,hu12,hf⟩:=oB hf
    refine ⟨_,Fz.refl _,?_⟩
    have S:=S.sel [1,0] rfl
    obtain ⟨fpu12,S1u186,backu12⟩:=St.lend [_] S
    refine (r75 (r0:=l21) (S:=S1u186) hu12).mono fun v46 h47 T=>?_
    obtain ⟨rfl,T⟩:=T
    have S:St _ _ [own (oPtr (fz (rI .u64))) [(.ptr h.n 0 0)] u12.2,_] _:=backu12 _ _ T
    refine ⟨u12.1,rfl,?_⟩
    intro jjj0
    have hjj0:∀ (y13:Int) (h48:Heap),p63_j0 x1 y10 y11 u12 y13=some q45→St h M [own (oSl (fz rLane)) [a0_0] y11,own (oPtr (fz (rI .u64))) [(.ptr h.n 0 0)] u12.2] h48→jjj0 y13 h48:=by
     rintro y13 h48 hf S
     unfold p63_j0 at hf
     unfold jjj0
     obtain ⟨e14,he14,hf⟩:=oB hf
     refine ix_go (S.sl (r:=(fz rLane)) m0) (Hp.le_refl _) he14 fun pe14=>?_
     obtain ⟨_,cr49,Rr49,Nr49,Or49,Zr49⟩:=St.idxO (r:=rLane) S m0 he14
     obtain rfl:=rLane_open Rr49
     refine ⟨(.int .i64 e14.From),(.int .i64 e14.To),(.int .i64 e14.Ahead),Nr49,?_⟩
     obtain ⟨e15,he15,hf⟩:=oB hf
     refine ix_go (S.sl (r:=(fz rLane)) m0) (Hp.le_refl _) he15 fun pe15=>?_
     obtain ⟨_,cr50,Rr50,Nr50,Or50,Zr50⟩:=St.idxO (r:=rLane) S m0 he15
     obtain rfl:=rLane_open Rr50
     refine ⟨(.int .i64 e15.From),(.int .i64 e15.To),(.int .i64 e15.Ahead),Nr50,?_⟩
     obtain ⟨e16,he16,hf⟩:=oB hf
     refine ix_go (S.sl (r:=(fz rLane)) m0) (Hp.le_refl _) he16 fun pe16=>?_
     obtain ⟨y17,hy17,hf⟩:=oB hf
     obtain ⟨h51,e52,S⟩:=St.setE (r:=rLane) (x':=e14) (k:=0) (n:=3) (y:=(.agg [(.int .i64 e14.From),(.int .i64 e14.To),(.int .i64 e14.Ahead)])) S he16 rfl rfl (nl rfl) (by rintro _ h; obtain rfl:=rLane_open h; exact rLane_mk (x:=e14))
     rw [padd_zero] at e52
     have S:St _ _ [own (oSl (fz rLane)) [a0_0] y17,_] _:=S.cast1 (by rw [← oi hy17]<;>rfl)
     have hqy17:idx y17 y10=some e14:=oi hy17▸idx_set he16
     refine ⟨h51,e52,?_⟩
     obtain ⟨e18,he18,hf⟩:=oB hf
     refine ix_go (S.sl (r:=(fz rLane)) m0) (Hp.le_refl _) he18 fun pe18=>?_
     obtain ⟨y19,hy19,hf⟩:=oB hf
     obtain ⟨h53,e54,S⟩:=St.setE (r:=rLane) (x':=e15) (k:=0) (n:=3) (y:=(.agg [(.int .i64 e15.From),(.int .i64 e15.To),(.int .i64 e15.Ahead)])) S he18 rfl rfl (nl rfl) (by rintro _ h; obtain rfl:=rLane_open h; exact rLane_mk (x:=e15))
     rw [padd_zero] at e54
     have S:St _ _ [own (oSl (fz rLane)) [a0_0] y19,_] _:=S.cast1 (by rw [← oi hy19]<;>rfl)
     have hqy19:idx y19 (IntKind.wrap .i64 (x1+y13))=some e15:=oi hy19▸idx_set he18
     refine ⟨h53,e54,?_⟩
     obtain rfl:=oi hf
     exact ⟨m37,Nat.lt_succ_self _,y19,u12.2,rfl,rfl,rfl,rfl,rfl,S,hk⟩
    refine bI (fun hc=>?_) (fun hc=>?_)
    ·rw [ifD hc] at hf
     have S:=S.sel [1,0] rfl
     exact hjj0 _ _  hf  S
    rw [ifE hc] at hf
    have S:=S.sel [1,0] rfl
    exact hjj0 _ _  hf  S
   rw [ifE hc] at hf
   have S:=S.sel [0] rfl
   obtain rfl:=oi hf
   obtain rfl:=hk
   exact ⟨y11,S,rfl⟩
  exact ⟨x0,(some (IntKind.wrap .u64 (IntKind.wrap .i64 (x2 - x1)))),rfl,rfl,rfl,rfl,rfl,S,hL⟩
 rw [ifE hc] at hf
 obtain rfl:=oi hf
 exact ⟨rfl,S.sel [0] rfl⟩
def p78 (data0:List TLane) (a1:Int) (b2:Int) (swaps3:Option Int) (cmp4:TLane→TLane→Option Int):Option (Int×Int×(List TLane)×(Option Int)):=(idx data0 b2).bind fun e10=>(idx data0 a1).bind fun e11=>(cmp4 e10 e11).bind fun r12=>if r12 < 0 then (swaps3.bind fun b13=>some (b2,a1,data0,(some (IntKind.wrap .i64 (b13+1))))) else (some (a1,b2,data0,swaps3))
theorem r78 {h:Heap} {a0_0:AV} {a3_0:AV} {a4_0:AV} {M:Nat→Prop} {data0:List TLane} {a1:Int} {b2:Int} {swaps3:Option Int} {cmp4:TLane→TLane→Option Int} (S:St h M [own (oSl (fz rLane)) [a0_0] data0,own (oPtr (fz (rI .i64))) [a3_0] swaps3] h) (f4_0:∀ (h':Heap) (y0:TLane) (y1:TLane) r,cmp4 y0 y1=some r→callW F a4_0 [.agg [.int .i64 y0.From,.int .i64 y0.To,.int .i64 y0.Ahead],.agg [.int .i64 y1.From,.int .i64 y1.To,.int .i64 y1.Ahead]] h' fun v h2=>v=.int .i64 r∧St h' none' [] h2) {r:Int×Int×(List TLane)×(Option Int)} (hf:p78 data0 a1 b2 swaps3 cmp4=some r):ZC F 78 [a0_0,(.int .i64 a1),(.int .i64 b2),a3_0,a4_0] h fun v h'=>v=.tuple [.int .i64 r.1,.int .i64 r.2.1]∧St h M [own (oSl (fz rLane)) [a0_0] r.2.2.1,own (oPtr (fz (rI .i64))) [a3_0] r.2.2.2] h':=by
 refine w78 ?_
 unfold W78
 unfold p78 at hf
 obtain ⟨e10,he10,hf⟩:=oB hf
 refine ix_go (S.sl (r:=(fz rLane)) m0) (Hp.le_refl _) he10 fun pe10=>?_
 obtain ⟨_,cr14,Rr14,Nr14,Or14,Zr14⟩:=St.idxO (r:=rLane) S m0 he10
 obtain rfl:=rLane_open Rr14
 refine ⟨(.int .i64 e10.From),(.int .i64 e10.To),(.int .i64 e10.Ahead),Nr14,?_⟩
 obtain ⟨e11,he11,hf⟩:=oB hf
 refine ix_go (S.sl (r:=(fz rLane)) m0) (Hp.le_refl _) he11 fun pe11=>?_
 obtain ⟨_,cr15,Rr15,Nr15,Or15,Zr15⟩:=St.idxO (r:=rLane) S m0 he11
 obtain rfl:=rLane_open Rr15
 refine ⟨(.int .i64 e11.From),(.int .i64 e11.To),(.int .i64 e11.Ahead),Nr15,?_⟩
 obtain ⟨r12,hr12,hf⟩:=oB hf
 refine ⟨_,Fz.refl _,?_⟩
 refine callW_mono (f4_0 _ e10 e11 _ hr12) fun v16 h17 T=>?_
 obtain ⟨rfl,T⟩:=T
 have S:St _ _ [own (oSl (fz rLane)) [a0_0] data0,own (oPtr (fz (rI .i64))) [a3_0] swaps3] _:=S.comp T
 refine ⟨r12,rfl,?_⟩
 refine bI (fun hc=>?_) (fun hc=>?_)
 ·rw [ifD hc] at hf
  obtain ⟨b13,hb13,hf⟩:=oB hf
  have S:=S.sel [1,0] rfl
  have S:St _ _ [own (oPtr (fz (rI .i64))) [a3_0] (some b13),_] _:=S.cast1 (by rw [hb13])
  obtain ⟨o18,v19,rwb13,eP,S2⟩:=St.ptrOpen S
  subst eP
  have S:=S2
  have S:=S.swap
  obtain rfl:=rI_open (S.fzr (.head _))
  have S:=S.drop
  refine oI _ rfl ?_
  refine ⟨b13,S.rd1 m0 rfl,?_⟩
  refine oI (.ptr o18 v19 0) rfl ?_
  obtain ⟨h20,e21,S⟩:=S.store (off:=0) (n:=1) (x:=(.int .i64 (IntKind.wrap .i64 (b13+1)))) (cs':=[(.int .i64 (IntKind.wrap .i64 (b13+1)))]) (nl rfl) rfl rfl rfl
  refine ⟨h20,e21,?_⟩
  have S:St _ _ [own (fz (rI .i64)) [(.int .i64 (IntKind.wrap .i64 (b13+1)))] (IntKind.wrap .i64 (b13+1)),_,_] _:=S.add (r:=(rI .i64)) (x:=(IntKind.wrap .i64 (b13+1))) rfl
  have S:=S.sel [1,0,2] rfl
  have S:St _ _ [own (oPtr (fz (rI .i64))) [(.ptr o18 v19 0)] (some (IntKind.wrap .i64 (b13+1))),_] _:=S.ptrClose
  obtain rfl:=oi hf
  exact ⟨rfl,S.sel [1,0] rfl⟩
 rw [ifE hc] at hf
 obtain rfl:=oi hf
 exact ⟨rfl,S.sel [0,1] rfl⟩
def p77 (data0:List TLane) (a1:Int) (b2:Int) (c3:Int) (swaps4:Option Int) (cmp5:TLane→TLane→Option Int):Option (Int×(List TLane)×(Option Int)):=(p78 data0 a1 b2 swaps4 cmp5).bind fun u10=>(p78 u10.2.2.1 u10.2.1 c3 u10.2.2.2 cmp5).bind fun u11=>(p78 u11.2.2.1 u10.1 u11.1 u11.2.2.2 cmp5).bind fun u12=>some (u12.2.1,u12.2.2.1,u12.2.2.2)
theorem r77 {h:Heap} {a0_0:AV} {a4_0:AV} {a5_0:AV} {M:Nat→Prop} {data0:List TLane} {a1:Int} {b2:Int} {c3:Int} {swaps4:Option Int} {cmp5:TLane→TLane→Option Int} (S:St h M [own (oSl (fz rLane)) [a0_0] data0,own (oPtr (fz (rI .i64))) [a4_0] swaps4] h) (f5_0:∀ (h':Heap) (y0:TLane) (y1:TLane) r,cmp5 y0 y1=some r→callW F a5_0 [.agg [.int .i64 y0.From,.int .i64 y0.To,.int .i64 y0.Ahead],.agg [.int .i64 y1.From,.int .i64 y1.To,.int .i64 y1.Ahead]] h' fun v h2=>v=.int .i64 r∧St h' none' [] h2) {r:Int×(List TLane)×(Option Int)} (hf:p77 data0 a1 b2 c3 swaps4 cmp5=some r):ZC F 77 [a0_0,(.int .i64 a1),(.int .i64 b2),(.int .i64 c3),a4_0,a5_0] h fun v h'=>v=.int .i64 r.1∧St h M [own (oSl (fz rLane)) [a0_0] r.2.1,own (oPtr (fz (rI .i64))) [a4_0] r.2.2] h':=by
 refine w77 ?_
 unfold W77
 unfold p77 at hf
 obtain ⟨u10,hu10,hf⟩:=oB hf
 refine ⟨_,Fz.refl _,?_⟩
 obtain ⟨fpu10,S1u105,backu10⟩:=St.lend [_,_] S
 refine (r78 (data0:=data0) (a1:=a1) (b2:=b2) (swaps3:=swaps4) (cmp4:=cmp5) (f4_0:=f5_0) (S:=S1u105) hu10).mono fun v13 h14 T=>?_
 obtain ⟨rfl,T⟩:=T
 have S:St _ _ [own (oSl (fz rLane)) [a0_0] u10.2.2.1,own (oPtr (fz (rI .i64))) [a4_0] u10.2.2.2] _:=backu10 _ _ T
 refine oI (.int .i64 u10.1) rfl ⟨u10.1,rfl,?_⟩
 refine oI (.int .i64 u10.2.1) rfl ⟨u10.2.1,rfl,?_⟩
 obtain ⟨u11,hu11,hf⟩:=oB hf
 refine ⟨_,Fz.refl _,?_⟩
 obtain ⟨fpu11,S1u108,backu11⟩:=St.lend [_,_] S
 refine (r78 (data0:=u10.2.2.1) (a1:=u10.2.1) (b2:=c3) (swaps3:=u10.2.2.2) (cmp4:=cmp5) (f4_0:=f5_0) (S:=S1u108) hu11).mono fun v15 h16 T=>?_
 obtain ⟨rfl,T⟩:=T
 have S:St _ _ [own (oSl (fz rLane)) [a0_0] u11.2.2.1,own (oPtr (fz (rI .i64))) [a4_0] u11.2.2.2] _:=backu11 _ _ T
 refine oI (.int .i64 u11.1) rfl ⟨u11.1,rfl,?_⟩
 refine oI (.int .i64 u11.2.1) rfl ⟨u11.2.1,rfl,?_⟩
 obtain ⟨u12,hu12,hf⟩:=oB hf
 refine ⟨_,Fz.refl _,?_⟩
 obtain ⟨fpu12,S1u111,backu12⟩:=St.lend [_,_] S
 refine (r78 (data0:=u11.2.2.1) (a1:=u10.1) (b2:=u11.1) (swaps3:=u11.2.2.2) (cmp4:=cmp5) (f4_0:=f5_0) (S:=S1u111) hu12).mono fun v17 h18 T=>?_
 obtain ⟨rfl,T⟩:=T
 have S:St _ _ [own (oSl (fz rLane)) [a0_0] u12.2.2.1,own (oPtr (fz (rI .i64))) [a4_0] u12.2.2.2] _:=backu12 _ _ T
 refine oI (.int .i64 u12.1) rfl ⟨u12.1,rfl,?_⟩
 refine oI (.int .i64 u12.2.1) rfl ⟨u12.2.1,rfl,?_⟩
 obtain rfl:=oi hf
 exact ⟨rfl,S.sel [0,1] rfl⟩
def p76 (data0:List TLane) (a1:Int) (swaps2:Option Int) (cmp3:TLane→TLane→Option Int):Option (Int×(List TLane)×(Option Int)):=(p77 data0 (IntKind.wrap .i64 (a1 - 1)) a1 (IntKind.wrap .i64 (a1+1)) swaps2 cmp3).bind fun u10=>some (u10.1,u10.2.1,u10.2.2)
theorem r76 {h:Heap} {a0_0:AV} {a2_0:AV} {a3_0:AV} {M:Nat→Prop} {data0:List TLane} {a1:Int} {swaps2:Option Int} {cmp3:TLane→TLane→Option Int} (S:St h M [own (oSl (fz rLane)) [a0_0] data0,own (oPtr (fz (rI .i64))) [a2_0] swaps2] h) (f3_0:∀ (h':Heap) (y0:TLane) (y1:TLane) r,cmp3 y0 y1=some r→callW F a3_0 [.agg [.int .i64 y0.From,.int .i64 y0.To,.int .i64 y0.Ahead],.agg [.int .i64 y1.From,.int .i64 y1.To,.int .i64 y1.Ahead]] h' fun v h2=>v=.int .i64 r∧St h' none' [] h2) {r:Int×(List TLane)×(Option Int)} (hf:p76 data0 a1 swaps2 cmp3=some r):ZC F 76 [a0_0,(.int .i64 a1),a2_0,a3_0] h fun v h'=>v=.int .i64 r.1∧St h M [own (oSl (fz rLane)) [a0_0] r.2.1,own (oPtr (fz (rI .i64))) [a2_0] r.2.2] h':=by
 refine w76 ?_
 unfold W76
 unfold p76 at hf
 obtain ⟨u10,hu10,hf⟩:=oB hf
 refine ⟨_,Fz.refl _,?_⟩
 obtain ⟨fpu10,S1u105,backu10⟩:=St.lend [_,_] S
 refine (r77 (data0:=data0) (a1:=(IntKind.wrap .i64 (a1 - 1))) (b2:=a1) (c3:=(IntKind.wrap .i64 (a1+1))) (swaps4:=swaps2) (cmp5:=cmp3) (f5_0:=f3_0) (S:=S1u105) hu10).mono fun v11 h12 T=>?_
 obtain ⟨rfl,T⟩:=T
 have S:St _ _ [own (oSl (fz rLane)) [a0_0] u10.2.1,own (oPtr (fz (rI .i64))) [a2_0] u10.2.2] _:=backu10 _ _ T
 refine ⟨u10.1,rfl,?_⟩
 obtain rfl:=oi hf
 exact ⟨rfl,S.sel [0,1] rfl⟩
def p64_j0 (j10:Int) (l11:Option Int) (c12:List TLane):Option (Int×Int×(List TLane)):=l11.bind fun b13=>if b13=0 then (some (j10,1,c12)) else (if b13=12 then (some (j10,2,c12)) else (some (j10,0,c12)))
def p64_j1 (cmp3:TLane→TLane→Option Int) (i14:Int) (j15:Int) (k16:Int) (data17:List TLane) (l18:Option Int):Option (Int×Int×(List TLane)):=(p77 data17 i14 j15 k16 l18 cmp3).bind fun u19=>p64_j0 u19.1 u19.2.2 u19.2.1
def p64 (data0:List TLane) (a1:Int) (b2:Int) (cmp3:TLane→TLane→Option Int):Option (Int×Int×(List TLane)):=if 8≤(IntKind.wrap .i64 (b2 - a1)) then (if 50≤(IntKind.wrap .i64 (b2 - a1)) then ((p76 data0 (IntKind.wrap .i64 (a1+(IntKind.wrap .i64 ((IntKind.wrap .i64 (Int.tdiv (IntKind.wrap .i64 (b2 - a1)) 4)) * 1)))) (some 0) cmp3).bind fun u20=>(p76 u20.2.1 (IntKind.wrap .i64 (a1+(IntKind.wrap .i64 ((IntKind.wrap .i64 (Int.tdiv (IntKind.wrap .i64 (b2 - a1)) 4)) * 2)))) u20.2.2 cmp3).bind fun u21=>(p76 u21.2.1 (IntKind.wrap .i64 (a1+(IntKind.wrap .i64 ((IntKind.wrap .i64 (Int.tdiv (IntKind.wrap .i64 (b2 - a1)) 4)) * 3)))) u21.2.2 cmp3).bind fun u22=>p64_j1 cmp3 u20.1 u21.1 u22.1 u22.2.1 u22.2.2) else (p64_j1 cmp3 (IntKind.wrap .i64 (a1+(IntKind.wrap .i64 ((IntKind.wrap .i64 (Int.tdiv (IntKind.wrap .i64 (b2 - a1)) 4)) * 1)))) (IntKind.wrap .i64 (a1+(IntKind.wrap .i64 ((IntKind.wrap .i64 (Int.tdiv (IntKind.wrap .i64 (b2 - a1)) 4)) * 2)))) (IntKind.wrap .i64 (a1+(IntKind.wrap .i64 ((IntKind.wrap .i64 (Int.tdiv (IntKind.wrap .i64 (b2 - a1)) 4)) * 3)))) data0 (some 0))) else (p64_j0 (IntKind.wrap .i64 (a1+(IntKind.wrap .i64 ((IntKind.wrap .i64 (Int.tdiv (IntKind.wrap .i64 (b2 - a1)) 4)) * 2)))) (some 0) data0)
theorem r64 {h:Heap} {a0_0:AV} {a3_0:AV} {M:Nat→Prop} {data0:List TLane} {a1:Int} {b2:Int} {cmp3:TLane→TLane→Option Int} (S:St h M [own (oSl (fz rLane)) [a0_0] data0] h) (f3_0:∀ (h':Heap) (y0:TLane) (y1:TLane) r,cmp3 y0 y1=some r→callW F a3_0 [.agg [.int .i64 y0.From,.int .i64 y0.To,.int .i64 y0.Ahead],.agg [.int .i64 y1.From,.int .i64 y1.To,.int .i64 y1.Ahead]] h' fun v h2=>v=.int .i64 r∧St h' none' [] h2) {r:Int×Int×(List TLane)} (hf:p64 data0 a1 b2 cmp3=some r):ZC F 64 [a0_0,(.int .i64 a1),(.int .i64 b2),a3_0] h fun v h'=>v=.tuple [.int .i64 r.1,.int .i64 r.2.1]∧St h M [own (oSl (fz rLane)) [a0_0] r.2.2] h':=by
 refine w64 ?_
 unfold W64
 unfold p64 at hf
 intro h23
 have S:St _ _ [rowC h.n [(.int .i64 0)] 0,own (oSl (fz rLane)) [a0_0] data0] _:=S.pushRow [(.int .i64 0)]
 intro jjj0
 have hjj0:∀ (j10:Int) (h24:Heap) (l11:Option Int) (c12:List TLane),p64_j0 j10 l11 c12=some r→St h M [own (oPtr (fz (rI .i64))) [(.ptr h.n 0 0)] l11,own (oSl (fz rLane)) [a0_0] c12] h24→jjj0 j10 h24:=by
  rintro j10 h24 l11 c12 hf S
  unfold p64_j0 at hf
  unfold jjj0
  obtain ⟨b13,hb13,hf⟩:=oB hf
  have S:St _ _ [own (oPtr (fz (rI .i64))) [(.ptr h.n 0 0)] (some b13),_] _:=S.cast1 (by rw [hb13])
  obtain ⟨rwb13,S⟩:=St.ptrOpenAt S
  have S:=S.swap
  obtain rfl:=rI_open (S.fzr (.head _))
  have S:=S.drop
  refine ⟨b13,S.rd1 m0 rfl,?_⟩
  refine bI (fun hc=>?_) (fun hc=>?_)
  ·rw [ifD hc] at hf
   obtain rfl:=oi hf
   exact ⟨rfl,S.sel [1] rfl⟩
  rw [ifE hc] at hf
  refine bI (fun hc=>?_) (fun hc=>?_)
  ·rw [ifD hc] at hf
   obtain rfl:=oi hf
   exact ⟨rfl,S.sel [1] rfl⟩
  rw [ifE hc] at hf
  obtain rfl:=oi hf
  exact ⟨rfl,S.sel [1] rfl⟩
 refine bI (fun hc=>?_) (fun hc=>?_)
 ·rw [ifD hc] at hf
  intro jjj1
  have hjj1:∀ (i14:Int) (j15:Int) (k16:Int) (h25:Heap) (data17:List TLane) (l18:Option Int),p64_j1 cmp3 i14 j15 k16 data17 l18=some r→St h M [own (oSl (fz rLane)) [a0_0] data17,own (oPtr (fz (rI .i64))) [(.ptr h.n 0 0)] l18] h25→jjj1 i14 j15 k16 h25:=by
   rintro i14 j15 k16 h25 data17 l18 hf S
   unfold p64_j1 at hf
   unfold jjj1
   obtain ⟨u19,hu19,hf⟩:=oB hf
   refine ⟨_,Fz.refl _,?_⟩
   obtain ⟨fpu19,S1u172,backu19⟩:=St.lend [_,_] S
   refine (r77 (data0:=data17) (a1:=i14) (b2:=j15) (c3:=k16) (swaps4:=l18) (cmp5:=cmp3) (f5_0:=f3_0) (S:=S1u172) hu19).mono fun v26 h27 T=>?_
   obtain ⟨rfl,T⟩:=T
   have S:St _ _ [own (oSl (fz rLane)) [a0_0] u19.2.1,own (oPtr (fz (rI .i64))) [(.ptr h.n 0 0)] u19.2.2] _:=backu19 _ _ T
   refine ⟨u19.1,rfl,?_⟩
   have S:=S.sel [1,0] rfl
   exact hjj0 _ _ u19.2.2 u19.2.1 hf  S
  refine bI (fun hc=>?_) (fun hc=>?_)
  ·rw [ifD hc] at hf
   obtain ⟨u20,hu20,hf⟩:=oB hf
   have S:St _ _ [own (fz (rI .i64)) [(.int .i64 0)] 0,_,_] _:=S.add (r:=(rI .i64)) (x:=0) rfl
   have S:=S.sel [1,0,2] rfl
   have S:St _ _ [own (oPtr (fz (rI .i64))) [(.ptr h.n 0 0)] (some 0),_] _:=S.ptrClose
   refine ⟨_,Fz.refl _,?_⟩
   have S:=S.sel [1,0] rfl
   obtain ⟨fpu20,S1u178,backu20⟩:=St.lend [_,_] S
   refine (r76 (data0:=data0) (a1:=(IntKind.wrap .i64 (a1+(IntKind.wrap .i64 ((IntKind.wrap .i64 (Int.tdiv (IntKind.wrap .i64 (b2 - a1)) 4)) * 1))))) (swaps2:=(some 0)) (cmp3:=cmp3) (f3_0:=f3_0) (S:=S1u178) hu20).mono fun v28 h29 T=>?_
   obtain ⟨rfl,T⟩:=T
   have S:St _ _ [own (oSl (fz rLane)) [a0_0] u20.2.1,own (oPtr (fz (rI .i64))) [(.ptr h.n 0 0)] u20.2.2] _:=backu20 _ _ T
   refine ⟨u20.1,rfl,?_⟩
   obtain ⟨u21,hu21,hf⟩:=oB hf
   refine ⟨_,Fz.refl _,?_⟩
   obtain ⟨fpu21,S1u181,backu21⟩:=St.lend [_,_] S
   refine (r76 (data0:=u20.2.1) (a1:=(IntKind.wrap .i64 (a1+(IntKind.wrap .i64 ((IntKind.wrap .i64 (Int.tdiv (IntKind.wrap .i64 (b2 - a1)) 4)) * 2))))) (swaps2:=u20.2.2) (cmp3:=cmp3) (f3_0:=f3_0) (S:=S1u181) hu21).mono fun v30 h31 T=>?_
   obtain ⟨rfl,T⟩:=T
   have S:St _ _ [own (oSl (fz rLane)) [a0_0] u21.2.1,own (oPtr (fz (rI .i64))) [(.ptr h.n 0 0)] u21.2.2] _:=backu21 _ _ T
   refine ⟨u21.1,rfl,?_⟩
   obtain ⟨u22,hu22,hf⟩:=oB hf
   refine ⟨_,Fz.refl _,?_⟩
   obtain ⟨fpu22,S1u184,backu22⟩:=St.lend [_,_] S
   refine (r76 (data0:=u21.2.1) (a1:=(IntKind.wrap .i64 (a1+(IntKind.wrap .i64 ((IntKind.wrap .i64 (Int.tdiv (IntKind.wrap .i64 (b2 - a1)) 4)) * 3))))) (swaps2:=u21.2.2) (cmp3:=cmp3) (f3_0:=f3_0) (S:=S1u184) hu22).mono fun v32 h33 T=>?_
   obtain ⟨rfl,T⟩:=T
   have S:St _ _ [own (oSl (fz rLane)) [a0_0] u22.2.1,own (oPtr (fz (rI .i64))) [(.ptr h.n 0 0)] u22.2.2] _:=backu22 _ _ T
   refine ⟨u22.1,rfl,?_⟩
   exact hjj1 _ _ _ _ u22.2.1 u22.2.2 hf  S
  rw [ifE hc] at hf
  have S:St _ _ [own (fz (rI .i64)) [(.int .i64 0)] 0,_,_] _:=S.add (r:=(rI .i64)) (x:=0) rfl
  have S:=S.sel [1,0,2] rfl
  have S:St _ _ [own (oPtr (fz (rI .i64))) [(.ptr h.n 0 0)] (some 0),_] _:=S.ptrClose
  have S:=S.sel [1,0] rfl
  exact hjj1 _ _ _ _ data0 (some 0) hf  S
 rw [ifE hc] at hf
 have S:St _ _ [own (fz (rI .i64)) [(.int .i64 0)] 0,_,_] _:=S.add (r:=(rI .i64)) (x:=0) rfl
 have S:=S.sel [1,0,2] rfl
 have S:St _ _ [own (oPtr (fz (rI .i64))) [(.ptr h.n 0 0)] (some 0),_] _:=S.ptrClose
 exact hjj0 _ _ (some 0) data0 hf  S
def p65_l0 (st:Int×Int×(List TLane)):Option ((Int×Int×(List TLane))⊕(List TLane)):=match st with | (i10,j11,data12)=>if i10 < j11 then ((idx data12 j11).bind fun e13=>(idx data12 i10).bind fun e14=>(idx data12 i10).bind fun e15=>(some (data12.set (i10:Int).toNat e13)).bind fun data16=>(idx data16 j11).bind fun e17=>(some (data16.set (j11:Int).toNat e14)).bind fun data18=>some (.inl ((IntKind.wrap .i64 (i10+1)),(IntKind.wrap .i64 (j11 - 1)),data18))) else (some (.inr data12))
def p65 (data0:List TLane) (a1:Int) (b2:Int) (cmp3:TLane→TLane→Option Int):Option (List TLane):=(loopC p65_l0 (a1,(IntKind.wrap .i64 (b2 - 1)),data0)).bind fun res19=>((fun (c20:List TLane)=>some c20) res19)
theorem r65 {h:Heap} {a0_0:AV} {a3_0:AV} {M:Nat→Prop} {data0:List TLane} {a1:Int} {b2:Int} {cmp3:TLane→TLane→Option Int} (S:St h M [own (oSl (fz rLane)) [a0_0] data0] h) (f3_0:∀ (h':Heap) (y0:TLane) (y1:TLane) r,cmp3 y0 y1=some r→callW F a3_0 [.agg [.int .i64 y0.From,.int .i64 y0.To,.int .i64 y0.Ahead],.agg [.int .i64 y1.From,.int .i64 y1.To,.int .i64 y1.Ahead]] h' fun v h2=>v=.int .i64 r∧St h' none' [] h2) {r:(List TLane)} (hf:p65 data0 a1 b2 cmp3=some r):ZC F 65 [a0_0,(.int .i64 a1),(.int .i64 b2),a3_0] h fun v h'=>v=.tuple []∧St h M [own (oSl (fz rLane)) [a0_0] r] h':=by
 refine w65 ?_
 unfold W65
 unfold p65 at hf
 obtain ⟨res19,hL,hf⟩:=oB hf
 obtain ⟨n21,hL⟩:=loopC_iff.1 hL
 refine loopm65_0 (X0:=fun (data22:AV) (i23:Int) (j24:Int) (h25:Heap)=>∃ (c20:List TLane),St h M [own (oSl (fz rLane)) [a0_0] c20] h25∧c20=res19) ?_ (loop65_0 (I:=fun (m26:Nat) (data27:AV) (i10:Int) (j11:Int) (h28:Heap)=>∃ (data12:List TLane),a0_0=data27∧St h M [own (oSl (fz rLane)) [a0_0] data12] h28∧iter p65_l0 m26 (i10,j11,data12)=some res19) ?_ (m:=n21) ?_)
 ·rintro data22 i23 j24 h25 ⟨c20,S,rfl⟩
  try dsimp only at hf
  obtain rfl:=oi hf
  exact ⟨rfl,S.sel [0] rfl⟩
 ·rintro m29 data27 i10 j11 h28 ⟨data12,rfl,S,hit⟩
  obtain ⟨m26,q30,rfl,hf,hk⟩:=iter_some hit
  clear hit
  unfold B65_0
  unfold p65_l0 at hf
  try dsimp only at hf
  refine bI (fun hc=>?_) (fun hc=>?_)
  ·rw [ifD hc] at hf
   obtain ⟨e13,he13,hf⟩:=oB hf
   refine ix_go (S.sl (r:=(fz rLane)) m0) (Hp.le_refl _) he13 fun pe13=>?_
   obtain ⟨_,cr31,Rr31,Nr31,Or31,Zr31⟩:=St.idxO (r:=rLane) S m0 he13
   obtain rfl:=rLane_open Rr31
   refine ⟨(.int .i64 e13.From),(.int .i64 e13.To),(.int .i64 e13.Ahead),Nr31,?_⟩
   obtain ⟨e14,he14,hf⟩:=oB hf
   refine ix_go (S.sl (r:=(fz rLane)) m0) (Hp.le_refl _) he14 fun pe14=>?_
   obtain ⟨_,cr32,Rr32,Nr32,Or32,Zr32⟩:=St.idxO (r:=rLane) S m0 he14
   obtain rfl:=rLane_open Rr32
   refine ⟨(.int .i64 e14.From),(.int .i64 e14.To),(.int .i64 e14.Ahead),Nr32,?_⟩
   obtain ⟨e15,he15,hf⟩:=oB hf
   refine ix_go (S.sl (r:=(fz rLane)) m0) (Hp.le_refl _) he15 fun pe15=>?_
   obtain ⟨data16,hdata16,hf⟩:=oB hf
   obtain ⟨h33,e34,S⟩:=St.setE (r:=rLane) (x':=e13) (k:=0) (n:=3) (y:=(.agg [(.int .i64 e13.From),(.int .i64 e13.To),(.int .i64 e13.Ahead)])) S he15 rfl rfl (nl rfl) (by rintro _ h; obtain rfl:=rLane_open h; exact rLane_mk (x:=e13))
   rw [padd_zero] at e34
   have S:St _ _ [own (oSl (fz rLane)) [a0_0] data16] _:=S.cast1 (by rw [← oi hdata16]<;>rfl)
   have hqdata16:idx data16 i10=some e13:=oi hdata16▸idx_set he15
   refine ⟨h33,e34,?_⟩
   obtain ⟨e17,he17,hf⟩:=oB hf
   refine ix_go (S.sl (r:=(fz rLane)) m0) (Hp.le_refl _) he17 fun pe17=>?_
   obtain ⟨data18,hdata18,hf⟩:=oB hf
   obtain ⟨h35,e36,S⟩:=St.setE (r:=rLane) (x':=e14) (k:=0) (n:=3) (y:=(.agg [(.int .i64 e14.From),(.int .i64 e14.To),(.int .i64 e14.Ahead)])) S he17 rfl rfl (nl rfl) (by rintro _ h; obtain rfl:=rLane_open h; exact rLane_mk (x:=e14))
   rw [padd_zero] at e36
   have S:St _ _ [own (oSl (fz rLane)) [a0_0] data18] _:=S.cast1 (by rw [← oi hdata18]<;>rfl)
   have hqdata18:idx data18 j11=some e14:=oi hdata18▸idx_set he17
   refine ⟨h35,e36,?_⟩
   obtain rfl:=oi hf
   exact ⟨m26,Nat.lt_succ_self _,data18,rfl,S,hk⟩
  rw [ifE hc] at hf
  obtain rfl:=oi hf
  obtain rfl:=hk
  exact ⟨data12,S,rfl⟩
 exact ⟨data0,rfl,S,hL⟩
def p66_j0 (y10:Int) (b11:Bool):Option (Int⊕Int):=if b11=true then (some (.inl (IntKind.wrap .i64 (y10+1)))) else (some (.inr y10))
def p66_l0 (x2:Int) (x3:TLane→TLane→Option Int) (y12:List TLane) (y10:Int):Option (Int⊕Int):=if y10 < x2 then ((idx y12 y10).bind fun e13=>(idx y12 (IntKind.wrap .i64 (y10 - 1))).bind fun e14=>(x3 e13 e14).bind fun r15=>p66_j0 y10 (!(decide (r15 < 0)))) else (p66_j0 y10 false)
def p66_l1 (x3:TLane→TLane→Option Int) (st:Int×(List TLane)):Option ((Int×(List TLane))⊕(List TLane)):=match st with | (y16,y17)=>if 1≤y16 then ((idx y17 y16).bind fun e18=>(idx y17 (IntKind.wrap .i64 (y16 - 1))).bind fun e19=>(x3 e18 e19).bind fun r20=>if (!(decide (r20 < 0)))=true then (some (.inr y17)) else ((idx y17 (IntKind.wrap .i64 (y16 - 1))).bind fun e21=>(idx y17 y16).bind fun e22=>(idx y17 y16).bind fun e23=>(some (y17.set (y16:Int).toNat e21)).bind fun y24=>(idx y24 (IntKind.wrap .i64 (y16 - 1))).bind fun e25=>(some (y24.set ((IntKind.wrap .i64 (y16 - 1)):Int).toNat e22)).bind fun y26=>some (.inl ((IntKind.wrap .i64 (y16 - 1)),y26)))) else (some (.inr y17))
def p66_l2 (x2:Int) (x3:TLane→TLane→Option Int) (st:Int×(List TLane)):Option ((Int×(List TLane))⊕(List TLane)):=match st with | (y27,y28)=>if y27 < x2 then ((idx y28 y27).bind fun e29=>(idx y28 (IntKind.wrap .i64 (y27 - 1))).bind fun e30=>(x3 e29 e30).bind fun r31=>if (!(decide (r31 < 0)))=true then (some (.inr y28)) else ((idx y28 (IntKind.wrap .i64 (y27 - 1))).bind fun e32=>(idx y28 y27).bind fun e33=>(idx y28 y27).bind fun e34=>(some (y28.set (y27:Int).toNat e32)).bind fun y35=>(idx y35 (IntKind.wrap .i64 (y27 - 1))).bind fun e36=>(some (y35.set ((IntKind.wrap .i64 (y27 - 1)):Int).toNat e33)).bind fun y37=>some (.inl ((IntKind.wrap .i64 (y27+1)),y37)))) else (some (.inr y28))
def p66_l2x (x2:Int) (x3:TLane→TLane→Option Int) (st:Int×(List TLane)):Option ((Int×(List TLane))⊕(List TLane)):=match st with | (y38,y39)=>if y38 < x2 then ((idx y39 y38).bind fun e40=>(idx y39 (IntKind.wrap .i64 (y38 - 1))).bind fun e41=>(x3 e40 e41).bind fun r42=>if (!(decide (r42 < 0)))=true then (some (.inr y39)) else ((idx y39 (IntKind.wrap .i64 (y38 - 1))).bind fun e43=>(idx y39 y38).bind fun e44=>(idx y39 y38).bind fun e45=>(some (y39.set (y38:Int).toNat e43)).bind fun y46=>(idx y46 (IntKind.wrap .i64 (y38 - 1))).bind fun e47=>(some (y46.set ((IntKind.wrap .i64 (y38 - 1)):Int).toNat e44)).bind fun y48=>some (.inl ((IntKind.wrap .i64 (y38+1)),y48)))) else (some (.inr y39))
def p66_l3 (x1:Int) (x2:Int) (x3:TLane→TLane→Option Int) (st:Int×Int×(List TLane)):Option ((Int×Int×(List TLane))⊕((Bool×(List TLane))⊕(List TLane))):=match st with | (y49,y50,y12)=>if y50 < 5 then ((loopC (p66_l0 x2 x3 y12) y49).bind fun res51=>((fun (y52:Int)=>if y52=x2 then (some (.inr (.inl (true,y12)))) else (if (IntKind.wrap .i64 (x2 - x1)) < 50 then (some (.inr (.inl (false,y12)))) else ((idx y12 (IntKind.wrap .i64 (y52 - 1))).bind fun e53=>(idx y12 y52).bind fun e54=>(idx y12 y52).bind fun e55=>(some (y12.set (y52:Int).toNat e53)).bind fun y56=>(idx y56 (IntKind.wrap .i64 (y52 - 1))).bind fun e57=>(some (y56.set ((IntKind.wrap .i64 (y52 - 1)):Int).toNat e54)).bind fun y58=>if 2≤(IntKind.wrap .i64 (y52 - x1)) then ((loopC (p66_l1 x3) ((IntKind.wrap .i64 (y52 - 1)),y58)).bind fun res59=>((fun (y60:List TLane)=>if 2≤(IntKind.wrap .i64 (x2 - y52)) then ((loopC (p66_l2 x2 x3) ((IntKind.wrap .i64 (y52+1)),y60)).bind fun res61=>((fun (y62:List TLane)=>some (.inl (y52,(IntKind.wrap .i64 (y50+1)),y62))) res61)) else (some (.inl (y52,(IntKind.wrap .i64 (y50+1)),y60)))) res59)) else (if 2≤(IntKind.wrap .i64 (x2 - y52)) then ((loopC (p66_l2x x2 x3) ((IntKind.wrap .i64 (y52+1)),y58)).bind fun res63=>((fun (y64:List TLane)=>some (.inl (y52,(IntKind.wrap .i64 (y50+1)),y64))) res63)) else (some (.inl (y52,(IntKind.wrap .i64 (y50+1)),y58))))))) res51)) else (some (.inr (.inr y12)))
def p66 (x0:List TLane) (x1:Int) (x2:Int) (x3:TLane→TLane→Option Int):Option (Bool×(List TLane)):=(loopC (p66_l3 x1 x2 x3) ((IntKind.wrap .i64 (x1+1)),0,x0)).bind fun res65=>(match res65 with | .inl (y66,c67)=>some (y66,c67) | .inr c68=>some (false,c68))
theorem r66 {h:Heap} {a0_0:AV} {a3_0:AV} {M:Nat→Prop} {x0:List TLane} {x1:Int} {x2:Int} {x3:TLane→TLane→Option Int} (S:St h M [own (oSl (fz rLane)) [a0_0] x0] h) (f3_0:∀ (h':Heap) (y0:TLane) (y1:TLane) r,x3 y0 y1=some r→callW F a3_0 [.agg [.int .i64 y0.From,.int .i64 y0.To,.int .i64 y0.Ahead],.agg [.int .i64 y1.From,.int .i64 y1.To,.int .i64 y1.Ahead]] h' fun v h2=>v=.int .i64 r∧St h' none' [] h2) {r:Bool×(List TLane)} (hf:p66 x0 x1 x2 x3=some r):ZC F 66 [a0_0,(.int .i64 x1),(.int .i64 x2),a3_0] h fun v h'=>v=.bool r.1∧St h M [own (oSl (fz rLane)) [a0_0] r.2] h':=by
 refine w66 ?_
 unfold W66
 unfold p66 at hf
 obtain ⟨res65,hL,hf⟩:=oB hf
 obtain ⟨n69,hL⟩:=loopC_iff.1 hL
 refine loopm66_3 (R:=fun (y70:AV) (y71:Int) (y72:Int) (y73:AV) (y66:Bool) (y74:Int) (y75:Int) (h76:Heap)=>∃ (c67:List TLane),St h M [own (oSl (fz rLane)) [a0_0] c67] h76∧(.inl (y66,c67))=res65) (X0:=fun (y77:AV) (y78:Int) (y79:Int) (y80:AV) (y81:Bool) (y82:Int) (y83:Int) (h84:Heap)=>∃ (c68:List TLane),St h M [own (oSl (fz rLane)) [a0_0] c68] h84∧(.inr c68)=res65) ?_ ?_ (loop66_3 (I:=fun (m85:Nat) (y86:AV) (y87:Int) (y88:Int) (y89:AV) (y90:Bool) (y49:Int) (y50:Int) (h91:Heap)=>∃ (y12:List TLane),a0_0=y86∧x1=y87∧x2=y88∧a3_0=y89∧St h M [own (oSl (fz rLane)) [a0_0] y12] h91∧iter (p66_l3 x1 x2 x3) m85 (y49,y50,y12)=some res65) ?_ (m:=n69) ?_)
 ·rintro y70 y71 y72 y73 y66 y74 y75 h76 ⟨c67,S,rfl⟩
  try dsimp only at hf
  obtain rfl:=oi hf
  exact ⟨rfl,S.sel [0] rfl⟩
 ·rintro y77 y78 y79 y80 y81 y82 y83 h84 ⟨c68,S,rfl⟩
  try dsimp only at hf
  obtain rfl:=oi hf
  exact ⟨rfl,S.sel [0] rfl⟩
 ·rintro m92 y86 y87 y88 y89 y90 y49 y50 h91 ⟨y12,rfl,rfl,rfl,rfl,S,hit⟩
  obtain ⟨m85,q93,rfl,hf,hk⟩:=iter_some hit
  clear hit
  unfold B66_3
  unfold p66_l3 at hf
  try dsimp only at hf
  refine bI (fun hc=>?_) (fun hc=>?_)
  ·rw [ifD hc] at hf
   obtain ⟨res51,hL,hf⟩:=oB hf
   obtain ⟨n94,hL⟩:=loopC_iff.1 hL
   refine loopm66_0 (X2:=fun (y95:AV) (y96:Int) (y97:Int) (y98:AV) (y99:Bool) (y52:Int) (y100:Int) (h101:Heap)=>a0_0=y95∧x1=y96∧x2=y97∧a3_0=y98∧y50=y100∧St h M [own (oSl (fz rLane)) [a0_0] y12] h101∧y52=res51) ?_ (loop66_0 (I:=fun (m102:Nat) (y103:AV) (y104:Int) (y105:Int) (y106:AV) (y107:Bool) (y10:Int) (y108:Int) (h109:Heap)=>a0_0=y103∧x1=y104∧x2=y105∧a3_0=y106∧y50=y108∧St h M [own (oSl (fz rLane)) [a0_0] y12] h109∧iter (p66_l0 x2 x3 y12) m102 y10=some res51) ?_ (m:=n94) ?_)
   ·rintro y95 y96 y97 y98 y99 y52 y100 h101 ⟨rfl,rfl,rfl,rfl,rfl,S,rfl⟩
    try dsimp only at hf
    refine bI (fun hc=>?_) (fun hc=>?_)
    ·rw [ifD hc] at hf
     obtain rfl:=oi hf
     obtain rfl:=hk
     exact ⟨y12,S,rfl⟩
    rw [ifE hc] at hf
    refine bI (fun hc=>?_) (fun hc=>?_)
    ·rw [ifD hc] at hf
     obtain rfl:=oi hf
     obtain rfl:=hk
     exact ⟨y12,S,rfl⟩
    rw [ifE hc] at hf
    obtain ⟨e53,he53,hf⟩:=oB hf
    refine ix_go (S.sl (r:=(fz rLane)) m0) (Hp.le_refl _) he53 fun pe53=>?_
    obtain ⟨_,cr110,Rr110,Nr110,Or110,Zr110⟩:=St.idxO (r:=rLane) S m0 he53
    obtain rfl:=rLane_open Rr110
    refine ⟨(.int .i64 e53.From),(.int .i64 e53.To),(.int .i64 e53.Ahead),Nr110,?_⟩
    obtain ⟨e54,he54,hf⟩:=oB hf
    refine ix_go (S.sl (r:=(fz rLane)) m0) (Hp.le_refl _) he54 fun pe54=>?_
    obtain ⟨_,cr111,Rr111,Nr111,Or111,Zr111⟩:=St.idxO (r:=rLane) S m0 he54
    obtain rfl:=rLane_open Rr111
    refine ⟨(.int .i64 e54.From),(.int .i64 e54.To),(.int .i64 e54.Ahead),Nr111,?_⟩
    obtain ⟨e55,he55,hf⟩:=oB hf
    refine ix_go (S.sl (r:=(fz rLane)) m0) (Hp.le_refl _) he55 fun pe55=>?_
    obtain ⟨y56,hy56,hf⟩:=oB hf
    obtain ⟨h112,e113,S⟩:=St.setE (r:=rLane) (x':=e53) (k:=0) (n:=3) (y:=(.agg [(.int .i64 e53.From),(.int .i64 e53.To),(.int .i64 e53.Ahead)])) S he55 rfl rfl (nl rfl) (by rintro _ h; obtain rfl:=rLane_open h; exact rLane_mk (x:=e53))
    rw [padd_zero] at e113
    have S:St _ _ [own (oSl (fz rLane)) [a0_0] y56] _:=S.cast1 (by rw [← oi hy56]<;>rfl)
    have hqy56:idx y56 y52=some e53:=oi hy56▸idx_set he55
    refine ⟨h112,e113,?_⟩
    obtain ⟨e57,he57,hf⟩:=oB hf
    refine ix_go (S.sl (r:=(fz rLane)) m0) (Hp.le_refl _) he57 fun pe57=>?_
    obtain ⟨y58,hy58,hf⟩:=oB hf
    obtain ⟨h114,e115,S⟩:=St.setE (r:=rLane) (x':=e54) (k:=0) (n:=3) (y:=(.agg [(.int .i64 e54.From),(.int .i64 e54.To),(.int .i64 e54.Ahead)])) S he57 rfl rfl (nl rfl) (by rintro _ h; obtain rfl:=rLane_open h; exact rLane_mk (x:=e54))
    rw [padd_zero] at e115
    have S:St _ _ [own (oSl (fz rLane)) [a0_0] y58] _:=S.cast1 (by rw [← oi hy58]<;>rfl)
    have hqy58:idx y58 (IntKind.wrap .i64 (y52 - 1))=some e54:=oi hy58▸idx_set he57
    refine ⟨h114,e115,?_⟩
    refine bI (fun hc=>?_) (fun hc=>?_)
    ·rw [ifD hc] at hf
     obtain ⟨res59,hL,hf⟩:=oB hf
     obtain ⟨n116,hL⟩:=loopC_iff.1 hL
     refine loopm66_1 (X4:=fun (y117:AV) (y118:Int) (y119:Int) (y120:AV) (y121:Bool) (y122:Int) (y123:Int) (y124:Int) (h125:Heap)=>∃ (y60:List TLane),a0_0=y117∧x1=y118∧x2=y119∧a3_0=y120∧y52=y122∧y50=y123∧St h M [own (oSl (fz rLane)) [a0_0] y60] h125∧y60=res59) ?_ (loop66_1 (I:=fun (m126:Nat) (y127:AV) (y128:Int) (y129:Int) (y130:AV) (y131:Bool) (y132:Int) (y133:Int) (y16:Int) (h134:Heap)=>∃ (y17:List TLane),a0_0=y127∧x1=y128∧x2=y129∧a3_0=y130∧y52=y132∧y50=y133∧St h M [own (oSl (fz rLane)) [a0_0] y17] h134∧iter (p66_l1 x3) m126 (y16,y17)=some res59) ?_ (m:=n116) ?_)
     ·rintro y117 y118 y119 y120 y121 y122 y123 y124 h125 ⟨y60,rfl,rfl,rfl,rfl,rfl,rfl,S,rfl⟩
      try dsimp only at hf
      refine bI (fun hc=>?_) (fun hc=>?_)
      ·rw [ifD hc] at hf
       obtain ⟨res61,hL,hf⟩:=oB hf
       obtain ⟨n135,hL⟩:=loopC_iff.1 hL
       refine loopm66_2 (X6:=fun (y136:AV) (y137:Int) (y138:Int) (y139:AV) (y140:Bool) (y141:Int) (y142:Int) (y143:Int) (h144:Heap)=>∃ (y62:List TLane),a0_0=y136∧x1=y137∧x2=y138∧a3_0=y139∧y52=y141∧y50=y142∧St h M [own (oSl (fz rLane)) [a0_0] y62] h144∧y62=res61) ?_ (loop66_2 (I:=fun (m145:Nat) (y146:AV) (y147:Int) (y148:Int) (y149:AV) (y150:Bool) (y151:Int) (y152:Int) (y27:Int) (h153:Heap)=>∃ (y28:List TLane),a0_0=y146∧x1=y147∧x2=y148∧a3_0=y149∧y52=y151∧y50=y152∧St h M [own (oSl (fz rLane)) [a0_0] y28] h153∧iter (p66_l2 x2 x3) m145 (y27,y28)=some res61) ?_ (m:=n135) ?_)
       ·rintro y136 y137 y138 y139 y140 y141 y142 y143 h144 ⟨y62,rfl,rfl,rfl,rfl,rfl,rfl,S,rfl⟩
        try dsimp only at hf
        obtain rfl:=oi hf
        exact ⟨m85,Nat.lt_succ_self _,y62,rfl,rfl,rfl,rfl,S,hk⟩
       ·rintro m154 y146 y147 y148 y149 y150 y151 y152 y27 h153 ⟨y28,rfl,rfl,rfl,rfl,rfl,rfl,S,hit⟩
        obtain ⟨m145,q155,rfl,hf,hk⟩:=iter_some hit
        clear hit
        unfold B66_2
        unfold p66_l2 at hf
        try dsimp only at hf
        refine bI (fun hc=>?_) (fun hc=>?_)
        ·rw [ifD hc] at hf
         obtain ⟨e29,he29,hf⟩:=oB hf
         refine ix_go (S.sl (r:=(fz rLane)) m0) (Hp.le_refl _) he29 fun pe29=>?_
         obtain ⟨_,cr156,Rr156,Nr156,Or156,Zr156⟩:=St.idxO (r:=rLane) S m0 he29
         obtain rfl:=rLane_open Rr156
         refine ⟨(.int .i64 e29.From),(.int .i64 e29.To),(.int .i64 e29.Ahead),Nr156,?_⟩
         obtain ⟨e30,he30,hf⟩:=oB hf
         refine ix_go (S.sl (r:=(fz rLane)) m0) (Hp.le_refl _) he30 fun pe30=>?_
         obtain ⟨_,cr157,Rr157,Nr157,Or157,Zr157⟩:=St.idxO (r:=rLane) S m0 he30
         obtain rfl:=rLane_open Rr157
         refine ⟨(.int .i64 e30.From),(.int .i64 e30.To),(.int .i64 e30.Ahead),Nr157,?_⟩
         obtain ⟨r31,hr31,hf⟩:=oB hf
         refine ⟨_,Fz.refl _,?_⟩
         refine callW_mono (f3_0 _ e29 e30 _ hr31) fun v158 h159 T=>?_
         obtain ⟨rfl,T⟩:=T
         have S:St _ _ [_] _:=S.comp T
         refine ⟨r31,rfl,?_⟩
         refine bI (fun hc=>?_) (fun hc=>?_)
         ·rw [ifT hc] at hf
          obtain rfl:=oi hf
          obtain rfl:=hk
          exact ⟨y28,rfl,rfl,rfl,rfl,rfl,rfl,S,rfl⟩
         rw [ifF hc] at hf
         obtain ⟨e32,he32,hf⟩:=oB hf
         refine ix_go (S.sl (r:=(fz rLane)) m0) (Hp.le_refl _) he32 fun pe32=>?_
         obtain ⟨_,cr160,Rr160,Nr160,Or160,Zr160⟩:=St.idxO (r:=rLane) S m0 he32
         obtain rfl:=rLane_open Rr160
         refine ⟨(.int .i64 e32.From),(.int .i64 e32.To),(.int .i64 e32.Ahead),Nr160,?_⟩
         obtain ⟨e33,he33,hf⟩:=oB hf
         refine ix_go (S.sl (r:=(fz rLane)) m0) (Hp.le_refl _) he33 fun pe33=>?_
         obtain ⟨_,cr161,Rr161,Nr161,Or161,Zr161⟩:=St.idxO (r:=rLane) S m0 he33
         obtain rfl:=rLane_open Rr161
         refine ⟨(.int .i64 e33.From),(.int .i64 e33.To),(.int .i64 e33.Ahead),Nr161,?_⟩
         obtain ⟨e34,he34,hf⟩:=oB hf
         refine ix_go (S.sl (r:=(fz rLane)) m0) (Hp.le_refl _) he34 fun pe34=>?_
         obtain ⟨y35,hy35,hf⟩:=oB hf
         obtain ⟨h162,e163,S⟩:=St.setE (r:=rLane) (x':=e32) (k:=0) (n:=3) (y:=(.agg [(.int .i64 e32.From),(.int .i64 e32.To),(.int .i64 e32.Ahead)])) S he34 rfl rfl (nl rfl) (by rintro _ h; obtain rfl:=rLane_open h; exact rLane_mk (x:=e32))
         rw [padd_zero] at e163
         have S:St _ _ [own (oSl (fz rLane)) [a0_0] y35] _:=S.cast1 (by rw [← oi hy35]<;>rfl)
         have hqy35:idx y35 y27=some e32:=oi hy35▸idx_set he34
         refine ⟨h162,e163,?_⟩
         obtain ⟨e36,he36,hf⟩:=oB hf
         refine ix_go (S.sl (r:=(fz rLane)) m0) (Hp.le_refl _) he36 fun pe36=>?_
         obtain ⟨y37,hy37,hf⟩:=oB hf
         obtain ⟨h164,e165,S⟩:=St.setE (r:=rLane) (x':=e33) (k:=0) (n:=3) (y:=(.agg [(.int .i64 e33.From),(.int .i64 e33.To),(.int .i64 e33.Ahead)])) S he36 rfl rfl (nl rfl) (by rintro _ h; obtain rfl:=rLane_open h; exact rLane_mk (x:=e33))
         rw [padd_zero] at e165
         have S:St _ _ [own (oSl (fz rLane)) [a0_0] y37] _:=S.cast1 (by rw [← oi hy37]<;>rfl)
         have hqy37:idx y37 (IntKind.wrap .i64 (y27 - 1))=some e33:=oi hy37▸idx_set he36
         refine ⟨h164,e165,?_⟩
         obtain rfl:=oi hf
         exact ⟨m145,Nat.lt_succ_self _,y37,rfl,rfl,rfl,rfl,rfl,rfl,S,hk⟩
        rw [ifE hc] at hf
        obtain rfl:=oi hf
        obtain rfl:=hk
        exact ⟨y28,rfl,rfl,rfl,rfl,rfl,rfl,S,rfl⟩
       exact ⟨y60,rfl,rfl,rfl,rfl,rfl,rfl,S,hL⟩
      rw [ifE hc] at hf
      obtain rfl:=oi hf
      exact ⟨m85,Nat.lt_succ_self _,y60,rfl,rfl,rfl,rfl,S,hk⟩
     ·rintro m166 y127 y128 y129 y130 y131 y132 y133 y16 h134 ⟨y17,rfl,rfl,rfl,rfl,rfl,rfl,S,hit⟩
      obtain ⟨m126,q167,rfl,hf,hk⟩:=iter_some hit
      clear hit
      unfold B66_1
      unfold p66_l1 at hf
      try dsimp only at hf
      refine bI (fun hc=>?_) (fun hc=>?_)
      ·rw [ifD hc] at hf
       obtain ⟨e18,he18,hf⟩:=oB hf
       refine ix_go (S.sl (r:=(fz rLane)) m0) (Hp.le_refl _) he18 fun pe18=>?_
       obtain ⟨_,cr168,Rr168,Nr168,Or168,Zr168⟩:=St.idxO (r:=rLane) S m0 he18
       obtain rfl:=rLane_open Rr168
       refine ⟨(.int .i64 e18.From),(.int .i64 e18.To),(.int .i64 e18.Ahead),Nr168,?_⟩
       obtain ⟨e19,he19,hf⟩:=oB hf
       refine ix_go (S.sl (r:=(fz rLane)) m0) (Hp.le_refl _) he19 fun pe19=>?_
       obtain ⟨_,cr169,Rr169,Nr169,Or169,Zr169⟩:=St.idxO (r:=rLane) S m0 he19
       obtain rfl:=rLane_open Rr169
       refine ⟨(.int .i64 e19.From),(.int .i64 e19.To),(.int .i64 e19.Ahead),Nr169,?_⟩
       obtain ⟨r20,hr20,hf⟩:=oB hf
       refine ⟨_,Fz.refl _,?_⟩
       refine callW_mono (f3_0 _ e18 e19 _ hr20) fun v170 h171 T=>?_
       obtain ⟨rfl,T⟩:=T
       have S:St _ _ [_] _:=S.comp T
       refine ⟨r20,rfl,?_⟩
       refine bI (fun hc=>?_) (fun hc=>?_)
       ·rw [ifT hc] at hf
        obtain rfl:=oi hf
        obtain rfl:=hk
        exact ⟨y17,rfl,rfl,rfl,rfl,rfl,rfl,S,rfl⟩
       rw [ifF hc] at hf
       obtain ⟨e21,he21,hf⟩:=oB hf
       refine ix_go (S.sl (r:=(fz rLane)) m0) (Hp.le_refl _) he21 fun pe21=>?_
       obtain ⟨_,cr172,Rr172,Nr172,Or172,Zr172⟩:=St.idxO (r:=rLane) S m0 he21
       obtain rfl:=rLane_open Rr172
       refine ⟨(.int .i64 e21.From),(.int .i64 e21.To),(.int .i64 e21.Ahead),Nr172,?_⟩
       obtain ⟨e22,he22,hf⟩:=oB hf
       refine ix_go (S.sl (r:=(fz rLane)) m0) (Hp.le_refl _) he22 fun pe22=>?_
       obtain ⟨_,cr173,Rr173,Nr173,Or173,Zr173⟩:=St.idxO (r:=rLane) S m0 he22
       obtain rfl:=rLane_open Rr173
       refine ⟨(.int .i64 e22.From),(.int .i64 e22.To),(.int .i64 e22.Ahead),Nr173,?_⟩
       obtain ⟨e23,he23,hf⟩:=oB hf
       refine ix_go (S.sl (r:=(fz rLane)) m0) (Hp.le_refl _) he23 fun pe23=>?_
       obtain ⟨y24,hy24,hf⟩:=oB hf
       obtain ⟨h174,e175,S⟩:=St.setE (r:=rLane) (x':=e21) (k:=0) (n:=3) (y:=(.agg [(.int .i64 e21.From),(.int .i64 e21.To),(.int .i64 e21.Ahead)])) S he23 rfl rfl (nl rfl) (by rintro _ h; obtain rfl:=rLane_open h; exact rLane_mk (x:=e21))
       rw [padd_zero] at e175
       have S:St _ _ [own (oSl (fz rLane)) [a0_0] y24] _:=S.cast1 (by rw [← oi hy24]<;>rfl)
       have hqy24:idx y24 y16=some e21:=oi hy24▸idx_set he23
       refine ⟨h174,e175,?_⟩
       obtain ⟨e25,he25,hf⟩:=oB hf
       refine ix_go (S.sl (r:=(fz rLane)) m0) (Hp.le_refl _) he25 fun pe25=>?_
       obtain ⟨y26,hy26,hf⟩:=oB hf
       obtain ⟨h176,e177,S⟩:=St.setE (r:=rLane) (x':=e22) (k:=0) (n:=3) (y:=(.agg [(.int .i64 e22.From),(.int .i64 e22.To),(.int .i64 e22.Ahead)])) S he25 rfl rfl (nl rfl) (by rintro _ h; obtain rfl:=rLane_open h; exact rLane_mk (x:=e22))
       rw [padd_zero] at e177
       have S:St _ _ [own (oSl (fz rLane)) [a0_0] y26] _:=S.cast1 (by rw [← oi hy26]<;>rfl)
       have hqy26:idx y26 (IntKind.wrap .i64 (y16 - 1))=some e22:=oi hy26▸idx_set he25
       refine ⟨h176,e177,?_⟩
       obtain rfl:=oi hf
       exact ⟨m126,Nat.lt_succ_self _,y26,rfl,rfl,rfl,rfl,rfl,rfl,S,hk⟩
      rw [ifE hc] at hf
      obtain rfl:=oi hf
      obtain rfl:=hk
      exact ⟨y17,rfl,rfl,rfl,rfl,rfl,rfl,S,rfl⟩
     exact ⟨y58,rfl,rfl,rfl,rfl,rfl,rfl,S,hL⟩
    rw [ifE hc] at hf
    refine bI (fun hc=>?_) (fun hc=>?_)
    ·rw [ifD hc] at hf
     obtain ⟨res63,hL,hf⟩:=oB hf
     obtain ⟨n178,hL⟩:=loopC_iff.1 hL
     refine loopm66_2 (X6:=fun (y179:AV) (y180:Int) (y181:Int) (y182:AV) (y183:Bool) (y184:Int) (y185:Int) (y186:Int) (h187:Heap)=>∃ (y64:List TLane),a0_0=y179∧x1=y180∧x2=y181∧a3_0=y182∧y52=y184∧y50=y185∧St h M [own (oSl (fz rLane)) [a0_0] y64] h187∧y64=res63) ?_ (loop66_2 (I:=fun (m188:Nat) (y189:AV) (y190:Int) (y191:Int) (y192:AV) (y193:Bool) (y194:Int) (y195:Int) (y38:Int) (h196:Heap)=>∃ (y39:List TLane),a0_0=y189∧x1=y190∧x2=y191∧a3_0=y192∧y52=y194∧y50=y195∧St h M [own (oSl (fz rLane)) [a0_0] y39] h196∧iter (p66_l2x x2 x3) m188 (y38,y39)=some res63) ?_ (m:=n178) ?_)
     ·rintro y179 y180 y181 y182 y183 y184 y185 y186 h187 ⟨y64,rfl,rfl,rfl,rfl,rfl,rfl,S,rfl⟩
      try dsimp only at hf
      obtain rfl:=oi hf
      exact ⟨m85,Nat.lt_succ_self _,y64,rfl,rfl,rfl,rfl,S,hk⟩
     ·rintro m197 y189 y190 y191 y192 y193 y194 y195 y38 h196 ⟨y39,rfl,rfl,rfl,rfl,rfl,rfl,S,hit⟩
      obtain ⟨m188,q198,rfl,hf,hk⟩:=iter_some hit
      clear hit
      unfold B66_2
      unfold p66_l2x at hf
      try dsimp only at hf
      refine bI (fun hc=>?_) (fun hc=>?_)
      ·rw [ifD hc] at hf
       obtain ⟨e40,he40,hf⟩:=oB hf
       refine ix_go (S.sl (r:=(fz rLane)) m0) (Hp.le_refl _) he40 fun pe40=>?_
       obtain ⟨_,cr199,Rr199,Nr199,Or199,Zr199⟩:=St.idxO (r:=rLane) S m0 he40
       obtain rfl:=rLane_open Rr199
       refine ⟨(.int .i64 e40.From),(.int .i64 e40.To),(.int .i64 e40.Ahead),Nr199,?_⟩
       obtain ⟨e41,he41,hf⟩:=oB hf
       refine ix_go (S.sl (r:=(fz rLane)) m0) (Hp.le_refl _) he41 fun pe41=>?_
       obtain ⟨_,cr200,Rr200,Nr200,Or200,Zr200⟩:=St.idxO (r:=rLane) S m0 he41
       obtain rfl:=rLane_open Rr200
       refine ⟨(.int .i64 e41.From),(.int .i64 e41.To),(.int .i64 e41.Ahead),Nr200,?_⟩
       obtain ⟨r42,hr42,hf⟩:=oB hf
       refine ⟨_,Fz.refl _,?_⟩
       refine callW_mono (f3_0 _ e40 e41 _ hr42) fun v201 h202 T=>?_
       obtain ⟨rfl,T⟩:=T
       have S:St _ _ [_] _:=S.comp T
       refine ⟨r42,rfl,?_⟩
       refine bI (fun hc=>?_) (fun hc=>?_)
       ·rw [ifT hc] at hf
        obtain rfl:=oi hf
        obtain rfl:=hk
        exact ⟨y39,rfl,rfl,rfl,rfl,rfl,rfl,S,rfl⟩
       rw [ifF hc] at hf
       obtain ⟨e43,he43,hf⟩:=oB hf
       refine ix_go (S.sl (r:=(fz rLane)) m0) (Hp.le_refl _) he43 fun pe43=>?_
       obtain ⟨_,cr203,Rr203,Nr203,Or203,Zr203⟩:=St.idxO (r:=rLane) S m0 he43
       obtain rfl:=rLane_open Rr203
       refine ⟨(.int .i64 e43.From),(.int .i64 e43.To),(.int .i64 e43.Ahead),Nr203,?_⟩
       obtain ⟨e44,he44,hf⟩:=oB hf
       refine ix_go (S.sl (r:=(fz rLane)) m0) (Hp.le_refl _) he44 fun pe44=>?_
       obtain ⟨_,cr204,Rr204,Nr204,Or204,Zr204⟩:=St.idxO (r:=rLane) S m0 he44
       obtain rfl:=rLane_open Rr204
       refine ⟨(.int .i64 e44.From),(.int .i64 e44.To),(.int .i64 e44.Ahead),Nr204,?_⟩
       obtain ⟨e45,he45,hf⟩:=oB hf
       refine ix_go (S.sl (r:=(fz rLane)) m0) (Hp.le_refl _) he45 fun pe45=>?_
       obtain ⟨y46,hy46,hf⟩:=oB hf
       obtain ⟨h205,e206,S⟩:=St.setE (r:=rLane) (x':=e43) (k:=0) (n:=3) (y:=(.agg [(.int .i64 e43.From),(.int .i64 e43.To),(.int .i64 e43.Ahead)])) S he45 rfl rfl (nl rfl) (by rintro _ h; obtain rfl:=rLane_open h; exact rLane_mk (x:=e43))
       rw [padd_zero] at e206
       have S:St _ _ [own (oSl (fz rLane)) [a0_0] y46] _:=S.cast1 (by rw [← oi hy46]<;>rfl)
       have hqy46:idx y46 y38=some e43:=oi hy46▸idx_set he45
       refine ⟨h205,e206,?_⟩
       obtain ⟨e47,he47,hf⟩:=oB hf
       refine ix_go (S.sl (r:=(fz rLane)) m0) (Hp.le_refl _) he47 fun pe47=>?_
       obtain ⟨y48,hy48,hf⟩:=oB hf
       obtain ⟨h207,e208,S⟩:=St.setE (r:=rLane) (x':=e44) (k:=0) (n:=3) (y:=(.agg [(.int .i64 e44.From),(.int .i64 e44.To),(.int .i64 e44.Ahead)])) S he47 rfl rfl (nl rfl) (by rintro _ h; obtain rfl:=rLane_open h; exact rLane_mk (x:=e44))
       rw [padd_zero] at e208
       have S:St _ _ [own (oSl (fz rLane)) [a0_0] y48] _:=S.cast1 (by rw [← oi hy48]<;>rfl)
       have hqy48:idx y48 (IntKind.wrap .i64 (y38 - 1))=some e44:=oi hy48▸idx_set he47
       refine ⟨h207,e208,?_⟩
       obtain rfl:=oi hf
       exact ⟨m188,Nat.lt_succ_self _,y48,rfl,rfl,rfl,rfl,rfl,rfl,S,hk⟩
      rw [ifE hc] at hf
      obtain rfl:=oi hf
      obtain rfl:=hk
      exact ⟨y39,rfl,rfl,rfl,rfl,rfl,rfl,S,rfl⟩
     exact ⟨y58,rfl,rfl,rfl,rfl,rfl,rfl,S,hL⟩
    rw [ifE hc] at hf
    obtain rfl:=oi hf
    exact ⟨m85,Nat.lt_succ_self _,y58,rfl,rfl,rfl,rfl,S,hk⟩
   ·rintro m209 y103 y104 y105 y106 y107 y10 y108 h109 ⟨rfl,rfl,rfl,rfl,rfl,S,hit⟩
    obtain ⟨m102,q210,rfl,hf,hk⟩:=iter_some hit
    clear hit
    unfold B66_0
    unfold p66_l0 at hf
    try dsimp only at hf
    intro jjj0
    have hjj0:∀ (b11:Bool) (h211:Heap),p66_j0 y10 b11=some q210→St h M [own (oSl (fz rLane)) [a0_0] y12] h211→jjj0 b11 h211:=by
     rintro b11 h211 hf S
     unfold p66_j0 at hf
     unfold jjj0
     refine bI (fun hc=>?_) (fun hc=>?_)
     ·rw [ifT hc] at hf
      obtain rfl:=oi hf
      exact ⟨m102,Nat.lt_succ_self _,rfl,rfl,rfl,rfl,rfl,S,hk⟩
     rw [ifF hc] at hf
     obtain rfl:=oi hf
     obtain rfl:=hk
     exact ⟨rfl,rfl,rfl,rfl,rfl,S,rfl⟩
    refine bI (fun hc=>?_) (fun hc=>?_)
    ·rw [ifD hc] at hf
     obtain ⟨e13,he13,hf⟩:=oB hf
     refine ix_go (S.sl (r:=(fz rLane)) m0) (Hp.le_refl _) he13 fun pe13=>?_
     obtain ⟨_,cr212,Rr212,Nr212,Or212,Zr212⟩:=St.idxO (r:=rLane) S m0 he13
     obtain rfl:=rLane_open Rr212
     refine ⟨(.int .i64 e13.From),(.int .i64 e13.To),(.int .i64 e13.Ahead),Nr212,?_⟩
     obtain ⟨e14,he14,hf⟩:=oB hf
     refine ix_go (S.sl (r:=(fz rLane)) m0) (Hp.le_refl _) he14 fun pe14=>?_
     obtain ⟨_,cr213,Rr213,Nr213,Or213,Zr213⟩:=St.idxO (r:=rLane) S m0 he14
     obtain rfl:=rLane_open Rr213
     refine ⟨(.int .i64 e14.From),(.int .i64 e14.To),(.int .i64 e14.Ahead),Nr213,?_⟩
     obtain ⟨r15,hr15,hf⟩:=oB hf
     refine ⟨_,Fz.refl _,?_⟩
     refine callW_mono (f3_0 _ e13 e14 _ hr15) fun v214 h215 T=>?_
     obtain ⟨rfl,T⟩:=T
     have S:St _ _ [_] _:=S.comp T
     refine ⟨r15,rfl,?_⟩
     exact hjj0 _ _  hf  S
    rw [ifE hc] at hf
    exact hjj0 _ _  hf  S
   exact ⟨rfl,rfl,rfl,rfl,rfl,S,hL⟩
  rw [ifE hc] at hf
  obtain rfl:=oi hf
  obtain rfl:=hk
  exact ⟨y12,S,rfl⟩
 exact ⟨x0,rfl,rfl,rfl,rfl,S,hL⟩
def p67_j0 (y10:Int) (b11:Bool):Option (Int⊕Int):=if b11=true then (some (.inl (IntKind.wrap .i64 (y10+1)))) else (some (.inr y10))
def p67_l0 (x1:Int) (x4:TLane→TLane→Option Int) (y12:Int) (y13:List TLane) (y10:Int):Option (Int⊕Int):=if y10≤y12 then ((idx y13 x1).bind fun e14=>(idx y13 y10).bind fun e15=>(x4 e14 e15).bind fun r16=>p67_j0 y10 (!(decide (r16 < 0)))) else (p67_j0 y10 false)
def p67_j1 (y17:Int) (b18:Bool):Option (Int⊕Int):=if b18=true then (some (.inl (IntKind.wrap .i64 (y17 - 1)))) else (some (.inr y17))
def p67_l1 (x1:Int) (x4:TLane→TLane→Option Int) (y13:List TLane) (y19:Int) (y17:Int):Option (Int⊕Int):=if y19≤y17 then ((idx y13 x1).bind fun e20=>(idx y13 y17).bind fun e21=>(x4 e20 e21).bind fun r22=>p67_j1 y17 (decide (r22 < 0))) else (p67_j1 y17 false)
def p67_l2 (x1:Int) (x4:TLane→TLane→Option Int) (st:Int×Int×(List TLane)):Option ((Int×Int×(List TLane))⊕(Int×(List TLane))):=match st with | (y23,y12,y13)=>(loopC (p67_l0 x1 x4 y12 y13) y23).bind fun res24=>((fun (y19:Int)=>(loopC (p67_l1 x1 x4 y13 y19) y12).bind fun res25=>((fun (y26:Int)=>if y26 < y19 then (some (.inr (y19,y13))) else ((idx y13 y26).bind fun e27=>(idx y13 y19).bind fun e28=>(idx y13 y19).bind fun e29=>(some (y13.set (y19:Int).toNat e27)).bind fun y30=>(idx y30 y26).bind fun e31=>(some (y30.set (y26:Int).toNat e28)).bind fun y32=>some (.inl ((IntKind.wrap .i64 (y19+1)),(IntKind.wrap .i64 (y26 - 1)),y32)))) res25)) res24)
def p67 (x0:List TLane) (x1:Int) (x2:Int) (x3:Int) (x4:TLane→TLane→Option Int):Option (Int×(List TLane)):=(idx x0 x3).bind fun e33=>(idx x0 x1).bind fun e34=>(idx x0 x1).bind fun e35=>(some (x0.set (x1:Int).toNat e33)).bind fun x36=>(idx x36 x3).bind fun e37=>(some (x36.set (x3:Int).toNat e34)).bind fun x38=>(loopC (p67_l2 x1 x4) ((IntKind.wrap .i64 (x1+1)),(IntKind.wrap .i64 (x2 - 1)),x38)).bind fun res39=>(match res39 with | (y40,c41)=>some (y40,c41))
theorem r67 {h:Heap} {a0_0:AV} {a4_0:AV} {M:Nat→Prop} {x0:List TLane} {x1:Int} {x2:Int} {x3:Int} {x4:TLane→TLane→Option Int} (S:St h M [own (oSl (fz rLane)) [a0_0] x0] h) (f4_0:∀ (h':Heap) (y0:TLane) (y1:TLane) r,x4 y0 y1=some r→callW F a4_0 [.agg [.int .i64 y0.From,.int .i64 y0.To,.int .i64 y0.Ahead],.agg [.int .i64 y1.From,.int .i64 y1.To,.int .i64 y1.Ahead]] h' fun v h2=>v=.int .i64 r∧St h' none' [] h2) {r:Int×(List TLane)} (hf:p67 x0 x1 x2 x3 x4=some r):ZC F 67 [a0_0,(.int .i64 x1),(.int .i64 x2),(.int .i64 x3),a4_0] h fun v h'=>v=.int .i64 r.1∧St h M [own (oSl (fz rLane)) [a0_0] r.2] h':=by
 refine w67 ?_
 unfold W67
 unfold p67 at hf
 obtain ⟨e33,he33,hf⟩:=oB hf
 refine ix_go (S.sl (r:=(fz rLane)) m0) (Hp.le_refl _) he33 fun pe33=>?_
 obtain ⟨_,cr42,Rr42,Nr42,Or42,Zr42⟩:=St.idxO (r:=rLane) S m0 he33
 obtain rfl:=rLane_open Rr42
 refine ⟨(.int .i64 e33.From),(.int .i64 e33.To),(.int .i64 e33.Ahead),Nr42,?_⟩
 obtain ⟨e34,he34,hf⟩:=oB hf
 refine ix_go (S.sl (r:=(fz rLane)) m0) (Hp.le_refl _) he34 fun pe34=>?_
 obtain ⟨_,cr43,Rr43,Nr43,Or43,Zr43⟩:=St.idxO (r:=rLane) S m0 he34
 obtain rfl:=rLane_open Rr43
 refine ⟨(.int .i64 e34.From),(.int .i64 e34.To),(.int .i64 e34.Ahead),Nr43,?_⟩
 obtain ⟨e35,he35,hf⟩:=oB hf
 refine ix_go (S.sl (r:=(fz rLane)) m0) (Hp.le_refl _) he35 fun pe35=>?_
 obtain ⟨x36,hx36,hf⟩:=oB hf
 obtain ⟨h44,e45,S⟩:=St.setE (r:=rLane) (x':=e33) (k:=0) (n:=3) (y:=(.agg [(.int .i64 e33.From),(.int .i64 e33.To),(.int .i64 e33.Ahead)])) S he35 rfl rfl (nl rfl) (by rintro _ h; obtain rfl:=rLane_open h; exact rLane_mk (x:=e33))
 rw [padd_zero] at e45
 have S:St _ _ [own (oSl (fz rLane)) [a0_0] x36] _:=S.cast1 (by rw [← oi hx36]<;>rfl)
 have hqx36:idx x36 x1=some e33:=oi hx36▸idx_set he35
 refine ⟨h44,e45,?_⟩
 obtain ⟨e37,he37,hf⟩:=oB hf
 refine ix_go (S.sl (r:=(fz rLane)) m0) (Hp.le_refl _) he37 fun pe37=>?_
 obtain ⟨x38,hx38,hf⟩:=oB hf
 obtain ⟨h46,e47,S⟩:=St.setE (r:=rLane) (x':=e34) (k:=0) (n:=3) (y:=(.agg [(.int .i64 e34.From),(.int .i64 e34.To),(.int .i64 e34.Ahead)])) S he37 rfl rfl (nl rfl) (by rintro _ h; obtain rfl:=rLane_open h; exact rLane_mk (x:=e34))
 rw [padd_zero] at e47
 have S:St _ _ [own (oSl (fz rLane)) [a0_0] x38] _:=S.cast1 (by rw [← oi hx38]<;>rfl)
 have hqx38:idx x38 x3=some e34:=oi hx38▸idx_set he37
 refine ⟨h46,e47,?_⟩
 obtain ⟨res39,hL,hf⟩:=oB hf
 obtain ⟨n48,hL⟩:=loopC_iff.1 hL
 refine loopm67_2 (X0:=fun (y49:AV) (y50:Int) (y51:AV) (y40:Int) (y52:Int) (h53:Heap)=>∃ (c41:List TLane),St h M [own (oSl (fz rLane)) [a0_0] c41] h53∧(y40,c41)=res39) ?_ (loop67_2 (I:=fun (m54:Nat) (y55:AV) (y56:Int) (y57:AV) (y23:Int) (y12:Int) (h58:Heap)=>∃ (y13:List TLane),a0_0=y55∧x1=y56∧a4_0=y57∧St h M [own (oSl (fz rLane)) [a0_0] y13] h58∧iter (p67_l2 x1 x4) m54 (y23,y12,y13)=some res39) ?_ (m:=n48) ?_)
 ·rintro y49 y50 y51 y40 y52 h53 ⟨c41,S,rfl⟩
  try dsimp only at hf
  obtain rfl:=oi hf
  exact ⟨rfl,S.sel [0] rfl⟩
 ·rintro m59 y55 y56 y57 y23 y12 h58 ⟨y13,rfl,rfl,rfl,S,hit⟩
  obtain ⟨m54,q60,rfl,hf,hk⟩:=iter_some hit
  clear hit
  unfold B67_2
  unfold p67_l2 at hf
  try dsimp only at hf
  obtain ⟨res24,hL,hf⟩:=oB hf
  obtain ⟨n61,hL⟩:=loopC_iff.1 hL
  refine loopm67_0 (X2:=fun (y62:AV) (y63:Int) (y64:AV) (y19:Int) (y65:Int) (h66:Heap)=>a0_0=y62∧x1=y63∧a4_0=y64∧y12=y65∧St h M [own (oSl (fz rLane)) [a0_0] y13] h66∧y19=res24) ?_ (loop67_0 (I:=fun (m67:Nat) (y68:AV) (y69:Int) (y70:AV) (y10:Int) (y71:Int) (h72:Heap)=>a0_0=y68∧x1=y69∧a4_0=y70∧y12=y71∧St h M [own (oSl (fz rLane)) [a0_0] y13] h72∧iter (p67_l0 x1 x4 y12 y13) m67 y10=some res24) ?_ (m:=n61) ?_)
  ·rintro y62 y63 y64 y19 y65 h66 ⟨rfl,rfl,rfl,rfl,S,rfl⟩
   try dsimp only at hf
   obtain ⟨res25,hL,hf⟩:=oB hf
   obtain ⟨n73,hL⟩:=loopC_iff.1 hL
   refine loopm67_1 (X4:=fun (y74:AV) (y75:Int) (y76:AV) (y77:Int) (y26:Int) (h78:Heap)=>a0_0=y74∧x1=y75∧a4_0=y76∧y19=y77∧St h M [own (oSl (fz rLane)) [a0_0] y13] h78∧y26=res25) ?_ (loop67_1 (I:=fun (m79:Nat) (y80:AV) (y81:Int) (y82:AV) (y83:Int) (y17:Int) (h84:Heap)=>a0_0=y80∧x1=y81∧a4_0=y82∧y19=y83∧St h M [own (oSl (fz rLane)) [a0_0] y13] h84∧iter (p67_l1 x1 x4 y13 y19) m79 y17=some res25) ?_ (m:=n73) ?_)
   ·rintro y74 y75 y76 y77 y26 h78 ⟨rfl,rfl,rfl,rfl,S,rfl⟩
    try dsimp only at hf
    refine bI (fun hc=>?_) (fun hc=>?_)
    ·rw [ifD hc] at hf
     obtain rfl:=oi hf
     obtain rfl:=hk
     exact ⟨y13,S,rfl⟩
    rw [ifE hc] at hf
    obtain ⟨e27,he27,hf⟩:=oB hf
    refine ix_go (S.sl (r:=(fz rLane)) m0) (Hp.le_refl _) he27 fun pe27=>?_
    obtain ⟨_,cr85,Rr85,Nr85,Or85,Zr85⟩:=St.idxO (r:=rLane) S m0 he27
    obtain rfl:=rLane_open Rr85
    refine ⟨(.int .i64 e27.From),(.int .i64 e27.To),(.int .i64 e27.Ahead),Nr85,?_⟩
    obtain ⟨e28,he28,hf⟩:=oB hf
    refine ix_go (S.sl (r:=(fz rLane)) m0) (Hp.le_refl _) he28 fun pe28=>?_
    obtain ⟨_,cr86,Rr86,Nr86,Or86,Zr86⟩:=St.idxO (r:=rLane) S m0 he28
    obtain rfl:=rLane_open Rr86
    refine ⟨(.int .i64 e28.From),(.int .i64 e28.To),(.int .i64 e28.Ahead),Nr86,?_⟩
    obtain ⟨e29,he29,hf⟩:=oB hf
    refine ix_go (S.sl (r:=(fz rLane)) m0) (Hp.le_refl _) he29 fun pe29=>?_
    obtain ⟨y30,hy30,hf⟩:=oB hf
    obtain ⟨h87,e88,S⟩:=St.setE (r:=rLane) (x':=e27) (k:=0) (n:=3) (y:=(.agg [(.int .i64 e27.From),(.int .i64 e27.To),(.int .i64 e27.Ahead)])) S he29 rfl rfl (nl rfl) (by rintro _ h; obtain rfl:=rLane_open h; exact rLane_mk (x:=e27))
    rw [padd_zero] at e88
    have S:St _ _ [own (oSl (fz rLane)) [a0_0] y30] _:=S.cast1 (by rw [← oi hy30]<;>rfl)
    have hqy30:idx y30 y19=some e27:=oi hy30▸idx_set he29
    refine ⟨h87,e88,?_⟩
    obtain ⟨e31,he31,hf⟩:=oB hf
    refine ix_go (S.sl (r:=(fz rLane)) m0) (Hp.le_refl _) he31 fun pe31=>?_
    obtain ⟨y32,hy32,hf⟩:=oB hf
    obtain ⟨h89,e90,S⟩:=St.setE (r:=rLane) (x':=e28) (k:=0) (n:=3) (y:=(.agg [(.int .i64 e28.From),(.int .i64 e28.To),(.int .i64 e28.Ahead)])) S he31 rfl rfl (nl rfl) (by rintro _ h; obtain rfl:=rLane_open h; exact rLane_mk (x:=e28))
    rw [padd_zero] at e90
    have S:St _ _ [own (oSl (fz rLane)) [a0_0] y32] _:=S.cast1 (by rw [← oi hy32]<;>rfl)
    have hqy32:idx y32 y26=some e28:=oi hy32▸idx_set he31
    refine ⟨h89,e90,?_⟩
    obtain rfl:=oi hf
    exact ⟨m54,Nat.lt_succ_self _,y32,rfl,rfl,rfl,S,hk⟩
   ·rintro m91 y80 y81 y82 y83 y17 h84 ⟨rfl,rfl,rfl,rfl,S,hit⟩
    obtain ⟨m79,q92,rfl,hf,hk⟩:=iter_some hit
    clear hit
    unfold B67_1
    unfold p67_l1 at hf
    try dsimp only at hf
    intro jjj1
    have hjj1:∀ (b18:Bool) (h93:Heap),p67_j1 y17 b18=some q92→St h M [own (oSl (fz rLane)) [a0_0] y13] h93→jjj1 b18 h93:=by
     rintro b18 h93 hf S
     unfold p67_j1 at hf
     unfold jjj1
     refine bI (fun hc=>?_) (fun hc=>?_)
     ·rw [ifT hc] at hf
      obtain rfl:=oi hf
      exact ⟨m79,Nat.lt_succ_self _,rfl,rfl,rfl,rfl,S,hk⟩
     rw [ifF hc] at hf
     obtain rfl:=oi hf
     obtain rfl:=hk
     exact ⟨rfl,rfl,rfl,rfl,S,rfl⟩
    refine bI (fun hc=>?_) (fun hc=>?_)
    ·rw [ifD hc] at hf
     obtain ⟨e20,he20,hf⟩:=oB hf
     refine ix_go (S.sl (r:=(fz rLane)) m0) (Hp.le_refl _) he20 fun pe20=>?_
     obtain ⟨_,cr94,Rr94,Nr94,Or94,Zr94⟩:=St.idxO (r:=rLane) S m0 he20
     obtain rfl:=rLane_open Rr94
     refine ⟨(.int .i64 e20.From),(.int .i64 e20.To),(.int .i64 e20.Ahead),Nr94,?_⟩
     obtain ⟨e21,he21,hf⟩:=oB hf
     refine ix_go (S.sl (r:=(fz rLane)) m0) (Hp.le_refl _) he21 fun pe21=>?_
     obtain ⟨_,cr95,Rr95,Nr95,Or95,Zr95⟩:=St.idxO (r:=rLane) S m0 he21
     obtain rfl:=rLane_open Rr95
     refine ⟨(.int .i64 e21.From),(.int .i64 e21.To),(.int .i64 e21.Ahead),Nr95,?_⟩
     obtain ⟨r22,hr22,hf⟩:=oB hf
     refine ⟨_,Fz.refl _,?_⟩
     refine callW_mono (f4_0 _ e20 e21 _ hr22) fun v96 h97 T=>?_
     obtain ⟨rfl,T⟩:=T
     have S:St _ _ [_] _:=S.comp T
     refine ⟨r22,rfl,?_⟩
     exact hjj1 _ _  hf  S
    rw [ifE hc] at hf
    exact hjj1 _ _  hf  S
   exact ⟨rfl,rfl,rfl,rfl,S,hL⟩
  ·rintro m98 y68 y69 y70 y10 y71 h72 ⟨rfl,rfl,rfl,rfl,S,hit⟩
   obtain ⟨m67,q99,rfl,hf,hk⟩:=iter_some hit
   clear hit
   unfold B67_0
   unfold p67_l0 at hf
   try dsimp only at hf
   intro jjj0
   have hjj0:∀ (b11:Bool) (h100:Heap),p67_j0 y10 b11=some q99→St h M [own (oSl (fz rLane)) [a0_0] y13] h100→jjj0 b11 h100:=by
    rintro b11 h100 hf S
    unfold p67_j0 at hf
    unfold jjj0
    refine bI (fun hc=>?_) (fun hc=>?_)
    ·rw [ifT hc] at hf
     obtain rfl:=oi hf
     exact ⟨m67,Nat.lt_succ_self _,rfl,rfl,rfl,rfl,S,hk⟩
    rw [ifF hc] at hf
    obtain rfl:=oi hf
    obtain rfl:=hk
    exact ⟨rfl,rfl,rfl,rfl,S,rfl⟩
   refine bI (fun hc=>?_) (fun hc=>?_)
   ·rw [ifD hc] at hf
    obtain ⟨e14,he14,hf⟩:=oB hf
    refine ix_go (S.sl (r:=(fz rLane)) m0) (Hp.le_refl _) he14 fun pe14=>?_
    obtain ⟨_,cr101,Rr101,Nr101,Or101,Zr101⟩:=St.idxO (r:=rLane) S m0 he14
    obtain rfl:=rLane_open Rr101
    refine ⟨(.int .i64 e14.From),(.int .i64 e14.To),(.int .i64 e14.Ahead),Nr101,?_⟩
    obtain ⟨e15,he15,hf⟩:=oB hf
    refine ix_go (S.sl (r:=(fz rLane)) m0) (Hp.le_refl _) he15 fun pe15=>?_
    obtain ⟨_,cr102,Rr102,Nr102,Or102,Zr102⟩:=St.idxO (r:=rLane) S m0 he15
    obtain rfl:=rLane_open Rr102
    refine ⟨(.int .i64 e15.From),(.int .i64 e15.To),(.int .i64 e15.Ahead),Nr102,?_⟩
    obtain ⟨r16,hr16,hf⟩:=oB hf
    refine ⟨_,Fz.refl _,?_⟩
    refine callW_mono (f4_0 _ e14 e15 _ hr16) fun v103 h104 T=>?_
    obtain ⟨rfl,T⟩:=T
    have S:St _ _ [_] _:=S.comp T
    refine ⟨r16,rfl,?_⟩
    exact hjj0 _ _  hf  S
   rw [ifE hc] at hf
   exact hjj0 _ _  hf  S
  exact ⟨rfl,rfl,rfl,rfl,S,hL⟩
 exact ⟨x38,rfl,rfl,rfl,S,hL⟩
def p68_j0 (y10:Int) (b11:Bool):Option (Int⊕Int):=if b11=true then (some (.inl (IntKind.wrap .i64 (y10+1)))) else (some (.inr y10))
def p68_l0 (x1:Int) (x2:Int) (x4:TLane→TLane→Option Int) (x12:List TLane) (y10:Int):Option (Int⊕Int):=if y10≤(IntKind.wrap .i64 (x2 - 1)) then ((idx x12 y10).bind fun e13=>(idx x12 x1).bind fun e14=>(x4 e13 e14).bind fun r15=>p68_j0 y10 (decide (r15 < 0))) else (p68_j0 y10 false)
def p68_j1 (y16:Int) (b17:Bool):Option (Int⊕Int):=if b17=true then (some (.inl (IntKind.wrap .i64 (y16 - 1)))) else (some (.inr y16))
def p68_l1 (x1:Int) (x4:TLane→TLane→Option Int) (x12:List TLane) (y18:Int) (y16:Int):Option (Int⊕Int):=if y18≤y16 then ((idx x12 y16).bind fun e19=>(idx x12 x1).bind fun e20=>(x4 e19 e20).bind fun r21=>p68_j1 y16 (!(decide (r21 < 0)))) else (p68_j1 y16 false)
def p68_j2 (y22:Int) (b23:Bool):Option (Int⊕Int):=if b23=true then (some (.inl (IntKind.wrap .i64 (y22+1)))) else (some (.inr y22))
def p68_l2 (x1:Int) (x4:TLane→TLane→Option Int) (y24:Int) (y25:List TLane) (y22:Int):Option (Int⊕Int):=if y22≤y24 then ((idx y25 y22).bind fun e26=>(idx y25 x1).bind fun e27=>(x4 e26 e27).bind fun r28=>p68_j2 y22 (decide (r28 < 0))) else (p68_j2 y22 false)
def p68_j3 (y29:Int) (b30:Bool):Option (Int⊕Int):=if b30=true then (some (.inl (IntKind.wrap .i64 (y29 - 1)))) else (some (.inr y29))
def p68_l3 (x1:Int) (x4:TLane→TLane→Option Int) (y25:List TLane) (y31:Int) (y29:Int):Option (Int⊕Int):=if y31≤y29 then ((idx y25 y29).bind fun e32=>(idx y25 x1).bind fun e33=>(x4 e32 e33).bind fun r34=>p68_j3 y29 (!(decide (r34 < 0)))) else (p68_j3 y29 false)
def p68_l4 (x1:Int) (x4:TLane→TLane→Option Int) (st:Int×Int×(List TLane)):Option ((Int×Int×(List TLane))⊕(Int×(List TLane))):=match st with | (y35,y24,y25)=>(loopC (p68_l2 x1 x4 y24 y25) y35).bind fun res36=>((fun (y31:Int)=>(loopC (p68_l3 x1 x4 y25 y31) y24).bind fun res37=>((fun (y38:Int)=>if y38 < y31 then (some (.inr (y38,y25))) else ((idx y25 y38).bind fun e39=>(idx y25 y31).bind fun e40=>(idx y25 y31).bind fun e41=>(some (y25.set (y31:Int).toNat e39)).bind fun y42=>(idx y42 y38).bind fun e43=>(some (y42.set (y38:Int).toNat e40)).bind fun y44=>some (.inl ((IntKind.wrap .i64 (y31+1)),(IntKind.wrap .i64 (y38 - 1)),y44)))) res37)) res36)
def p68 (x0:List TLane) (x1:Int) (x2:Int) (x3:Int) (x4:TLane→TLane→Option Int):Option (Int×Bool×(List TLane)):=(idx x0 x3).bind fun e45=>(idx x0 x1).bind fun e46=>(idx x0 x1).bind fun e47=>(some (x0.set (x1:Int).toNat e45)).bind fun x48=>(idx x48 x3).bind fun e49=>(some (x48.set (x3:Int).toNat e46)).bind fun x12=>(loopC (p68_l0 x1 x2 x4 x12) (IntKind.wrap .i64 (x1+1))).bind fun res50=>((fun (y18:Int)=>(loopC (p68_l1 x1 x4 x12 y18) (IntKind.wrap .i64 (x2 - 1))).bind fun res51=>((fun (y52:Int)=>if y52 < y18 then ((idx x12 x1).bind fun e53=>(idx x12 y52).bind fun e54=>(idx x12 y52).bind fun e55=>(some (x12.set (y52:Int).toNat e53)).bind fun x56=>(idx x56 x1).bind fun e57=>(some (x56.set (x1:Int).toNat e54)).bind fun x58=>some (y52,true,x58)) else ((idx x12 y52).bind fun e59=>(idx x12 y18).bind fun e60=>(idx x12 y18).bind fun e61=>(some (x12.set (y18:Int).toNat e59)).bind fun x62=>(idx x62 y52).bind fun e63=>(some (x62.set (y52:Int).toNat e60)).bind fun x64=>(loopC (p68_l4 x1 x4) ((IntKind.wrap .i64 (y18+1)),(IntKind.wrap .i64 (y52 - 1)),x64)).bind fun res65=>(match res65 with | (y66,y67)=>(idx y67 x1).bind fun e68=>(idx y67 y66).bind fun e69=>(idx y67 y66).bind fun e70=>(some (y67.set (y66:Int).toNat e68)).bind fun y71=>(idx y71 x1).bind fun e72=>(some (y71.set (x1:Int).toNat e69)).bind fun y73=>some (y66,false,y73)))) res51)) res50)
theorem r68 {h:Heap} {a0_0:AV} {a4_0:AV} {M:Nat→Prop} {x0:List TLane} {x1:Int} {x2:Int} {x3:Int} {x4:TLane→TLane→Option Int} (S:St h M [own (oSl (fz rLane)) [a0_0] x0] h) (f4_0:∀ (h':Heap) (y0:TLane) (y1:TLane) r,x4 y0 y1=some r→callW F a4_0 [.agg [.int .i64 y0.From,.int .i64 y0.To,.int .i64 y0.Ahead],.agg [.int .i64 y1.From,.int .i64 y1.To,.int .i64 y1.Ahead]] h' fun v h2=>v=.int .i64 r∧St h' none' [] h2) {r:Int×Bool×(List TLane)} (hf:p68 x0 x1 x2 x3 x4=some r):ZC F 68 [a0_0,(.int .i64 x1),(.int .i64 x2),(.int .i64 x3),a4_0] h fun v h'=>v=.tuple [.int .i64 r.1,.bool r.2.1]∧St h M [own (oSl (fz rLane)) [a0_0] r.2.2] h':=by
 refine w68 ?_
 unfold W68
 unfold p68 at hf
 obtain ⟨e45,he45,hf⟩:=oB hf
 refine ix_go (S.sl (r:=(fz rLane)) m0) (Hp.le_refl _) he45 fun pe45=>?_
 obtain ⟨_,cr74,Rr74,Nr74,Or74,Zr74⟩:=St.idxO (r:=rLane) S m0 he45
 obtain rfl:=rLane_open Rr74
 refine ⟨(.int .i64 e45.From),(.int .i64 e45.To),(.int .i64 e45.Ahead),Nr74,?_⟩
 obtain ⟨e46,he46,hf⟩:=oB hf
 refine ix_go (S.sl (r:=(fz rLane)) m0) (Hp.le_refl _) he46 fun pe46=>?_
 obtain ⟨_,cr75,Rr75,Nr75,Or75,Zr75⟩:=St.idxO (r:=rLane) S m0 he46
 obtain rfl:=rLane_open Rr75
 refine ⟨(.int .i64 e46.From),(.int .i64 e46.To),(.int .i64 e46.Ahead),Nr75,?_⟩
 obtain ⟨e47,he47,hf⟩:=oB hf
 refine ix_go (S.sl (r:=(fz rLane)) m0) (Hp.le_refl _) he47 fun pe47=>?_
 obtain ⟨x48,hx48,hf⟩:=oB hf
 obtain ⟨h76,e77,S⟩:=St.setE (r:=rLane) (x':=e45) (k:=0) (n:=3) (y:=(.agg [(.int .i64 e45.From),(.int .i64 e45.To),(.int .i64 e45.Ahead)])) S he47 rfl rfl (nl rfl) (by rintro _ h; obtain rfl:=rLane_open h; exact rLane_mk (x:=e45))
 rw [padd_zero] at e77
 have S:St _ _ [own (oSl (fz rLane)) [a0_0] x48] _:=S.cast1 (by rw [← oi hx48]<;>rfl)
 have hqx48:idx x48 x1=some e45:=oi hx48▸idx_set he47
 refine ⟨h76,e77,?_⟩
 obtain ⟨e49,he49,hf⟩:=oB hf
 refine ix_go (S.sl (r:=(fz rLane)) m0) (Hp.le_refl _) he49 fun pe49=>?_
 obtain ⟨x12,hx12,hf⟩:=oB hf
 obtain ⟨h78,e79,S⟩:=St.setE (r:=rLane) (x':=e46) (k:=0) (n:=3) (y:=(.agg [(.int .i64 e46.From),(.int .i64 e46.To),(.int .i64 e46.Ahead)])) S he49 rfl rfl (nl rfl) (by rintro _ h; obtain rfl:=rLane_open h; exact rLane_mk (x:=e46))
 rw [padd_zero] at e79
 have S:St _ _ [own (oSl (fz rLane)) [a0_0] x12] _:=S.cast1 (by rw [← oi hx12]<;>rfl)
 have hqx12:idx x12 x3=some e46:=oi hx12▸idx_set he49
 refine ⟨h78,e79,?_⟩
 obtain ⟨res50,hL,hf⟩:=oB hf
 obtain ⟨n80,hL⟩:=loopC_iff.1 hL
 refine loopm68_0 (X0:=fun (y81:AV) (y82:Int) (y83:AV) (y18:Int) (y84:Int) (h85:Heap)=>a0_0=y81∧x1=y82∧a4_0=y83∧(IntKind.wrap .i64 (x2 - 1))=y84∧St h M [own (oSl (fz rLane)) [a0_0] x12] h85∧y18=res50) ?_ (loop68_0 (I:=fun (m86:Nat) (y87:AV) (y88:Int) (y89:AV) (y10:Int) (y90:Int) (h91:Heap)=>a0_0=y87∧x1=y88∧a4_0=y89∧(IntKind.wrap .i64 (x2 - 1))=y90∧St h M [own (oSl (fz rLane)) [a0_0] x12] h91∧iter (p68_l0 x1 x2 x4 x12) m86 y10=some res50) ?_ (m:=n80) ?_)
 ·rintro y81 y82 y83 y18 y84 h85 ⟨rfl,rfl,rfl,rfl,S,rfl⟩
  try dsimp only at hf
  obtain ⟨res51,hL,hf⟩:=oB hf
  obtain ⟨n92,hL⟩:=loopC_iff.1 hL
  refine loopm68_1 (X2:=fun (y93:AV) (y94:Int) (y95:AV) (y96:Int) (y52:Int) (h97:Heap)=>a0_0=y93∧x1=y94∧a4_0=y95∧y18=y96∧St h M [own (oSl (fz rLane)) [a0_0] x12] h97∧y52=res51) ?_ (loop68_1 (I:=fun (m98:Nat) (y99:AV) (y100:Int) (y101:AV) (y102:Int) (y16:Int) (h103:Heap)=>a0_0=y99∧x1=y100∧a4_0=y101∧y18=y102∧St h M [own (oSl (fz rLane)) [a0_0] x12] h103∧iter (p68_l1 x1 x4 x12 y18) m98 y16=some res51) ?_ (m:=n92) ?_)
  ·rintro y93 y94 y95 y96 y52 h97 ⟨rfl,rfl,rfl,rfl,S,rfl⟩
   try dsimp only at hf
   refine bI (fun hc=>?_) (fun hc=>?_)
   ·rw [ifD hc] at hf
    obtain ⟨e53,he53,hf⟩:=oB hf
    refine ix_go (S.sl (r:=(fz rLane)) m0) (Hp.le_refl _) he53 fun pe53=>?_
    obtain ⟨_,cr104,Rr104,Nr104,Or104,Zr104⟩:=St.idxO (r:=rLane) S m0 he53
    obtain rfl:=rLane_open Rr104
    refine ⟨(.int .i64 e53.From),(.int .i64 e53.To),(.int .i64 e53.Ahead),Nr104,?_⟩
    obtain ⟨e54,he54,hf⟩:=oB hf
    refine ix_go (S.sl (r:=(fz rLane)) m0) (Hp.le_refl _) he54 fun pe54=>?_
    obtain ⟨_,cr105,Rr105,Nr105,Or105,Zr105⟩:=St.idxO (r:=rLane) S m0 he54
    obtain rfl:=rLane_open Rr105
    refine ⟨(.int .i64 e54.From),(.int .i64 e54.To),(.int .i64 e54.Ahead),Nr105,?_⟩
    obtain ⟨e55,he55,hf⟩:=oB hf
    refine ix_go (S.sl (r:=(fz rLane)) m0) (Hp.le_refl _) he55 fun pe55=>?_
    obtain ⟨x56,hx56,hf⟩:=oB hf
    obtain ⟨h106,e107,S⟩:=St.setE (r:=rLane) (x':=e53) (k:=0) (n:=3) (y:=(.agg [(.int .i64 e53.From),(.int .i64 e53.To),(.int .i64 e53.Ahead)])) S he55 rfl rfl (nl rfl) (by rintro _ h; obtain rfl:=rLane_open h; exact rLane_mk (x:=e53))
    rw [padd_zero] at e107
    have S:St _ _ [own (oSl (fz rLane)) [a0_0] x56] _:=S.cast1 (by rw [← oi hx56]<;>rfl)
    have hqx56:idx x56 y52=some e53:=oi hx56▸idx_set he55
    refine ⟨h106,e107,?_⟩
    obtain ⟨e57,he57,hf⟩:=oB hf
    refine ix_go (S.sl (r:=(fz rLane)) m0) (Hp.le_refl _) he57 fun pe57=>?_
    obtain ⟨x58,hx58,hf⟩:=oB hf
    obtain ⟨h108,e109,S⟩:=St.setE (r:=rLane) (x':=e54) (k:=0) (n:=3) (y:=(.agg [(.int .i64 e54.From),(.int .i64 e54.To),(.int .i64 e54.Ahead)])) S he57 rfl rfl (nl rfl) (by rintro _ h; obtain rfl:=rLane_open h; exact rLane_mk (x:=e54))
    rw [padd_zero] at e109
    have S:St _ _ [own (oSl (fz rLane)) [a0_0] x58] _:=S.cast1 (by rw [← oi hx58]<;>rfl)
    have hqx58:idx x58 x1=some e54:=oi hx58▸idx_set he57
    refine ⟨h108,e109,?_⟩
    obtain rfl:=oi hf
    exact ⟨rfl,S.sel [0] rfl⟩
   rw [ifE hc] at hf
   obtain ⟨e59,he59,hf⟩:=oB hf
   refine ix_go (S.sl (r:=(fz rLane)) m0) (Hp.le_refl _) he59 fun pe59=>?_
   obtain ⟨_,cr110,Rr110,Nr110,Or110,Zr110⟩:=St.idxO (r:=rLane) S m0 he59
   obtain rfl:=rLane_open Rr110
   refine ⟨(.int .i64 e59.From),(.int .i64 e59.To),(.int .i64 e59.Ahead),Nr110,?_⟩
   obtain ⟨e60,he60,hf⟩:=oB hf
   refine ix_go (S.sl (r:=(fz rLane)) m0) (Hp.le_refl _) he60 fun pe60=>?_
   obtain ⟨_,cr111,Rr111,Nr111,Or111,Zr111⟩:=St.idxO (r:=rLane) S m0 he60
   obtain rfl:=rLane_open Rr111
   refine ⟨(.int .i64 e60.From),(.int .i64 e60.To),(.int .i64 e60.Ahead),Nr111,?_⟩
   obtain ⟨e61,he61,hf⟩:=oB hf
   refine ix_go (S.sl (r:=(fz rLane)) m0) (Hp.le_refl _) he61 fun pe61=>?_
   obtain ⟨x62,hx62,hf⟩:=oB hf
   obtain ⟨h112,e113,S⟩:=St.setE (r:=rLane) (x':=e59) (k:=0) (n:=3) (y:=(.agg [(.int .i64 e59.From),(.int .i64 e59.To),(.int .i64 e59.Ahead)])) S he61 rfl rfl (nl rfl) (by rintro _ h; obtain rfl:=rLane_open h; exact rLane_mk (x:=e59))
   rw [padd_zero] at e113
   have S:St _ _ [own (oSl (fz rLane)) [a0_0] x62] _:=S.cast1 (by rw [← oi hx62]<;>rfl)
   have hqx62:idx x62 y18=some e59:=oi hx62▸idx_set he61
   refine ⟨h112,e113,?_⟩
   obtain ⟨e63,he63,hf⟩:=oB hf
   refine ix_go (S.sl (r:=(fz rLane)) m0) (Hp.le_refl _) he63 fun pe63=>?_
   obtain ⟨x64,hx64,hf⟩:=oB hf
   obtain ⟨h114,e115,S⟩:=St.setE (r:=rLane) (x':=e60) (k:=0) (n:=3) (y:=(.agg [(.int .i64 e60.From),(.int .i64 e60.To),(.int .i64 e60.Ahead)])) S he63 rfl rfl (nl rfl) (by rintro _ h; obtain rfl:=rLane_open h; exact rLane_mk (x:=e60))
   rw [padd_zero] at e115
   have S:St _ _ [own (oSl (fz rLane)) [a0_0] x64] _:=S.cast1 (by rw [← oi hx64]<;>rfl)
   have hqx64:idx x64 y52=some e60:=oi hx64▸idx_set he63
   refine ⟨h114,e115,?_⟩
   obtain ⟨res65,hL,hf⟩:=oB hf
   obtain ⟨n116,hL⟩:=loopC_iff.1 hL
   refine loopm68_4 (X4:=fun (y117:AV) (y118:Int) (y119:AV) (y120:Int) (y66:Int) (h121:Heap)=>∃ (y67:List TLane),a0_0=y117∧x1=y118∧St h M [own (oSl (fz rLane)) [a0_0] y67] h121∧(y66,y67)=res65) ?_ (loop68_4 (I:=fun (m122:Nat) (y123:AV) (y124:Int) (y125:AV) (y35:Int) (y24:Int) (h126:Heap)=>∃ (y25:List TLane),a0_0=y123∧x1=y124∧a4_0=y125∧St h M [own (oSl (fz rLane)) [a0_0] y25] h126∧iter (p68_l4 x1 x4) m122 (y35,y24,y25)=some res65) ?_ (m:=n116) ?_)
   ·rintro y117 y118 y119 y120 y66 h121 ⟨y67,rfl,rfl,S,rfl⟩
    try dsimp only at hf
    obtain ⟨e68,he68,hf⟩:=oB hf
    refine ix_go (S.sl (r:=(fz rLane)) m0) (Hp.le_refl _) he68 fun pe68=>?_
    obtain ⟨_,cr127,Rr127,Nr127,Or127,Zr127⟩:=St.idxO (r:=rLane) S m0 he68
    obtain rfl:=rLane_open Rr127
    refine ⟨(.int .i64 e68.From),(.int .i64 e68.To),(.int .i64 e68.Ahead),Nr127,?_⟩
    obtain ⟨e69,he69,hf⟩:=oB hf
    refine ix_go (S.sl (r:=(fz rLane)) m0) (Hp.le_refl _) he69 fun pe69=>?_
    obtain ⟨_,cr128,Rr128,Nr128,Or128,Zr128⟩:=St.idxO (r:=rLane) S m0 he69
    obtain rfl:=rLane_open Rr128
    refine ⟨(.int .i64 e69.From),(.int .i64 e69.To),(.int .i64 e69.Ahead),Nr128,?_⟩
    obtain ⟨e70,he70,hf⟩:=oB hf
    refine ix_go (S.sl (r:=(fz rLane)) m0) (Hp.le_refl _) he70 fun pe70=>?_
    obtain ⟨y71,hy71,hf⟩:=oB hf
    obtain ⟨h129,e130,S⟩:=St.setE (r:=rLane) (x':=e68) (k:=0) (n:=3) (y:=(.agg [(.int .i64 e68.From),(.int .i64 e68.To),(.int .i64 e68.Ahead)])) S he70 rfl rfl (nl rfl) (by rintro _ h; obtain rfl:=rLane_open h; exact rLane_mk (x:=e68))
    rw [padd_zero] at e130
    have S:St _ _ [own (oSl (fz rLane)) [a0_0] y71] _:=S.cast1 (by rw [← oi hy71]<;>rfl)
    have hqy71:idx y71 y66=some e68:=oi hy71▸idx_set he70
    refine ⟨h129,e130,?_⟩
    obtain ⟨e72,he72,hf⟩:=oB hf
    refine ix_go (S.sl (r:=(fz rLane)) m0) (Hp.le_refl _) he72 fun pe72=>?_
    obtain ⟨y73,hy73,hf⟩:=oB hf
    obtain ⟨h131,e132,S⟩:=St.setE (r:=rLane) (x':=e69) (k:=0) (n:=3) (y:=(.agg [(.int .i64 e69.From),(.int .i64 e69.To),(.int .i64 e69.Ahead)])) S he72 rfl rfl (nl rfl) (by rintro _ h; obtain rfl:=rLane_open h; exact rLane_mk (x:=e69))
    rw [padd_zero] at e132
    have S:St _ _ [own (oSl (fz rLane)) [a0_0] y73] _:=S.cast1 (by rw [← oi hy73]<;>rfl)
    have hqy73:idx y73 x1=some e69:=oi hy73▸idx_set he72
    refine ⟨h131,e132,?_⟩
    obtain rfl:=oi hf
    exact ⟨rfl,S.sel [0] rfl⟩
   ·rintro m133 y123 y124 y125 y35 y24 h126 ⟨y25,rfl,rfl,rfl,S,hit⟩
    obtain ⟨m122,q134,rfl,hf,hk⟩:=iter_some hit
    clear hit
    unfold B68_4
    unfold p68_l4 at hf
    try dsimp only at hf
    obtain ⟨res36,hL,hf⟩:=oB hf
    obtain ⟨n135,hL⟩:=loopC_iff.1 hL
    refine loopm68_2 (X6:=fun (y136:AV) (y137:Int) (y138:AV) (y31:Int) (y139:Int) (h140:Heap)=>a0_0=y136∧x1=y137∧a4_0=y138∧y24=y139∧St h M [own (oSl (fz rLane)) [a0_0] y25] h140∧y31=res36) ?_ (loop68_2 (I:=fun (m141:Nat) (y142:AV) (y143:Int) (y144:AV) (y22:Int) (y145:Int) (h146:Heap)=>a0_0=y142∧x1=y143∧a4_0=y144∧y24=y145∧St h M [own (oSl (fz rLane)) [a0_0] y25] h146∧iter (p68_l2 x1 x4 y24 y25) m141 y22=some res36) ?_ (m:=n135) ?_)
    ·rintro y136 y137 y138 y31 y139 h140 ⟨rfl,rfl,rfl,rfl,S,rfl⟩
     try dsimp only at hf
     obtain ⟨res37,hL,hf⟩:=oB hf
     obtain ⟨n147,hL⟩:=loopC_iff.1 hL
     refine loopm68_3 (X8:=fun (y148:AV) (y149:Int) (y150:AV) (y151:Int) (y38:Int) (h152:Heap)=>a0_0=y148∧x1=y149∧a4_0=y150∧y31=y151∧St h M [own (oSl (fz rLane)) [a0_0] y25] h152∧y38=res37) ?_ (loop68_3 (I:=fun (m153:Nat) (y154:AV) (y155:Int) (y156:AV) (y157:Int) (y29:Int) (h158:Heap)=>a0_0=y154∧x1=y155∧a4_0=y156∧y31=y157∧St h M [own (oSl (fz rLane)) [a0_0] y25] h158∧iter (p68_l3 x1 x4 y25 y31) m153 y29=some res37) ?_ (m:=n147) ?_)
     ·rintro y148 y149 y150 y151 y38 h152 ⟨rfl,rfl,rfl,rfl,S,rfl⟩
      try dsimp only at hf
      refine bI (fun hc=>?_) (fun hc=>?_)
      ·rw [ifD hc] at hf
       obtain rfl:=oi hf
       obtain rfl:=hk
       exact ⟨y25,rfl,rfl,S,rfl⟩
      rw [ifE hc] at hf
      obtain ⟨e39,he39,hf⟩:=oB hf
      refine ix_go (S.sl (r:=(fz rLane)) m0) (Hp.le_refl _) he39 fun pe39=>?_
      obtain ⟨_,cr159,Rr159,Nr159,Or159,Zr159⟩:=St.idxO (r:=rLane) S m0 he39
      obtain rfl:=rLane_open Rr159
      refine ⟨(.int .i64 e39.From),(.int .i64 e39.To),(.int .i64 e39.Ahead),Nr159,?_⟩
      obtain ⟨e40,he40,hf⟩:=oB hf
      refine ix_go (S.sl (r:=(fz rLane)) m0) (Hp.le_refl _) he40 fun pe40=>?_
      obtain ⟨_,cr160,Rr160,Nr160,Or160,Zr160⟩:=St.idxO (r:=rLane) S m0 he40
      obtain rfl:=rLane_open Rr160
      refine ⟨(.int .i64 e40.From),(.int .i64 e40.To),(.int .i64 e40.Ahead),Nr160,?_⟩
      obtain ⟨e41,he41,hf⟩:=oB hf
      refine ix_go (S.sl (r:=(fz rLane)) m0) (Hp.le_refl _) he41 fun pe41=>?_
      obtain ⟨y42,hy42,hf⟩:=oB hf
      obtain ⟨h161,e162,S⟩:=St.setE (r:=rLane) (x':=e39) (k:=0) (n:=3) (y:=(.agg [(.int .i64 e39.From),(.int .i64 e39.To),(.int .i64 e39.Ahead)])) S he41 rfl rfl (nl rfl) (by rintro _ h; obtain rfl:=rLane_open h; exact rLane_mk (x:=e39))
      rw [padd_zero] at e162
      have S:St _ _ [own (oSl (fz rLane)) [a0_0] y42] _:=S.cast1 (by rw [← oi hy42]<;>rfl)
      have hqy42:idx y42 y31=some e39:=oi hy42▸idx_set he41
      refine ⟨h161,e162,?_⟩
      obtain ⟨e43,he43,hf⟩:=oB hf
      refine ix_go (S.sl (r:=(fz rLane)) m0) (Hp.le_refl _) he43 fun pe43=>?_
      obtain ⟨y44,hy44,hf⟩:=oB hf
      obtain ⟨h163,e164,S⟩:=St.setE (r:=rLane) (x':=e40) (k:=0) (n:=3) (y:=(.agg [(.int .i64 e40.From),(.int .i64 e40.To),(.int .i64 e40.Ahead)])) S he43 rfl rfl (nl rfl) (by rintro _ h; obtain rfl:=rLane_open h; exact rLane_mk (x:=e40))
      rw [padd_zero] at e164
      have S:St _ _ [own (oSl (fz rLane)) [a0_0] y44] _:=S.cast1 (by rw [← oi hy44]<;>rfl)
      have hqy44:idx y44 y38=some e40:=oi hy44▸idx_set he43
      refine ⟨h163,e164,?_⟩
      obtain rfl:=oi hf
      exact ⟨m122,Nat.lt_succ_self _,y44,rfl,rfl,rfl,S,hk⟩
     ·rintro m165 y154 y155 y156 y157 y29 h158 ⟨rfl,rfl,rfl,rfl,S,hit⟩
      obtain ⟨m153,q166,rfl,hf,hk⟩:=iter_some hit
      clear hit
      unfold B68_3
      unfold p68_l3 at hf
      try dsimp only at hf
      intro jjj3
      have hjj3:∀ (b30:Bool) (h167:Heap),p68_j3 y29 b30=some q166→St h M [own (oSl (fz rLane)) [a0_0] y25] h167→jjj3 b30 h167:=by
       rintro b30 h167 hf S
       unfold p68_j3 at hf
       unfold jjj3
       refine bI (fun hc=>?_) (fun hc=>?_)
       ·rw [ifT hc] at hf
        obtain rfl:=oi hf
        exact ⟨m153,Nat.lt_succ_self _,rfl,rfl,rfl,rfl,S,hk⟩
       rw [ifF hc] at hf
       obtain rfl:=oi hf
       obtain rfl:=hk
       exact ⟨rfl,rfl,rfl,rfl,S,rfl⟩
      refine bI (fun hc=>?_) (fun hc=>?_)
      ·rw [ifD hc] at hf
       obtain ⟨e32,he32,hf⟩:=oB hf
       refine ix_go (S.sl (r:=(fz rLane)) m0) (Hp.le_refl _) he32 fun pe32=>?_
       obtain ⟨_,cr168,Rr168,Nr168,Or168,Zr168⟩:=St.idxO (r:=rLane) S m0 he32
       obtain rfl:=rLane_open Rr168
       refine ⟨(.int .i64 e32.From),(.int .i64 e32.To),(.int .i64 e32.Ahead),Nr168,?_⟩
       obtain ⟨e33,he33,hf⟩:=oB hf
       refine ix_go (S.sl (r:=(fz rLane)) m0) (Hp.le_refl _) he33 fun pe33=>?_
       obtain ⟨_,cr169,Rr169,Nr169,Or169,Zr169⟩:=St.idxO (r:=rLane) S m0 he33
       obtain rfl:=rLane_open Rr169
       refine ⟨(.int .i64 e33.From),(.int .i64 e33.To),(.int .i64 e33.Ahead),Nr169,?_⟩
       obtain ⟨r34,hr34,hf⟩:=oB hf
       refine ⟨_,Fz.refl _,?_⟩
       refine callW_mono (f4_0 _ e32 e33 _ hr34) fun v170 h171 T=>?_
       obtain ⟨rfl,T⟩:=T
       have S:St _ _ [_] _:=S.comp T
       refine ⟨r34,rfl,?_⟩
       exact hjj3 _ _  hf  S
      rw [ifE hc] at hf
      exact hjj3 _ _  hf  S
     exact ⟨rfl,rfl,rfl,rfl,S,hL⟩
    ·rintro m172 y142 y143 y144 y22 y145 h146 ⟨rfl,rfl,rfl,rfl,S,hit⟩
     obtain ⟨m141,q173,rfl,hf,hk⟩:=iter_some hit
     clear hit
     unfold B68_2
     unfold p68_l2 at hf
     try dsimp only at hf
     intro jjj2
     have hjj2:∀ (b23:Bool) (h174:Heap),p68_j2 y22 b23=some q173→St h M [own (oSl (fz rLane)) [a0_0] y25] h174→jjj2 b23 h174:=by
      rintro b23 h174 hf S
      unfold p68_j2 at hf
      unfold jjj2
      refine bI (fun hc=>?_) (fun hc=>?_)
      ·rw [ifT hc] at hf
       obtain rfl:=oi hf
       exact ⟨m141,Nat.lt_succ_self _,rfl,rfl,rfl,rfl,S,hk⟩
      rw [ifF hc] at hf
      obtain rfl:=oi hf
      obtain rfl:=hk
      exact ⟨rfl,rfl,rfl,rfl,S,rfl⟩
     refine bI (fun hc=>?_) (fun hc=>?_)
     ·rw [ifD hc] at hf
      obtain ⟨e26,he26,hf⟩:=oB hf
      refine ix_go (S.sl (r:=(fz rLane)) m0) (Hp.le_refl _) he26 fun pe26=>?_
      obtain ⟨_,cr175,Rr175,Nr175,Or175,Zr175⟩:=St.idxO (r:=rLane) S m0 he26
      obtain rfl:=rLane_open Rr175
      refine ⟨(.int .i64 e26.From),(.int .i64 e26.To),(.int .i64 e26.Ahead),Nr175,?_⟩
      obtain ⟨e27,he27,hf⟩:=oB hf
      refine ix_go (S.sl (r:=(fz rLane)) m0) (Hp.le_refl _) he27 fun pe27=>?_
      obtain ⟨_,cr176,Rr176,Nr176,Or176,Zr176⟩:=St.idxO (r:=rLane) S m0 he27
      obtain rfl:=rLane_open Rr176
      refine ⟨(.int .i64 e27.From),(.int .i64 e27.To),(.int .i64 e27.Ahead),Nr176,?_⟩
      obtain ⟨r28,hr28,hf⟩:=oB hf
      refine ⟨_,Fz.refl _,?_⟩
      refine callW_mono (f4_0 _ e26 e27 _ hr28) fun v177 h178 T=>?_
      obtain ⟨rfl,T⟩:=T
      have S:St _ _ [_] _:=S.comp T
      refine ⟨r28,rfl,?_⟩
      exact hjj2 _ _  hf  S
     rw [ifE hc] at hf
     exact hjj2 _ _  hf  S
    exact ⟨rfl,rfl,rfl,rfl,S,hL⟩
   exact ⟨x64,rfl,rfl,rfl,S,hL⟩
  ·rintro m179 y99 y100 y101 y102 y16 h103 ⟨rfl,rfl,rfl,rfl,S,hit⟩
   obtain ⟨m98,q180,rfl,hf,hk⟩:=iter_some hit
   clear hit
   unfold B68_1
   unfold p68_l1 at hf
   try dsimp only at hf
   intro jjj1
   have hjj1:∀ (b17:Bool) (h181:Heap),p68_j1 y16 b17=some q180→St h M [own (oSl (fz rLane)) [a0_0] x12] h181→jjj1 b17 h181:=by
    rintro b17 h181 hf S
    unfold p68_j1 at hf
    unfold jjj1
    refine bI (fun hc=>?_) (fun hc=>?_)
    ·rw [ifT hc] at hf
     obtain rfl:=oi hf
     exact ⟨m98,Nat.lt_succ_self _,rfl,rfl,rfl,rfl,S,hk⟩
    rw [ifF hc] at hf
    obtain rfl:=oi hf
    obtain rfl:=hk
    exact ⟨rfl,rfl,rfl,rfl,S,rfl⟩
   refine bI (fun hc=>?_) (fun hc=>?_)
   ·rw [ifD hc] at hf
    obtain ⟨e19,he19,hf⟩:=oB hf
    refine ix_go (S.sl (r:=(fz rLane)) m0) (Hp.le_refl _) he19 fun pe19=>?_
    obtain ⟨_,cr182,Rr182,Nr182,Or182,Zr182⟩:=St.idxO (r:=rLane) S m0 he19
    obtain rfl:=rLane_open Rr182
    refine ⟨(.int .i64 e19.From),(.int .i64 e19.To),(.int .i64 e19.Ahead),Nr182,?_⟩
    obtain ⟨e20,he20,hf⟩:=oB hf
    refine ix_go (S.sl (r:=(fz rLane)) m0) (Hp.le_refl _) he20 fun pe20=>?_
    obtain ⟨_,cr183,Rr183,Nr183,Or183,Zr183⟩:=St.idxO (r:=rLane) S m0 he20
    obtain rfl:=rLane_open Rr183
    refine ⟨(.int .i64 e20.From),(.int .i64 e20.To),(.int .i64 e20.Ahead),Nr183,?_⟩
    obtain ⟨r21,hr21,hf⟩:=oB hf
    refine ⟨_,Fz.refl _,?_⟩
    refine callW_mono (f4_0 _ e19 e20 _ hr21) fun v184 h185 T=>?_
    obtain ⟨rfl,T⟩:=T
    have S:St _ _ [_] _:=S.comp T
    refine ⟨r21,rfl,?_⟩
    exact hjj1 _ _  hf  S
   rw [ifE hc] at hf
   exact hjj1 _ _  hf  S
  exact ⟨rfl,rfl,rfl,rfl,S,hL⟩
 ·rintro m186 y87 y88 y89 y10 y90 h91 ⟨rfl,rfl,rfl,rfl,S,hit⟩
  obtain ⟨m86,q187,rfl,hf,hk⟩:=iter_some hit
  clear hit
  unfold B68_0
  unfold p68_l0 at hf
  try dsimp only at hf
  intro jjj0
  have hjj0:∀ (b11:Bool) (h188:Heap),p68_j0 y10 b11=some q187→St h M [own (oSl (fz rLane)) [a0_0] x12] h188→jjj0 b11 h188:=by
   rintro b11 h188 hf S
   unfold p68_j0 at hf
   unfold jjj0
   refine bI (fun hc=>?_) (fun hc=>?_)
   ·rw [ifT hc] at hf
    obtain rfl:=oi hf
    exact ⟨m86,Nat.lt_succ_self _,rfl,rfl,rfl,rfl,S,hk⟩
   rw [ifF hc] at hf
   obtain rfl:=oi hf
   obtain rfl:=hk
   exact ⟨rfl,rfl,rfl,rfl,S,rfl⟩
  refine bI (fun hc=>?_) (fun hc=>?_)
  ·rw [ifD hc] at hf
   obtain ⟨e13,he13,hf⟩:=oB hf
   refine ix_go (S.sl (r:=(fz rLane)) m0) (Hp.le_refl _) he13 fun pe13=>?_
   obtain ⟨_,cr189,Rr189,Nr189,Or189,Zr189⟩:=St.idxO (r:=rLane) S m0 he13
   obtain rfl:=rLane_open Rr189
   refine ⟨(.int .i64 e13.From),(.int .i64 e13.To),(.int .i64 e13.Ahead),Nr189,?_⟩
   obtain ⟨e14,he14,hf⟩:=oB hf
   refine ix_go (S.sl (r:=(fz rLane)) m0) (Hp.le_refl _) he14 fun pe14=>?_
   obtain ⟨_,cr190,Rr190,Nr190,Or190,Zr190⟩:=St.idxO (r:=rLane) S m0 he14
   obtain rfl:=rLane_open Rr190
   refine ⟨(.int .i64 e14.From),(.int .i64 e14.To),(.int .i64 e14.Ahead),Nr190,?_⟩
   obtain ⟨r15,hr15,hf⟩:=oB hf
   refine ⟨_,Fz.refl _,?_⟩
   refine callW_mono (f4_0 _ e13 e14 _ hr15) fun v191 h192 T=>?_
   obtain ⟨rfl,T⟩:=T
   have S:St _ _ [_] _:=S.comp T
   refine ⟨r15,rfl,?_⟩
   exact hjj0 _ _  hf  S
  rw [ifE hc] at hf
  exact hjj0 _ _  hf  S
 exact ⟨rfl,rfl,rfl,rfl,S,hL⟩
def p57_j0 (x4:TLane→TLane→Option Int) (rec57:(List TLane)→Int→Int→Int→(TLane→TLane→Option Int)→Option (List TLane)) (y10:Int) (y11:Int) (y12:Bool) (y13:Bool) (y14:Int) (y15:Int) (y16:List TLane) (b17:Bool):Option ((Int×Int×Int×Bool×Bool×(List TLane))⊕(List TLane)):=if b17=true then ((p67 y16 y10 y11 y15 x4).bind fun u18=>some (.inl (u18.1,y11,y14,y12,y13,u18.2))) else ((p68 y16 y10 y11 y15 x4).bind fun u19=>if (IntKind.wrap .i64 (u19.1 - y10)) < (IntKind.wrap .i64 (y11 - u19.1)) then ((rec57 u19.2.2 y10 u19.1 y14 x4).bind fun u20=>some (.inl ((IntKind.wrap .i64 (u19.1+1)),y11,y14,(decide ((IntKind.wrap .i64 (Int.tdiv (IntKind.wrap .i64 (y11 - y10)) 8))≤(IntKind.wrap .i64 (u19.1 - y10)))),u19.2.1,u20))) else ((rec57 u19.2.2 (IntKind.wrap .i64 (u19.1+1)) y11 y14 x4).bind fun u21=>some (.inl (y10,u19.1,y14,(decide ((IntKind.wrap .i64 (Int.tdiv (IntKind.wrap .i64 (y11 - y10)) 8))≤(IntKind.wrap .i64 (y11 - u19.1)))),u19.2.1,u21))))
def p57_j1 (x4:TLane→TLane→Option Int) (rec57:(List TLane)→Int→Int→Int→(TLane→TLane→Option Int)→Option (List TLane)) (y10:Int) (y11:Int) (y12:Bool) (y13:Bool) (y14:Int) (y15:Int) (y16:List TLane):Option ((Int×Int×Int×Bool×Bool×(List TLane))⊕(List TLane)):=if 0 < y10 then ((idx y16 (IntKind.wrap .i64 (y10 - 1))).bind fun e22=>(idx y16 y15).bind fun e23=>(x4 e22 e23).bind fun r24=>p57_j0 x4 rec57 y10 y11 y12 y13 y14 y15 y16 (!(decide (r24 < 0)))) else (p57_j0 x4 rec57 y10 y11 y12 y13 y14 y15 y16 false)
def p57_j2 (x4:TLane→TLane→Option Int) (rec57:(List TLane)→Int→Int→Int→(TLane→TLane→Option Int)→Option (List TLane)) (y10:Int) (y11:Int) (y12:Bool) (y13:Bool) (y14:Int) (y15:Int) (y25:List TLane) (b26:Bool):Option ((Int×Int×Int×Bool×Bool×(List TLane))⊕(List TLane)):=if b26=true then ((p66 y25 y10 y11 x4).bind fun u27=>if u27.1=true then (some (.inr u27.2)) else (p57_j1 x4 rec57 y10 y11 y12 y13 y14 y15 u27.2)) else (p57_j1 x4 rec57 y10 y11 y12 y13 y14 y15 y25)
def p57_j3 (x4:TLane→TLane→Option Int) (rec57:(List TLane)→Int→Int→Int→(TLane→TLane→Option Int)→Option (List TLane)) (y10:Int) (y11:Int) (y12:Bool) (y13:Bool) (y14:Int) (y15:Int) (y28:Int) (y25:List TLane) (b29:Bool):Option ((Int×Int×Int×Bool×Bool×(List TLane))⊕(List TLane)):=if b29=true then (p57_j2 x4 rec57 y10 y11 y12 y13 y14 y15 y25 (decide (y28=1))) else (p57_j2 x4 rec57 y10 y11 y12 y13 y14 y15 y25 false)
def p57_j4 (x4:TLane→TLane→Option Int) (rec57:(List TLane)→Int→Int→Int→(TLane→TLane→Option Int)→Option (List TLane)) (y10:Int) (y11:Int) (y12:Bool) (y13:Bool) (y14:Int) (y15:Int) (y28:Int) (y25:List TLane):Option ((Int×Int×Int×Bool×Bool×(List TLane))⊕(List TLane)):=if y12=true then (p57_j3 x4 rec57 y10 y11 y12 y13 y14 y15 y28 y25 y13) else (p57_j3 x4 rec57 y10 y11 y12 y13 y14 y15 y28 y25 false)
def p57_j5 (x4:TLane→TLane→Option Int) (rec57:(List TLane)→Int→Int→Int→(TLane→TLane→Option Int)→Option (List TLane)) (y10:Int) (y11:Int) (y12:Bool) (y13:Bool) (y14:Int) (y30:List TLane):Option ((Int×Int×Int×Bool×Bool×(List TLane))⊕(List TLane)):=(p64 y30 y10 y11 x4).bind fun u31=>if u31.2.1=2 then ((p65 u31.2.2 y10 y11 x4).bind fun u32=>p57_j4 x4 rec57 y10 y11 y12 y13 y14 (IntKind.wrap .i64 ((IntKind.wrap .i64 (y11 - 1)) - (IntKind.wrap .i64 (u31.1 - y10)))) 1 u32) else (p57_j4 x4 rec57 y10 y11 y12 y13 y14 u31.1 u31.2.1 u31.2.2)
def p57_l0 (x4:TLane→TLane→Option Int) (rec57:(List TLane)→Int→Int→Int→(TLane→TLane→Option Int)→Option (List TLane)) (st:Int×Int×Int×Bool×Bool×(List TLane)):Option ((Int×Int×Int×Bool×Bool×(List TLane))⊕(List TLane)):=match st with | (y10,y11,y33,y12,y13,y34)=>if (IntKind.wrap .i64 (y11 - y10))≤(12:Int) then ((p61 y34 y10 y11 x4).bind fun u35=>some (.inr u35)) else (if y33=0 then ((p62 y34 y10 y11 x4).bind fun u36=>some (.inr u36)) else (if (!y12)=true then ((p63 y34 y10 y11 x4).bind fun u37=>p57_j5 x4 rec57 y10 y11 y12 y13 (IntKind.wrap .i64 (y33 - 1)) u37) else (p57_j5 x4 rec57 y10 y11 y12 y13 y33 y34)))
def b57 (rec57:(List TLane)→Int→Int→Int→(TLane→TLane→Option Int)→Option (List TLane)) (x0:List TLane) (x1:Int) (x2:Int) (x3:Int) (x4:TLane→TLane→Option Int):Option (List TLane):=(loopC (p57_l0 x4 rec57) (x1,x2,x3,true,true,x0)).bind fun res38=>((fun (c39:List TLane)=>some c39) res38)
def q57:Nat→(List TLane)→Int→Int→Int→(TLane→TLane→Option Int)→Option (List TLane)
  | 0=>fun _ _ _ _ _=>none
  | k+1=>b57 (q57 k)
def p57 (x0:List TLane) (x1:Int) (x2:Int) (x3:Int) (x4:TLane→TLane→Option Int):Option (List TLane):=q57 64 x0 x1 x2 x3 x4
theorem rb57 (rec57:(List TLane)→Int→Int→Int→(TLane→TLane→Option Int)→Option (List TLane)) (ih:∀ {h:Heap} {a0_0:AV} {a4_0:AV} {M:Nat→Prop} {x0:List TLane} {x1:Int} {x2:Int} {x3:Int} {x4:TLane→TLane→Option Int} (S:St h M [own (oSl (fz rLane)) [a0_0] x0] h) (f4_0:∀ (h':Heap) (y0:TLane) (y1:TLane) r,x4 y0 y1=some r→callW F a4_0 [.agg [.int .i64 y0.From,.int .i64 y0.To,.int .i64 y0.Ahead],.agg [.int .i64 y1.From,.int .i64 y1.To,.int .i64 y1.Ahead]] h' fun v h2=>v=.int .i64 r∧St h' none' [] h2) {r:(List TLane)} (hf:rec57 x0 x1 x2 x3 x4=some r),ZC F 57 [a0_0,(.int .i64 x1),(.int .i64 x2),(.int .i64 x3),a4_0] h fun v h'=>v=.tuple []∧St h M [own (oSl (fz rLane)) [a0_0] r] h') {h:Heap} {a0_0:AV} {a4_0:AV} {M:Nat→Prop} {x0:List TLane} {x1:Int} {x2:Int} {x3:Int} {x4:TLane→TLane→Option Int} (S:St h M [own (oSl (fz rLane)) [a0_0] x0] h) (f4_0:∀ (h':Heap) (y0:TLane) (y1:TLane) r,x4 y0 y1=some r→callW F a4_0 [.agg [.int .i64 y0.From,.int .i64 y0.To,.int .i64 y0.Ahead],.agg [.int .i64 y1.From,.int .i64 y1.To,.int .i64 y1.Ahead]] h' fun v h2=>v=.int .i64 r∧St h' none' [] h2) {r:(List TLane)} (hf:b57 rec57 x0 x1 x2 x3 x4=some r):ZC F 57 [a0_0,(.int .i64 x1),(.int .i64 x2),(.int .i64 x3),a4_0] h fun v h'=>v=.tuple []∧St h M [own (oSl (fz rLane)) [a0_0] r] h':=by
 refine w57 ?_
 unfold W57
 unfold b57 at hf
 obtain ⟨res38,hL,hf⟩:=oB hf
 obtain ⟨n40,hL⟩:=loopC_iff.1 hL
 refine loopm57_0 (R:=fun (y41:AV) (y42:Int) (y43:Int) (y44:Int) (y45:AV) (y46:Bool) (y47:Bool) (h48:Heap)=>∃ (c39:List TLane),St h M [own (oSl (fz rLane)) [a0_0] c39] h48∧c39=res38) ?_ (loop57_0 (I:=fun (m49:Nat) (y50:AV) (y10:Int) (y11:Int) (y33:Int) (y51:AV) (y12:Bool) (y13:Bool) (h52:Heap)=>∃ (y34:List TLane),a0_0=y50∧a4_0=y51∧St h M [own (oSl (fz rLane)) [a0_0] y34] h52∧iter (p57_l0 x4 rec57) m49 (y10,y11,y33,y12,y13,y34)=some res38) ?_ (m:=n40) ?_)
 ·rintro y41 y42 y43 y44 y45 y46 y47 h48 ⟨c39,S,rfl⟩
  try dsimp only at hf
  obtain rfl:=oi hf
  exact ⟨rfl,S.sel [0] rfl⟩
 ·rintro m53 y50 y10 y11 y33 y51 y12 y13 h52 ⟨y34,rfl,rfl,S,hit⟩
  obtain ⟨m49,q54,rfl,hf,hk⟩:=iter_some hit
  clear hit
  unfold B57_0
  unfold p57_l0 at hf
  try dsimp only at hf
  refine bI (fun hc=>?_) (fun hc=>?_)
  ·rw [ifD hc] at hf
   obtain ⟨u35,hu35,hf⟩:=oB hf
   refine ⟨_,Fz.refl _,?_⟩
   obtain ⟨fpu35,S1u381,backu35⟩:=St.lend [_] S
   refine (r61 (data0:=y34) (a1:=y10) (b2:=y11) (cmp3:=x4) (f3_0:=f4_0) (S:=S1u381) hu35).mono fun v55 h56 T=>?_
   obtain ⟨rfl,T⟩:=T
   have S:St _ _ [own (oSl (fz rLane)) [a0_0] u35] _:=backu35 _ _ T
   obtain rfl:=oi hf
   obtain rfl:=hk
   exact ⟨u35,S,rfl⟩
  rw [ifE hc] at hf
  refine bI (fun hc=>?_) (fun hc=>?_)
  ·rw [ifD hc] at hf
   obtain ⟨u36,hu36,hf⟩:=oB hf
   refine ⟨_,Fz.refl _,?_⟩
   obtain ⟨fpu36,S1u384,backu36⟩:=St.lend [_] S
   refine (r62 (data0:=y34) (a1:=y10) (b2:=y11) (cmp3:=x4) (f3_0:=f4_0) (S:=S1u384) hu36).mono fun v57 h58 T=>?_
   obtain ⟨rfl,T⟩:=T
   have S:St _ _ [own (oSl (fz rLane)) [a0_0] u36] _:=backu36 _ _ T
   obtain rfl:=oi hf
   obtain rfl:=hk
   exact ⟨u36,S,rfl⟩
  rw [ifE hc] at hf
  intro jjj5
  have hjj5:∀ (y14:Int) (h59:Heap) (y30:List TLane),p57_j5 x4 rec57 y10 y11 y12 y13 y14 y30=some q54→St h M [own (oSl (fz rLane)) [a0_0] y30] h59→jjj5 y14 h59:=by
   rintro y14 h59 y30 hf S
   unfold p57_j5 at hf
   unfold jjj5
   obtain ⟨u31,hu31,hf⟩:=oB hf
   refine ⟨_,Fz.refl _,?_⟩
   obtain ⟨fpu31,S1u400,backu31⟩:=St.lend [_] S
   refine (r64 (data0:=y30) (a1:=y10) (b2:=y11) (cmp3:=x4) (f3_0:=f4_0) (S:=S1u400) hu31).mono fun v60 h61 T=>?_
   obtain ⟨rfl,T⟩:=T
   have S:St _ _ [own (oSl (fz rLane)) [a0_0] u31.2.2] _:=backu31 _ _ T
   refine oI (.int .i64 u31.1) rfl ⟨u31.1,rfl,?_⟩
   refine oI (.int .i64 u31.2.1) rfl ⟨u31.2.1,rfl,?_⟩
   intro jjj4
   have hjj4:∀ (y15:Int) (y28:Int) (h62:Heap) (y25:List TLane),p57_j4 x4 rec57 y10 y11 y12 y13 y14 y15 y28 y25=some q54→St h M [own (oSl (fz rLane)) [a0_0] y25] h62→jjj4 y15 y28 h62:=by
    rintro y15 y28 h62 y25 hf S
    unfold p57_j4 at hf
    unfold jjj4
    intro jjj3
    have hjj3:∀ (b29:Bool) (h63:Heap),p57_j3 x4 rec57 y10 y11 y12 y13 y14 y15 y28 y25 b29=some q54→h62=h63→St h M [own (oSl (fz rLane)) [a0_0] y25] h62→jjj3 b29 h63:=by
     rintro b29 h63 hf rfl S
     unfold p57_j3 at hf
     unfold jjj3
     intro jjj2
     have hjj2:∀ (b26:Bool) (h64:Heap),p57_j2 x4 rec57 y10 y11 y12 y13 y14 y15 y25 b26=some q54→h62=h64→St h M [own (oSl (fz rLane)) [a0_0] y25] h62→jjj2 b26 h64:=by
      rintro b26 h64 hf rfl S
      unfold p57_j2 at hf
      unfold jjj2
      intro jjj1
      have hjj1:∀  (h65:Heap) (y16:List TLane),p57_j1 x4 rec57 y10 y11 y12 y13 y14 y15 y16=some q54→St h M [own (oSl (fz rLane)) [a0_0] y16] h65→jjj1 h65:=by
       rintro h65 y16 hf S
       unfold p57_j1 at hf
       unfold jjj1
       intro jjj0
       have hjj0:∀ (b17:Bool) (h66:Heap),p57_j0 x4 rec57 y10 y11 y12 y13 y14 y15 y16 b17=some q54→St h M [own (oSl (fz rLane)) [a0_0] y16] h66→jjj0 b17 h66:=by
        rintro b17 h66 hf S
        unfold p57_j0 at hf
        unfold jjj0
        refine bI (fun hc=>?_) (fun hc=>?_)
        ·rw [ifT hc] at hf
         obtain ⟨u18,hu18,hf⟩:=oB hf
         refine ⟨_,Fz.refl _,?_⟩
         obtain ⟨fpu18,S1u473,backu18⟩:=St.lend [_] S
         refine (r67 (x0:=y16) (x1:=y10) (x2:=y11) (x3:=y15) (x4:=x4) (f4_0:=f4_0) (S:=S1u473) hu18).mono fun v67 h68 T=>?_
         obtain ⟨rfl,T⟩:=T
         have S:St _ _ [own (oSl (fz rLane)) [a0_0] u18.2] _:=backu18 _ _ T
         refine ⟨u18.1,rfl,?_⟩
         obtain rfl:=oi hf
         exact ⟨m49,Nat.lt_succ_self _,u18.2,rfl,rfl,S,hk⟩
        rw [ifF hc] at hf
        obtain ⟨u19,hu19,hf⟩:=oB hf
        refine ⟨_,Fz.refl _,?_⟩
        obtain ⟨fpu19,S1u476,backu19⟩:=St.lend [_] S
        refine (r68 (x0:=y16) (x1:=y10) (x2:=y11) (x3:=y15) (x4:=x4) (f4_0:=f4_0) (S:=S1u476) hu19).mono fun v69 h70 T=>?_
        obtain ⟨rfl,T⟩:=T
        have S:St _ _ [own (oSl (fz rLane)) [a0_0] u19.2.2] _:=backu19 _ _ T
        refine oI (.int .i64 u19.1) rfl ⟨u19.1,rfl,?_⟩
        refine oI (.bool u19.2.1) rfl ⟨u19.2.1,rfl,?_⟩
        refine bI (fun hc=>?_) (fun hc=>?_)
        ·rw [ifD hc] at hf
         obtain ⟨u20,hu20,hf⟩:=oB hf
         refine ⟨_,Fz.refl _,?_⟩
         obtain ⟨fpu20,S1u479,backu20⟩:=St.lend [_] S
         refine (ih (x0:=u19.2.2) (x1:=y10) (x2:=u19.1) (x3:=y14) (x4:=x4) (f4_0:=f4_0) (S:=S1u479) hu20).mono fun v71 h72 T=>?_
         obtain ⟨rfl,T⟩:=T
         have S:St _ _ [own (oSl (fz rLane)) [a0_0] u20] _:=backu20 _ _ T
         obtain rfl:=oi hf
         exact ⟨m49,Nat.lt_succ_self _,u20,rfl,rfl,S,hk⟩
        rw [ifE hc] at hf
        obtain ⟨u21,hu21,hf⟩:=oB hf
        refine ⟨_,Fz.refl _,?_⟩
        obtain ⟨fpu21,S1u482,backu21⟩:=St.lend [_] S
        refine (ih (x0:=u19.2.2) (x1:=(IntKind.wrap .i64 (u19.1+1))) (x2:=y11) (x3:=y14) (x4:=x4) (f4_0:=f4_0) (S:=S1u482) hu21).mono fun v73 h74 T=>?_
        obtain ⟨rfl,T⟩:=T
        have S:St _ _ [own (oSl (fz rLane)) [a0_0] u21] _:=backu21 _ _ T
        obtain rfl:=oi hf
        exact ⟨m49,Nat.lt_succ_self _,u21,rfl,rfl,S,hk⟩
       refine bI (fun hc=>?_) (fun hc=>?_)
       ·rw [ifD hc] at hf
        obtain ⟨e22,he22,hf⟩:=oB hf
        refine ix_go (S.sl (r:=(fz rLane)) m0) (Hp.le_refl _) he22 fun pe22=>?_
        obtain ⟨_,cr75,Rr75,Nr75,Or75,Zr75⟩:=St.idxO (r:=rLane) S m0 he22
        obtain rfl:=rLane_open Rr75
        refine ⟨(.int .i64 e22.From),(.int .i64 e22.To),(.int .i64 e22.Ahead),Nr75,?_⟩
        obtain ⟨e23,he23,hf⟩:=oB hf
        refine ix_go (S.sl (r:=(fz rLane)) m0) (Hp.le_refl _) he23 fun pe23=>?_
        obtain ⟨_,cr76,Rr76,Nr76,Or76,Zr76⟩:=St.idxO (r:=rLane) S m0 he23
        obtain rfl:=rLane_open Rr76
        refine ⟨(.int .i64 e23.From),(.int .i64 e23.To),(.int .i64 e23.Ahead),Nr76,?_⟩
        obtain ⟨r24,hr24,hf⟩:=oB hf
        refine ⟨_,Fz.refl _,?_⟩
        refine callW_mono (f4_0 _ e22 e23 _ hr24) fun v77 h78 T=>?_
        obtain ⟨rfl,T⟩:=T
        have S:St _ _ [_] _:=S.comp T
        refine ⟨r24,rfl,?_⟩
        exact hjj0 _ _  hf  S
       rw [ifE hc] at hf
       exact hjj0 _ _  hf  S
      refine bI (fun hc=>?_) (fun hc=>?_)
      ·rw [ifT hc] at hf
       obtain ⟨u27,hu27,hf⟩:=oB hf
       refine ⟨_,Fz.refl _,?_⟩
       obtain ⟨fpu27,S1u494,backu27⟩:=St.lend [_] S
       refine (r66 (x0:=y25) (x1:=y10) (x2:=y11) (x3:=x4) (f3_0:=f4_0) (S:=S1u494) hu27).mono fun v79 h80 T=>?_
       obtain ⟨rfl,T⟩:=T
       have S:St _ _ [own (oSl (fz rLane)) [a0_0] u27.2] _:=backu27 _ _ T
       refine ⟨u27.1,rfl,?_⟩
       refine bI (fun hc=>?_) (fun hc=>?_)
       ·rw [ifT hc] at hf
        obtain rfl:=oi hf
        obtain rfl:=hk
        exact ⟨u27.2,S,rfl⟩
       rw [ifF hc] at hf
       exact hjj1  _ u27.2 hf  S
      rw [ifF hc] at hf
      exact hjj1  _ y25 hf  S
     refine bI (fun hc=>?_) (fun hc=>?_)
     ·rw [ifT hc] at hf
      exact hjj2 _ _  hf rfl S
     rw [ifF hc] at hf
     exact hjj2 _ _  hf rfl S
    refine bI (fun hc=>?_) (fun hc=>?_)
    ·rw [ifT hc] at hf
     exact hjj3 _ _  hf rfl S
    rw [ifF hc] at hf
    exact hjj3 _ _  hf rfl S
   refine bI (fun hc=>?_) (fun hc=>?_)
   ·rw [ifD hc] at hf
    obtain ⟨u32,hu32,hf⟩:=oB hf
    refine ⟨_,Fz.refl _,?_⟩
    obtain ⟨fpu32,S1u500,backu32⟩:=St.lend [_] S
    refine (r65 (data0:=u31.2.2) (a1:=y10) (b2:=y11) (cmp3:=x4) (f3_0:=f4_0) (S:=S1u500) hu32).mono fun v81 h82 T=>?_
    obtain ⟨rfl,T⟩:=T
    have S:St _ _ [own (oSl (fz rLane)) [a0_0] u32] _:=backu32 _ _ T
    exact hjj4 _ _ _ u32 hf  S
   rw [ifE hc] at hf
   exact hjj4 _ _ _ u31.2.2 hf  S
  refine bI (fun hc=>?_) (fun hc=>?_)
  ·rw [ifT hc] at hf
   obtain ⟨u37,hu37,hf⟩:=oB hf
   refine ⟨_,Fz.refl _,?_⟩
   obtain ⟨fpu37,S1u504,backu37⟩:=St.lend [_] S
   refine (r63 (x0:=y34) (x1:=y10) (x2:=y11) (x3:=x4) (f3_0:=f4_0) (S:=S1u504) hu37).mono fun v83 h84 T=>?_
   obtain ⟨rfl,T⟩:=T
   have S:St _ _ [own (oSl (fz rLane)) [a0_0] u37] _:=backu37 _ _ T
   exact hjj5 _ _ u37 hf  S
  rw [ifF hc] at hf
  exact hjj5 _ _ y34 hf  S
 exact ⟨x0,rfl,rfl,S,hL⟩
theorem rq57:∀ (k:Nat) {h:Heap} {a0_0:AV} {a4_0:AV} {M:Nat→Prop} {x0:List TLane} {x1:Int} {x2:Int} {x3:Int} {x4:TLane→TLane→Option Int} (S:St h M [own (oSl (fz rLane)) [a0_0] x0] h) (f4_0:∀ (h':Heap) (y0:TLane) (y1:TLane) r,x4 y0 y1=some r→callW F a4_0 [.agg [.int .i64 y0.From,.int .i64 y0.To,.int .i64 y0.Ahead],.agg [.int .i64 y1.From,.int .i64 y1.To,.int .i64 y1.Ahead]] h' fun v h2=>v=.int .i64 r∧St h' none' [] h2) {r:(List TLane)} (hf:q57 k x0 x1 x2 x3 x4=some r),ZC F 57 [a0_0,(.int .i64 x1),(.int .i64 x2),(.int .i64 x3),a4_0] h fun v h'=>v=.tuple []∧St h M [own (oSl (fz rLane)) [a0_0] r] h'
  | 0=>by intros; contradiction
  | k+1=>rb57 (q57 k) (rq57 k)
theorem r57 {h:Heap} {a0_0:AV} {a4_0:AV} {M:Nat→Prop} {x0:List TLane} {x1:Int} {x2:Int} {x3:Int} {x4:TLane→TLane→Option Int} (S:St h M [own (oSl (fz rLane)) [a0_0] x0] h) (f4_0:∀ (h':Heap) (y0:TLane) (y1:TLane) r,x4 y0 y1=some r→callW F a4_0 [.agg [.int .i64 y0.From,.int .i64 y0.To,.int .i64 y0.Ahead],.agg [.int .i64 y1.From,.int .i64 y1.To,.int .i64 y1.Ahead]] h' fun v h2=>v=.int .i64 r∧St h' none' [] h2) {r:(List TLane)} (hf:p57 x0 x1 x2 x3 x4=some r):ZC F 57 [a0_0,(.int .i64 x1),(.int .i64 x2),(.int .i64 x3),a4_0] h fun v h'=>v=.tuple []∧St h M [own (oSl (fz rLane)) [a0_0] r] h':=rq57 64 S f4_0 hf
def p44 (x0:List TLane) (cmp1:TLane→TLane→Option Int):Option (List TLane):=(p58 (IntKind.wrap .u64 (x0.length:Int))).bind fun y10=>(p57 x0 0 (x0.length:Int) y10 cmp1).bind fun u11=>some u11
theorem r44 {h:Heap} {a0_0:AV} {a1_0:AV} {M:Nat→Prop} {x0:List TLane} {cmp1:TLane→TLane→Option Int} (S:St h M [own (oSl (fz rLane)) [a0_0] x0] h) (f1_0:∀ (h':Heap) (y0:TLane) (y1:TLane) r,cmp1 y0 y1=some r→callW F a1_0 [.agg [.int .i64 y0.From,.int .i64 y0.To,.int .i64 y0.Ahead],.agg [.int .i64 y1.From,.int .i64 y1.To,.int .i64 y1.Ahead]] h' fun v h2=>v=.int .i64 r∧St h' none' [] h2) {r:(List TLane)} (hf:p44 x0 cmp1=some r):ZC F 44 [a0_0,a1_0] h fun v h'=>v=.tuple []∧St h M [own (oSl (fz rLane)) [a0_0] r] h':=by
 refine w44 ?_
 unfold W44
 unfold p44 at hf
 refine iI.2 ⟨((S.sl (r:=(fz rLane)) m0)).is,?_⟩
 try rw [show (a0_0).slen=_ from ((S.sl (r:=(fz rLane)) m0)).slen]
 obtain ⟨y10,hy10,hf⟩:=oB hf
 refine ⟨_,Fz.refl _,?_⟩
 refine (r58 (x0:=(IntKind.wrap .u64 (x0.length:Int))) hy10).mono fun v12 h13 T=>?_
 obtain ⟨rfl,T⟩:=T
 have S:St _ _ [own (oSl (fz rLane)) [a0_0] x0] _:=S.comp T
 refine ⟨y10,rfl,?_⟩
 obtain ⟨u11,hu11,hf⟩:=oB hf
 refine ⟨_,Fz.refl _,?_⟩
 obtain ⟨fpu11,S1u107,backu11⟩:=St.lend [_] S
 refine (r57 (x0:=x0) (x1:=0) (x2:=(x0.length:Int)) (x3:=y10) (x4:=cmp1) (f4_0:=f1_0) (S:=S1u107) hu11).mono fun v14 h15 T=>?_
 obtain ⟨rfl,T⟩:=T
 have S:St _ _ [own (oSl (fz rLane)) [a0_0] u11] _:=backu11 _ _ T
 obtain rfl:=oi hf
 exact ⟨rfl,S.sel [0] rfl⟩
def p46_l0 (vals0:List Int) (y10:Int):Option (Int⊕(Int⊕Unit)):=if y10 < (vals0.length:Int) then ((idx vals0 y10).bind fun e11=>if (!decide (e11=0))=true then (some (.inr (.inl e11))) else (some (.inl (IntKind.wrap .i64 (y10+1))))) else (some (.inr (.inr ())))
def p46 (vals0:List Int):Option Int:=(loopC (p46_l0 vals0) 0).bind fun res12=>(match res12 with | .inl y13=>some y13 | .inr _=>some 0)
theorem r46 {h:Heap} {a0_0:AV} {vals0:List Int} (f0_0:SlR (rI .i64) (Snap h) a0_0 vals0) {r:Int} (hf:p46 vals0=some r):ZC F 46 [a0_0] h fun v h'=>v=.int .i64 r∧St h none' [] h':=by
 refine w46 ?_
 unfold W46
 unfold p46 at hf
 have S:St h none' [] h:=St.refl _ _
 refine iI.2 ⟨(f0_0).is,?_⟩
 try rw [show (a0_0).slen=_ from (f0_0).slen]
 obtain ⟨res12,hL,hf⟩:=oB hf
 obtain ⟨n14,hL⟩:=loopC_iff.1 hL
 refine loopm46_0 (R:=fun (y13:Int) (zero15:Int) (y16:AV) (y17:Int) (y18:Int) (h19:Heap)=>St h none' [] h19∧(.inl y13)=res12) (X0:=fun (y20:Int) (zero21:Int) (y22:AV) (y23:Int) (y24:Int) (h25:Heap)=>0=zero21∧St h none' [] h25∧(.inr ())=res12) ?_ ?_ (loop46_0 (I:=fun (m26:Nat) (y27:Int) (zero28:Int) (y29:AV) (y30:Int) (y10:Int) (h31:Heap)=>0=zero28∧a0_0=y29∧(vals0.length:Int)=y30∧St h none' [] h31∧iter (p46_l0 vals0) m26 y10=some res12) ?_ (m:=n14) ?_)
 ·rintro y13 zero15 y16 y17 y18 h19 ⟨S,rfl⟩
  try dsimp only at hf
  obtain rfl:=oi hf
  exact ⟨rfl,S.sel [] rfl⟩
 ·rintro y20 zero21 y22 y23 y24 h25 ⟨rfl,S,rfl⟩
  try dsimp only at hf
  obtain rfl:=oi hf
  exact ⟨rfl,S.sel [] rfl⟩
 ·rintro m32 y27 zero28 y29 y30 y10 h31 ⟨rfl,rfl,rfl,S,hit⟩
  obtain ⟨m26,q33,rfl,hf,hk⟩:=iter_some hit
  clear hit
  unfold B46_0
  unfold p46_l0 at hf
  try dsimp only at hf
  refine bI (fun hc=>?_) (fun hc=>?_)
  ·rw [ifD hc] at hf
   obtain ⟨e11,he11,hf⟩:=oB hf
   refine ix_go f0_0 (sM S.le) he11 fun pe11=>?_
   obtain ⟨_,cr34,Rr34,Nr34,Or34,Zr34⟩:=SlR.idx f0_0 (sM S.le) he11
   obtain rfl:cr34=[(.int .i64 e11)]:=Rr34
   refine ⟨e11,Zr34 _ rfl,?_⟩
   refine bI (fun hc=>?_) (fun hc=>?_)
   ·rw [ifT hc] at hf
    obtain rfl:=oi hf
    obtain rfl:=hk
    exact ⟨S,rfl⟩
   rw [ifF hc] at hf
   obtain rfl:=oi hf
   exact ⟨m26,Nat.lt_succ_self _,rfl,rfl,rfl,S,hk⟩
  rw [ifE hc] at hf
  obtain rfl:=oi hf
  obtain rfl:=hk
  exact ⟨rfl,S,rfl⟩
 exact ⟨rfl,rfl,rfl,S,hL⟩
def p59 (x0:Int):Option Bool:=some (!decide (x0=x0))
theorem r59 {h:Heap}  {x0:Int} {r:Bool} (hf:p59 x0=some r):ZC F 59 [(.int .i64 x0)] h fun v h'=>v=.bool r∧St h none' [] h':=by
 refine w59 ?_
 unfold W59
 unfold p59 at hf
 have S:St h none' [] h:=St.refl _ _
 obtain rfl:=oi hf
 exact ⟨rfl,S.sel [] rfl⟩
def p47 (x0:Int) (x1:Int):Option Int:=(p59 x0).bind fun y10=>(p59 x1).bind fun y11=>if y10=true then (if y11=true then (some 0) else (some ((-1):Int))) else (if y11=true then (some 1) else (if x0 < x1 then (some ((-1):Int)) else (if x1 < x0 then (some 1) else (some 0))))
theorem r47 {h:Heap}  {x0:Int} {x1:Int} {r:Int} (hf:p47 x0 x1=some r):ZC F 47 [(.int .i64 x0),(.int .i64 x1)] h fun v h'=>v=.int .i64 r∧St h none' [] h':=by
 refine w47 ?_
 unfold W47
 unfold p47 at hf
 have S:St h none' [] h:=St.refl _ _
 obtain ⟨y10,hy10,hf⟩:=oB hf
 refine ⟨_,Fz.refl _,?_⟩
 refine (r59 (x0:=x0) hy10).mono fun v12 h13 T=>?_
 obtain ⟨rfl,T⟩:=T
 have S:St _ _ [] _:=S.comp T
 refine ⟨y10,rfl,?_⟩
 obtain ⟨y11,hy11,hf⟩:=oB hf
 refine ⟨_,Fz.refl _,?_⟩
 refine (r59 (x0:=x1) hy11).mono fun v14 h15 T=>?_
 obtain ⟨rfl,T⟩:=T
 have S:St _ _ [] _:=S.comp T
 refine ⟨y11,rfl,?_⟩
 refine bI (fun hc=>?_) (fun hc=>?_)
 ·rw [ifT hc] at hf
  refine bI (fun hc=>?_) (fun hc=>?_)
  ·rw [ifT hc] at hf
   obtain rfl:=oi hf
   exact ⟨rfl,S.sel [] rfl⟩
  rw [ifF hc] at hf
  obtain rfl:=oi hf
  exact ⟨rfl,S.sel [] rfl⟩
 rw [ifF hc] at hf
 refine bI (fun hc=>?_) (fun hc=>?_)
 ·rw [ifT hc] at hf
  obtain rfl:=oi hf
  exact ⟨rfl,S.sel [] rfl⟩
 rw [ifF hc] at hf
 refine bI (fun hc=>?_) (fun hc=>?_)
 ·rw [ifD hc] at hf
  obtain rfl:=oi hf
  exact ⟨rfl,S.sel [] rfl⟩
 rw [ifE hc] at hf
 refine bI (fun hc=>?_) (fun hc=>?_)
 ·rw [ifD hc] at hf
  obtain rfl:=oi hf
  exact ⟨rfl,S.sel [] rfl⟩
 rw [ifE hc] at hf
 obtain rfl:=oi hf
 exact ⟨rfl,S.sel [] rfl⟩
def p45 (a0:TLane) (b1:TLane):Option Int:=(p47 a0.From b1.From).bind fun y10=>(p47 a0.To b1.To).bind fun y11=>(p47 a0.Ahead b1.Ahead).bind fun y12=>(p46 [y10,y11,y12]).bind fun y13=>some y13
theorem r45 {h:Heap}  {a0:TLane} {b1:TLane} {r:Int} (hf:p45 a0 b1=some r):ZC F 45 [(.agg [(.int .i64 a0.From),(.int .i64 a0.To),(.int .i64 a0.Ahead)]),(.agg [(.int .i64 b1.From),(.int .i64 b1.To),(.int .i64 b1.Ahead)])] h fun v h'=>v=.int .i64 r∧St h none' [] h':=by
 refine w45 ?_
 unfold W45
 unfold p45 at hf
 have S:St h none' [] h:=St.refl _ _
 intro h14
 have S:St _ _ [rowC h.n [(.int .i64 a0.From),(.int .i64 a0.To),(.int .i64 a0.Ahead)] 0] _:=S.pushRow [(.int .i64 a0.From),(.int .i64 a0.To),(.int .i64 a0.Ahead)]
 intro h15
 have S:St _ _ [rowC h14.n [(.int .i64 b1.From),(.int .i64 b1.To),(.int .i64 b1.Ahead)] 0,_] _:=S.pushRow [(.int .i64 b1.From),(.int .i64 b1.To),(.int .i64 b1.Ahead)]
 refine ⟨_,Fz.refl _,?_⟩
 refine ⟨a0.From,S.rd1 m1 rfl,?_⟩
 refine ⟨b1.From,S.rd1 m0 rfl,?_⟩
 have S_4:=S
 obtain ⟨y10,hy10,hf⟩:=oB hf
 refine (r47 (x0:=a0.From) (x1:=b1.From) hy10).mono fun v16 h17 T=>?_
 obtain ⟨rfl,T⟩:=T
 have S:St _ _ [_,_] _:=S.comp T
 refine ⟨y10,rfl,?_⟩
 have S_5:=S
 have S_6:=S
 refine ⟨a0.To,S.rd1 m1 rfl,?_⟩
 have S_8:=S
 refine ⟨b1.To,S.rd1 m0 rfl,?_⟩
 have S_9:=S
 obtain ⟨y11,hy11,hf⟩:=oB hf
 refine (r47 (x0:=a0.To) (x1:=b1.To) hy11).mono fun v18 h19 T=>?_
 obtain ⟨rfl,T⟩:=T
 have S:St _ _ [_,_] _:=S.comp T
 refine ⟨y11,rfl,?_⟩
 have S_10:=S
 have S_11:=S
 refine ⟨a0.Ahead,S.rd1 m1 rfl,?_⟩
 have S_13:=S
 refine ⟨b1.Ahead,S.rd1 m0 rfl,?_⟩
 obtain ⟨y12,hy12,hf⟩:=oB hf
 refine (r47 (x0:=a0.Ahead) (x1:=b1.Ahead) hy12).mono fun v20 h21 T=>?_
 obtain ⟨rfl,T⟩:=T
 have S:St _ _ [_,_] _:=S.comp T
 refine ⟨y12,rfl,?_⟩
 intro h22
 have S:St _ _ [rowC h21.n [(.int .i64 y10),(.int .i64 y11),(.int .i64 y12)] 0,_,_] _:=S.pushRow [(.int .i64 y10),(.int .i64 y11),(.int .i64 y12)]
 obtain ⟨y13,hy13,hf⟩:=oB hf
 have S:St _ _ [own (oSl (fz (rI .i64))) [(.slice h21.n 0 0 3 1)] [y10,y11,y12],_,_] _:=St.lit (r:=(rI .i64)) (els:=([y10,y11,y12]:List Int).map fun n=>[AV.int .i64 n]) (l:=([y10,y11,y12]:List Int)) (n:=3) S rfl (all2_intL _) rfl
 refine (r46 (vals0:=[y10,y11,y12]) (f0_0:=(S.sl (r:=(fz (rI .i64))) m0)) hy13).mono fun v23 h24 T=>?_
 obtain ⟨rfl,T⟩:=T
 have S:St _ _ [_,_,_] _:=S.comp T
 refine ⟨y13,rfl,?_⟩
 refine ⟨⟨(.int .i64 a0.To),rd1_ev (S_6.rd1 m1 rfl),rd1_ev (S_4.rd1 m1 rfl),rd1_ev (S_5.rd1 m1 rfl)⟩,?_⟩
 refine ⟨⟨(.int .i64 b1.To),rd1_ev (S_8.rd1 m0 rfl),rd1_ev (S_4.rd1 m0 rfl),rd1_ev (S_5.rd1 m0 rfl)⟩,?_⟩
 refine ⟨⟨(.int .i64 a0.Ahead),rd1_ev (S_11.rd1 m1 rfl),rd1_ev (S_4.rd1 m1 rfl),rd1_ev (S_5.rd1 m1 rfl)⟩,?_⟩
 refine ⟨⟨(.int .i64 a0.Ahead),rd1_ev (S_11.rd1 m1 rfl),rd1_ev (S_9.rd1 m1 rfl),rd1_ev (S_10.rd1 m1 rfl)⟩,?_⟩
 refine ⟨⟨(.int .i64 b1.Ahead),rd1_ev (S_13.rd1 m0 rfl),rd1_ev (S_4.rd1 m0 rfl),rd1_ev (S_5.rd1 m0 rfl)⟩,?_⟩
 refine ⟨⟨(.int .i64 b1.Ahead),rd1_ev (S_13.rd1 m0 rfl),rd1_ev (S_9.rd1 m0 rfl),rd1_ev (S_10.rd1 m0 rfl)⟩,?_⟩
 obtain rfl:=oi hf
 exact ⟨rfl,S.sel [] rfl⟩
def p48_j0 (y10:Int) (y11:Int) (y12:List TLane):Option ((Int×Int×(List TLane))⊕(Int×(List TLane))):=some (.inl (y11,(IntKind.wrap .i64 (y10+1)),y12))
def p48_l0 (x0:List TLane) (x1:TLane→TLane→Option Bool) (y13:Int) (st:Int×Int×(List TLane)):Option ((Int×Int×(List TLane))⊕(Int×(List TLane))):=match st with | (y14,y10,y15)=>(slc y15 y13 (x0.length:Int)).bind fun w16=>if y10 < (w16.length:Int) then ((idx w16 y10).bind fun e17=>(idx w16 (IntKind.wrap .i64 (y10 - 1))).bind fun e18=>(x1 e17 e18).bind fun r19=>if (!r19)=true then ((idx w16 y10).bind fun e20=>(idx y15 y14).bind fun e21=>(some (y15.set (y14:Int).toNat e20)).bind fun y22=>p48_j0 y10 (IntKind.wrap .i64 (y14+1)) y22) else (p48_j0 y10 y14 y15)) else (some (.inr (y14,y15)))
def p48_l1 (x0:List TLane) (x1:TLane→TLane→Option Bool) (y13:Int):Option (Int⊕((List TLane)⊕Unit)):=if y13 < (x0.length:Int) then ((idx x0 y13).bind fun e23=>(idx x0 (IntKind.wrap .i64 (y13 - 1))).bind fun e24=>(x1 e23 e24).bind fun r25=>if r25=true then ((slc x0 y13 (x0.length:Int)).bind fun y26=>(loopC (p48_l0 x0 x1 y13) (y13,1,x0)).bind fun res27=>(match res27 with | (y28,y29)=>(slc y29 y28 (y29.length:Int)).bind fun y30=>(neL y30).bind fun u31=>(slc (wr y29 (y28:Int).toNat (((y29.length:Int):Int).toNat - (y28:Int).toNat) (TLane.mk 0 0 0)) 0 y28).bind fun y32=>some (.inr (.inl y32)))) else (some (.inl (IntKind.wrap .i64 (y13+1))))) else (some (.inr (.inr ())))
def p48 (x0:List TLane) (x1:TLane→TLane→Option Bool):Option (List TLane):=if (x0.length:Int) < 2 then (some x0) else ((loopC (p48_l1 x0 x1) 1).bind fun res33=>(match res33 with | .inl y34=>some y34 | .inr _=>some x0))
theorem r48 {h:Heap} {a0_0:AV} {a1_0:AV} {M:Nat→Prop} {x0:List TLane} {x1:TLane→TLane→Option Bool} (S:St h M [own (oSl (fz rLane)) [a0_0] x0] h) (f1_0:∀ (h':Heap) (y0:TLane) (y1:TLane) r,x1 y0 y1=some r→callW F a1_0 [.agg [.int .i64 y0.From,.int .i64 y0.To,.int .i64 y0.Ahead],.agg [.int .i64 y1.From,.int .i64 y1.To,.int .i64 y1.Ahead]] h' fun v h2=>v=.bool r∧St h' none' [] h2) {r:(List TLane)} (hf:p48 x0 x1=some r):ZC F 48 [a0_0,a1_0] h fun v h'=>St h M [own (oSl (fz rLane)) [v] r] h':=by
 refine w48 ?_
 unfold W48
 unfold p48 at hf
 refine iI.2 ⟨((S.sl (r:=(fz rLane)) m0)).is,?_⟩
 try rw [show (a0_0).slen=_ from ((S.sl (r:=(fz rLane)) m0)).slen]
 refine bI (fun hc=>?_) (fun hc=>?_)
 ·rw [ifD hc] at hf
  obtain rfl:=oi hf
  exact S.sel [0] rfl
 rw [ifE hc] at hf
 obtain ⟨res33,hL,hf⟩:=oB hf
 obtain ⟨n35,hL⟩:=loopC_iff.1 hL
 refine loopm48_1 (R:=fun (y36:AV) (y37:AV) (y38:AV) (y39:Int) (h40:Heap)=>∃ (y34:List TLane),St h M [own (oSl (fz rLane)) [y38] y34] h40∧(.inl y34)=res33) (X0:=fun (y41:AV) (y42:AV) (y43:AV) (y44:Int) (h45:Heap)=>a0_0=y41∧St h M [own (oSl (fz rLane)) [a0_0] x0] h45∧(.inr ())=res33) ?_ ?_ (loop48_1 (I:=fun (m46:Nat) (y47:AV) (y48:AV) (y49:AV) (y13:Int) (h50:Heap)=>a0_0=y47∧a1_0=y48∧St h M [own (oSl (fz rLane)) [a0_0] x0] h50∧iter (p48_l1 x0 x1) m46 y13=some res33) ?_ (m:=n35) ?_)
 ·rintro y36 y37 y38 y39 h40 ⟨y34,S,rfl⟩
  try dsimp only at hf
  obtain rfl:=oi hf
  exact S.sel [0] rfl
 ·rintro y41 y42 y43 y44 h45 ⟨rfl,S,rfl⟩
  try dsimp only at hf
  obtain rfl:=oi hf
  exact S.sel [0] rfl
 ·rintro m51 y47 y48 y49 y13 h50 ⟨rfl,rfl,S,hit⟩
  obtain ⟨m46,q52,rfl,hf,hk⟩:=iter_some hit
  clear hit
  unfold B48_1
  unfold p48_l1 at hf
  try dsimp only at hf
  refine iI.2 ⟨((S.sl (r:=(fz rLane)) m0)).is,?_⟩
  try rw [show (a0_0).slen=_ from ((S.sl (r:=(fz rLane)) m0)).slen]
  refine bI (fun hc=>?_) (fun hc=>?_)
  ·rw [ifD hc] at hf
   obtain ⟨e23,he23,hf⟩:=oB hf
   refine ix_go (S.sl (r:=(fz rLane)) m0) (Hp.le_refl _) he23 fun pe23=>?_
   obtain ⟨_,cr53,Rr53,Nr53,Or53,Zr53⟩:=St.idxO (r:=rLane) S m0 he23
   obtain rfl:=rLane_open Rr53
   refine ⟨(.int .i64 e23.From),(.int .i64 e23.To),(.int .i64 e23.Ahead),Nr53,?_⟩
   obtain ⟨e24,he24,hf⟩:=oB hf
   refine ix_go (S.sl (r:=(fz rLane)) m0) (Hp.le_refl _) he24 fun pe24=>?_
   obtain ⟨_,cr54,Rr54,Nr54,Or54,Zr54⟩:=St.idxO (r:=rLane) S m0 he24
   obtain rfl:=rLane_open Rr54
   refine ⟨(.int .i64 e24.From),(.int .i64 e24.To),(.int .i64 e24.Ahead),Nr54,?_⟩
   obtain ⟨r25,hr25,hf⟩:=oB hf
   refine ⟨_,Fz.refl _,?_⟩
   refine callW_mono (f1_0 _ e23 e24 _ hr25) fun v55 h56 T=>?_
   obtain ⟨rfl,T⟩:=T
   have S:St _ _ [_] _:=S.comp T
   refine ⟨r25,rfl,?_⟩
   refine bI (fun hc=>?_) (fun hc=>?_)
   ·rw [ifT hc] at hf
    obtain ⟨y26,hy26,hf⟩:=oB hf
    have ey26:=(sliceSl_ev10 (k:=.i64) (S.sl (r:=(fz rLane)) m0) hy26)
    refine oI (a0_0.sub 3 (y13:Int).toNat ((x0.length:Int):Int).toNat) ey26 ?_
    obtain ⟨res27,hL,hf⟩:=oB hf
    obtain ⟨n57,hL⟩:=loopC_iff.1 hL
    refine loopm48_0 (X2:=fun (y58:AV) (y59:AV) (y28:Int) (y60:AV) (y61:Int) (h62:Heap)=>∃ (y29:List TLane),a0_0=y58∧St h M [own (oSl (fz rLane)) [a0_0] y29] h62∧(y28,y29)=res27) ?_ (loop48_0 (I:=fun (m63:Nat) (y64:AV) (y65:AV) (y14:Int) (y66:AV) (y10:Int) (h67:Heap)=>∃ (y15:List TLane),a0_0=y64∧a1_0=y65∧(a0_0.sub 3 (y13:Int).toNat ((x0.length:Int):Int).toNat)=y66∧St h M [own (oSl (fz rLane)) [a0_0] y15] h67∧iter (p48_l0 x0 x1 y13) m63 (y14,y10,y15)=some res27) ?_ (m:=n57) ?_)
    ·rintro y58 y59 y28 y60 y61 h62 ⟨y29,rfl,S,rfl⟩
     try dsimp only at hf
     obtain ⟨y30,hy30,hf⟩:=oB hf
     have ey30:=(sliceSl_ev10 (k:=.i64) (S.sl (r:=(fz rLane)) m0) hy30)
     refine oI (a0_0.sub 3 (y28:Int).toNat ((y29.length:Int):Int).toNat) ey30 ?_
     obtain ⟨u31,hu31,hf⟩:=oB hf
     obtain ⟨h68,e69,S⟩:=S.clearV (r:=rLane) (z:=3) (z0:=[(.int .i64 0),(.int .i64 0),(.int .i64 0)]) (x0:=(TLane.mk 0 0 0)) hy30 hu31 rfl rfl (fun _=>rLane_mk (x:=(TLane.mk 0 0 0)))
     refine ⟨_,h68,e69,?_⟩
     obtain ⟨y32,hy32,hf⟩:=oB hf
     have ey32:=(sliceSl_ev01 (k:=.i64) (S.sl (r:=(fz rLane)) m0) hy32)
     have S:St _ _ [own (oSl (fz rLane)) [(a0_0.sub 3 (0:Int).toNat (y28:Int).toNat)] y32] _:=(S.sub (slc_le hy32).1 (slc_le hy32).2).cast1 (by rw [← slc_eq hy32]<;>rfl)
     refine oI (a0_0.sub 3 (0:Int).toNat (y28:Int).toNat) ey32 ?_
     obtain rfl:=oi hf
     obtain rfl:=hk
     exact ⟨y32,S,rfl⟩
    ·rintro m70 y64 y65 y14 y66 y10 h67 ⟨y15,rfl,rfl,rfl,S,hit⟩
     obtain ⟨m63,q71,rfl,hf,hk⟩:=iter_some hit
     clear hit
     unfold B48_0
     unfold p48_l0 at hf
     try dsimp only at hf
     obtain ⟨w16,hw16,hf⟩:=oB hf
     have V72:SlR rLane (Snap h67) (a0_0.sub 3 (y13:Int).toNat ((x0.length:Int):Int).toNat) w16:=slc_eq hw16▸SlR.sub (S.sl (r:=(fz rLane)) m0) (slc_le hw16).1 (slc_le hw16).2
     refine iI.2 ⟨(V72).is,?_⟩
     try rw [show ((a0_0.sub 3 (y13:Int).toNat ((x0.length:Int):Int).toNat)).slen=_ from (V72).slen]
     refine bI (fun hc=>?_) (fun hc=>?_)
     ·rw [ifD hc] at hf
      obtain ⟨e17,he17,hf⟩:=oB hf
      have V73:SlR rLane (Snap h67) (a0_0.sub 3 (y13:Int).toNat ((x0.length:Int):Int).toNat) w16:=slc_eq hw16▸SlR.sub (S.sl (r:=(fz rLane)) m0) (slc_le hw16).1 (slc_le hw16).2
      refine ix_go V73 (Hp.le_refl _) he17 fun pe17=>?_
      have V74:SlR rLane (Snap h67) (a0_0.sub 3 (y13:Int).toNat ((x0.length:Int):Int).toNat) w16:=slc_eq hw16▸SlR.sub (S.sl (r:=(fz rLane)) m0) (slc_le hw16).1 (slc_le hw16).2
      obtain ⟨_,cr75,Rr75,Nr75,Or75,Zr75⟩:=SlR.idx V74 (Hp.le_refl _) he17
      obtain rfl:=rLane_open Rr75
      refine ⟨(.int .i64 e17.From),(.int .i64 e17.To),(.int .i64 e17.Ahead),Nr75,?_⟩
      obtain ⟨e18,he18,hf⟩:=oB hf
      have V76:SlR rLane (Snap h67) (a0_0.sub 3 (y13:Int).toNat ((x0.length:Int):Int).toNat) w16:=slc_eq hw16▸SlR.sub (S.sl (r:=(fz rLane)) m0) (slc_le hw16).1 (slc_le hw16).2
      refine ix_go V76 (Hp.le_refl _) he18 fun pe18=>?_
      have V77:SlR rLane (Snap h67) (a0_0.sub 3 (y13:Int).toNat ((x0.length:Int):Int).toNat) w16:=slc_eq hw16▸SlR.sub (S.sl (r:=(fz rLane)) m0) (slc_le hw16).1 (slc_le hw16).2
      obtain ⟨_,cr78,Rr78,Nr78,Or78,Zr78⟩:=SlR.idx V77 (Hp.le_refl _) he18
      obtain rfl:=rLane_open Rr78
      refine ⟨(.int .i64 e18.From),(.int .i64 e18.To),(.int .i64 e18.Ahead),Nr78,?_⟩
      obtain ⟨r19,hr19,hf⟩:=oB hf
      refine ⟨_,Fz.refl _,?_⟩
      refine callW_mono (f1_0 _ e17 e18 _ hr19) fun v79 h80 T=>?_
      obtain ⟨rfl,T⟩:=T
      have S:St _ _ [_] _:=S.comp T
      refine ⟨r19,rfl,?_⟩
      intro jjj0
      have hjj0:∀ (y11:Int) (h81:Heap) (y12:List TLane),p48_j0 y10 y11 y12=some q71→St h M [own (oSl (fz rLane)) [a0_0] y12] h81→jjj0 y11 h81:=by
       rintro y11 h81 y12 hf S
       unfold p48_j0 at hf
       unfold jjj0
       obtain rfl:=oi hf
       exact ⟨m63,Nat.lt_succ_self _,y12,rfl,rfl,rfl,S,hk⟩
      refine bI (fun hc=>?_) (fun hc=>?_)
      ·rw [ifT hc] at hf
       obtain ⟨e20,he20,hf⟩:=oB hf
       have V82:SlR rLane (Snap h80) (a0_0.sub 3 (y13:Int).toNat ((x0.length:Int):Int).toNat) w16:=slc_eq hw16▸SlR.sub (S.sl (r:=(fz rLane)) m0) (slc_le hw16).1 (slc_le hw16).2
       refine ix_go V82 (Hp.le_refl _) he20 fun pe20=>?_
       have V83:SlR rLane (Snap h80) (a0_0.sub 3 (y13:Int).toNat ((x0.length:Int):Int).toNat) w16:=slc_eq hw16▸SlR.sub (S.sl (r:=(fz rLane)) m0) (slc_le hw16).1 (slc_le hw16).2
       obtain ⟨_,cr84,Rr84,Nr84,Or84,Zr84⟩:=SlR.idx V83 (Hp.le_refl _) he20
       obtain rfl:=rLane_open Rr84
       refine ⟨(.int .i64 e20.From),(.int .i64 e20.To),(.int .i64 e20.Ahead),Nr84,?_⟩
       obtain ⟨e21,he21,hf⟩:=oB hf
       refine ix_go (S.sl (r:=(fz rLane)) m0) (Hp.le_refl _) he21 fun pe21=>?_
       obtain ⟨y22,hy22,hf⟩:=oB hf
       obtain ⟨h85,e86,S⟩:=St.setE (r:=rLane) (x':=e20) (k:=0) (n:=3) (y:=(.agg [(.int .i64 e20.From),(.int .i64 e20.To),(.int .i64 e20.Ahead)])) S he21 rfl rfl (nl rfl) (by rintro _ h; obtain rfl:=rLane_open h; exact rLane_mk (x:=e20))
       rw [padd_zero] at e86
       have S:St _ _ [own (oSl (fz rLane)) [a0_0] y22] _:=S.cast1 (by rw [← oi hy22]<;>rfl)
       have hqy22:idx y22 y14=some e20:=oi hy22▸idx_set he21
       refine ⟨h85,e86,?_⟩
       exact hjj0 _ _ y22 hf  S
      rw [ifF hc] at hf
      exact hjj0 _ _ y15 hf  S
     rw [ifE hc] at hf
     obtain rfl:=oi hf
     obtain rfl:=hk
     exact ⟨y15,rfl,S,rfl⟩
    exact ⟨x0,rfl,rfl,rfl,S,hL⟩
   rw [ifF hc] at hf
   obtain rfl:=oi hf
   exact ⟨m46,Nat.lt_succ_self _,rfl,rfl,S,hk⟩
  rw [ifE hc] at hf
  obtain rfl:=oi hf
  obtain rfl:=hk
  exact ⟨rfl,S,rfl⟩
 exact ⟨rfl,rfl,S,hL⟩
def p49_j0 (b10:Bool):Option Bool:=some b10
def p49 (a0:TLane) (b1:TLane):Option Bool:=if a0.From=b1.From then (p49_j0 (decide (a0.To=b1.To))) else (p49_j0 false)
theorem r49 {h:Heap}  {a0:TLane} {b1:TLane} {r:Bool} (hf:p49 a0 b1=some r):ZC F 49 [(.agg [(.int .i64 a0.From),(.int .i64 a0.To),(.int .i64 a0.Ahead)]),(.agg [(.int .i64 b1.From),(.int .i64 b1.To),(.int .i64 b1.Ahead)])] h fun v h'=>v=.bool r∧St h none' [] h':=by
 refine w49 ?_
 unfold W49
 unfold p49 at hf
 have S:St h none' [] h:=St.refl _ _
 intro h11
 have S:St _ _ [rowC h.n [(.int .i64 a0.From),(.int .i64 a0.To),(.int .i64 a0.Ahead)] 0] _:=S.pushRow [(.int .i64 a0.From),(.int .i64 a0.To),(.int .i64 a0.Ahead)]
 intro h12
 have S:St _ _ [rowC h11.n [(.int .i64 b1.From),(.int .i64 b1.To),(.int .i64 b1.Ahead)] 0,_] _:=S.pushRow [(.int .i64 b1.From),(.int .i64 b1.To),(.int .i64 b1.Ahead)]
 refine ⟨a0.From,S.rd1 m1 rfl,?_⟩
 refine ⟨b1.From,S.rd1 m0 rfl,?_⟩
 intro jjj0
 have hjj0:∀ (b10:Bool) (h13:Heap),p49_j0 b10=some r→h12=h13→St h none' [] h12→jjj0 b10 h13:=by
  rintro b10 h13 hf rfl S
  unfold p49_j0 at hf
  unfold jjj0
  obtain rfl:=oi hf
  exact ⟨rfl,S.sel [] rfl⟩
 refine bI (fun hc=>?_) (fun hc=>?_)
 ·rw [ifD hc] at hf
  refine ⟨a0.To,S.rd1 m1 rfl,?_⟩
  refine ⟨b1.To,S.rd1 m0 rfl,?_⟩
  have S:=S.sel [] rfl
  exact hjj0 _ _  hf rfl S
 rw [ifE hc] at hf
 have S:=S.sel [] rfl
 exact hjj0 _ _  hf rfl S
def p35_j0 (y10:Int) (l11:List TLane):Option ((Int×(List TLane))⊕(List TLane)):=some (.inl ((IntKind.wrap .i64 (y10+1)),l11))
def p35_l0 (p1:TPart) (y12:Int) (e13:TTrans) (st:Int×(List TLane)):Option ((Int×(List TLane))⊕(List TLane)):=match st with | (y10,l14)=>if y10 < (e13.Out.length:Int) then ((idx e13.Out y10).bind fun e15=>(idx p1.Trans y12).bind fun e16=>(idx p1.Places e15.Place).bind fun e17=>if (!decide (e16=e17))=true then ((app 24 l14 [(TLane.mk e16 e17 e13.Delay)]).bind fun l18=>p35_j0 y10 l18) else (p35_j0 y10 l14)) else (some (.inr l14))
def p35_l1 (n0:TNet) (p1:TPart) (st:Int×(List TLane)):Option ((Int×(List TLane))⊕(List TLane)):=match st with | (y12,l19)=>if y12 < (n0.Trans.length:Int) then ((idx n0.Trans y12).bind fun e13=>(loopC (p35_l0 p1 y12 e13) (0,l19)).bind fun res20=>((fun (l21:List TLane)=>some (.inl ((IntKind.wrap .i64 (y12+1)),l21))) res20)) else (some (.inr l19))
def p35 (n0:TNet) (p1:TPart):Option (List TLane):=(p43 n0 p1).bind fun y22=>if (!decide (y22=0))=true then (some []) else ((loopC (p35_l1 n0 p1) (0,[])).bind fun res23=>((fun (l24:List TLane)=>(p44 l24 (fun (y0:TLane) (y1:TLane)=>p45 y0 y1)).bind fun u25=>(p48 u25 (fun (y0:TLane) (y1:TLane)=>p49 y0 y1)).bind fun y26=>some y26) res23))
theorem r35 {h:Heap} {a0_0:AV} {a0_1:AV} {a1_1:AV} {a1_2:AV} {n0:TNet} {p1:TPart} (f0_0:SlR rPlace (Snap h) a0_0 n0.Places) (f0_1:SlR rTrans (Snap h) a0_1 n0.Trans) (f1_1:SlR (rI .i64) (Snap h) a1_1 p1.Places) (f1_2:SlR (rI .i64) (Snap h) a1_2 p1.Trans) {r:(List TLane)} (hf:p35 n0 p1=some r):ZC F 35 [(.agg [a0_0,a0_1]),(.agg [(.int .i64 p1.N),a1_1,a1_2])] h fun v h'=>St h none' [own (oSl (fz rLane)) [v] r] h':=by
 refine w35 ?_
 unfold W35
 unfold p35 at hf
 have S:St h none' [] h:=St.refl _ _
 intro h27
 have S:St _ _ [rowC h.n [a0_0,a0_1] 0] _:=S.pushRow [a0_0,a0_1]
 intro h28
 have S:St _ _ [rowC h27.n [(.int .i64 p1.N),a1_1,a1_2] 0,_] _:=S.pushRow [(.int .i64 p1.N),a1_1,a1_2]
 refine ⟨a0_0,a0_1,S.rdN m1 (nl rfl) rfl,?_⟩
 refine ⟨(.int .i64 p1.N),a1_1,a1_2,S.rdN m0 (nl rfl) rfl,?_⟩
 obtain ⟨y22,hy22,hf⟩:=oB hf
 refine ⟨_,Fz.refl _,?_⟩
 refine (r43 (x0:=n0) (x1:=p1) (f0_0:=(SlR.mono (sM S.le) f0_0)) (f0_1:=(SlR.mono (sM S.le) f0_1)) (f1_1:=(SlR.mono (sM S.le) f1_1)) (f1_2:=(SlR.mono (sM S.le) f1_2)) hy22).mono fun v29 h30 T=>?_
 obtain ⟨rfl,T⟩:=T
 have S:St _ _ [_,_] _:=S.comp T
 refine ⟨y22,rfl,?_⟩
 refine bI (fun hc=>?_) (fun hc=>?_)
 ·rw [ifT hc] at hf
  have S:St _ _ [own (oSl (fz rLane)) [.nilSlice] [],_,_] _:=S.addE (oSl_nil _ _)
  obtain rfl:=oi hf
  exact S.sel [0] rfl
 rw [ifF hc] at hf
 refine ⟨a0_1,S.rd1 m1 rfl,?_⟩
 refine iI.2 ⟨(f0_1).is,?_⟩
 try rw [show (a0_1).slen=_ from (f0_1).slen]
 obtain ⟨res23,hL,hf⟩:=oB hf
 obtain ⟨n31,hL⟩:=loopC_iff.1 hL
 have S:St _ _ [own (oSl (fz rLane)) [.nilSlice] [],_,_] _:=S.addE (oSl_nil _ _)
 have S:=S.sel [1,0] rfl
 refine loopm35_1 (X0:=fun (p32:AV) (l33:AV) (y34:AV) (y35:Int) (y36:Int) (h37:Heap)=>∃ (l24:List TLane),St h none' [own (oSl (fz rLane)) [l33] l24] h37∧l24=res23) ?_ (loop35_1 (I:=fun (m38:Nat) (p39:AV) (l40:AV) (y41:AV) (y42:Int) (y12:Int) (h43:Heap)=>∃ (l19:List TLane),AV.ptr h27.n 0 0=p39∧a0_1=y41∧(n0.Trans.length:Int)=y42∧St h none' [rowC h27.n [(.int .i64 p1.N),a1_1,a1_2] 0,own (oSl (fz rLane)) [l40] l19] h43∧iter (p35_l1 n0 p1) m38 (y12,l19)=some res23) ?_ (m:=n31) ?_)
 ·rintro p32 l33 y34 y35 y36 h37 ⟨l24,S,rfl⟩
  try dsimp only at hf
  obtain ⟨u25,hu25,hf⟩:=oB hf
  refine ⟨_,Fz.refl _,?_⟩
  obtain ⟨fpu25,S1u453,backu25⟩:=St.lend [_] S
  refine (r44 (x0:=l24) (cmp1:=(fun (y0:TLane) (y1:TLane)=>p45 y0 y1)) (f1_0:=fun h1 y0 y1 r hr=>by show ZC F 45 _ h1 _; exact r45 hr) (S:=S1u453) hu25).mono fun v44 h45 T=>?_
  obtain ⟨rfl,T⟩:=T
  have S:St _ _ [own (oSl (fz rLane)) [l33] u25] _:=backu25 _ _ T
  obtain ⟨y26,hy26,hf⟩:=oB hf
  refine ⟨_,Fz.refl _,?_⟩
  obtain ⟨fpy26,S1y456,backy26⟩:=St.lend [_] S
  refine (r48 (x0:=u25) (x1:=(fun (y0:TLane) (y1:TLane)=>p49 y0 y1)) (f1_0:=fun h1 y0 y1 r hr=>by show ZC F 49 _ h1 _; exact r49 hr) (S:=S1y456) hy26).mono fun v46 h47 T=>?_
  have S:St _ _ [own (oSl (fz rLane)) [v46] y26] _:=backy26 _ _ T
  obtain rfl:=oi hf
  exact S.sel [0] rfl
 ·rintro m48 p39 l40 y41 y42 y12 h43 ⟨l19,rfl,rfl,rfl,S,hit⟩
  obtain ⟨m38,q49,rfl,hf,hk⟩:=iter_some hit
  clear hit
  unfold B35_1
  unfold p35_l1 at hf
  try dsimp only at hf
  refine bI (fun hc=>?_) (fun hc=>?_)
  ·rw [ifD hc] at hf
   obtain ⟨e13,he13,hf⟩:=oB hf
   refine ix_go f0_1 (sM S.le) he13 fun pe13=>?_
   obtain ⟨_,cr50,Rr50,Nr50,Or50,Zr50⟩:=SlR.idx f0_1 (sM S.le) he13
   obtain ⟨cr50_3,cr50_4,cr50_5,rfl,Fr50_3,Fr50_4,Fr50_5⟩:=rTrans_open Rr50
   refine ⟨(.str e13.Name),(.int .i64 e13.Delay),(.int .i64 e13.Prio),cr50_3,cr50_4,cr50_5,Nr50,?_⟩
   intro h51
   have S:St _ _ [rowC h43.n [(.str ([]:List UInt8)),(.int .i64 0),(.int .i64 0),.nilSlice,.nilSlice,.nilSlice] 0,_,_] _:=S.pushRow [(.str ([]:List UInt8)),(.int .i64 0),(.int .i64 0),.nilSlice,.nilSlice,.nilSlice]
   obtain ⟨h52,e53,S⟩:=S.store (off:=0) (n:=6) (x:=(.agg [(.str e13.Name),(.int .i64 e13.Delay),(.int .i64 e13.Prio),cr50_3,cr50_4,cr50_5])) (cs':=[(.str e13.Name),(.int .i64 e13.Delay),(.int .i64 e13.Prio),cr50_3,cr50_4,cr50_5]) (nl rfl) rfl rfl rfl
   refine ⟨h52,e53,?_⟩
   refine ⟨cr50_5,S.rd1 m0 rfl,?_⟩
   refine iI.2 ⟨(Fr50_5).is,?_⟩
   try rw [show (cr50_5).slen=_ from (Fr50_5).slen]
   obtain ⟨res20,hL,hf⟩:=oB hf
   obtain ⟨n54,hL⟩:=loopC_iff.1 hL
   have S:=S.sel [1,2,0] rfl
   refine loopm35_0 (X2:=fun (p55:AV) (l56:AV) (i57:Int) (t58:AV) (y59:AV) (y60:Int) (y61:Int) (y62:AV) (y63:Int) (y64:Int) (h65:Heap)=>∃ (l21:List TLane),AV.ptr h27.n 0 0=p55∧a0_1=y59∧(n0.Trans.length:Int)=y60∧y12=y61∧St h none' [rowC h27.n [(.int .i64 p1.N),a1_1,a1_2] 0,own (oSl (fz rLane)) [l56] l21] h65∧l21=res20) ?_ (loop35_0 (I:=fun (m66:Nat) (p67:AV) (l68:AV) (i69:Int) (t70:AV) (y71:AV) (y72:Int) (y73:Int) (y74:AV) (y75:Int) (y10:Int) (h76:Heap)=>∃ (l14:List TLane),AV.ptr h27.n 0 0=p67∧y12=i69∧AV.ptr h43.n 0 0=t70∧a0_1=y71∧(n0.Trans.length:Int)=y72∧y12=y73∧cr50_5=y74∧(e13.Out.length:Int)=y75∧St h none' [rowC h27.n [(.int .i64 p1.N),a1_1,a1_2] 0,own (oSl (fz rLane)) [l68] l14,rowC h43.n [(.str e13.Name),(.int .i64 e13.Delay),(.int .i64 e13.Prio),cr50_3,cr50_4,cr50_5] 0] h76∧iter (p35_l0 p1 y12 e13) m66 (y10,l14)=some res20) ?_ (m:=n54) ?_)
   ·rintro p55 l56 i57 t58 y59 y60 y61 y62 y63 y64 h65 ⟨l21,rfl,rfl,rfl,rfl,S,rfl⟩
    try dsimp only at hf
    obtain rfl:=oi hf
    exact ⟨m38,Nat.lt_succ_self _,l21,rfl,rfl,rfl,S,hk⟩
   ·rintro m77 p67 l68 i69 t70 y71 y72 y73 y74 y75 y10 h76 ⟨l14,rfl,rfl,rfl,rfl,rfl,rfl,rfl,rfl,S,hit⟩
    obtain ⟨m66,q78,rfl,hf,hk⟩:=iter_some hit
    clear hit
    unfold B35_0
    unfold p35_l0 at hf
    try dsimp only at hf
    refine bI (fun hc=>?_) (fun hc=>?_)
    ·rw [ifD hc] at hf
     obtain ⟨e15,he15,hf⟩:=oB hf
     refine ix_go Fr50_5 (sM S.le) he15 fun pe15=>?_
     obtain ⟨_,cr79,Rr79,Nr79,Or79,Zr79⟩:=SlR.idx Fr50_5 (sM S.le) he15
     obtain rfl:=rArc_open Rr79
     refine ⟨(.int .i64 e15.Place),(.int .i64 e15.N),Nr79,?_⟩
     intro h80
     have S:St _ _ [rowC h76.n [(.int .i64 0),(.int .i64 0)] 0,_,_,_] _:=S.pushRow [(.int .i64 0),(.int .i64 0)]
     obtain ⟨h81,e82,S⟩:=S.store (off:=0) (n:=2) (x:=(.agg [(.int .i64 e15.Place),(.int .i64 e15.N)])) (cs':=[(.int .i64 e15.Place),(.int .i64 e15.N)]) (nl rfl) rfl rfl rfl
     refine ⟨h81,e82,?_⟩
     refine iI.2 ⟨rfl,?_⟩
     refine ⟨a1_2,S.rd1 m1 rfl,?_⟩
     obtain ⟨e16,he16,hf⟩:=oB hf
     refine ix_go f1_2 (sM S.le) he16 fun pe16=>?_
     obtain ⟨_,cr83,Rr83,Nr83,Or83,Zr83⟩:=SlR.idx f1_2 (sM S.le) he16
     obtain rfl:cr83=[(.int .i64 e16)]:=Rr83
     refine ⟨e16,Zr83 _ rfl,?_⟩
     refine iI.2 ⟨rfl,?_⟩
     refine ⟨a1_1,S.rd1 m1 rfl,?_⟩
     refine ⟨e15.Place,S.rd1 m0 rfl,?_⟩
     obtain ⟨e17,he17,hf⟩:=oB hf
     refine ix_go f1_1 (sM S.le) he17 fun pe17=>?_
     obtain ⟨_,cr84,Rr84,Nr84,Or84,Zr84⟩:=SlR.idx f1_1 (sM S.le) he17
     obtain rfl:cr84=[(.int .i64 e17)]:=Rr84
     refine ⟨e17,Zr84 _ rfl,?_⟩
     refine iI.2 ⟨rfl,?_⟩
     refine ⟨e13.Delay,S.rd1 m3 rfl,?_⟩
     intro h85
     have S:St _ _ [rowC h81.n [(.int .i64 0),(.int .i64 0),(.int .i64 0)] 0,_,_,_,_] _:=S.pushRow [(.int .i64 0),(.int .i64 0),(.int .i64 0)]
     obtain ⟨h86,e87,S⟩:=S.store (off:=0) (n:=3) (x:=(.agg [(.int .i64 e16),(.int .i64 e17),(.int .i64 e13.Delay)])) (cs':=[(.int .i64 e16),(.int .i64 e17),(.int .i64 e13.Delay)]) (nl rfl) rfl rfl rfl
     refine ⟨h86,e87,?_⟩
     refine ⟨e16,S.rd1 m0 rfl,?_⟩
     refine ⟨e17,S.rd1 m0 rfl,?_⟩
     intro jjj0
     have hjj0:∀ (l88:AV) (h89:Heap) (l11:List TLane),p35_j0 y10 l11=some q78→St h none' [rowC h27.n [(.int .i64 p1.N),a1_1,a1_2] 0,own (oSl (fz rLane)) [l88] l11,rowC h43.n [(.str e13.Name),(.int .i64 e13.Delay),(.int .i64 e13.Prio),cr50_3,cr50_4,cr50_5] 0] h89→jjj0 l88 h89:=by
      rintro l88 h89 l11 hf S
      unfold p35_j0 at hf
      unfold jjj0
      obtain rfl:=oi hf
      exact ⟨m66,Nat.lt_succ_self _,l11,rfl,rfl,rfl,rfl,rfl,rfl,rfl,rfl,S,hk⟩
     refine bI (fun hc=>?_) (fun hc=>?_)
     ·rw [ifT hc] at hf
      refine ⟨(.int .i64 e16),(.int .i64 e17),(.int .i64 e13.Delay),S.rdN m0 (nl rfl) rfl,?_⟩
      intro h90
      have S:St _ _ [rowC h86.n [(.int .i64 e16),(.int .i64 e17),(.int .i64 e13.Delay)] 0,_,_,_,_,_] _:=S.pushRow [(.int .i64 e16),(.int .i64 e17),(.int .i64 e13.Delay)]
      obtain ⟨l18,hl18,hf⟩:=oB hf
      have S:St _ _ [own (fz rLane) [(.int .i64 e16),(.int .i64 e17),(.int .i64 e13.Delay)] (TLane.mk e16 e17 e13.Delay),_,_,_,_,_,_] _:=S.add (r:=rLane) (x:=(TLane.mk e16 e17 e13.Delay)) (rLane_mk (x:=(TLane.mk e16 e17 e13.Delay)))
      have S:=S.sel [5,0,1,2,3,4,6] rfl
      have ml18:=app_some hl18
      obtain ⟨v91,h92,e93,S⟩:=St.app1R (r:=(fz rLane)) (b:=24) S ml18.1
      have S:St _ _ [own (oSl (fz rLane)) [v91] l18,_,_,_,_] _:=S.cast1 (by rw [← ml18.2]<;>rfl)
      refine ⟨v91,h92,e93,?_⟩
      have S:=S.sel [3,0,4] rfl
      exact hjj0 _ _ l18 hf  S
     rw [ifF hc] at hf
     have S:=S.sel [2,3,4] rfl
     exact hjj0 _ _ l14 hf  S
    rw [ifE hc] at hf
    have S:=S.sel [0,1] rfl
    obtain rfl:=oi hf
    obtain rfl:=hk
    exact ⟨l14,rfl,rfl,rfl,rfl,S,rfl⟩
   exact ⟨l19,rfl,rfl,rfl,rfl,rfl,rfl,rfl,rfl,S,hL⟩
  rw [ifE hc] at hf
  have S:=S.sel [1] rfl
  obtain rfl:=oi hf
  obtain rfl:=hk
  exact ⟨l19,S,rfl⟩
 exact ⟨[],rfl,rfl,rfl,S,hL⟩
def p32_j0 (b10:Bool):Option Bool:=some b10
def p32:Option Bool:=(p23 (TNet.mk [(TPlace.mk ([]:List UInt8) 0),(TPlace.mk ([]:List UInt8) 0)] [(TTrans.mk ([]:List UInt8) 3 0 [(TArc.mk 0 1)] [] [(TArc.mk 1 1)])])).bind fun y11=>(p35 y11 (TPart.mk 2 [0,1] [0])).bind fun y12=>if (y12.length:Int)=1 then ((idx y12 0).bind fun e13=>p32_j0 ((decide (e13.From=0))&&((decide (e13.To=1))&&((decide (e13.Ahead=3))&&true)))) else (p32_j0 false)
theorem r32 {h:Heap}   {r:Bool} (hf:p32  = some r):ZC F 32 [] h fun v h'=>v=.bool r∧St h none' [] h':=by
 refine w32 ?_
 unfold W32
 unfold p32 at hf
 have S:St h none' [] h:=St.refl _ _
 intro h14
 have S:St _ _ [rowC h.n [(.str ([]:List UInt8)),(.int .i64 0),(.str ([]:List UInt8)),(.int .i64 0)] 0] _:=S.pushRow [(.str ([]:List UInt8)),(.int .i64 0),(.str ([]:List UInt8)),(.int .i64 0)]
 intro h15
 have S:St _ _ [rowC h14.n [(.int .i64 0),(.int .i64 1)] 0,_] _:=S.pushRow [(.int .i64 0),(.int .i64 1)]
 intro h16
 have S:St _ _ [rowC h15.n [(.int .i64 1),(.int .i64 1)] 0,_,_] _:=S.pushRow [(.int .i64 1),(.int .i64 1)]
 intro h17
 have S:St _ _ [rowC h16.n [(.str ([]:List UInt8)),(.int .i64 3),(.int .i64 0),(.slice h14.n 0 0 1 2),.nilSlice,(.slice h15.n 0 0 1 2)] 0,_,_,_] _:=S.pushRow [(.str ([]:List UInt8)),(.int .i64 3),(.int .i64 0),(.slice h14.n 0 0 1 2),.nilSlice,(.slice h15.n 0 0 1 2)]
 intro h18
 have S:St _ _ [rowC h17.n [.nilSlice,.nilSlice] 0,_,_,_,_] _:=S.pushRow [.nilSlice,.nilSlice]
 obtain ⟨h19,e20,S⟩:=S.store (off:=0) (n:=2) (x:=(.agg [(.slice h.n 0 0 2 2),(.slice h16.n 0 0 1 6)])) (cs':=[(.slice h.n 0 0 2 2),(.slice h16.n 0 0 1 6)]) (nl rfl) rfl rfl rfl
 refine ⟨h19,e20,?_⟩
 refine ⟨(.slice h.n 0 0 2 2),(.slice h16.n 0 0 1 6),S.rdN m0 (nl rfl) rfl,?_⟩
 obtain ⟨y11,hy11,hf⟩:=oB hf
 have S:=S.sel [4,0,1,2,3] rfl
 have S:St _ _ [own (oSl (fz rPlace)) [(.slice h.n 0 0 2 2)] [(TPlace.mk ([]:List UInt8) 0),(TPlace.mk ([]:List UInt8) 0)],_,_,_,_] _:=St.lit (r:=rPlace) (els:=[[(.str ([]:List UInt8)),(.int .i64 0)],[(.str ([]:List UInt8)),(.int .i64 0)]]) (l:=[(TPlace.mk ([]:List UInt8) 0),(TPlace.mk ([]:List UInt8) 0)]) (n:=2) S rfl (.cons (rPlace_mk (x:=(TPlace.mk ([]:List UInt8) 0))) (.cons (rPlace_mk (x:=(TPlace.mk ([]:List UInt8) 0))) (.nil))) rfl
 have S:=S.sel [2,0,1,3,4] rfl
 have S:=S.catNil oTrans
 have S:=S.sel [5,0,1,2,3,4] rfl
 have S:St _ _ [own (oSl (fz rArc)) [(.slice h14.n 0 0 1 2)] [(TArc.mk 0 1)],_,_,_,_,_] _:=St.lit (r:=rArc) (els:=[[(.int .i64 0),(.int .i64 1)]]) (l:=[(TArc.mk 0 1)]) (n:=1) S rfl (.cons (rArc_mk (x:=(TArc.mk 0 1))) (.nil)) rfl
 have S:=S.sel [5,0,1,2,3,4] rfl
 have S:St _ _ [own (oSl (fz rArc)) [(.slice h15.n 0 0 1 2)] [(TArc.mk 1 1)],_,_,_,_,_] _:=St.lit (r:=rArc) (els:=[[(.int .i64 1),(.int .i64 1)]]) (l:=[(TArc.mk 1 1)]) (n:=1) S rfl (.cons (rArc_mk (x:=(TArc.mk 1 1))) (.nil)) rfl
 have S:St _ _ [own (oSl (fz rArc)) [.nilSlice] [],_,_,_,_,_,_] _:=S.addE (oSl_nil _ _)
 have S:=S.sel [2,0,1,3,4,5,6] rfl
 have S:St _ _ [own oTrans [(.str ([]:List UInt8)),(.int .i64 3),(.int .i64 0),(.slice h14.n 0 0 1 2),.nilSlice,(.slice h15.n 0 0 1 2)] (TTrans.mk ([]:List UInt8) 3 0 [(TArc.mk 0 1)] [] [(TArc.mk 1 1)]),_,_,_,_] _:=oTrans_close (x:=(TTrans.mk ([]:List UInt8) 3 0 [(TArc.mk 0 1)] [] [(TArc.mk 1 1)])) S
 have S:St _ _ [catC oTrans [(.str ([]:List UInt8)),(.int .i64 3),(.int .i64 0),(.slice h14.n 0 0 1 2),.nilSlice,(.slice h15.n 0 0 1 2)] [(TTrans.mk ([]:List UInt8) 3 0 [(TArc.mk 0 1)] [] [(TArc.mk 1 1)])],_,_,_] _:=S.catCons
 have S:=S.sel [1,0,2,3] rfl
 have S:St _ _ [own (oSl oTrans) [(.slice h16.n 0 0 1 6)] [(TTrans.mk ([]:List UInt8) 3 0 [(TArc.mk 0 1)] [] [(TArc.mk 1 1)])],_,_] _:=S.litO (n:=1) rfl
 obtain ⟨h21,z22,S⟩:=St.freeze S
 refine ⟨_,z22,?_⟩
 refine (r23 (x0:=(TNet.mk [(TPlace.mk ([]:List UInt8) 0),(TPlace.mk ([]:List UInt8) 0)] [(TTrans.mk ([]:List UInt8) 3 0 [(TArc.mk 0 1)] [] [(TArc.mk 1 1)])])) (f0_0:=(S.sl (r:=(fz rPlace)) m1)) (f0_1:=S.slz (r:=rTrans) m0) hy11).mono fun v23 h24 T=>?_
 obtain ⟨w25,w26,rfl,T⟩:=T
 have S:St _ _ [own (oSl (fz rPlace)) [w25] y11.Places,own (oSl (fz rTrans)) [w26] y11.Trans,_,_,_] _:=S.comp T
 intro h27
 have S:St _ _ [rowC h24.n [(.int .i64 0),(.int .i64 1)] 0,_,_,_,_,_] _:=S.pushRow [(.int .i64 0),(.int .i64 1)]
 intro h28
 have S:St _ _ [rowC h27.n [(.int .i64 0)] 0,_,_,_,_,_,_] _:=S.pushRow [(.int .i64 0)]
 obtain ⟨y12,hy12,hf⟩:=oB hf
 have S:=S.sel [1,0,2,3,4,5,6] rfl
 have S:St _ _ [own (oSl (fz (rI .i64))) [(.slice h24.n 0 0 2 1)] [0,1],_,_,_,_,_,_] _:=St.lit (r:=(rI .i64)) (els:=([0,1]:List Int).map fun n=>[AV.int .i64 n]) (l:=([0,1]:List Int)) (n:=2) S rfl (all2_intL _) rfl
 have S:=S.sel [1,0,2,3,4,5,6] rfl
 have S:St _ _ [own (oSl (fz (rI .i64))) [(.slice h27.n 0 0 1 1)] [0],_,_,_,_,_,_] _:=St.lit (r:=(rI .i64)) (els:=([0]:List Int).map fun n=>[AV.int .i64 n]) (l:=([0]:List Int)) (n:=1) S rfl (all2_intL _) rfl
 refine ⟨_,Fz.refl _,?_⟩
 refine (r35 (n0:=y11) (p1:=(TPart.mk 2 [0,1] [0])) (f0_0:=(S.sl (r:=(fz rPlace)) m2)) (f0_1:=(S.sl (r:=(fz rTrans)) m3)) (f1_1:=(S.sl (r:=(fz (rI .i64))) m1)) (f1_2:=(S.sl (r:=(fz (rI .i64))) m0)) hy12).mono fun v29 h30 T=>?_
 have S:St _ _ [own (oSl (fz rLane)) [v29] y12,_,_,_,_,_,_,_] _:=S.comp T
 refine iI.2 ⟨((S.sl (r:=(fz rLane)) m0)).is,?_⟩
 try rw [show (v29).slen=_ from ((S.sl (r:=(fz rLane)) m0)).slen]
 intro jjj0
 have hjj0:∀ (b10:Bool) (h31:Heap),p32_j0 b10=some r→h30=h31→St h none' [] h30→jjj0 b10 h31:=by
  rintro b10 h31 hf rfl S
  unfold p32_j0 at hf
  unfold jjj0
  obtain rfl:=oi hf
  exact ⟨rfl,S.sel [] rfl⟩
 refine bI (fun hc=>?_) (fun hc=>?_)
 ·rw [ifD hc] at hf
  obtain ⟨e13,he13,hf⟩:=oB hf
  refine ix_go (S.sl (r:=(fz rLane)) m0) (Hp.le_refl _) he13 fun pe13=>?_
  obtain ⟨_,cr32,Rr32,Nr32,Or32,Zr32⟩:=St.idxO (r:=rLane) S m0 he13
  obtain rfl:=rLane_open Rr32
  refine ⟨(.int .i64 e13.From),(.int .i64 e13.To),(.int .i64 e13.Ahead),Nr32,?_⟩
  refine oI (.bool ((decide (e13.From=0))&&((decide (e13.To=1))&&((decide (e13.Ahead=3))&&true)))) rfl ⟨((decide (e13.From=0))&&((decide (e13.To=1))&&((decide (e13.Ahead=3))&&true))),rfl,?_⟩
  have S:=S.sel [] rfl
  exact hjj0 _ _  hf rfl S
 rw [ifE hc] at hf
 have S:=S.sel [] rfl
 exact hjj0 _ _  hf rfl S
def p50_l0 (s0:List TLane) (f1:TLane→Option Bool) (y10:Int):Option (Int⊕(Int⊕Unit)):=if y10 < (s0.length:Int) then ((idx s0 y10).bind fun e11=>(f1 e11).bind fun r12=>if r12=true then (some (.inr (.inl y10))) else (some (.inl (IntKind.wrap .i64 (y10+1))))) else (some (.inr (.inr ())))
def p50 (s0:List TLane) (f1:TLane→Option Bool):Option Int:=(loopC (p50_l0 s0 f1) 0).bind fun res13=>(match res13 with | .inl y14=>some y14 | .inr _=>some ((-1):Int))
theorem r50 {h:Heap} {a0_0:AV} {a1_0:AV} {s0:List TLane} {f1:TLane→Option Bool} (f0_0:SlR rLane (Snap h) a0_0 s0) (f1_0:∀ (h':Heap) (y0:TLane) r,HLe h h'→f1 y0=some r→callW F a1_0 [.agg [.int .i64 y0.From,.int .i64 y0.To,.int .i64 y0.Ahead]] h' fun v h2=>v=.bool r∧St h' none' [] h2) {r:Int} (hf:p50 s0 f1=some r):ZC F 50 [a0_0,a1_0] h fun v h'=>v=.int .i64 r∧St h none' [] h':=by
 refine w50 ?_
 unfold W50
 unfold p50 at hf
 have S:St h none' [] h:=St.refl _ _
 refine iI.2 ⟨(f0_0).is,?_⟩
 try rw [show (a0_0).slen=_ from (f0_0).slen]
 obtain ⟨res13,hL,hf⟩:=oB hf
 obtain ⟨n15,hL⟩:=loopC_iff.1 hL
 refine loopm50_0 (R:=fun (s16:AV) (f17:AV) (y14:Int) (y18:Int) (y19:Int) (h20:Heap)=>St h none' [] h20∧(.inl y14)=res13) (X0:=fun (s21:AV) (f22:AV) (y23:Int) (y24:Int) (y25:Int) (h26:Heap)=>St h none' [] h26∧(.inr ())=res13) ?_ ?_ (loop50_0 (I:=fun (m27:Nat) (s28:AV) (f29:AV) (y30:Int) (y31:Int) (y10:Int) (h32:Heap)=>a0_0=s28∧a1_0=f29∧(s0.length:Int)=y31∧St h none' [] h32∧iter (p50_l0 s0 f1) m27 y10=some res13) ?_ (m:=n15) ?_)
 ·rintro s16 f17 y14 y18 y19 h20 ⟨S,rfl⟩
  try dsimp only at hf
  obtain rfl:=oi hf
  exact ⟨rfl,S.sel [] rfl⟩
 ·rintro s21 f22 y23 y24 y25 h26 ⟨S,rfl⟩
  try dsimp only at hf
  obtain rfl:=oi hf
  exact ⟨rfl,S.sel [] rfl⟩
 ·rintro m33 s28 f29 y30 y31 y10 h32 ⟨rfl,rfl,rfl,S,hit⟩
  obtain ⟨m27,q34,rfl,hf,hk⟩:=iter_some hit
  clear hit
  unfold B50_0
  unfold p50_l0 at hf
  try dsimp only at hf
  refine bI (fun hc=>?_) (fun hc=>?_)
  ·rw [ifD hc] at hf
   obtain ⟨e11,he11,hf⟩:=oB hf
   refine ix_go f0_0 (sM S.le) he11 fun pe11=>?_
   obtain ⟨_,cr35,Rr35,Nr35,Or35,Zr35⟩:=SlR.idx f0_0 (sM S.le) he11
   obtain rfl:=rLane_open Rr35
   refine ⟨(.int .i64 e11.From),(.int .i64 e11.To),(.int .i64 e11.Ahead),Nr35,?_⟩
   obtain ⟨r12,hr12,hf⟩:=oB hf
   refine ⟨_,Fz.refl _,?_⟩
   refine callW_mono (f1_0 _ e11 _ S.le hr12) fun v36 h37 T=>?_
   obtain ⟨rfl,T⟩:=T
   have S:St _ _ [] _:=S.comp T
   refine ⟨r12,rfl,?_⟩
   refine bI (fun hc=>?_) (fun hc=>?_)
   ·rw [ifT hc] at hf
    obtain rfl:=oi hf
    obtain rfl:=hk
    exact ⟨S,rfl⟩
   rw [ifF hc] at hf
   obtain rfl:=oi hf
   exact ⟨m27,Nat.lt_succ_self _,rfl,rfl,rfl,S,hk⟩
  rw [ifE hc] at hf
  obtain rfl:=oi hf
  obtain rfl:=hk
  exact ⟨S,rfl⟩
 exact ⟨rfl,rfl,rfl,S,hL⟩
def p51_j0 (b10:Bool):Option Bool:=some b10
def p51 (x0:TLane) (c1:Int) (c2:Int):Option Bool:=if x0.From=c1 then (p51_j0 (decide (x0.To=c2))) else (p51_j0 false)
theorem r51 {h:Heap} {o1 v1:Nat} {o2 v2:Nat} {x0:TLane} {c1:Int} {c2:Int} (g1:Snap h o1 [(.int .i64 c1)] v1) (g2:Snap h o2 [(.int .i64 c2)] v2) {r:Bool} (hf:p51 x0 c1 c2=some r):ZC F 51 [(.agg [(.int .i64 x0.From),(.int .i64 x0.To),(.int .i64 x0.Ahead)]),(.ptr o1 v1 0),(.ptr o2 v2 0)] h fun v h'=>v=.bool r∧St h none' [] h':=by
 refine w51 ?_
 unfold W51
 unfold p51 at hf
 have S:St h none' [] h:=St.refl _ _
 intro h11
 have S:St _ _ [rowC h.n [(.int .i64 x0.From),(.int .i64 x0.To),(.int .i64 x0.Ahead)] 0] _:=S.pushRow [(.int .i64 x0.From),(.int .i64 x0.To),(.int .i64 x0.Ahead)]
 refine ⟨x0.From,S.rd1 m0 rfl,?_⟩
 refine ⟨c1,snap_rd1 (sM S.le _ _ _ g1) rfl,?_⟩
 intro jjj0
 have hjj0:∀ (b10:Bool) (h12:Heap),p51_j0 b10=some r→h11=h12→St h none' [] h11→jjj0 b10 h12:=by
  rintro b10 h12 hf rfl S
  unfold p51_j0 at hf
  unfold jjj0
  obtain rfl:=oi hf
  exact ⟨rfl,S.sel [] rfl⟩
 refine bI (fun hc=>?_) (fun hc=>?_)
 ·rw [ifD hc] at hf
  refine ⟨x0.To,S.rd1 m0 rfl,?_⟩
  refine ⟨c2,snap_rd1 (sM S.le _ _ _ g2) rfl,?_⟩
  have S:=S.sel [] rfl
  exact hjj0 _ _  hf rfl S
 rw [ifE hc] at hf
 have S:=S.sel [] rfl
 exact hjj0 _ _  hf rfl S
def p37 (l0:List TLane) (from1:Int) (to2:Int):Option Int:=(p50 l0 (fun (y0:TLane)=>p51 y0 from1 to2)).bind fun y10=>some y10
theorem r37 {h:Heap} {a0_0:AV} {l0:List TLane} {from1:Int} {to2:Int} (f0_0:SlR rLane (Snap h) a0_0 l0) {r:Int} (hf:p37 l0 from1 to2=some r):ZC F 37 [a0_0,(.int .i64 from1),(.int .i64 to2)] h fun v h'=>v=.int .i64 r∧St h none' [] h':=by
 refine w37 ?_
 unfold W37
 unfold p37 at hf
 have S:St h none' [] h:=St.refl _ _
 intro h11
 have S:St _ _ [rowC h.n [(.int .i64 from1)] 0] _:=S.pushRow [(.int .i64 from1)]
 intro h12
 have S:St _ _ [rowC h11.n [(.int .i64 to2)] 0,_] _:=S.pushRow [(.int .i64 to2)]
 obtain ⟨y10,hy10,hf⟩:=oB hf
 refine ⟨_,Fz.refl _,?_⟩
 refine (r50 (s0:=l0) (f1:=(fun (y0:TLane)=>p51 y0 from1 to2)) (f0_0:=(SlR.mono (sM S.le) f0_0)) (f1_0:=fun h1 y0 r hl hr=>by show ZC F 51 _ h1 _; exact r51 (g1:=sM hl _ _ _ (S.row m1)) (g2:=sM hl _ _ _ (S.row m0)) hr) hy10).mono fun v13 h14 T=>?_
 obtain ⟨rfl,T⟩:=T
 have S:St _ _ [_,_] _:=S.comp T
 refine ⟨y10,rfl,?_⟩
 obtain rfl:=oi hf
 exact ⟨rfl,S.sel [] rfl⟩
def p71 (x0:Int) (x1:Int):Option (Int×Int):=(shrI .u64 (IntKind.wrap .u64 ((IntKind.wrap .u64 x0) * (IntKind.wrap .u64 x1))) 32).bind fun d10=>some ((IntKind.wrap .u32 d10),(IntKind.wrap .u32 (IntKind.wrap .u64 ((IntKind.wrap .u64 x0) * (IntKind.wrap .u64 x1)))))
def p72 (x0:Int) (x1:Int):Option (Int×Int):=(shrI .u64 x0 32).bind fun d10=>(shrI .u64 x1 32).bind fun d11=>(shrI .u64 (IntKind.wrap .u64 ((IntKind.wrap .u64 ((BitVec.ofInt (IntKind.bits .u64) x0 &&& BitVec.ofInt (IntKind.bits .u64) 4294967295).toNat)) * (IntKind.wrap .u64 ((BitVec.ofInt (IntKind.bits .u64) x1 &&& BitVec.ofInt (IntKind.bits .u64) 4294967295).toNat)))) 32).bind fun d12=>(shrI .u64 (IntKind.wrap .u64 ((IntKind.wrap .u64 (d10 * (IntKind.wrap .u64 ((BitVec.ofInt (IntKind.bits .u64) x1 &&& BitVec.ofInt (IntKind.bits .u64) 4294967295).toNat))))+d12)) 32).bind fun d13=>(shrI .u64 (IntKind.wrap .u64 ((IntKind.wrap .u64 ((BitVec.ofInt (IntKind.bits .u64) (IntKind.wrap .u64 ((IntKind.wrap .u64 (d10 * (IntKind.wrap .u64 ((BitVec.ofInt (IntKind.bits .u64) x1 &&& BitVec.ofInt (IntKind.bits .u64) 4294967295).toNat))))+d12)) &&& BitVec.ofInt (IntKind.bits .u64) 4294967295).toNat))+(IntKind.wrap .u64 ((IntKind.wrap .u64 ((BitVec.ofInt (IntKind.bits .u64) x0 &&& BitVec.ofInt (IntKind.bits .u64) 4294967295).toNat)) * d11)))) 32).bind fun d14=>some ((IntKind.wrap .u64 ((IntKind.wrap .u64 ((IntKind.wrap .u64 (d10 * d11))+d13))+d14)),(IntKind.wrap .u64 (x0 * x1)))
theorem r72 {h:Heap}  {x0:Int} {x1:Int} {r:Int×Int} (hf:p72 x0 x1=some r):ZC F 72 [(.int .u64 x0),(.int .u64 x1)] h fun v h'=>v=.tuple [.int .u64 r.1,.int .u64 r.2]∧St h none' [] h':=by
 refine w72 ?_
 unfold W72
 unfold p72 at hf
 have S:St h none' [] h:=St.refl _ _
 obtain ⟨d10,hd10,hf⟩:=oB hf
 refine oI (.int .u64 d10) (shrI_ev hd10) ⟨d10,rfl,?_⟩
 obtain ⟨d11,hd11,hf⟩:=oB hf
 refine oI (.int .u64 d11) (shrI_ev hd11) ⟨d11,rfl,?_⟩
 obtain ⟨d12,hd12,hf⟩:=oB hf
 refine oI (.int .u64 d12) (shrI_ev hd12) ⟨d12,rfl,?_⟩
 obtain ⟨d13,hd13,hf⟩:=oB hf
 refine oI (.int .u64 d13) (shrI_ev hd13) ⟨d13,rfl,?_⟩
 obtain ⟨d14,hd14,hf⟩:=oB hf
 refine oI (.int .u64 d14) (shrI_ev hd14) ⟨d14,rfl,?_⟩
 obtain rfl:=oi hf
 exact ⟨rfl,S.sel [] rfl⟩
def p60 (x0:Int) (x1:Int):Option (Int×Int):=(p72 x0 x1).bind fun u10=>some (u10.1,u10.2)
theorem r60 {h:Heap}  {x0:Int} {x1:Int} {r:Int×Int} (hf:p60 x0 x1=some r):ZC F 60 [(.int .u64 x0),(.int .u64 x1)] h fun v h'=>v=.tuple [.int .u64 r.1,.int .u64 r.2]∧St h none' [] h':=by
 refine w60 ?_
 unfold W60
 unfold p60 at hf
 have S:St h none' [] h:=St.refl _ _
 obtain ⟨u10,hu10,hf⟩:=oB hf
 refine ⟨_,Fz.refl _,?_⟩
 refine (r72 (x0:=x0) (x1:=x1) hu10).mono fun v11 h12 T=>?_
 obtain ⟨rfl,T⟩:=T
 have S:St _ _ [] _:=S.comp T
 refine oI (.int .u64 u10.1) rfl ⟨u10.1,rfl,?_⟩
 refine oI (.int .u64 u10.2) rfl ⟨u10.2,rfl,?_⟩
 obtain rfl:=oi hf
 exact ⟨rfl,S.sel [] rfl⟩
def p52_l0 (st:Int×(List Int)):Option ((Int×(List Int))⊕(List Int)):=match st with | (n10,newslice11)=>if n10 < (newslice11.length:Int) then ((slc newslice11 n10 (newslice11.length:Int)).bind fun y12=>(slc newslice11 0 n10).bind fun y13=>(neL y12).bind fun u14=>(neL y13).bind fun u15=>some (.inl ((IntKind.wrap .i64 (n10+((Nat.min y13.length y12.length:Nat):Int))),(cpl newslice11 (n10:Int).toNat ((newslice11.length:Int):Int).toNat y13)))) else (some (.inr newslice11))
def p52_j0 (x0:List Int) (u16:Int×Int):Option (List Int):=(mkS 8 (IntKind.wrap .i64 u16.2) (IntKind.wrap .i64 u16.2) 0).bind fun y17=>(neL y17).bind fun u18=>(neL x0).bind fun u19=>(loopC p52_l0 (((Nat.min x0.length y17.length:Nat):Int),(cpl y17 0 y17.length x0))).bind fun res20=>((fun (newslice21:List Int)=>some newslice21) res20)
def p52_j1 (x0:List Int) (u16:Int×Int) (b22:Bool):Option (List Int):=if b22=true then none else (p52_j0 x0 u16)
def p52_j2 (x0:List Int) (count1:Int):Option (List Int):=(p60 (IntKind.wrap .u64 (x0.length:Int)) (IntKind.wrap .u64 count1)).bind fun u16=>if 0 < u16.1 then (p52_j1 x0 u16 true) else (p52_j1 x0 u16 (decide (9223372036854775807 < u16.2)))
def p52 (x0:List Int) (count1:Int):Option (List Int):=if count1 < 0 then none else (p52_j2 x0 count1)
theorem r52 {h:Heap} {a0_0:AV} {x0:List Int} {count1:Int} (f0_0:SlR (rI .i64) (Snap h) a0_0 x0) {r:(List Int)} (hf:p52 x0 count1=some r):ZC F 52 [a0_0,(.int .i64 count1)] h fun v h'=>St h none' [own (oSl (fz (rI .i64))) [v] r] h':=by
 refine w52 ?_
 unfold W52
 unfold p52 at hf
 have S:St h none' [] h:=St.refl _ _
 intro jjj2
 have hjj2:∀  (h23:Heap),p52_j2 x0 count1=some r→St h none' [] h23→jjj2 h23:=by
  rintro h23 hf S
  unfold p52_j2 at hf
  unfold jjj2
  refine iI.2 ⟨(f0_0).is,?_⟩
  try rw [show (a0_0).slen=_ from (f0_0).slen]
  obtain ⟨u16,hu16,hf⟩:=oB hf
  refine ⟨_,Fz.refl _,?_⟩
  refine (r60 (x0:=(IntKind.wrap .u64 (x0.length:Int))) (x1:=(IntKind.wrap .u64 count1)) hu16).mono fun v24 h25 T=>?_
  obtain ⟨rfl,T⟩:=T
  have S:St _ _ [] _:=S.comp T
  refine oI (.int .u64 u16.1) rfl ⟨u16.1,rfl,?_⟩
  refine oI (.int .u64 u16.2) rfl ⟨u16.2,rfl,?_⟩
  intro jjj1
  have hjj1:∀ (b22:Bool) (h26:Heap),p52_j1 x0 u16 b22=some r→h25=h26→St h none' [] h25→jjj1 b22 h26:=by
   rintro b22 h26 hf rfl S
   unfold p52_j1 at hf
   unfold jjj1
   intro jjj0
   have hjj0:∀  (h27:Heap),p52_j0 x0 u16=some r→St h none' [] h27→jjj0 h27:=by
    rintro h27 hf S
    unfold p52_j0 at hf
    unfold jjj0
    obtain ⟨y17,hy17,hf⟩:=oB hf
    obtain ⟨my17,ey17⟩:=mkS_some hy17
    refine ⟨my17,?_⟩
    intro h28
    have S:St _ _ [own (oSl (fz (rI .i64))) [(.slice h27.n 0 0 ((IntKind.wrap .i64 u16.2):Int).toNat 1)] y17] _:=(S.make (r:=(fz (rI .i64))) (zero:=[(.int .i64 0)]) (x:=0) (fun _=>⟨rfl,rfl⟩) _).cast1 (by rw [ey17]; rfl)
    obtain ⟨u18,hu18,hf⟩:=oB hf
    obtain ⟨u19,hu19,hf⟩:=oB hf
    obtain ⟨h29,e30,S⟩:=S.copyW (r:=(rI .i64)) hu18 hu19 (SlR.mono (sM S.le) f0_0) (flat_I _) rfl
    refine ⟨_,h29,e30,?_⟩
    obtain ⟨res20,hL,hf⟩:=oB hf
    obtain ⟨n31,hL⟩:=loopC_iff.1 hL
    refine loopm52_0 (X0:=fun (newslice32:AV) (n33:Int) (h34:Heap)=>∃ (newslice21:List Int),(AV.slice h27.n 0 0 ((IntKind.wrap .i64 u16.2):Int).toNat 1)=newslice32∧St h none' [own (oSl (fz (rI .i64))) [(.slice h27.n 0 0 ((IntKind.wrap .i64 u16.2):Int).toNat 1)] newslice21] h34∧newslice21=res20) ?_ (loop52_0 (I:=fun (m35:Nat) (newslice36:AV) (n10:Int) (h37:Heap)=>∃ (newslice11:List Int),(AV.slice h27.n 0 0 ((IntKind.wrap .i64 u16.2):Int).toNat 1)=newslice36∧St h none' [own (oSl (fz (rI .i64))) [(.slice h27.n 0 0 ((IntKind.wrap .i64 u16.2):Int).toNat 1)] newslice11] h37∧iter p52_l0 m35 (n10,newslice11)=some res20) ?_ (m:=n31) ?_)
    ·rintro newslice32 n33 h34 ⟨newslice21,rfl,S,rfl⟩
     try dsimp only at hf
     obtain rfl:=oi hf
     exact S.sel [0] rfl
    ·rintro m38 newslice36 n10 h37 ⟨newslice11,rfl,S,hit⟩
     obtain ⟨m35,q39,rfl,hf,hk⟩:=iter_some hit
     clear hit
     unfold B52_0
     unfold p52_l0 at hf
     try dsimp only at hf
     refine iI.2 ⟨((S.sl (r:=(fz (rI .i64))) m0)).is,?_⟩
     try rw [show ((AV.slice h27.n 0 0 ((IntKind.wrap .i64 u16.2):Int).toNat 1)).slen=_ from ((S.sl (r:=(fz (rI .i64))) m0)).slen]
     refine bI (fun hc=>?_) (fun hc=>?_)
     ·rw [ifD hc] at hf
      obtain ⟨y12,hy12,hf⟩:=oB hf
      have ey12:=(sliceSl_ev10 (k:=.i64) (S.sl (r:=(fz (rI .i64))) m0) hy12)
      refine oI ((AV.slice h27.n 0 0 ((IntKind.wrap .i64 u16.2):Int).toNat 1).sub 1 (n10:Int).toNat ((newslice11.length:Int):Int).toNat) ey12 ?_
      obtain ⟨y13,hy13,hf⟩:=oB hf
      have ey13:=(sliceSl_ev01 (k:=.i64) (S.sl (r:=(fz (rI .i64))) m0) hy13)
      refine oI ((AV.slice h27.n 0 0 ((IntKind.wrap .i64 u16.2):Int).toNat 1).sub 1 (0:Int).toNat (n10:Int).toNat) ey13 ?_
      obtain ⟨u14,hu14,hf⟩:=oB hf
      obtain ⟨u15,hu15,hf⟩:=oB hf
      have V40:SlR (rI .i64) (Snap h37) ((AV.slice h27.n 0 0 ((IntKind.wrap .i64 u16.2):Int).toNat 1).sub 1 (0:Int).toNat (n10:Int).toNat) y13:=slc_eq hy13▸SlR.sub (S.sl (r:=(fz (rI .i64))) m0) (slc_le hy13).1 (slc_le hy13).2
      obtain ⟨h41,e42,S⟩:=S.copyV (r:=(rI .i64)) hy12 hu14 hu15 V40 (flat_I _) rfl
      refine ⟨_,h41,e42,?_⟩
      obtain rfl:=oi hf
      exact ⟨m35,Nat.lt_succ_self _,(cpl newslice11 (n10:Int).toNat ((newslice11.length:Int):Int).toNat y13),rfl,S,hk⟩
     rw [ifE hc] at hf
     obtain rfl:=oi hf
     obtain rfl:=hk
     exact ⟨newslice11,rfl,S,rfl⟩
    exact ⟨(cpl y17 0 y17.length x0),rfl,S,hL⟩
   refine bI (fun hc=>?_) (fun hc=>?_)
   ·rw [ifT hc] at hf
    refine oI _ rfl ?_
    cases hf
   rw [ifF hc] at hf
   exact hjj0  _  hf  S
  refine bI (fun hc=>?_) (fun hc=>?_)
  ·rw [ifD hc] at hf
   exact hjj1 _ _  hf rfl S
  rw [ifE hc] at hf
  exact hjj1 _ _  hf rfl S
 refine bI (fun hc=>?_) (fun hc=>?_)
 ·rw [ifD hc] at hf
  refine oI _ rfl ?_
  cases hf
 rw [ifE hc] at hf
 exact hjj2  _  hf  S
def p53_j0 (b10:Bool):Option Bool:=some b10
def p53 (i0:Int) (n1:Int):Option Bool:=if 0≤i0 then (p53_j0 (decide (i0 < n1))) else (p53_j0 false)
theorem r53 {h:Heap}  {i0:Int} {n1:Int} {r:Bool} (hf:p53 i0 n1=some r):ZC F 53 [(.int .i64 i0),(.int .i64 n1)] h fun v h'=>v=.bool r∧St h none' [] h':=by
 refine w53 ?_
 unfold W53
 unfold p53 at hf
 have S:St h none' [] h:=St.refl _ _
 intro jjj0
 have hjj0:∀ (b10:Bool) (h11:Heap),p53_j0 b10=some r→h=h11→St h none' [] h→jjj0 b10 h11:=by
  rintro b10 h11 hf rfl S
  unfold p53_j0 at hf
  unfold jjj0
  obtain rfl:=oi hf
  exact ⟨rfl,S.sel [] rfl⟩
 refine bI (fun hc=>?_) (fun hc=>?_)
 ·rw [ifD hc] at hf
  exact hjj0 _ _  hf rfl S
 rw [ifE hc] at hf
 exact hjj0 _ _  hf rfl S
def p38_l0 (x1:Int) (st:Int×(List (List Int))):Option ((Int×(List (List Int)))⊕(List (List Int))):=match st with | (y10,y11)=>if y10 < ((((if 32 < (if x1 < 0 then 0 else x1) then 32 else (if x1 < 0 then 0 else x1)):Int).toNat:Nat):Int) then ((p52 [1152921504606846976] (if 32 < (if x1 < 0 then 0 else x1) then 32 else (if x1 < 0 then 0 else x1))).bind fun y12=>(idx y11 y10).bind fun e13=>some (.inl ((IntKind.wrap .i64 (y10+1)),(y11.set (y10:Int).toNat y12)))) else (some (.inr y11))
def p38_j0 (y14:Int) (y15:List (List Int)):Option ((Int×(List (List Int)))⊕(List (List Int))):=some (.inl ((IntKind.wrap .i64 (y14+1)),y15))
def p38_j1 (y14:Int) (y16:List (List Int)) (e17:TLane) (b18:Bool):Option ((Int×(List (List Int)))⊕(List (List Int))):=if b18=true then ((idx y16 e17.From).bind fun e19=>(idx y16 e17.From).bind fun e20=>(idx e20 e17.To).bind fun e21=>(idx e19 e17.To).bind fun e22=>(some (e19.set (e17.To:Int).toNat (if e17.Ahead < e21 then e17.Ahead else e21))).bind fun e23=>p38_j0 y14 (y16.set (e17.From:Int).toNat e23)) else (p38_j0 y14 y16)
def p38_l1 (x0:List TLane) (x1:Int) (st:Int×(List (List Int))):Option ((Int×(List (List Int)))⊕(List (List Int))):=match st with | (y14,y16)=>if y14 < (x0.length:Int) then ((idx x0 y14).bind fun e17=>(p53 e17.From (if 32 < (if x1 < 0 then 0 else x1) then 32 else (if x1 < 0 then 0 else x1))).bind fun y24=>if y24=true then ((p53 e17.To (if 32 < (if x1 < 0 then 0 else x1) then 32 else (if x1 < 0 then 0 else x1))).bind fun y25=>p38_j1 y14 y16 e17 y25) else (p38_j1 y14 y16 e17 false)) else (some (.inr y16))
def p38_l2 (x1:Int) (y26:Int) (y27:Int) (st:Int×(List (List Int))):Option ((Int×(List (List Int)))⊕(List (List Int))):=match st with | (y28,y29)=>if y28 < (if 32 < (if x1 < 0 then 0 else x1) then 32 else (if x1 < 0 then 0 else x1)) then ((idx y29 y27).bind fun e30=>(idx y29 y27).bind fun e31=>(idx e31 y28).bind fun e32=>(idx y29 y27).bind fun e33=>(idx e33 y26).bind fun e34=>(idx y29 y26).bind fun e35=>(idx e35 y28).bind fun e36=>(idx e30 y28).bind fun e37=>(some (e30.set (y28:Int).toNat (if (IntKind.wrap .i64 (e34+e36)) < e32 then (IntKind.wrap .i64 (e34+e36)) else e32))).bind fun e38=>some (.inl ((IntKind.wrap .i64 (y28+1)),(y29.set (y27:Int).toNat e38)))) else (some (.inr y29))
def p38_l3 (x1:Int) (y26:Int) (st:Int×(List (List Int))):Option ((Int×(List (List Int)))⊕(List (List Int))):=match st with | (y27,y39)=>if y27 < (if 32 < (if x1 < 0 then 0 else x1) then 32 else (if x1 < 0 then 0 else x1)) then ((loopC (p38_l2 x1 y26 y27) (0,y39)).bind fun res40=>((fun (y41:List (List Int))=>some (.inl ((IntKind.wrap .i64 (y27+1)),y41))) res40)) else (some (.inr y39))
def p38_l4 (x1:Int) (st:Int×(List (List Int))):Option ((Int×(List (List Int)))⊕(List (List Int))):=match st with | (y26,y42)=>if y26 < (if 32 < (if x1 < 0 then 0 else x1) then 32 else (if x1 < 0 then 0 else x1)) then ((loopC (p38_l3 x1 y26) (0,y42)).bind fun res43=>((fun (y44:List (List Int))=>some (.inl ((IntKind.wrap .i64 (y26+1)),y44))) res43)) else (some (.inr y42))
def p38_l5 (x1:Int) (y45:List (List Int)) (st:Int×Int):Option ((Int×Int)⊕Int):=match st with | (y46,y47)=>if y47 < (if 32 < (if x1 < 0 then 0 else x1) then 32 else (if x1 < 0 then 0 else x1)) then ((idx y45 y47).bind fun e48=>(idx e48 y47).bind fun e49=>some (.inl ((if e49 < y46 then e49 else y46),(IntKind.wrap .i64 (y47+1))))) else (some (.inr y46))
def p38 (x0:List TLane) (x1:Int):Option Int:=(mkS 24 (if 32 < (if x1 < 0 then 0 else x1) then 32 else (if x1 < 0 then 0 else x1)) (if 32 < (if x1 < 0 then 0 else x1) then 32 else (if x1 < 0 then 0 else x1)) []).bind fun y50=>(loopC (p38_l0 x1) (0,y50)).bind fun res51=>((fun (y52:List (List Int))=>(loopC (p38_l1 x0 x1) (0,y52)).bind fun res53=>((fun (y54:List (List Int))=>(loopC (p38_l4 x1) (0,y54)).bind fun res55=>((fun (y45:List (List Int))=>(loopC (p38_l5 x1 y45) (1152921504606846976,0)).bind fun res56=>((fun (y57:Int)=>if y57=1152921504606846976 then (some ((-1):Int)) else (some y57)) res56)) res55)) res53)) res51)
theorem r38 {h:Heap} {a0_0:AV} {x0:List TLane} {x1:Int} (f0_0:SlR rLane (Snap h) a0_0 x0) {r:Int} (hf:p38 x0 x1=some r):ZC F 38 [a0_0,(.int .i64 x1)] h fun v h'=>v=.int .i64 r∧St h none' [] h':=by
 refine w38 ?_
 unfold W38
 unfold p38 at hf
 have S:St h none' [] h:=St.refl _ _
 obtain ⟨y50,hy50,hf⟩:=oB hf
 obtain ⟨my50,ey50⟩:=mkS_some hy50
 refine ⟨my50,?_⟩
 intro h58
 have S:St _ _ [own (oSl (oSl (fz (rI .i64)))) [(.slice h.n 0 0 ((if 32 < (if x1 < 0 then 0 else x1) then 32 else (if x1 < 0 then 0 else x1)):Int).toNat 1)] y50] _:=(S.make (r:=(oSl (fz (rI .i64)))) (zero:=[.nilSlice]) (x:=[]) (fun _=>⟨_,rfl,.inl ⟨rfl,rfl,rfl⟩⟩) _).cast1 (by rw [ey50]; rfl)
 obtain ⟨res51,hL,hf⟩:=oB hf
 obtain ⟨n59,hL⟩:=loopC_iff.1 hL
 refine loopm38_0 (X0:=fun (y60:AV) (y61:Int) (y62:AV) (y63:Int) (y64:Int) (h65:Heap)=>∃ (y52:List (List Int)),a0_0=y60∧(if 32 < (if x1 < 0 then 0 else x1) then 32 else (if x1 < 0 then 0 else x1))=y61∧(AV.slice h.n 0 0 ((if 32 < (if x1 < 0 then 0 else x1) then 32 else (if x1 < 0 then 0 else x1)):Int).toNat 1)=y62∧St h none' [own (oSl (oSl (fz (rI .i64)))) [(.slice h.n 0 0 ((if 32 < (if x1 < 0 then 0 else x1) then 32 else (if x1 < 0 then 0 else x1)):Int).toNat 1)] y52] h65∧y52=res51) ?_ (loop38_0 (I:=fun (m66:Nat) (y67:AV) (y68:Int) (y69:AV) (y70:Int) (y10:Int) (h71:Heap)=>∃ (y11:List (List Int)),a0_0=y67∧(if 32 < (if x1 < 0 then 0 else x1) then 32 else (if x1 < 0 then 0 else x1))=y68∧(AV.slice h.n 0 0 ((if 32 < (if x1 < 0 then 0 else x1) then 32 else (if x1 < 0 then 0 else x1)):Int).toNat 1)=y69∧((((if 32 < (if x1 < 0 then 0 else x1) then 32 else (if x1 < 0 then 0 else x1)):Int).toNat:Nat):Int)=y70∧St h none' [own (oSl (oSl (fz (rI .i64)))) [(.slice h.n 0 0 ((if 32 < (if x1 < 0 then 0 else x1) then 32 else (if x1 < 0 then 0 else x1)):Int).toNat 1)] y11] h71∧iter (p38_l0 x1) m66 (y10,y11)=some res51) ?_ (m:=n59) ?_)
 ·rintro y60 y61 y62 y63 y64 h65 ⟨y52,rfl,rfl,rfl,S,rfl⟩
  try dsimp only at hf
  refine iI.2 ⟨(f0_0).is,?_⟩
  try rw [show (a0_0).slen=_ from (f0_0).slen]
  obtain ⟨res53,hL,hf⟩:=oB hf
  obtain ⟨n72,hL⟩:=loopC_iff.1 hL
  refine loopm38_1 (X2:=fun (y73:Int) (y74:AV) (y75:AV) (y76:Int) (y77:Int) (h78:Heap)=>∃ (y54:List (List Int)),(if 32 < (if x1 < 0 then 0 else x1) then 32 else (if x1 < 0 then 0 else x1))=y73∧(AV.slice h.n 0 0 ((if 32 < (if x1 < 0 then 0 else x1) then 32 else (if x1 < 0 then 0 else x1)):Int).toNat 1)=y74∧St h none' [own (oSl (oSl (fz (rI .i64)))) [(.slice h.n 0 0 ((if 32 < (if x1 < 0 then 0 else x1) then 32 else (if x1 < 0 then 0 else x1)):Int).toNat 1)] y54] h78∧y54=res53) ?_ (loop38_1 (I:=fun (m79:Nat) (y80:Int) (y81:AV) (y82:AV) (y83:Int) (y14:Int) (h84:Heap)=>∃ (y16:List (List Int)),(if 32 < (if x1 < 0 then 0 else x1) then 32 else (if x1 < 0 then 0 else x1))=y80∧(AV.slice h.n 0 0 ((if 32 < (if x1 < 0 then 0 else x1) then 32 else (if x1 < 0 then 0 else x1)):Int).toNat 1)=y81∧a0_0=y82∧(x0.length:Int)=y83∧St h none' [own (oSl (oSl (fz (rI .i64)))) [(.slice h.n 0 0 ((if 32 < (if x1 < 0 then 0 else x1) then 32 else (if x1 < 0 then 0 else x1)):Int).toNat 1)] y16] h84∧iter (p38_l1 x0 x1) m79 (y14,y16)=some res53) ?_ (m:=n72) ?_)
  ·rintro y73 y74 y75 y76 y77 h78 ⟨y54,rfl,rfl,S,rfl⟩
   try dsimp only at hf
   obtain ⟨res55,hL,hf⟩:=oB hf
   obtain ⟨n85,hL⟩:=loopC_iff.1 hL
   refine loopm38_4 (X4:=fun (y86:Int) (y87:AV) (y88:Int) (y89:Int) (h90:Heap)=>∃ (y45:List (List Int)),(if 32 < (if x1 < 0 then 0 else x1) then 32 else (if x1 < 0 then 0 else x1))=y86∧(AV.slice h.n 0 0 ((if 32 < (if x1 < 0 then 0 else x1) then 32 else (if x1 < 0 then 0 else x1)):Int).toNat 1)=y87∧St h none' [own (oSl (oSl (fz (rI .i64)))) [(.slice h.n 0 0 ((if 32 < (if x1 < 0 then 0 else x1) then 32 else (if x1 < 0 then 0 else x1)):Int).toNat 1)] y45] h90∧y45=res55) ?_ (loop38_4 (I:=fun (m91:Nat) (y92:Int) (y93:AV) (y94:Int) (y26:Int) (h95:Heap)=>∃ (y42:List (List Int)),(if 32 < (if x1 < 0 then 0 else x1) then 32 else (if x1 < 0 then 0 else x1))=y92∧(AV.slice h.n 0 0 ((if 32 < (if x1 < 0 then 0 else x1) then 32 else (if x1 < 0 then 0 else x1)):Int).toNat 1)=y93∧(if 32 < (if x1 < 0 then 0 else x1) then 32 else (if x1 < 0 then 0 else x1))=y94∧St h none' [own (oSl (oSl (fz (rI .i64)))) [(.slice h.n 0 0 ((if 32 < (if x1 < 0 then 0 else x1) then 32 else (if x1 < 0 then 0 else x1)):Int).toNat 1)] y42] h95∧iter (p38_l4 x1) m91 (y26,y42)=some res55) ?_ (m:=n85) ?_)
   ·rintro y86 y87 y88 y89 h90 ⟨y45,rfl,rfl,S,rfl⟩
    try dsimp only at hf
    obtain ⟨res56,hL,hf⟩:=oB hf
    obtain ⟨n96,hL⟩:=loopC_iff.1 hL
    refine loopm38_5 (X10:=fun (y97:AV) (y57:Int) (y98:Int) (y99:Int) (h100:Heap)=>St h none' [] h100∧y57=res56) ?_ (loop38_5 (I:=fun (m101:Nat) (y102:AV) (y46:Int) (y103:Int) (y47:Int) (h104:Heap)=>(AV.slice h.n 0 0 ((if 32 < (if x1 < 0 then 0 else x1) then 32 else (if x1 < 0 then 0 else x1)):Int).toNat 1)=y102∧(if 32 < (if x1 < 0 then 0 else x1) then 32 else (if x1 < 0 then 0 else x1))=y103∧St h none' [own (oSl (oSl (fz (rI .i64)))) [(.slice h.n 0 0 ((if 32 < (if x1 < 0 then 0 else x1) then 32 else (if x1 < 0 then 0 else x1)):Int).toNat 1)] y45] h104∧iter (p38_l5 x1 y45) m101 (y46,y47)=some res56) ?_ (m:=n96) ?_)
    ·rintro y97 y57 y98 y99 h100 ⟨S,rfl⟩
     try dsimp only at hf
     refine bI (fun hc=>?_) (fun hc=>?_)
     ·rw [ifD hc] at hf
      obtain rfl:=oi hf
      exact ⟨rfl,S.sel [] rfl⟩
     rw [ifE hc] at hf
     obtain rfl:=oi hf
     exact ⟨rfl,S.sel [] rfl⟩
    ·rintro m105 y102 y46 y103 y47 h104 ⟨rfl,rfl,S,hit⟩
     obtain ⟨m101,q106,rfl,hf,hk⟩:=iter_some hit
     clear hit
     unfold B38_5
     unfold p38_l5 at hf
     try dsimp only at hf
     refine bI (fun hc=>?_) (fun hc=>?_)
     ·rw [ifD hc] at hf
      obtain ⟨e48,he48,hf⟩:=oB hf
      refine ix_go (S.sl (r:=(oSl (fz (rI .i64)))) m0) (Hp.le_refl _) he48 fun pe48=>?_
      obtain ⟨_,cr107,Rr107,Nr107,Or107,Zr107⟩:=SlR.idx (S.sl (r:=(oSl (fz (rI .i64)))) m0) (Hp.le_refl _) he48
      obtain ⟨cr107,rfl,Fr107⟩:=Rr107
      refine ⟨cr107,Zr107 _ rfl,?_⟩
      obtain ⟨e49,he49,hf⟩:=oB hf
      refine ix_go Fr107 (Hp.le_refl _) he49 fun pe49=>?_
      obtain ⟨_,cr108,Rr108,Nr108,Or108,Zr108⟩:=SlR.idx Fr107 (Hp.le_refl _) he49
      obtain rfl:cr108=[(.int .i64 e49)]:=Rr108
      refine ⟨e49,Zr108 _ rfl,?_⟩
      obtain rfl:=oi hf
      exact ⟨m101,Nat.lt_succ_self _,rfl,rfl,S,hk⟩
     rw [ifE hc] at hf
     have S:=S.sel [] rfl
     obtain rfl:=oi hf
     obtain rfl:=hk
     exact ⟨S,rfl⟩
    exact ⟨rfl,rfl,S,hL⟩
   ·rintro m109 y92 y93 y94 y26 h95 ⟨y42,rfl,rfl,rfl,S,hit⟩
    obtain ⟨m91,q110,rfl,hf,hk⟩:=iter_some hit
    clear hit
    unfold B38_4
    unfold p38_l4 at hf
    try dsimp only at hf
    refine bI (fun hc=>?_) (fun hc=>?_)
    ·rw [ifD hc] at hf
     obtain ⟨res43,hL,hf⟩:=oB hf
     obtain ⟨n111,hL⟩:=loopC_iff.1 hL
     refine loopm38_3 (X6:=fun (y112:Int) (y113:AV) (y114:Int) (y115:Int) (y116:Int) (y117:Int) (y118:Int) (h119:Heap)=>∃ (y44:List (List Int)),(if 32 < (if x1 < 0 then 0 else x1) then 32 else (if x1 < 0 then 0 else x1))=y112∧(AV.slice h.n 0 0 ((if 32 < (if x1 < 0 then 0 else x1) then 32 else (if x1 < 0 then 0 else x1)):Int).toNat 1)=y113∧(if 32 < (if x1 < 0 then 0 else x1) then 32 else (if x1 < 0 then 0 else x1))=y115∧y26=y116∧St h none' [own (oSl (oSl (fz (rI .i64)))) [(.slice h.n 0 0 ((if 32 < (if x1 < 0 then 0 else x1) then 32 else (if x1 < 0 then 0 else x1)):Int).toNat 1)] y44] h119∧y44=res43) ?_ (loop38_3 (I:=fun (m120:Nat) (y121:Int) (y122:AV) (y123:Int) (y124:Int) (y125:Int) (y126:Int) (y27:Int) (h127:Heap)=>∃ (y39:List (List Int)),(if 32 < (if x1 < 0 then 0 else x1) then 32 else (if x1 < 0 then 0 else x1))=y121∧(AV.slice h.n 0 0 ((if 32 < (if x1 < 0 then 0 else x1) then 32 else (if x1 < 0 then 0 else x1)):Int).toNat 1)=y122∧y26=y123∧(if 32 < (if x1 < 0 then 0 else x1) then 32 else (if x1 < 0 then 0 else x1))=y124∧y26=y125∧(if 32 < (if x1 < 0 then 0 else x1) then 32 else (if x1 < 0 then 0 else x1))=y126∧St h none' [own (oSl (oSl (fz (rI .i64)))) [(.slice h.n 0 0 ((if 32 < (if x1 < 0 then 0 else x1) then 32 else (if x1 < 0 then 0 else x1)):Int).toNat 1)] y39] h127∧iter (p38_l3 x1 y26) m120 (y27,y39)=some res43) ?_ (m:=n111) ?_)
     ·rintro y112 y113 y114 y115 y116 y117 y118 h119 ⟨y44,rfl,rfl,rfl,rfl,S,rfl⟩
      try dsimp only at hf
      obtain rfl:=oi hf
      exact ⟨m91,Nat.lt_succ_self _,y44,rfl,rfl,rfl,S,hk⟩
     ·rintro m128 y121 y122 y123 y124 y125 y126 y27 h127 ⟨y39,rfl,rfl,rfl,rfl,rfl,rfl,S,hit⟩
      obtain ⟨m120,q129,rfl,hf,hk⟩:=iter_some hit
      clear hit
      unfold B38_3
      unfold p38_l3 at hf
      try dsimp only at hf
      refine bI (fun hc=>?_) (fun hc=>?_)
      ·rw [ifD hc] at hf
       obtain ⟨res40,hL,hf⟩:=oB hf
       obtain ⟨n130,hL⟩:=loopC_iff.1 hL
       refine loopm38_2 (X8:=fun (y131:Int) (y132:AV) (y133:Int) (y134:Int) (y135:Int) (y136:Int) (y137:Int) (y138:Int) (y139:Int) (y140:Int) (h141:Heap)=>∃ (y41:List (List Int)),(if 32 < (if x1 < 0 then 0 else x1) then 32 else (if x1 < 0 then 0 else x1))=y131∧(AV.slice h.n 0 0 ((if 32 < (if x1 < 0 then 0 else x1) then 32 else (if x1 < 0 then 0 else x1)):Int).toNat 1)=y132∧y26=y133∧(if 32 < (if x1 < 0 then 0 else x1) then 32 else (if x1 < 0 then 0 else x1))=y135∧y26=y136∧(if 32 < (if x1 < 0 then 0 else x1) then 32 else (if x1 < 0 then 0 else x1))=y137∧y27=y138∧St h none' [own (oSl (oSl (fz (rI .i64)))) [(.slice h.n 0 0 ((if 32 < (if x1 < 0 then 0 else x1) then 32 else (if x1 < 0 then 0 else x1)):Int).toNat 1)] y41] h141∧y41=res40) ?_ (loop38_2 (I:=fun (m142:Nat) (y143:Int) (y144:AV) (y145:Int) (y146:Int) (y147:Int) (y148:Int) (y149:Int) (y150:Int) (y151:Int) (y28:Int) (h152:Heap)=>∃ (y29:List (List Int)),(if 32 < (if x1 < 0 then 0 else x1) then 32 else (if x1 < 0 then 0 else x1))=y143∧(AV.slice h.n 0 0 ((if 32 < (if x1 < 0 then 0 else x1) then 32 else (if x1 < 0 then 0 else x1)):Int).toNat 1)=y144∧y26=y145∧y27=y146∧(if 32 < (if x1 < 0 then 0 else x1) then 32 else (if x1 < 0 then 0 else x1))=y147∧y26=y148∧(if 32 < (if x1 < 0 then 0 else x1) then 32 else (if x1 < 0 then 0 else x1))=y149∧y27=y150∧(if 32 < (if x1 < 0 then 0 else x1) then 32 else (if x1 < 0 then 0 else x1))=y151∧St h none' [own (oSl (oSl (fz (rI .i64)))) [(.slice h.n 0 0 ((if 32 < (if x1 < 0 then 0 else x1) then 32 else (if x1 < 0 then 0 else x1)):Int).toNat 1)] y29] h152∧iter (p38_l2 x1 y26 y27) m142 (y28,y29)=some res40) ?_ (m:=n130) ?_)
       ·rintro y131 y132 y133 y134 y135 y136 y137 y138 y139 y140 h141 ⟨y41,rfl,rfl,rfl,rfl,rfl,rfl,rfl,S,rfl⟩
        try dsimp only at hf
        obtain rfl:=oi hf
        exact ⟨m120,Nat.lt_succ_self _,y41,rfl,rfl,rfl,rfl,rfl,rfl,S,hk⟩
       ·rintro m153 y143 y144 y145 y146 y147 y148 y149 y150 y151 y28 h152 ⟨y29,rfl,rfl,rfl,rfl,rfl,rfl,rfl,rfl,rfl,S,hit⟩
        obtain ⟨m142,q154,rfl,hf,hk⟩:=iter_some hit
        clear hit
        unfold B38_2
        unfold p38_l2 at hf
        try dsimp only at hf
        refine bI (fun hc=>?_) (fun hc=>?_)
        ·rw [ifD hc] at hf
         obtain ⟨e30,he30,hf⟩:=oB hf
         refine ix_go (S.sl (r:=(oSl (fz (rI .i64)))) m0) (Hp.le_refl _) he30 fun pe30=>?_
         obtain ⟨_,cr155,Rr155,Nr155,Or155,Zr155⟩:=SlR.idx (S.sl (r:=(oSl (fz (rI .i64)))) m0) (Hp.le_refl _) he30
         obtain ⟨cr155,rfl,Fr155⟩:=Rr155
         refine ⟨cr155,Zr155 _ rfl,?_⟩
         obtain ⟨e31,he31,hf⟩:=oB hf
         refine ix_go (S.sl (r:=(oSl (fz (rI .i64)))) m0) (Hp.le_refl _) he31 fun pe31=>?_
         obtain ⟨_,cr156,Rr156,Nr156,Or156,Zr156⟩:=SlR.idx (S.sl (r:=(oSl (fz (rI .i64)))) m0) (Hp.le_refl _) he31
         obtain ⟨cr156,rfl,Fr156⟩:=Rr156
         refine ⟨cr156,Zr156 _ rfl,?_⟩
         obtain ⟨e32,he32,hf⟩:=oB hf
         refine ix_go Fr156 (Hp.le_refl _) he32 fun pe32=>?_
         obtain ⟨_,cr157,Rr157,Nr157,Or157,Zr157⟩:=SlR.idx Fr156 (Hp.le_refl _) he32
         obtain rfl:cr157=[(.int .i64 e32)]:=Rr157
         refine ⟨e32,Zr157 _ rfl,?_⟩
         obtain ⟨e33,he33,hf⟩:=oB hf
         refine ix_go (S.sl (r:=(oSl (fz (rI .i64)))) m0) (Hp.le_refl _) he33 fun pe33=>?_
         obtain ⟨_,cr158,Rr158,Nr158,Or158,Zr158⟩:=SlR.idx (S.sl (r:=(oSl (fz (rI .i64)))) m0) (Hp.le_refl _) he33
         obtain ⟨cr158,rfl,Fr158⟩:=Rr158
         refine ⟨cr158,Zr158 _ rfl,?_⟩
         obtain ⟨e34,he34,hf⟩:=oB hf
         refine ix_go Fr158 (Hp.le_refl _) he34 fun pe34=>?_
         obtain ⟨_,cr159,Rr159,Nr159,Or159,Zr159⟩:=SlR.idx Fr158 (Hp.le_refl _) he34
         obtain rfl:cr159=[(.int .i64 e34)]:=Rr159
         refine ⟨e34,Zr159 _ rfl,?_⟩
         obtain ⟨e35,he35,hf⟩:=oB hf
         refine ix_go (S.sl (r:=(oSl (fz (rI .i64)))) m0) (Hp.le_refl _) he35 fun pe35=>?_
         obtain ⟨_,cr160,Rr160,Nr160,Or160,Zr160⟩:=SlR.idx (S.sl (r:=(oSl (fz (rI .i64)))) m0) (Hp.le_refl _) he35
         obtain ⟨cr160,rfl,Fr160⟩:=Rr160
         refine ⟨cr160,Zr160 _ rfl,?_⟩
         obtain ⟨e36,he36,hf⟩:=oB hf
         refine ix_go Fr160 (Hp.le_refl _) he36 fun pe36=>?_
         obtain ⟨_,cr161,Rr161,Nr161,Or161,Zr161⟩:=SlR.idx Fr160 (Hp.le_refl _) he36
         obtain rfl:cr161=[(.int .i64 e36)]:=Rr161
         refine ⟨e36,Zr161 _ rfl,?_⟩
         obtain ⟨e37,he37,hf⟩:=oB hf
         refine ix_go Fr155 (Hp.le_refl _) he37 fun pe37=>?_
         obtain ⟨e38,he38,hf⟩:=oB hf
         obtain ⟨cc162,lc162,S⟩:=St.out S he30
         obtain ⟨c162,rfl⟩:∃ a,cc162=[a]:=len1' lc162
         have qB:=(S.hrd m1).2.2.2.2.2 _ rfl
         obtain rfl:cr155=c162:=Option.some.inj ((Zr155 _ rfl).symm.trans qB)
         obtain ⟨h163,e164,S⟩:=St.setE (r:=(rI .i64)) (x':=(if (IntKind.wrap .i64 (e34+e36)) < e32 then (IntKind.wrap .i64 (e34+e36)) else e32)) (k:=0) (n:=1) (y:=(.int .i64 (if (IntKind.wrap .i64 (e34+e36)) < e32 then (IntKind.wrap .i64 (e34+e36)) else e32))) S he37 rfl rfl (nl rfl) (by rintro _ h; obtain rfl:=h; exact rfl)
         rw [padd_zero] at e164
         have S:St _ _ [own (oSl (fz (rI .i64))) [cr155] e38,_] _:=S.cast1 (by rw [← oi he38]<;>rfl)
         refine ⟨h163,e164,?_⟩
         have S:St _ _ [own (oSl (oSl (fz (rI .i64)))) [(.slice h.n 0 0 ((if 32 < (if x1 < 0 then 0 else x1) then 32 else (if x1 < 0 then 0 else x1)):Int).toNat 1)] (y29.set (y27:Int).toNat e38)] _:=S.back
         obtain rfl:=oi hf
         exact ⟨m142,Nat.lt_succ_self _,(y29.set (y27:Int).toNat e38),rfl,rfl,rfl,rfl,rfl,rfl,rfl,rfl,rfl,S,hk⟩
        rw [ifE hc] at hf
        obtain rfl:=oi hf
        obtain rfl:=hk
        exact ⟨y29,rfl,rfl,rfl,rfl,rfl,rfl,rfl,S,rfl⟩
       exact ⟨y39,rfl,rfl,rfl,rfl,rfl,rfl,rfl,rfl,rfl,S,hL⟩
      rw [ifE hc] at hf
      obtain rfl:=oi hf
      obtain rfl:=hk
      exact ⟨y39,rfl,rfl,rfl,rfl,S,rfl⟩
     exact ⟨y42,rfl,rfl,rfl,rfl,rfl,rfl,S,hL⟩
    rw [ifE hc] at hf
    obtain rfl:=oi hf
    obtain rfl:=hk
    exact ⟨y42,rfl,rfl,S,rfl⟩
   exact ⟨y54,rfl,rfl,rfl,S,hL⟩
  ·rintro m165 y80 y81 y82 y83 y14 h84 ⟨y16,rfl,rfl,rfl,rfl,S,hit⟩
   obtain ⟨m79,q166,rfl,hf,hk⟩:=iter_some hit
   clear hit
   unfold B38_1
   unfold p38_l1 at hf
   try dsimp only at hf
   refine bI (fun hc=>?_) (fun hc=>?_)
   ·rw [ifD hc] at hf
    obtain ⟨e17,he17,hf⟩:=oB hf
    refine ix_go f0_0 (sM S.le) he17 fun pe17=>?_
    obtain ⟨_,cr167,Rr167,Nr167,Or167,Zr167⟩:=SlR.idx f0_0 (sM S.le) he17
    obtain rfl:=rLane_open Rr167
    refine ⟨(.int .i64 e17.From),(.int .i64 e17.To),(.int .i64 e17.Ahead),Nr167,?_⟩
    intro h168
    have S:St _ _ [rowC h84.n [(.int .i64 0),(.int .i64 0),(.int .i64 0)] 0,_] _:=S.pushRow [(.int .i64 0),(.int .i64 0),(.int .i64 0)]
    obtain ⟨h169,e170,S⟩:=S.store (off:=0) (n:=3) (x:=(.agg [(.int .i64 e17.From),(.int .i64 e17.To),(.int .i64 e17.Ahead)])) (cs':=[(.int .i64 e17.From),(.int .i64 e17.To),(.int .i64 e17.Ahead)]) (nl rfl) rfl rfl rfl
    refine ⟨h169,e170,?_⟩
    refine ⟨e17.From,S.rd1 m0 rfl,?_⟩
    obtain ⟨y24,hy24,hf⟩:=oB hf
    refine ⟨_,Fz.refl _,?_⟩
    refine (r53 (i0:=e17.From) (n1:=(if 32 < (if x1 < 0 then 0 else x1) then 32 else (if x1 < 0 then 0 else x1))) hy24).mono fun v171 h172 T=>?_
    obtain ⟨rfl,T⟩:=T
    have S:St _ _ [_,_] _:=S.comp T
    refine ⟨y24,rfl,?_⟩
    intro jjj1
    have hjj1:∀ (b18:Bool) (h173:Heap),p38_j1 y14 y16 e17 b18=some q166→St h none' [own (oSl (oSl (fz (rI .i64)))) [(.slice h.n 0 0 ((if 32 < (if x1 < 0 then 0 else x1) then 32 else (if x1 < 0 then 0 else x1)):Int).toNat 1)] y16,rowC h84.n [(.int .i64 e17.From),(.int .i64 e17.To),(.int .i64 e17.Ahead)] 0] h173→jjj1 b18 h173:=by
     rintro b18 h173 hf S
     unfold p38_j1 at hf
     unfold jjj1
     intro jjj0
     have hjj0:∀  (h174:Heap) (y15:List (List Int)),p38_j0 y14 y15=some q166→St h none' [own (oSl (oSl (fz (rI .i64)))) [(.slice h.n 0 0 ((if 32 < (if x1 < 0 then 0 else x1) then 32 else (if x1 < 0 then 0 else x1)):Int).toNat 1)] y15] h174→jjj0 h174:=by
      rintro h174 y15 hf S
      unfold p38_j0 at hf
      unfold jjj0
      obtain rfl:=oi hf
      exact ⟨m79,Nat.lt_succ_self _,y15,rfl,rfl,rfl,rfl,S,hk⟩
     refine bI (fun hc=>?_) (fun hc=>?_)
     ·rw [ifT hc] at hf
      refine iI.2 ⟨rfl,?_⟩
      refine ⟨e17.From,S.rd1 m1 rfl,?_⟩
      obtain ⟨e19,he19,hf⟩:=oB hf
      refine ix_go (S.sl (r:=(oSl (fz (rI .i64)))) m0) (Hp.le_refl _) he19 fun pe19=>?_
      obtain ⟨_,cr175,Rr175,Nr175,Or175,Zr175⟩:=SlR.idx (S.sl (r:=(oSl (fz (rI .i64)))) m0) (Hp.le_refl _) he19
      obtain ⟨cr175,rfl,Fr175⟩:=Rr175
      refine ⟨cr175,Zr175 _ rfl,?_⟩
      refine iI.2 ⟨rfl,?_⟩
      refine ⟨e17.To,S.rd1 m1 rfl,?_⟩
      refine iI.2 ⟨rfl,?_⟩
      refine ⟨e17.From,S.rd1 m1 rfl,?_⟩
      obtain ⟨e20,he20,hf⟩:=oB hf
      refine ix_go (S.sl (r:=(oSl (fz (rI .i64)))) m0) (Hp.le_refl _) he20 fun pe20=>?_
      obtain ⟨_,cr176,Rr176,Nr176,Or176,Zr176⟩:=SlR.idx (S.sl (r:=(oSl (fz (rI .i64)))) m0) (Hp.le_refl _) he20
      obtain ⟨cr176,rfl,Fr176⟩:=Rr176
      refine ⟨cr176,Zr176 _ rfl,?_⟩
      refine iI.2 ⟨rfl,?_⟩
      refine ⟨e17.To,S.rd1 m1 rfl,?_⟩
      obtain ⟨e21,he21,hf⟩:=oB hf
      refine ix_go Fr176 (Hp.le_refl _) he21 fun pe21=>?_
      obtain ⟨_,cr177,Rr177,Nr177,Or177,Zr177⟩:=SlR.idx Fr176 (Hp.le_refl _) he21
      obtain rfl:cr177=[(.int .i64 e21)]:=Rr177
      refine ⟨e21,Zr177 _ rfl,?_⟩
      refine iI.2 ⟨rfl,?_⟩
      refine ⟨e17.Ahead,S.rd1 m1 rfl,?_⟩
      obtain ⟨e22,he22,hf⟩:=oB hf
      refine ix_go Fr175 (Hp.le_refl _) he22 fun pe22=>?_
      obtain ⟨e23,he23,hf⟩:=oB hf
      obtain ⟨cc178,lc178,S⟩:=St.out S he19
      obtain ⟨c178,rfl⟩:∃ a,cc178=[a]:=len1' lc178
      have qB:=(S.hrd m1).2.2.2.2.2 _ rfl
      obtain rfl:cr175=c178:=Option.some.inj ((Zr175 _ rfl).symm.trans qB)
      obtain ⟨h179,e180,S⟩:=St.setE (r:=(rI .i64)) (x':=(if e17.Ahead < e21 then e17.Ahead else e21)) (k:=0) (n:=1) (y:=(.int .i64 (if e17.Ahead < e21 then e17.Ahead else e21))) S he22 rfl rfl (nl rfl) (by rintro _ h; obtain rfl:=h; exact rfl)
      rw [padd_zero] at e180
      have S:St _ _ [own (oSl (fz (rI .i64))) [cr175] e23,_,_] _:=S.cast1 (by rw [← oi he23]<;>rfl)
      refine ⟨h179,e180,?_⟩
      have S:St _ _ [own (oSl (oSl (fz (rI .i64)))) [(.slice h.n 0 0 ((if 32 < (if x1 < 0 then 0 else x1) then 32 else (if x1 < 0 then 0 else x1)):Int).toNat 1)] (y16.set (e17.From:Int).toNat e23),_] _:=S.back
      have S:=S.sel [0] rfl
      exact hjj0  _ (y16.set (e17.From:Int).toNat e23) hf  S
     rw [ifF hc] at hf
     have S:=S.sel [0] rfl
     exact hjj0  _ y16 hf  S
    refine bI (fun hc=>?_) (fun hc=>?_)
    ·rw [ifT hc] at hf
     refine ⟨e17.To,S.rd1 m0 rfl,?_⟩
     obtain ⟨y25,hy25,hf⟩:=oB hf
     refine ⟨_,Fz.refl _,?_⟩
     refine (r53 (i0:=e17.To) (n1:=(if 32 < (if x1 < 0 then 0 else x1) then 32 else (if x1 < 0 then 0 else x1))) hy25).mono fun v181 h182 T=>?_
     obtain ⟨rfl,T⟩:=T
     have S:St _ _ [_,_] _:=S.comp T
     refine ⟨y25,rfl,?_⟩
     have S:=S.sel [1,0] rfl
     exact hjj1 _ _  hf  S
    rw [ifF hc] at hf
    have S:=S.sel [1,0] rfl
    exact hjj1 _ _  hf  S
   rw [ifE hc] at hf
   obtain rfl:=oi hf
   obtain rfl:=hk
   exact ⟨y16,rfl,rfl,S,rfl⟩
  exact ⟨y52,rfl,rfl,rfl,rfl,S,hL⟩
 ·rintro m183 y67 y68 y69 y70 y10 h71 ⟨y11,rfl,rfl,rfl,rfl,S,hit⟩
  obtain ⟨m66,q184,rfl,hf,hk⟩:=iter_some hit
  clear hit
  unfold B38_0
  unfold p38_l0 at hf
  try dsimp only at hf
  refine bI (fun hc=>?_) (fun hc=>?_)
  ·rw [ifD hc] at hf
   intro h185
   have S:St _ _ [rowC h71.n [(.int .i64 1152921504606846976)] 0,_] _:=S.pushRow [(.int .i64 1152921504606846976)]
   obtain ⟨y12,hy12,hf⟩:=oB hf
   have S:St _ _ [own (oSl (fz (rI .i64))) [(.slice h71.n 0 0 1 1)] [1152921504606846976],_] _:=St.lit (r:=(rI .i64)) (els:=([1152921504606846976]:List Int).map fun n=>[AV.int .i64 n]) (l:=([1152921504606846976]:List Int)) (n:=1) S rfl (all2_intL _) rfl
   refine ⟨_,Fz.refl _,?_⟩
   refine (r52 (x0:=[1152921504606846976]) (count1:=(if 32 < (if x1 < 0 then 0 else x1) then 32 else (if x1 < 0 then 0 else x1))) (f0_0:=(S.sl (r:=(fz (rI .i64))) m0)) hy12).mono fun v186 h187 T=>?_
   have S:St _ _ [own (oSl (fz (rI .i64))) [v186] y12,_,_] _:=S.comp T
   obtain ⟨e13,he13,hf⟩:=oB hf
   refine ix_go (S.sl (r:=(oSl (fz (rI .i64)))) m2) (Hp.le_refl _) he13 fun pe13=>?_
   have S:=S.sel [2,0,1] rfl
   obtain ⟨cc188,lc188,S⟩:=St.out S he13
   obtain ⟨c188,rfl⟩:∃ a,cc188=[a]:=len1' lc188
   have S:=S.sel [1,0,2,3] rfl
   obtain ⟨h189,e190,S⟩:=S.hset (k:=0) (n:=1) (y:=v186) (c':=[v186]) (by rw [sl_cells ((S.sl (r:=(fz (rI .i64))) m2)).is]; rfl) (sl_tup ((S.sl (r:=(fz (rI .i64))) m2)).is) (nl rfl) (by rw [sl_cells ((S.sl (r:=(fz (rI .i64))) m2)).is]; rfl)
   rw [padd_zero] at e190
   refine ⟨h189,e190,?_⟩
   have S:=S.sel [2,0,1,3] rfl
   have S:St _ _ [own (oSl (oSl (fz (rI .i64)))) [(.slice h.n 0 0 ((if 32 < (if x1 < 0 then 0 else x1) then 32 else (if x1 < 0 then 0 else x1)):Int).toNat 1)] (y11.set (y10:Int).toNat y12),_,_] _:=S.back
   have S:=S.sel [0] rfl
   obtain rfl:=oi hf
   exact ⟨m66,Nat.lt_succ_self _,(y11.set (y10:Int).toNat y12),rfl,rfl,rfl,rfl,S,hk⟩
  rw [ifE hc] at hf
  obtain rfl:=oi hf
  obtain rfl:=hk
  exact ⟨y11,rfl,rfl,rfl,S,rfl⟩
 exact ⟨y50,rfl,rfl,rfl,rfl,S,hL⟩
end
end Go.Proofs.Ytgbkpiaonlabgaa
