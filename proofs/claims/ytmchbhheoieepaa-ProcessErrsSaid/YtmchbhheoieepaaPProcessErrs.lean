/- Functions that take functions: their pure functions, and that the machine's functions answer as they do. No condition. Own work. -/
import Derived.Test.YtmchbhheoieepaaAm6ProcessErrs
import Derived.Test.YtmchbhheoieepaaCProcessErrs
import Derived.KernelRfl
import Derived.Test.YtmchbhheoieepaaEProcessErrs
set_option linter.unusedSimpArgs false
set_option linter.unusedVariables false
namespace Go.Proofs.Ytmchbhheoieepaa
open Go Go.Am
abbrev KT:=AV→Heap→Prop
abbrev T_0:=AV→AV→Int→AV→Int→Heap→Prop
abbrev T_1:=AV→AV→AV→Int→Heap→Prop
abbrev T_2:=List UInt8→Bool→AV→Heap→Prop
abbrev M3 {α0 α1 α2:Type} (R R':α0→α1→α2→Heap→Prop):Prop:=∀ ⦃a b c h⦄,R a b c h→R' a b c h
abbrev Lw3 {α0 α1 α2:Type} (I:Nat→α0→α1→α2→Heap→Prop) (z:Nat):α0→α1→α2→Heap→Prop:=fun a b c h=>∃ y,y < z∧I y a b c h
abbrev M4 {α0 α1 α2 α3:Type} (R R':α0→α1→α2→α3→Heap→Prop):Prop:=∀ ⦃a b c d h⦄,R a b c d h→R' a b c d h
abbrev Lw4 {α0 α1 α2 α3:Type} (I:Nat→α0→α1→α2→α3→Heap→Prop) (z:Nat):α0→α1→α2→α3→Heap→Prop:=fun a b c d h=>∃ y,y < z∧I y a b c d h
abbrev M5 {α0 α1 α2 α3 α4:Type} (R R':α0→α1→α2→α3→α4→Heap→Prop):Prop:=∀ ⦃a b c d e h⦄,R a b c d e h→R' a b c d e h
abbrev Lw5 {α0 α1 α2 α3 α4:Type} (I:Nat→α0→α1→α2→α3→α4→Heap→Prop) (z:Nat):α0→α1→α2→α3→α4→Heap→Prop:=fun a b c d e h=>∃ y,y < z∧I y a b c d e h
theorem Jz:Eg.code=s50.er:=by kernel_rfl
def B0 (X2:T_0):T_0:=jK F pB [2] sW (fun _ _ _ _ _ _=>False) [X2]
def Ax (N X2:T_0):T_0:=fun z0 z1 z5 z6 z7 h=>ifP z6.isSlice ((bP (decide (z7 < (z6.slen:Int))) (ifP z6.isSlice (0≤z7∧z7 < (z6.slen:Int)∧∃ c1,∃ c2,∃ c3,h.rdN (z6.at ((z7:Int).toNat * 3)) 3=some [c1,c2,c3]∧ifP z6.isSlice (0≤(IntKind.wrap .i64 (z7 - 1))∧(IntKind.wrap .i64 (z7 - 1)) < (z6.slen:Int)∧∃ c4,∃ c5,∃ c6,h.rdN (z6.at (((IntKind.wrap .i64 (z7 - 1)):Int).toNat * 3)) 3=some [c4,c5,c6]∧∃ h7,Fz h h7∧mL F z1 [(.agg [c1,c2,c3]),(.agg [c4,c5,c6])] h7 fun v8 h9=>∃ b10,v8=(AV.bool b10)∧let j11:Int→Heap→Prop:=(fun y13 h12=>N z0 z1 y13 z6 (IntKind.wrap .i64 (z7+1)) h12); bP (!b10) (ifP z6.isSlice (0≤z7∧z7 < (z6.slen:Int)∧∃ c14,∃ c15,∃ c16,h9.rdN (z6.at ((z7:Int).toNat * 3)) 3=some [c14,c15,c16]∧ifP z0.isSlice (0≤z5∧z5 < (z0.slen:Int)∧∃ h17,EOp.ev (.store 3) [(z0.at ((z5:Int).toNat * 3)),(.agg [c14,c15,c16])] h9=some (.undef,h17)∧j11 (IntKind.wrap .i64 (z5+1)) h17))) (j11 z5 h9)))) (X2 z0 z1 z5 z6 z7 h)))
theorem Cj {X2 X2':T_0} (hX2:M5 X2 X2') (I:Nat→T_0) (hb:∀ m,M5 (I m) (Ax (Lw5 I m) X2)) {m:Nat}:M5 (I m) (B0 X2'):=slp (F:=F) (live:=pB) (xs:=[2]) (b:=sW) (R:=(fun _ _ _ _ _ _=>False)) (R':=(fun _ _ _ _ _ _=>False)) (iR _ _) (.cons hX2 .nil) (fun N=>(by kernel_rfl:Ax N X2=Rnd F pB [2] sW N (fun _ _ _ _ _ _=>False) [X2])) I hb m
def Co (R X0:T_1):T_1:=jK F oS [0] tK R [X0]
def Av (N R X0:T_1):T_1:=fun z0 z1 z4 z5 h=>ifP z0.isSlice ((bP (decide (z5 < (z0.slen:Int))) (ifP z0.isSlice (0≤z5∧z5 < (z0.slen:Int)∧∃ c1,∃ c2,∃ c3,h.rdN (z0.at ((z5:Int).toNat * 3)) 3=some [c1,c2,c3]∧ifP z0.isSlice (0≤(IntKind.wrap .i64 (z5 - 1))∧(IntKind.wrap .i64 (z5 - 1)) < (z0.slen:Int)∧∃ c4,∃ c5,∃ c6,h.rdN (z0.at (((IntKind.wrap .i64 (z5 - 1)):Int).toNat * 3)) 3=some [c4,c5,c6]∧∃ h7,Fz h h7∧mL F z1 [(.agg [c1,c2,c3]),(.agg [c4,c5,c6])] h7 fun v8 h9=>∃ b10,v8=(AV.bool b10)∧bP b10 (oP (POp.ev (.sliceSl 3 true false) [z0,(.int .i64 z5)]) fun v11=>B0 (fun (y13:AV) (y14:AV) (y15:Int) (y16:AV) (y17:Int) (h12:Heap)=>oP (POp.ev (.sliceSl 3 true false) [y13,(.int .i64 y15)]) fun v18=>∃ v20 h19,EOp.ev (.clear [(.int .i64 0),(.int .i64 0),(.int .i64 0)]) [v18] h12=some (v20,h19)∧oP (POp.ev (.sliceSl 3 false true) [y13,(.int .i64 y15)]) fun v21=>R y13 y14 v21 y15 h19) z0 z1 z5 v11 1 h9) (N z0 z1 z4 (IntKind.wrap .i64 (z5+1)) h9)))) (X0 z0 z1 z4 z5 h)))
theorem BV {R X0 R' X0':T_1} (hR:M4 R R') (hX0:M4 X0 X0') (I:Nat→T_1) (hb:∀ m,M4 (I m) (Av (Lw4 I m) R X0)) {m:Nat}:M4 (I m) (Co R' X0'):=slp (F:=F) (live:=oS) (xs:=[0]) (b:=tK) (R:=R) (R':=R') hR (.cons hX0 .nil) (fun N=>(by kernel_rfl:Av N R X0=Rnd F oS [0] tK N R [X0])) I hb m
def W50 (K:KT) (a0:AV) (a1:AV) (h:Heap):Prop:=ifP a0.isSlice ((bP (decide ((a0.slen:Int) < 2)) (K a0 h) (Co (fun (y2:AV) (y3:AV) (y4:AV) (y5:Int) (h1:Heap)=>K y4 h1) (fun (y7:AV) (y8:AV) (y9:AV) (y10:Int) (h6:Heap)=>K y7 h6) a0 a1 .nilSlice 1 h)))
theorem w50 {K:KT} {a0:AV} {a1:AV} {h:Heap}:W50 K a0 a1 h→ZC F 50 [a0,a1] h K:=Je (s:=s50) (fn:=Eg) rfl Jz rfl (by kernel_rfl)
def Fo (R X0:T_2):T_2:=jK F vW [0] CA R [X0]
def HD (N R X0:T_2):T_2:=fun z0 z2 z6 h=>∃ v2 h1,EOp.ev .nextStr [z6] h=some (v2,h1)∧oP (POp.ev (.extract 0) [v2]) fun v3=>∃ b4,v3=(AV.bool b4)∧bP b4 (oP (POp.ev (.extract 1) [v2]) fun v5=>∃ n6,v5=(AV.int .i64 n6)∧oP (POp.ev (.extract 2) [v2]) fun v7=>∃ n8,v7=(AV.int .i32 n8)∧let j9:Bool→Heap→Prop:=(fun b10 h11=>bP b10 (R z0 false z6 h11) (N z0 z2 z6 h11)); bP (decide (122 < n8)) (j9 true h1) (∃ h12,Fz h1 h12∧ZC F 105 [(.int .u8 (IntKind.wrap .u8 n8))] h12 fun v13 h14=>∃ b15,v13=(AV.bool b15)∧let j16:Bool→Heap→Prop:=(fun b17 h18=>j9 b17 h18); bP (!b15) ((let j19:Bool→Heap→Prop:=(fun b20 h21=>j16 b20 h21); bP (decide (n6=0)) (j19 true h14) (∃ h22,Fz h14 h22∧ZC F 106 [(.int .u8 (IntKind.wrap .u8 n8))] h22 fun v23 h24=>∃ b25,v23=(AV.bool b25)∧let j26:Bool→Heap→Prop:=(fun b27 h28=>j19 b27 h28); bP (!b25) (j26 (!decide (n8=46)) h24) (j26 false h24)))) (j16 false h14))) (X0 z0 z2 z6 h1)
def W96 (K:KT) (a0:List UInt8) (h:Heap):Prop:=oP (NOp.ob .rangeStr [(.str a0)] h) fun o2=>let h1:Heap:=h.push o2; Fo (fun (y4:List UInt8) (y5:Bool) (y6:AV) (h3:Heap)=>K (.bool y5) h3) (fun (y8:List UInt8) (y9:Bool) (y10:AV) (h7:Heap)=>let j11:Bool→Heap→Prop:=(fun b12 h13=>K (.bool b12) h13); bP (!(y8==[])) (j11 (decide ((y8.length:Int)≤(12:Int))) h7) (j11 false h7)) a0 false (.iter h.n) h1
def JQ (K:KT) (a0:Int) (h:Heap):Prop:=(let j1:Bool→Heap→Prop:=(fun b2 h3=>K (.bool b2) h3); bP (decide (97≤a0)) (j1 (decide (a0≤(122:Int))) h) (j1 false h))
def JR (K:KT) (a0:Int) (h:Heap):Prop:=(let j1:Bool→Heap→Prop:=(fun b2 h3=>K (.bool b2) h3); bP (decide (48≤a0)) (j1 (decide (a0≤(57:Int))) h) (j1 false h))
end Go.Proofs.Ytmchbhheoieepaa
namespace Go.Proofs.Ytmchbhheoieepaa
open Go Go.Am
noncomputable def o9 (y10:Int) (y11:Int) (y12:List TLane):Option ((Int×Int×(List TLane))⊕(Int×(List TLane))):=some (.inl (y11,(IntKind.wrap .i64 (y10+(1:Int))),y12))
noncomputable def sq (x0:List TLane) (x1:TLane→TLane→Option Bool) (y13:Int) (st:Int×Int×(List TLane)):Option ((Int×Int×(List TLane))⊕(Int×(List TLane))):=match st with | (y14,y10,y15)=>(slc y15 y13 (x0.length:Int)).bind fun w16=>if y10 < (w16.length:Int) then ((idx w16 y10).bind fun e17=>(idx w16 (IntKind.wrap .i64 (y10 - (1:Int)))).bind fun e18=>(x1 e17 e18).bind fun r19=>if (!r19)=true then ((idx w16 y10).bind fun e20=>(idx y15 y14).bind fun e21=>(some (y15.set (y14:Int).toNat e20)).bind fun y22=>o9 y10 (IntKind.wrap .i64 (y14+(1:Int))) y22) else (o9 y10 y14 y15)) else (some (.inr (y14,y15)))
noncomputable def uC (x0:List TLane) (x1:TLane→TLane→Option Bool) (y13:Int):Option (Int⊕((List TLane)⊕Unit)):=if y13 < (x0.length:Int) then ((idx x0 y13).bind fun e23=>(idx x0 (IntKind.wrap .i64 (y13 - (1:Int)))).bind fun e24=>(x1 e23 e24).bind fun r25=>if r25=true then ((slc x0 y13 (x0.length:Int)).bind fun y26=>(qy (sq x0 x1 y13) (y13,(1:Int),x0)).bind fun res27=>(match res27 with | (y28,y29)=>(slc y29 y28 (y29.length:Int)).bind fun y30=>(neL y30).bind fun u31=>(slc (wr y29 (y28:Int).toNat (((y29.length:Int):Int).toNat - (y28:Int).toNat) (TLane.mk (0:Int) (0:Int) (0:Int))) (0:Int) y28).bind fun y32=>some (.inr (.inl y32)))) else (some (.inl (IntKind.wrap .i64 (y13+(1:Int)))))) else (some (.inr (.inr ())))
noncomputable def p50 (x0:List TLane) (x1:TLane→TLane→Option Bool):Option (List TLane):=if (x0.length:Int) < (2:Int) then (some x0) else ((qy (uC x0 x1) (1:Int)).bind fun res33=>(match res33 with | .inl y34=>some y34 | .inr _=>some x0))
theorem r50 {h:Heap} {a0_0:AV} {a1_0:AV} {M:Nat→Prop} {x0:List TLane} {x1:TLane→TLane→Option Bool} (S:St h M [own (oSl (fz bf)) [a0_0] x0] h) (f1_0:∀ (h':Heap) (y0:TLane) (y1:TLane) r,x1 y0 y1=some r→mL F a1_0 [.agg [.int .i64 y0.From,.int .i64 y0.To,.int .i64 y0.Ahead],.agg [.int .i64 y1.From,.int .i64 y1.To,.int .i64 y1.Ahead]] h' fun v h2=>v=.bool r∧St h' fr [] h2) {r:(List TLane)} (hf:p50 x0 x1=some r):ZC F 50 [a0_0,a1_0] h fun v h'=>St h M [own (oSl (fz bf)) [v] r] h':=by
 refine w50 ?_
 unfold W50
 unfold p50 at hf
 refine iI.2 ⟨((S.sl (r:=(fz bf)) m0)).is,?_⟩
 try rw [show (a0_0).slen=_ from ((S.sl (r:=(fz bf)) m0)).slen]
 refine ft (fun hc=>?_) (fun hc=>?_)
 ·rw [ifD hc] at hf
  obtain rfl:=oi hf
  exact S.sel [0] rfl
 rw [ifE hc] at hf
 obtain ⟨res33,hL,hf⟩:=oB hf
 obtain ⟨n35,hL⟩:=fe.1 hL
 refine BV (R:=fun y36 y37 y38 y39 h40=>∃ (y34:List TLane),St h M [own (oSl (fz bf)) [y38] y34] h40∧(.inl y34)=res33) (X0:=fun y41 y42 y43 y44 h45=>a0_0=y41∧St h M [own (oSl (fz bf)) [a0_0] x0] h45∧(.inr ())=res33) ?_ ?_ (I:=fun m46 y47 y48 y49 y13 h50=>a0_0=y47∧a1_0=y48∧St h M [own (oSl (fz bf)) [a0_0] x0] h50∧iter (uC x0 x1) m46 y13=some res33) ?_ (m:=n35) ?_
 ·rintro y36 y37 y38 y39 h40 ⟨y34,S,rfl⟩
  try dsimp only at hf
  obtain rfl:=oi hf
  exact S.sel [0] rfl
 ·rintro y41 y42 y43 y44 h45 ⟨rfl,S,rfl⟩
  try dsimp only at hf
  obtain rfl:=oi hf
  exact S.sel [0] rfl
 ·rintro m51 y47 y48 y49 y13 h50 ⟨rfl,rfl,S,hit⟩
  obtain ⟨m46,q52,rfl,hf,hk⟩:=iQ hit
  clear hit
  unfold Av
  unfold uC at hf
  try dsimp only at hf
  refine iI.2 ⟨((S.sl (r:=(fz bf)) m0)).is,?_⟩
  try rw [show (a0_0).slen=_ from ((S.sl (r:=(fz bf)) m0)).slen]
  refine ft (fun hc=>?_) (fun hc=>?_)
  ·rw [ifD hc] at hf
   obtain ⟨e23,he23,hf⟩:=oB hf
   refine qC (S.sl (r:=(fz bf)) m0) (Hp.le_refl _) he23 fun pe23=>?_
   obtain ⟨_,cr53,Rr53,Nr53,Or53,Zr53⟩:=St.idxO (r:=bf) S m0 he23
   obtain rfl:=cm Rr53
   refine ⟨(.int .i64 e23.From),(.int .i64 e23.To),(.int .i64 e23.Ahead),Nr53,?_⟩
   obtain ⟨e24,he24,hf⟩:=oB hf
   refine qC (S.sl (r:=(fz bf)) m0) (Hp.le_refl _) he24 fun pe24=>?_
   obtain ⟨_,cr54,Rr54,Nr54,Or54,Zr54⟩:=St.idxO (r:=bf) S m0 he24
   obtain rfl:=cm Rr54
   refine ⟨(.int .i64 e24.From),(.int .i64 e24.To),(.int .i64 e24.Ahead),Nr54,?_⟩
   obtain ⟨r25,hr25,hf⟩:=oB hf
   refine ⟨_,Fz.refl _,?_⟩
   refine jS (f1_0 _ e23 e24 _ hr25) fun v55 h56 T=>?_
   obtain ⟨rfl,T⟩:=T
   have S:St _ _ [_] _:=S.comp T
   refine ⟨r25,rfl,?_⟩
   refine ft (fun hc=>?_) (fun hc=>?_)
   ·rw [ifT hc] at hf
    obtain ⟨y26,hy26,hf⟩:=oB hf
    have ey26:=(eh (k:=.i64) (S.sl (r:=(fz bf)) m0) hy26)
    refine oI (a0_0.sub 3 (y13:Int).toNat ((x0.length:Int):Int).toNat) ey26 ?_
    obtain ⟨res27,hL,hf⟩:=oB hf
    obtain ⟨n57,hL⟩:=fe.1 hL
    refine Cj (X2:=fun y58 y59 y28 y60 y61 h62=>∃ (y29:List TLane),a0_0=y58∧St h M [own (oSl (fz bf)) [a0_0] y29] h62∧(y28,y29)=res27) ?_ (I:=fun m63 y64 y65 y14 y66 y10 h67=>∃ (y15:List TLane),a0_0=y64∧a1_0=y65∧(a0_0.sub 3 (y13:Int).toNat ((x0.length:Int):Int).toNat)=y66∧St h M [own (oSl (fz bf)) [a0_0] y15] h67∧iter (sq x0 x1 y13) m63 (y14,y10,y15)=some res27) ?_ (m:=n57) ?_
    ·rintro y58 y59 y28 y60 y61 h62 ⟨y29,rfl,S,rfl⟩
     try dsimp only at hf
     obtain ⟨y30,hy30,hf⟩:=oB hf
     have ey30:=(eh (k:=.i64) (S.sl (r:=(fz bf)) m0) hy30)
     refine oI (a0_0.sub 3 (y28:Int).toNat ((y29.length:Int):Int).toNat) ey30 ?_
     obtain ⟨u31,hu31,hf⟩:=oB hf
     obtain ⟨h68,e69,S⟩:=S.clearV (r:=bf) (z:=3) (z0:=[(.int .i64 0),(.int .i64 0),(.int .i64 0)]) (x0:=(TLane.mk (0:Int) (0:Int) (0:Int))) hy30 hu31 rfl rfl (fun _=>kK (x:=(TLane.mk (0:Int) (0:Int) (0:Int))))
     refine ⟨_,h68,e69,?_⟩
     obtain ⟨y32,hy32,hf⟩:=oB hf
     have ey32:=(gL (k:=.i64) (S.sl (r:=(fz bf)) m0) hy32)
     have S:St _ _ [own (oSl (fz bf)) [(a0_0.sub 3 ((0:Int):Int).toNat (y28:Int).toNat)] y32] _:=(S.sub (ck hy32).1 (ck hy32).2).cast1 (by rw [← eD hy32]<;>rfl)
     refine oI (a0_0.sub 3 ((0:Int):Int).toNat (y28:Int).toNat) ey32 ?_
     obtain rfl:=oi hf
     obtain rfl:=hk
     exact ⟨y32,S,rfl⟩
    ·rintro m70 y64 y65 y14 y66 y10 h67 ⟨y15,rfl,rfl,rfl,S,hit⟩
     obtain ⟨m63,q71,rfl,hf,hk⟩:=iQ hit
     clear hit
     unfold Ax
     unfold sq at hf
     try dsimp only at hf
     obtain ⟨w16,hw16,hf⟩:=oB hf
     have V72:SlR bf (dX h67) (a0_0.sub 3 (y13:Int).toNat ((x0.length:Int):Int).toNat) w16:=eD hw16▸SlR.sub (S.sl (r:=(fz bf)) m0) (ck hw16).1 (ck hw16).2
     refine iI.2 ⟨(V72).is,?_⟩
     try rw [show ((a0_0.sub 3 (y13:Int).toNat ((x0.length:Int):Int).toNat)).slen=_ from (V72).slen]
     refine ft (fun hc=>?_) (fun hc=>?_)
     ·rw [ifD hc] at hf
      obtain ⟨e17,he17,hf⟩:=oB hf
      have V73:SlR bf (dX h67) (a0_0.sub 3 (y13:Int).toNat ((x0.length:Int):Int).toNat) w16:=eD hw16▸SlR.sub (S.sl (r:=(fz bf)) m0) (ck hw16).1 (ck hw16).2
      refine qC V73 (Hp.le_refl _) he17 fun pe17=>?_
      have V74:SlR bf (dX h67) (a0_0.sub 3 (y13:Int).toNat ((x0.length:Int):Int).toNat) w16:=eD hw16▸SlR.sub (S.sl (r:=(fz bf)) m0) (ck hw16).1 (ck hw16).2
      obtain ⟨_,cr75,Rr75,Nr75,Or75,Zr75⟩:=SlR.idx V74 (Hp.le_refl _) he17
      obtain rfl:=cm Rr75
      refine ⟨(.int .i64 e17.From),(.int .i64 e17.To),(.int .i64 e17.Ahead),Nr75,?_⟩
      obtain ⟨e18,he18,hf⟩:=oB hf
      have V76:SlR bf (dX h67) (a0_0.sub 3 (y13:Int).toNat ((x0.length:Int):Int).toNat) w16:=eD hw16▸SlR.sub (S.sl (r:=(fz bf)) m0) (ck hw16).1 (ck hw16).2
      refine qC V76 (Hp.le_refl _) he18 fun pe18=>?_
      have V77:SlR bf (dX h67) (a0_0.sub 3 (y13:Int).toNat ((x0.length:Int):Int).toNat) w16:=eD hw16▸SlR.sub (S.sl (r:=(fz bf)) m0) (ck hw16).1 (ck hw16).2
      obtain ⟨_,cr78,Rr78,Nr78,Or78,Zr78⟩:=SlR.idx V77 (Hp.le_refl _) he18
      obtain rfl:=cm Rr78
      refine ⟨(.int .i64 e18.From),(.int .i64 e18.To),(.int .i64 e18.Ahead),Nr78,?_⟩
      obtain ⟨r19,hr19,hf⟩:=oB hf
      refine ⟨_,Fz.refl _,?_⟩
      refine jS (f1_0 _ e17 e18 _ hr19) fun v79 h80 T=>?_
      obtain ⟨rfl,T⟩:=T
      have S:St _ _ [_] _:=S.comp T
      refine ⟨r19,rfl,?_⟩
      intro jjj0
      have hjj0:∀ (y11:Int) (h81:Heap) (y12:List TLane),o9 y10 y11 y12=some q71→St h M [own (oSl (fz bf)) [a0_0] y12] h81→jjj0 y11 h81:=by
       rintro y11 h81 y12 hf S
       unfold o9 at hf
       unfold jjj0
       obtain rfl:=oi hf
       exact ⟨m63,Nat.lt_succ_self _,y12,rfl,rfl,rfl,S,hk⟩
      refine ft (fun hc=>?_) (fun hc=>?_)
      ·rw [ifT hc] at hf
       obtain ⟨e20,he20,hf⟩:=oB hf
       have V82:SlR bf (dX h80) (a0_0.sub 3 (y13:Int).toNat ((x0.length:Int):Int).toNat) w16:=eD hw16▸SlR.sub (S.sl (r:=(fz bf)) m0) (ck hw16).1 (ck hw16).2
       refine qC V82 (Hp.le_refl _) he20 fun pe20=>?_
       have V83:SlR bf (dX h80) (a0_0.sub 3 (y13:Int).toNat ((x0.length:Int):Int).toNat) w16:=eD hw16▸SlR.sub (S.sl (r:=(fz bf)) m0) (ck hw16).1 (ck hw16).2
       obtain ⟨_,cr84,Rr84,Nr84,Or84,Zr84⟩:=SlR.idx V83 (Hp.le_refl _) he20
       obtain rfl:=cm Rr84
       refine ⟨(.int .i64 e20.From),(.int .i64 e20.To),(.int .i64 e20.Ahead),Nr84,?_⟩
       obtain ⟨e21,he21,hf⟩:=oB hf
       refine qC (S.sl (r:=(fz bf)) m0) (Hp.le_refl _) he21 fun pe21=>?_
       obtain ⟨y22,hy22,hf⟩:=oB hf
       obtain ⟨h85,e86,S⟩:=St.setE (r:=bf) (x':=e20) (k:=0) (n:=3) (y:=(.agg [(.int .i64 e20.From),(.int .i64 e20.To),(.int .i64 e20.Ahead)])) S he21 rfl rfl (nl rfl) (by rintro _ h; obtain rfl:=cm h; exact kK (x:=e20))
       rw [fG] at e86
       have S:St _ _ [own (oSl (fz bf)) [a0_0] y22] _:=S.cast1 (by rw [← oi hy22]<;>rfl)
       have hqy22:idx y22 y14=some e20:=oi hy22▸Ab he21
       refine ⟨h85,e86,?_⟩
       exact hjj0 _ _ y22 hf  S
      rw [ifF hc] at hf
      exact hjj0 _ _ y15 hf  S
     rw [ifE hc] at hf
     obtain rfl:=oi hf
     obtain rfl:=hk
     exact ⟨y15,rfl,S,rfl⟩
    exact ⟨x0,rfl,rfl,rfl,S,hL⟩
   rw [ifF hc] at hf
   obtain rfl:=oi hf
   exact ⟨m46,Nat.lt_succ_self _,rfl,rfl,S,hk⟩
  rw [ifE hc] at hf
  obtain rfl:=oi hf
  obtain rfl:=hk
  exact ⟨rfl,S,rfl⟩
 exact ⟨rfl,rfl,S,hL⟩
end Go.Proofs.Ytmchbhheoieepaa
