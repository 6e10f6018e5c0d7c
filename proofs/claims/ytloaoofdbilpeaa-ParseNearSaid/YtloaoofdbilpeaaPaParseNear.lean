/- Pure functions, and that the machine's functions answer as they do. No condition. Own work. -/
import Derived.Test.YtloaoofdbilpeaaSParseNear
import Derived.Test.YtloaoofdbilpeaaTParseNear
set_option linter.unusedSimpArgs false
set_option linter.unusedVariables false
namespace Go.Proofs.Ytloaoofdbilpeaa
open Go Go.Am
noncomputable section
def p74 (s0:List UInt8) (c1:Int):Option Int:=some (idxB s0 c1)
theorem r74 {h:Heap}  {s0:List UInt8} {c1:Int} {r:Int} (hf:p74 s0 c1=some r):ZC F 74 [(.str s0),(.int .u8 c1)] h fun v h'=>v=.int .i64 r∧St h none' [] h':=by
 refine w74 ?_
 unfold W74
 unfold p74 at hf
 have S:St h none' [] h:=St.refl _ _
 refine oI (.int .i64 (idxB s0 c1)) rfl ⟨(idxB s0 c1),rfl,?_⟩
 obtain rfl:=oi hf
 exact ⟨rfl,S.sel [] rfl⟩
def p48 (s0:List UInt8) (c1:Int):Option Int:=(p74 s0 c1).bind fun y10=>some y10
theorem r48 {h:Heap}  {s0:List UInt8} {c1:Int} {r:Int} (hf:p48 s0 c1=some r):ZC F 48 [(.str s0),(.int .u8 c1)] h fun v h'=>v=.int .i64 r∧St h none' [] h':=by
 refine w48 ?_
 unfold W48
 unfold p48 at hf
 have S:St h none' [] h:=St.refl _ _
 obtain ⟨y10,hy10,hf⟩:=oB hf
 refine ⟨_,Fz.refl _,?_⟩
 refine (r74 (s0:=s0) (c1:=c1) hy10).mono fun v11 h12 T=>?_
 obtain ⟨rfl,T⟩:=T
 have S:St _ _ [] _:=S.comp T
 refine ⟨y10,rfl,?_⟩
 obtain rfl:=oi hf
 exact ⟨rfl,S.sel [] rfl⟩
def p49 (x0:List UInt8):Option Int:=none
theorem r49 {h:Heap} {x0:List UInt8} {r:Int} (hf:p49 x0=some r):ZC F 49 [.str x0] h fun v h'=>v=.int .i64 r∧St h none' [] h':=by
  unfold p49 at hf
  cases hf
def p75 (x0:List UInt8) (x1:List UInt8):Option Int:=none
theorem r75 {h:Heap} {x0:List UInt8} {x1:List UInt8} {r:Int} (hf:p75 x0 x1=some r):ZC F 75 [.str x0,.str x1] h fun v h'=>v=.int .i64 r∧St h none' [] h':=by
  unfold p75 at hf
  cases hf
def p51 (s0:List UInt8) (substr1:List UInt8):Option Int:=(p75 s0 substr1).bind fun y10=>some y10
theorem r51 {h:Heap}  {s0:List UInt8} {substr1:List UInt8} {r:Int} (hf:p51 s0 substr1=some r):ZC F 51 [(.str s0),(.str substr1)] h fun v h'=>v=.int .i64 r∧St h none' [] h':=by
 refine w51 ?_
 unfold W51
 unfold p51 at hf
 have S:St h none' [] h:=St.refl _ _
 obtain ⟨y10,hy10,hf⟩:=oB hf
 refine ⟨_,Fz.refl _,?_⟩
 refine (r75 (x0:=s0) (x1:=substr1) hy10).mono fun v11 h12 T=>?_
 obtain ⟨rfl,T⟩:=T
 have S:St _ _ [] _:=S.comp T
 refine ⟨y10,rfl,?_⟩
 obtain rfl:=oi hf
 exact ⟨rfl,S.sel [] rfl⟩
def p35_l0 (substr1:List UInt8) (st:(List UInt8)×Int):Option (((List UInt8)×Int)⊕Int):=match st with | (s10,n11)=>(p51 s10 substr1).bind fun y12=>if y12=((-1):Int) then (some (.inr n11)) else ((slc s10 (IntKind.wrap .i64 (y12+(substr1.length:Int))) (s10.length:Int)).bind fun y13=>some (.inl (y13,(IntKind.wrap .i64 (n11+1)))))
def p35 (s0:List UInt8) (substr1:List UInt8):Option Int:=if (substr1.length:Int)=0 then ((p49 s0).bind fun y14=>some (IntKind.wrap .i64 (y14+1))) else (if (substr1.length:Int)=1 then ((idxS substr1 0).bind fun y15=>some (cntB s0 y15)) else ((loopC (p35_l0 substr1) (s0,0)).bind fun res16=>((fun (y17:Int)=>some y17) res16)))
theorem r35 {h:Heap}  {s0:List UInt8} {substr1:List UInt8} {r:Int} (hf:p35 s0 substr1=some r):ZC F 35 [(.str s0),(.str substr1)] h fun v h'=>v=.int .i64 r∧St h none' [] h':=by
 refine w35 ?_
 unfold W35
 unfold p35 at hf
 have S:St h none' [] h:=St.refl _ _
 refine bI (fun hc=>?_) (fun hc=>?_)
 ·rw [ifD hc] at hf
  obtain ⟨y14,hy14,hf⟩:=oB hf
  refine ⟨_,Fz.refl _,?_⟩
  refine (r49 (x0:=s0) hy14).mono fun v18 h19 T=>?_
  obtain ⟨rfl,T⟩:=T
  have S:St _ _ [] _:=S.comp T
  refine ⟨y14,rfl,?_⟩
  obtain rfl:=oi hf
  exact ⟨rfl,S.sel [] rfl⟩
 rw [ifE hc] at hf
 refine bI (fun hc=>?_) (fun hc=>?_)
 ·rw [ifD hc] at hf
  obtain ⟨y15,hy15,hf⟩:=oB hf
  refine oI (.int .u8 y15) (idxS_ev hy15) ⟨y15,rfl,?_⟩
  refine oI (.int .i64 (cntB s0 y15)) rfl ⟨(cntB s0 y15),rfl,?_⟩
  obtain rfl:=oi hf
  exact ⟨rfl,S.sel [] rfl⟩
 rw [ifE hc] at hf
 obtain ⟨res16,hL,hf⟩:=oB hf
 obtain ⟨n20,hL⟩:=loopC_iff.1 hL
 refine loopm35_0 (R:=fun (s21:List UInt8) (substr22:List UInt8) (y17:Int) (n23:Int) (h24:Heap)=>St h none' [] h24∧y17=res16) ?_ (loop35_0 (I:=fun (m25:Nat) (s10:List UInt8) (substr26:List UInt8) (y27:Int) (n11:Int) (h28:Heap)=>substr1=substr26∧St h none' [] h28∧iter (p35_l0 substr1) m25 (s10,n11)=some res16) ?_ (m:=n20) ?_)
 ·rintro s21 substr22 y17 n23 h24 ⟨S,rfl⟩
  try dsimp only at hf
  obtain rfl:=oi hf
  exact ⟨rfl,S.sel [] rfl⟩
 ·rintro m29 s10 substr26 y27 n11 h28 ⟨rfl,S,hit⟩
  obtain ⟨m25,q30,rfl,hf,hk⟩:=iter_some hit
  clear hit
  unfold B35_0
  unfold p35_l0 at hf
  try dsimp only at hf
  obtain ⟨y12,hy12,hf⟩:=oB hf
  refine ⟨_,Fz.refl _,?_⟩
  refine (r51 (s0:=s10) (substr1:=substr1) hy12).mono fun v31 h32 T=>?_
  obtain ⟨rfl,T⟩:=T
  have S:St _ _ [] _:=S.comp T
  refine ⟨y12,rfl,?_⟩
  refine bI (fun hc=>?_) (fun hc=>?_)
  ·rw [ifD hc] at hf
   obtain rfl:=oi hf
   obtain rfl:=hk
   exact ⟨S,rfl⟩
  rw [ifE hc] at hf
  obtain ⟨y13,hy13,hf⟩:=oB hf
  refine oI (.str y13) (sliceStr_ev10 hy13) ⟨y13,rfl,?_⟩
  obtain rfl:=oi hf
  exact ⟨m25,Nat.lt_succ_self _,rfl,S,hk⟩
 exact ⟨rfl,S,hL⟩
def p52_l0 (s0:List UInt8) (c1:Int) (i10:Int):Option (Int⊕(Int⊕Unit)):=if 0≤i10 then ((idxS s0 i10).bind fun y11=>if y11=c1 then (some (.inr (.inl i10))) else (some (.inl (IntKind.wrap .i64 (i10 - 1))))) else (some (.inr (.inr ())))
def p52 (s0:List UInt8) (c1:Int):Option Int:=(loopC (p52_l0 s0 c1) (IntKind.wrap .i64 ((s0.length:Int) - 1))).bind fun res12=>(match res12 with | .inl y13=>some y13 | .inr _=>some ((-1):Int))
theorem r52 {h:Heap}  {s0:List UInt8} {c1:Int} {r:Int} (hf:p52 s0 c1=some r):ZC F 52 [(.str s0),(.int .u8 c1)] h fun v h'=>v=.int .i64 r∧St h none' [] h':=by
 refine w52 ?_
 unfold W52
 unfold p52 at hf
 have S:St h none' [] h:=St.refl _ _
 obtain ⟨res12,hL,hf⟩:=oB hf
 obtain ⟨n14,hL⟩:=loopC_iff.1 hL
 refine loopm52_0 (R:=fun (s15:List UInt8) (c16:Int) (y13:Int) (i17:Int) (h18:Heap)=>St h none' [] h18∧(.inl y13)=res12) (X0:=fun (s19:List UInt8) (c20:Int) (y21:Int) (i22:Int) (h23:Heap)=>St h none' [] h23∧(.inr ())=res12) ?_ ?_ (loop52_0 (I:=fun (m24:Nat) (s25:List UInt8) (c26:Int) (y27:Int) (i10:Int) (h28:Heap)=>s0=s25∧c1=c26∧St h none' [] h28∧iter (p52_l0 s0 c1) m24 i10=some res12) ?_ (m:=n14) ?_)
 ·rintro s15 c16 y13 i17 h18 ⟨S,rfl⟩
  try dsimp only at hf
  obtain rfl:=oi hf
  exact ⟨rfl,S.sel [] rfl⟩
 ·rintro s19 c20 y21 i22 h23 ⟨S,rfl⟩
  try dsimp only at hf
  obtain rfl:=oi hf
  exact ⟨rfl,S.sel [] rfl⟩
 ·rintro m29 s25 c26 y27 i10 h28 ⟨rfl,rfl,S,hit⟩
  obtain ⟨m24,q30,rfl,hf,hk⟩:=iter_some hit
  clear hit
  unfold B52_0
  unfold p52_l0 at hf
  try dsimp only at hf
  refine bI (fun hc=>?_) (fun hc=>?_)
  ·rw [ifD hc] at hf
   obtain ⟨y11,hy11,hf⟩:=oB hf
   refine oI (.int .u8 y11) (idxS_ev hy11) ⟨y11,rfl,?_⟩
   refine bI (fun hc=>?_) (fun hc=>?_)
   ·rw [ifD hc] at hf
    obtain rfl:=oi hf
    obtain rfl:=hk
    exact ⟨S,rfl⟩
   rw [ifE hc] at hf
   obtain rfl:=oi hf
   exact ⟨m24,Nat.lt_succ_self _,rfl,rfl,S,hk⟩
  rw [ifE hc] at hf
  obtain rfl:=oi hf
  obtain rfl:=hk
  exact ⟨S,rfl⟩
 exact ⟨rfl,rfl,S,hL⟩
def p36 (s0:List UInt8) (c1:Int):Option Int:=(p52 s0 c1).bind fun y10=>some y10
theorem r36 {h:Heap}  {s0:List UInt8} {c1:Int} {r:Int} (hf:p36 s0 c1=some r):ZC F 36 [(.str s0),(.int .u8 c1)] h fun v h'=>v=.int .i64 r∧St h none' [] h':=by
 refine w36 ?_
 unfold W36
 unfold p36 at hf
 have S:St h none' [] h:=St.refl _ _
 obtain ⟨y10,hy10,hf⟩:=oB hf
 refine ⟨_,Fz.refl _,?_⟩
 refine (r52 (s0:=s0) (c1:=c1) hy10).mono fun v11 h12 T=>?_
 obtain ⟨rfl,T⟩:=T
 have S:St _ _ [] _:=S.comp T
 refine ⟨y10,rfl,?_⟩
 obtain rfl:=oi hf
 exact ⟨rfl,S.sel [] rfl⟩
def p37_j0 (b10:Bool):Option Bool:=some b10
def p37 (c0:Int):Option Bool:=if 97≤c0 then (p37_j0 (decide (c0≤(122:Int)))) else (p37_j0 false)
theorem r37 {h:Heap}  {c0:Int} {r:Bool} (hf:p37 c0=some r):ZC F 37 [(.int .u8 c0)] h fun v h'=>v=.bool r∧St h none' [] h':=by
 refine w37 ?_
 unfold W37
 unfold p37 at hf
 have S:St h none' [] h:=St.refl _ _
 intro jjj0
 have hjj0:∀ (b10:Bool) (h11:Heap),p37_j0 b10=some r→h=h11→St h none' [] h→jjj0 b10 h11:=by
  rintro b10 h11 hf rfl S
  unfold p37_j0 at hf
  unfold jjj0
  obtain rfl:=oi hf
  exact ⟨rfl,S.sel [] rfl⟩
 refine bI (fun hc=>?_) (fun hc=>?_)
 ·rw [ifD hc] at hf
  exact hjj0 _ _  hf rfl S
 rw [ifE hc] at hf
 exact hjj0 _ _  hf rfl S
def p38_j0 (b10:Bool):Option Bool:=some b10
def p38 (c0:Int):Option Bool:=if 48≤c0 then (p38_j0 (decide (c0≤(57:Int)))) else (p38_j0 false)
theorem r38 {h:Heap}  {c0:Int} {r:Bool} (hf:p38 c0=some r):ZC F 38 [(.int .u8 c0)] h fun v h'=>v=.bool r∧St h none' [] h':=by
 refine w38 ?_
 unfold W38
 unfold p38 at hf
 have S:St h none' [] h:=St.refl _ _
 intro jjj0
 have hjj0:∀ (b10:Bool) (h11:Heap),p38_j0 b10=some r→h=h11→St h none' [] h→jjj0 b10 h11:=by
  rintro b10 h11 hf rfl S
  unfold p38_j0 at hf
  unfold jjj0
  obtain rfl:=oi hf
  exact ⟨rfl,S.sel [] rfl⟩
 refine bI (fun hc=>?_) (fun hc=>?_)
 ·rw [ifD hc] at hf
  exact hjj0 _ _  hf rfl S
 rw [ifE hc] at hf
 exact hjj0 _ _  hf rfl S
def p31_l0 (p0:List Int) (at10:Int):Option (Int⊕(Int⊕Int)):=if at10 < (p0.length:Int) then ((idx p0 at10).bind fun e11=>(p48 ([32,9,13,10]:List UInt8) e11).bind fun y12=>if 0≤y12 then (some (.inl (IntKind.wrap .i64 (at10+1)))) else ((idx p0 at10).bind fun e13=>if e13=35 then ((slc p0 at10 (p0.length:Int)).bind fun y14=>(p48 (y14.map u8) 10).bind fun y15=>if y15 < 0 then (some (.inr (.inl (p0.length:Int)))) else (some (.inl (IntKind.wrap .i64 (at10+y15))))) else (some (.inr (.inl at10))))) else (some (.inr (.inr at10)))
def p31 (p0:List Int) (at1:Int):Option Int:=(loopC (p31_l0 p0) at1).bind fun res16=>(match res16 with | .inl y17=>some y17 | .inr at18=>some at18)
theorem r31 {h:Heap} {a0_0:AV} {p0:List Int} {at1:Int} (f0_0:SlR (rI .u8) (Snap h) a0_0 p0) {r:Int} (hf:p31 p0 at1=some r):ZC F 31 [a0_0,(.int .i64 at1)] h fun v h'=>v=.int .i64 r∧St h none' [] h':=by
 refine w31 ?_
 unfold W31
 unfold p31 at hf
 have S:St h none' [] h:=St.refl _ _
 obtain ⟨res16,hL,hf⟩:=oB hf
 obtain ⟨n19,hL⟩:=loopC_iff.1 hL
 refine loopm31_0 (R:=fun (p20:AV) (at21:Int) (y17:Int) (h22:Heap)=>St h none' [] h22∧(.inl y17)=res16) (X0:=fun (p23:AV) (at18:Int) (y24:Int) (h25:Heap)=>St h none' [] h25∧(.inr at18)=res16) ?_ ?_ (loop31_0 (I:=fun (m26:Nat) (p27:AV) (at10:Int) (y28:Int) (h29:Heap)=>a0_0=p27∧St h none' [] h29∧iter (p31_l0 p0) m26 at10=some res16) ?_ (m:=n19) ?_)
 ·rintro p20 at21 y17 h22 ⟨S,rfl⟩
  try dsimp only at hf
  obtain rfl:=oi hf
  exact ⟨rfl,S.sel [] rfl⟩
 ·rintro p23 at18 y24 h25 ⟨S,rfl⟩
  try dsimp only at hf
  obtain rfl:=oi hf
  exact ⟨rfl,S.sel [] rfl⟩
 ·rintro m30 p27 at10 y28 h29 ⟨rfl,S,hit⟩
  obtain ⟨m26,q31,rfl,hf,hk⟩:=iter_some hit
  clear hit
  unfold B31_0
  unfold p31_l0 at hf
  try dsimp only at hf
  refine iI.2 ⟨(f0_0).is,?_⟩
  try rw [show (a0_0).slen=_ from (f0_0).slen]
  refine bI (fun hc=>?_) (fun hc=>?_)
  ·rw [ifD hc] at hf
   obtain ⟨e11,he11,hf⟩:=oB hf
   refine ix_go f0_0 (sM S.le) he11 fun pe11=>?_
   obtain ⟨_,cr32,Rr32,Nr32,Or32,Zr32⟩:=SlR.idx f0_0 (sM S.le) he11
   obtain rfl:cr32=[(.int .u8 e11)]:=Rr32
   refine ⟨e11,Zr32 _ rfl,?_⟩
   obtain ⟨y12,hy12,hf⟩:=oB hf
   refine ⟨_,Fz.refl _,?_⟩
   refine (r48 (s0:=([32,9,13,10]:List UInt8)) (c1:=e11) hy12).mono fun v33 h34 T=>?_
   obtain ⟨rfl,T⟩:=T
   have S:St _ _ [] _:=S.comp T
   refine ⟨y12,rfl,?_⟩
   refine bI (fun hc=>?_) (fun hc=>?_)
   ·rw [ifD hc] at hf
    obtain rfl:=oi hf
    exact ⟨m26,Nat.lt_succ_self _,rfl,S,hk⟩
   rw [ifE hc] at hf
   obtain ⟨e13,he13,hf⟩:=oB hf
   refine ix_go f0_0 (sM S.le) he13 fun pe13=>?_
   obtain ⟨_,cr35,Rr35,Nr35,Or35,Zr35⟩:=SlR.idx f0_0 (sM S.le) he13
   obtain rfl:cr35=[(.int .u8 e13)]:=Rr35
   refine ⟨e13,Zr35 _ rfl,?_⟩
   refine bI (fun hc=>?_) (fun hc=>?_)
   ·rw [ifD hc] at hf
    obtain ⟨y14,hy14,hf⟩:=oB hf
    have ey14:=(sliceSl_ev10 (k:=.i64) f0_0 hy14)
    have fy14:SlR (rI .u8) (Snap h) (a0_0.sub 1 (at10:Int).toNat ((p0.length:Int):Int).toNat) y14:=slc_eq hy14▸SlR.sub f0_0 (slc_le hy14).1 (slc_le hy14).2
    refine oI (a0_0.sub 1 (at10:Int).toNat ((p0.length:Int):Int).toNat) ey14 ?_
    refine ⟨_,bytes_ev (SlR.mono (sM S.le) fy14),(y14.map u8),rfl,?_⟩
    obtain ⟨y15,hy15,hf⟩:=oB hf
    refine ⟨_,Fz.refl _,?_⟩
    refine (r48 (s0:=(y14.map u8)) (c1:=10) hy15).mono fun v36 h37 T=>?_
    obtain ⟨rfl,T⟩:=T
    have S:St _ _ [] _:=S.comp T
    refine ⟨y15,rfl,?_⟩
    refine bI (fun hc=>?_) (fun hc=>?_)
    ·rw [ifD hc] at hf
     refine iI.2 ⟨(f0_0).is,?_⟩
     try rw [show (a0_0).slen=_ from (f0_0).slen]
     obtain rfl:=oi hf
     obtain rfl:=hk
     exact ⟨S,rfl⟩
    rw [ifE hc] at hf
    obtain rfl:=oi hf
    exact ⟨m26,Nat.lt_succ_self _,rfl,S,hk⟩
   rw [ifE hc] at hf
   obtain rfl:=oi hf
   obtain rfl:=hk
   exact ⟨S,rfl⟩
  rw [ifE hc] at hf
  obtain rfl:=oi hf
  obtain rfl:=hk
  exact ⟨S,rfl⟩
 exact ⟨rfl,S,hL⟩
def p32_j0 (x0:List Int) (x1:Int) (y10:Int) (c11:Int) (c12:Int):Option (TTl×Int):=(slc x0 x1 y10).bind fun y13=>some ((TTl.mk c11 (y13.map u8) c12 x1),0)
def p32_j1 (y14:Int) (b15:Bool):Option (Int⊕Int):=if b15=true then (some (.inl (IntKind.wrap .i64 (y14+1)))) else (some (.inr y14))
def p32_j2 (y14:Int) (b16:Bool):Option (Int⊕Int):=p32_j1 y14 b16
def p32_j3 (x0:List Int) (y14:Int) (b17:Bool):Option (Int⊕Int):=if b17=true then (p32_j2 y14 true) else ((idx x0 y14).bind fun e18=>p32_j2 y14 (decide (e18=46)))
def p32_l0 (x0:List Int) (y14:Int):Option (Int⊕Int):=if y14 < (x0.length:Int) then ((idx x0 y14).bind fun e19=>(p37 e19).bind fun y20=>if y20=true then (p32_j3 x0 y14 true) else ((idx x0 y14).bind fun e21=>(p38 e21).bind fun y22=>p32_j3 x0 y14 y22)) else (p32_j1 y14 false)
def p32_j4 (x0:List Int) (y23:Int) (c24:Int) (b25:Bool):Option ((Int×Int)⊕(Unit⊕(Int×Int))):=if b25=true then ((idx x0 y23).bind fun e26=>if 1125899906842624 < (IntKind.wrap .i64 ((IntKind.wrap .i64 (10 * c24))+(IntKind.wrap .i64 (IntKind.wrap .u8 (e26 - 48))))) then (some (.inr (.inl ()))) else (some (.inl ((IntKind.wrap .i64 (y23+1)),(IntKind.wrap .i64 ((IntKind.wrap .i64 (10 * c24))+(IntKind.wrap .i64 (IntKind.wrap .u8 (e26 - 48))))))))) else (some (.inr (.inr (y23,c24))))
def p32_l1 (x0:List Int) (st:Int×Int):Option ((Int×Int)⊕(Unit⊕(Int×Int))):=match st with | (y23,c24)=>if y23 < (x0.length:Int) then ((idx x0 y23).bind fun e27=>(p38 e27).bind fun y28=>p32_j4 x0 y23 c24 y28) else (p32_j4 x0 y23 c24 false)
def p32_j5 (x0:List Int) (x1:Int) (e29:Int) (b30:Bool):Option (TTl×Int):=if b30=true then (p32_j0 x0 x1 (IntKind.wrap .i64 ((IntKind.wrap .i64 (x1+1))+1)) 3 0) else ((p48 ([59,58,44,42,33,126,64,61]:List UInt8) e29).bind fun y31=>if 0≤y31 then (p32_j0 x0 x1 (IntKind.wrap .i64 (x1+1)) 3 0) else (some ((TTl.mk 0 ([]:List UInt8) 0 0),6)))
def p32_j6 (x0:List Int) (x1:Int) (e29:Int) (b32:Bool):Option (TTl×Int):=if b32=true then ((idx x0 (IntKind.wrap .i64 (x1+1))).bind fun e33=>p32_j5 x0 x1 e29 (decide (e33=62))) else (p32_j5 x0 x1 e29 false)
def p32 (x0:List Int) (x1:Int):Option (TTl×Int):=(idx x0 x1).bind fun e29=>(p37 e29).bind fun y34=>if y34=true then ((loopC (p32_l0 x0) (IntKind.wrap .i64 (x1+1))).bind fun res35=>((fun (y36:Int)=>p32_j0 x0 x1 y36 1 0) res35)) else ((p38 e29).bind fun y37=>if y37=true then ((loopC (p32_l1 x0) ((IntKind.wrap .i64 (x1+1)),(IntKind.wrap .i64 (IntKind.wrap .u8 (e29 - 48))))).bind fun res38=>(match res38 with | .inl _=>some ((TTl.mk 0 ([]:List UInt8) 0 0),3) | .inr (y39,c40)=>p32_j0 x0 x1 y39 2 c40)) else (if e29=45 then (p32_j6 x0 x1 e29 (decide ((IntKind.wrap .i64 (x1+1)) < (x0.length:Int)))) else (p32_j6 x0 x1 e29 false)))
theorem r32 {h:Heap} {a0_0:AV} {x0:List Int} {x1:Int} (f0_0:SlR (rI .u8) (Snap h) a0_0 x0) {r:TTl×Int} (hf:p32 x0 x1=some r):ZC F 32 [a0_0,(.int .i64 x1)] h fun v h'=>v=.tuple [.agg [.int .u8 r.1.Kind,.str r.1.Text,.int .i64 r.1.N,.int .i64 r.1.At],.int .i64 r.2]∧St h none' [] h':=by
 refine w32 ?_
 unfold W32
 unfold p32 at hf
 have S:St h none' [] h:=St.refl _ _
 intro h41
 have S:St _ _ [rowC h.n [(.int .u8 0),(.str ([]:List UInt8)),(.int .i64 0),(.int .i64 0)] 0] _:=S.pushRow [(.int .u8 0),(.str ([]:List UInt8)),(.int .i64 0),(.int .i64 0)]
 intro h42
 have S:St _ _ [rowC h41.n [(.int .u8 0),(.str ([]:List UInt8)),(.int .i64 0),(.int .i64 0)] 0,_] _:=S.pushRow [(.int .u8 0),(.str ([]:List UInt8)),(.int .i64 0),(.int .i64 0)]
 obtain ⟨h43,e44,S⟩:=S.store (off:=0) (n:=4) (x:=(.agg [(.int .u8 0),(.str ([]:List UInt8)),(.int .i64 0),(.int .i64 x1)])) (cs':=[(.int .u8 0),(.str ([]:List UInt8)),(.int .i64 0),(.int .i64 x1)]) (nl rfl) rfl rfl rfl
 refine ⟨h43,e44,?_⟩
 obtain ⟨e29,he29,hf⟩:=oB hf
 refine ix_go f0_0 (sM S.le) he29 fun pe29=>?_
 obtain ⟨_,cr45,Rr45,Nr45,Or45,Zr45⟩:=SlR.idx f0_0 (sM S.le) he29
 obtain rfl:cr45=[(.int .u8 e29)]:=Rr45
 refine ⟨e29,Zr45 _ rfl,?_⟩
 obtain ⟨y34,hy34,hf⟩:=oB hf
 refine ⟨_,Fz.refl _,?_⟩
 refine (r37 (c0:=e29) hy34).mono fun v46 h47 T=>?_
 obtain ⟨rfl,T⟩:=T
 have S:St _ _ [_,_] _:=S.comp T
 refine ⟨y34,rfl,?_⟩
 intro jjj0
 have hjj0:∀ (y48:AV) (y49:Int) (y50:AV) (y51:AV) (y10:Int) (h52:Heap) (c11:Int) (c12:Int),p32_j0 x0 x1 y10 c11 c12=some r→a0_0=y48→x1=y49→AV.ptr h.n 0 0=y50→AV.ptr h41.n 0 0=y51→St h none' [rowC h.n [(.int .u8 0),(.str ([]:List UInt8)),(.int .i64 0),(.int .i64 0)] 0,rowC h41.n [(.int .u8 c11),(.str ([]:List UInt8)),(.int .i64 c12),(.int .i64 x1)] 0] h52→jjj0 y48 y49 y50 y51 y10 h52:=by
  rintro y48 y49 y50 y51 y10 h52 c11 c12 hf rfl rfl rfl rfl S
  unfold p32_j0 at hf
  unfold jjj0
  obtain ⟨y13,hy13,hf⟩:=oB hf
  have ey13:=(sliceSl_ev11 (k:=.i64) (k':=.i64) f0_0 hy13)
  have fy13:SlR (rI .u8) (Snap h) (a0_0.sub 1 (x1:Int).toNat (y10:Int).toNat) y13:=slc_eq hy13▸SlR.sub f0_0 (slc_le hy13).1 (slc_le hy13).2
  refine oI (a0_0.sub 1 (x1:Int).toNat (y10:Int).toNat) ey13 ?_
  refine ⟨_,bytes_ev (SlR.mono (sM S.le) fy13),(y13.map u8),rfl,?_⟩
  refine iI.2 ⟨rfl,?_⟩
  have S:=S.sel [1,0] rfl
  obtain ⟨h53,e54,S⟩:=S.store (off:=1) (n:=1) (x:=(.str (y13.map u8))) (cs':=[(.int .u8 c11),(.str (y13.map u8)),(.int .i64 c12),(.int .i64 x1)]) (nl rfl) rfl rfl rfl
  refine ⟨h53,e54,?_⟩
  refine ⟨(.int .u8 c11),(.str (y13.map u8)),(.int .i64 c12),(.int .i64 x1),S.rdN m0 (nl rfl) rfl,?_⟩
  have S:=S.sel [1,0] rfl
  obtain ⟨h55,e56,S⟩:=S.store (off:=0) (n:=4) (x:=(.agg [(.int .u8 c11),(.str (y13.map u8)),(.int .i64 c12),(.int .i64 x1)])) (cs':=[(.int .u8 c11),(.str (y13.map u8)),(.int .i64 c12),(.int .i64 x1)]) (nl rfl) rfl rfl rfl
  refine ⟨h55,e56,?_⟩
  refine ⟨(.int .u8 c11),(.str (y13.map u8)),(.int .i64 c12),(.int .i64 x1),S.rdN m0 (nl rfl) rfl,?_⟩
  obtain rfl:=oi hf
  exact ⟨rfl,S.sel [] rfl⟩
 refine bI (fun hc=>?_) (fun hc=>?_)
 ·rw [ifT hc] at hf
  obtain ⟨res35,hL,hf⟩:=oB hf
  obtain ⟨n57,hL⟩:=loopC_iff.1 hL
  have S:=S.sel [1,0] rfl
  refine loopm32_0 (X1:=fun (y58:AV) (y59:Int) (y60:AV) (y61:AV) (y36:Int) (h62:Heap)=>a0_0=y58∧x1=y59∧AV.ptr h.n 0 0=y60∧AV.ptr h41.n 0 0=y61∧St h none' [rowC h.n [(.int .u8 0),(.str ([]:List UInt8)),(.int .i64 0),(.int .i64 0)] 0,rowC h41.n [(.int .u8 0),(.str ([]:List UInt8)),(.int .i64 0),(.int .i64 x1)] 0] h62∧y36=res35) ?_ (loop32_0 (I:=fun (m63:Nat) (y64:AV) (y65:Int) (y66:AV) (y67:AV) (y14:Int) (h68:Heap)=>a0_0=y64∧x1=y65∧AV.ptr h.n 0 0=y66∧AV.ptr h41.n 0 0=y67∧St h none' [rowC h.n [(.int .u8 0),(.str ([]:List UInt8)),(.int .i64 0),(.int .i64 0)] 0,rowC h41.n [(.int .u8 0),(.str ([]:List UInt8)),(.int .i64 0),(.int .i64 x1)] 0] h68∧iter (p32_l0 x0) m63 y14=some res35) ?_ (m:=n57) ?_)
  ·rintro y58 y59 y60 y61 y36 h62 ⟨rfl,rfl,rfl,rfl,S,rfl⟩
   try dsimp only at hf
   refine iI.2 ⟨rfl,?_⟩
   have S:=S.sel [1,0] rfl
   obtain ⟨h69,e70,S⟩:=S.store (off:=0) (n:=1) (x:=(.int .u8 1)) (cs':=[(.int .u8 1),(.str ([]:List UInt8)),(.int .i64 0),(.int .i64 x1)]) (nl rfl) rfl rfl rfl
   refine ⟨h69,e70,?_⟩
   have S:=S.sel [1,0] rfl
   exact hjj0 _ _ _ _ _ _ 1 0 hf rfl rfl rfl rfl S
  ·rintro m71 y64 y65 y66 y67 y14 h68 ⟨rfl,rfl,rfl,rfl,S,hit⟩
   obtain ⟨m63,q72,rfl,hf,hk⟩:=iter_some hit
   clear hit
   unfold B32_0
   unfold p32_l0 at hf
   try dsimp only at hf
   refine iI.2 ⟨(f0_0).is,?_⟩
   try rw [show (a0_0).slen=_ from (f0_0).slen]
   intro jjj1
   have hjj1:∀ (b15:Bool) (h73:Heap),p32_j1 y14 b15=some q72→St h none' [rowC h.n [(.int .u8 0),(.str ([]:List UInt8)),(.int .i64 0),(.int .i64 0)] 0,rowC h41.n [(.int .u8 0),(.str ([]:List UInt8)),(.int .i64 0),(.int .i64 x1)] 0] h73→jjj1 b15 h73:=by
    rintro b15 h73 hf S
    unfold p32_j1 at hf
    unfold jjj1
    refine bI (fun hc=>?_) (fun hc=>?_)
    ·rw [ifT hc] at hf
     obtain rfl:=oi hf
     exact ⟨m63,Nat.lt_succ_self _,rfl,rfl,rfl,rfl,S,hk⟩
    rw [ifF hc] at hf
    obtain rfl:=oi hf
    obtain rfl:=hk
    exact ⟨rfl,rfl,rfl,rfl,S,rfl⟩
   refine bI (fun hc=>?_) (fun hc=>?_)
   ·rw [ifD hc] at hf
    obtain ⟨e19,he19,hf⟩:=oB hf
    refine ix_go f0_0 (sM S.le) he19 fun pe19=>?_
    obtain ⟨_,cr74,Rr74,Nr74,Or74,Zr74⟩:=SlR.idx f0_0 (sM S.le) he19
    obtain rfl:cr74=[(.int .u8 e19)]:=Rr74
    refine ⟨e19,Zr74 _ rfl,?_⟩
    obtain ⟨y20,hy20,hf⟩:=oB hf
    refine ⟨_,Fz.refl _,?_⟩
    refine (r37 (c0:=e19) hy20).mono fun v75 h76 T=>?_
    obtain ⟨rfl,T⟩:=T
    have S:St _ _ [_,_] _:=S.comp T
    refine ⟨y20,rfl,?_⟩
    intro jjj3
    have hjj3:∀ (b17:Bool) (h77:Heap),p32_j3 x0 y14 b17=some q72→St h none' [rowC h.n [(.int .u8 0),(.str ([]:List UInt8)),(.int .i64 0),(.int .i64 0)] 0,rowC h41.n [(.int .u8 0),(.str ([]:List UInt8)),(.int .i64 0),(.int .i64 x1)] 0] h77→jjj3 b17 h77:=by
     rintro b17 h77 hf S
     unfold p32_j3 at hf
     unfold jjj3
     intro jjj2
     have hjj2:∀ (b16:Bool) (h78:Heap),p32_j2 y14 b16=some q72→h77=h78→St h none' [rowC h.n [(.int .u8 0),(.str ([]:List UInt8)),(.int .i64 0),(.int .i64 0)] 0,rowC h41.n [(.int .u8 0),(.str ([]:List UInt8)),(.int .i64 0),(.int .i64 x1)] 0] h77→jjj2 b16 h78:=by
      rintro b16 h78 hf rfl S
      unfold p32_j2 at hf
      unfold jjj2
      exact hjj1 _ _  hf  S
     refine bI (fun hc=>?_) (fun hc=>?_)
     ·rw [ifT hc] at hf
      exact hjj2 _ _  hf rfl S
     rw [ifF hc] at hf
     obtain ⟨e18,he18,hf⟩:=oB hf
     refine ix_go f0_0 (sM S.le) he18 fun pe18=>?_
     obtain ⟨_,cr79,Rr79,Nr79,Or79,Zr79⟩:=SlR.idx f0_0 (sM S.le) he18
     obtain rfl:cr79=[(.int .u8 e18)]:=Rr79
     refine ⟨e18,Zr79 _ rfl,?_⟩
     exact hjj2 _ _  hf rfl S
    refine bI (fun hc=>?_) (fun hc=>?_)
    ·rw [ifT hc] at hf
     exact hjj3 _ _  hf  S
    rw [ifF hc] at hf
    obtain ⟨e21,he21,hf⟩:=oB hf
    refine ix_go f0_0 (sM S.le) he21 fun pe21=>?_
    obtain ⟨_,cr80,Rr80,Nr80,Or80,Zr80⟩:=SlR.idx f0_0 (sM S.le) he21
    obtain rfl:cr80=[(.int .u8 e21)]:=Rr80
    refine ⟨e21,Zr80 _ rfl,?_⟩
    obtain ⟨y22,hy22,hf⟩:=oB hf
    refine ⟨_,Fz.refl _,?_⟩
    refine (r38 (c0:=e21) hy22).mono fun v81 h82 T=>?_
    obtain ⟨rfl,T⟩:=T
    have S:St _ _ [_,_] _:=S.comp T
    refine ⟨y22,rfl,?_⟩
    exact hjj3 _ _  hf  S
   rw [ifE hc] at hf
   exact hjj1 _ _  hf  S
  exact ⟨rfl,rfl,rfl,rfl,S,hL⟩
 rw [ifF hc] at hf
 obtain ⟨y37,hy37,hf⟩:=oB hf
 refine ⟨_,Fz.refl _,?_⟩
 refine (r38 (c0:=e29) hy37).mono fun v83 h84 T=>?_
 obtain ⟨rfl,T⟩:=T
 have S:St _ _ [_,_] _:=S.comp T
 refine ⟨y37,rfl,?_⟩
 refine bI (fun hc=>?_) (fun hc=>?_)
 ·rw [ifT hc] at hf
  obtain ⟨h85,e86,S⟩:=S.store (off:=0) (n:=1) (x:=(.int .u8 2)) (cs':=[(.int .u8 2),(.str ([]:List UInt8)),(.int .i64 0),(.int .i64 x1)]) (nl rfl) rfl rfl rfl
  refine ⟨h85,e86,?_⟩
  obtain ⟨h87,e88,S⟩:=S.store (off:=2) (n:=1) (x:=(.int .i64 (IntKind.wrap .i64 (IntKind.wrap .u8 (e29 - 48))))) (cs':=[(.int .u8 2),(.str ([]:List UInt8)),(.int .i64 (IntKind.wrap .i64 (IntKind.wrap .u8 (e29 - 48)))),(.int .i64 x1)]) (nl rfl) rfl rfl rfl
  refine ⟨h87,e88,?_⟩
  obtain ⟨res38,hL,hf⟩:=oB hf
  obtain ⟨n89,hL⟩:=loopC_iff.1 hL
  have S:=S.sel [1,0] rfl
  refine loopm32_1 (R:=fun (y90:AV) (y91:Int) (y92:AV) (y93:Int) (y94:AV) (y95:Int) (h96:Heap)=>AV.ptr h.n 0 0=y92∧3=y93∧St h none' [rowC h.n [(.int .u8 0),(.str ([]:List UInt8)),(.int .i64 0),(.int .i64 0)] 0] h96∧(.inl ())=res38) (X3:=fun (y97:AV) (y98:Int) (y99:AV) (y100:Int) (y101:AV) (y39:Int) (h102:Heap)=>∃ (c40:Int),a0_0=y97∧x1=y98∧AV.ptr h.n 0 0=y99∧AV.ptr h41.n 0 0=y101∧St h none' [rowC h.n [(.int .u8 0),(.str ([]:List UInt8)),(.int .i64 0),(.int .i64 0)] 0,rowC h41.n [(.int .u8 2),(.str ([]:List UInt8)),(.int .i64 c40),(.int .i64 x1)] 0] h102∧(.inr (y39,c40))=res38) ?_ ?_ (loop32_1 (I:=fun (m103:Nat) (y104:AV) (y105:Int) (y106:AV) (y107:Int) (y108:AV) (y23:Int) (h109:Heap)=>∃ (c24:Int),a0_0=y104∧x1=y105∧AV.ptr h.n 0 0=y106∧AV.ptr h41.n 0 0=y108∧St h none' [rowC h.n [(.int .u8 0),(.str ([]:List UInt8)),(.int .i64 0),(.int .i64 0)] 0,rowC h41.n [(.int .u8 2),(.str ([]:List UInt8)),(.int .i64 c24),(.int .i64 x1)] 0] h109∧iter (p32_l1 x0) m103 (y23,c24)=some res38) ?_ (m:=n89) ?_)
  ·rintro y90 y91 y92 y93 y94 y95 h96 ⟨rfl,rfl,S,rfl⟩
   try dsimp only at hf
   refine ⟨(.int .u8 0),(.str ([]:List UInt8)),(.int .i64 0),(.int .i64 0),S.rdN m0 (nl rfl) rfl,?_⟩
   obtain rfl:=oi hf
   exact ⟨rfl,S.sel [] rfl⟩
  ·rintro y97 y98 y99 y100 y101 y39 h102 ⟨c40,rfl,rfl,rfl,rfl,S,rfl⟩
   try dsimp only at hf
   exact hjj0 _ _ _ _ _ _ 2 c40 hf rfl rfl rfl rfl S
  ·rintro m110 y104 y105 y106 y107 y108 y23 h109 ⟨c24,rfl,rfl,rfl,rfl,S,hit⟩
   obtain ⟨m103,q111,rfl,hf,hk⟩:=iter_some hit
   clear hit
   unfold B32_1
   unfold p32_l1 at hf
   try dsimp only at hf
   refine iI.2 ⟨(f0_0).is,?_⟩
   try rw [show (a0_0).slen=_ from (f0_0).slen]
   intro jjj4
   have hjj4:∀ (b25:Bool) (h112:Heap),p32_j4 x0 y23 c24 b25=some q111→St h none' [rowC h.n [(.int .u8 0),(.str ([]:List UInt8)),(.int .i64 0),(.int .i64 0)] 0,rowC h41.n [(.int .u8 2),(.str ([]:List UInt8)),(.int .i64 c24),(.int .i64 x1)] 0] h112→jjj4 b25 h112:=by
    rintro b25 h112 hf S
    unfold p32_j4 at hf
    unfold jjj4
    refine bI (fun hc=>?_) (fun hc=>?_)
    ·rw [ifT hc] at hf
     refine iI.2 ⟨rfl,?_⟩
     refine ⟨c24,S.rd1 m1 rfl,?_⟩
     obtain ⟨e26,he26,hf⟩:=oB hf
     refine ix_go f0_0 (sM S.le) he26 fun pe26=>?_
     obtain ⟨_,cr113,Rr113,Nr113,Or113,Zr113⟩:=SlR.idx f0_0 (sM S.le) he26
     obtain rfl:cr113=[(.int .u8 e26)]:=Rr113
     refine ⟨e26,Zr113 _ rfl,?_⟩
     refine iI.2 ⟨rfl,?_⟩
     have S:=S.sel [1,0] rfl
     obtain ⟨h114,e115,S⟩:=S.store (off:=2) (n:=1) (x:=(.int .i64 (IntKind.wrap .i64 ((IntKind.wrap .i64 (10 * c24))+(IntKind.wrap .i64 (IntKind.wrap .u8 (e26 - 48))))))) (cs':=[(.int .u8 2),(.str ([]:List UInt8)),(.int .i64 (IntKind.wrap .i64 ((IntKind.wrap .i64 (10 * c24))+(IntKind.wrap .i64 (IntKind.wrap .u8 (e26 - 48)))))),(.int .i64 x1)]) (nl rfl) rfl rfl rfl
     refine ⟨h114,e115,?_⟩
     refine iI.2 ⟨rfl,?_⟩
     refine ⟨(IntKind.wrap .i64 ((IntKind.wrap .i64 (10 * c24))+(IntKind.wrap .i64 (IntKind.wrap .u8 (e26 - 48))))),S.rd1 m0 rfl,?_⟩
     refine bI (fun hc=>?_) (fun hc=>?_)
     ·rw [ifD hc] at hf
      have S:=S.sel [1,0] rfl
      obtain ⟨h116,e117,S⟩:=S.store (off:=0) (n:=4) (x:=(.agg [(.int .u8 0),(.str ([]:List UInt8)),(.int .i64 0),(.int .i64 0)])) (cs':=[(.int .u8 0),(.str ([]:List UInt8)),(.int .i64 0),(.int .i64 0)]) (nl rfl) rfl rfl rfl
      refine ⟨h116,e117,?_⟩
      have S:=S.sel [0] rfl
      obtain rfl:=oi hf
      obtain rfl:=hk
      exact ⟨rfl,rfl,S,rfl⟩
     rw [ifE hc] at hf
     have S:=S.sel [1,0] rfl
     obtain rfl:=oi hf
     exact ⟨m103,Nat.lt_succ_self _,(IntKind.wrap .i64 ((IntKind.wrap .i64 (10 * c24))+(IntKind.wrap .i64 (IntKind.wrap .u8 (e26 - 48))))),rfl,rfl,rfl,rfl,S,hk⟩
    rw [ifF hc] at hf
    obtain rfl:=oi hf
    obtain rfl:=hk
    exact ⟨c24,rfl,rfl,rfl,rfl,S,rfl⟩
   refine bI (fun hc=>?_) (fun hc=>?_)
   ·rw [ifD hc] at hf
    obtain ⟨e27,he27,hf⟩:=oB hf
    refine ix_go f0_0 (sM S.le) he27 fun pe27=>?_
    obtain ⟨_,cr118,Rr118,Nr118,Or118,Zr118⟩:=SlR.idx f0_0 (sM S.le) he27
    obtain rfl:cr118=[(.int .u8 e27)]:=Rr118
    refine ⟨e27,Zr118 _ rfl,?_⟩
    obtain ⟨y28,hy28,hf⟩:=oB hf
    refine ⟨_,Fz.refl _,?_⟩
    refine (r38 (c0:=e27) hy28).mono fun v119 h120 T=>?_
    obtain ⟨rfl,T⟩:=T
    have S:St _ _ [_,_] _:=S.comp T
    refine ⟨y28,rfl,?_⟩
    exact hjj4 _ _  hf  S
   rw [ifE hc] at hf
   exact hjj4 _ _  hf  S
  exact ⟨(IntKind.wrap .i64 (IntKind.wrap .u8 (e29 - 48))),rfl,rfl,rfl,rfl,S,hL⟩
 rw [ifF hc] at hf
 intro jjj6
 have hjj6:∀ (b32:Bool) (h121:Heap),p32_j6 x0 x1 e29 b32=some r→h84=h121→St h none' [rowC h.n [(.int .u8 0),(.str ([]:List UInt8)),(.int .i64 0),(.int .i64 0)] 0,rowC h41.n [(.int .u8 0),(.str ([]:List UInt8)),(.int .i64 0),(.int .i64 x1)] 0] h84→jjj6 b32 h121:=by
  rintro b32 h121 hf rfl S
  unfold p32_j6 at hf
  unfold jjj6
  intro jjj5
  have hjj5:∀ (b30:Bool) (h122:Heap),p32_j5 x0 x1 e29 b30=some r→h84=h122→St h none' [rowC h.n [(.int .u8 0),(.str ([]:List UInt8)),(.int .i64 0),(.int .i64 0)] 0,rowC h41.n [(.int .u8 0),(.str ([]:List UInt8)),(.int .i64 0),(.int .i64 x1)] 0] h84→jjj5 b30 h122:=by
   rintro b30 h122 hf rfl S
   unfold p32_j5 at hf
   unfold jjj5
   refine bI (fun hc=>?_) (fun hc=>?_)
   ·rw [ifT hc] at hf
    refine iI.2 ⟨rfl,?_⟩
    have S:=S.sel [1,0] rfl
    obtain ⟨h123,e124,S⟩:=S.store (off:=0) (n:=1) (x:=(.int .u8 3)) (cs':=[(.int .u8 3),(.str ([]:List UInt8)),(.int .i64 0),(.int .i64 x1)]) (nl rfl) rfl rfl rfl
    refine ⟨h123,e124,?_⟩
    have S:=S.sel [1,0] rfl
    exact hjj0 _ _ _ _ _ _ 3 0 hf rfl rfl rfl rfl S
   rw [ifF hc] at hf
   obtain ⟨y31,hy31,hf⟩:=oB hf
   refine ⟨_,Fz.refl _,?_⟩
   refine (r48 (s0:=([59,58,44,42,33,126,64,61]:List UInt8)) (c1:=e29) hy31).mono fun v125 h126 T=>?_
   obtain ⟨rfl,T⟩:=T
   have S:St _ _ [_,_] _:=S.comp T
   refine ⟨y31,rfl,?_⟩
   refine bI (fun hc=>?_) (fun hc=>?_)
   ·rw [ifD hc] at hf
    refine iI.2 ⟨rfl,?_⟩
    have S:=S.sel [1,0] rfl
    obtain ⟨h127,e128,S⟩:=S.store (off:=0) (n:=1) (x:=(.int .u8 3)) (cs':=[(.int .u8 3),(.str ([]:List UInt8)),(.int .i64 0),(.int .i64 x1)]) (nl rfl) rfl rfl rfl
    refine ⟨h127,e128,?_⟩
    have S:=S.sel [1,0] rfl
    exact hjj0 _ _ _ _ _ _ 3 0 hf rfl rfl rfl rfl S
   rw [ifE hc] at hf
   obtain ⟨h129,e130,S⟩:=S.store (off:=0) (n:=4) (x:=(.agg [(.int .u8 0),(.str ([]:List UInt8)),(.int .i64 0),(.int .i64 0)])) (cs':=[(.int .u8 0),(.str ([]:List UInt8)),(.int .i64 0),(.int .i64 0)]) (nl rfl) rfl rfl rfl
   refine ⟨h129,e130,?_⟩
   refine ⟨(.int .u8 0),(.str ([]:List UInt8)),(.int .i64 0),(.int .i64 0),S.rdN m0 (nl rfl) rfl,?_⟩
   obtain rfl:=oi hf
   exact ⟨rfl,S.sel [] rfl⟩
  refine bI (fun hc=>?_) (fun hc=>?_)
  ·rw [ifT hc] at hf
   obtain ⟨e33,he33,hf⟩:=oB hf
   refine ix_go f0_0 (sM S.le) he33 fun pe33=>?_
   obtain ⟨_,cr131,Rr131,Nr131,Or131,Zr131⟩:=SlR.idx f0_0 (sM S.le) he33
   obtain rfl:cr131=[(.int .u8 e33)]:=Rr131
   refine ⟨e33,Zr131 _ rfl,?_⟩
   exact hjj5 _ _  hf rfl S
  rw [ifF hc] at hf
  exact hjj5 _ _  hf rfl S
 refine bI (fun hc=>?_) (fun hc=>?_)
 ·rw [ifD hc] at hf
  refine iI.2 ⟨(f0_0).is,?_⟩
  try rw [show (a0_0).slen=_ from (f0_0).slen]
  have S:=S.sel [1,0] rfl
  exact hjj6 _ _  hf rfl S
 rw [ifE hc] at hf
 have S:=S.sel [1,0] rfl
 exact hjj6 _ _  hf rfl S
def p21 (p0:List Int) (at1:Int):Option (Int×Int):=(slc p0 0 (if (p0.length:Int) < (if at1 < 0 then 0 else at1) then (p0.length:Int) else (if at1 < 0 then 0 else at1))).bind fun y10=>(p35 (y10.map u8) ([10]:List UInt8)).bind fun y11=>(p36 (y10.map u8) 10).bind fun y12=>some ((IntKind.wrap .i64 (y11+1)),(IntKind.wrap .i64 ((if (p0.length:Int) < (if at1 < 0 then 0 else at1) then (p0.length:Int) else (if at1 < 0 then 0 else at1)) - y12)))
theorem r21 {h:Heap} {a0_0:AV} {p0:List Int} {at1:Int} (f0_0:SlR (rI .u8) (Snap h) a0_0 p0) {r:Int×Int} (hf:p21 p0 at1=some r):ZC F 21 [a0_0,(.int .i64 at1)] h fun v h'=>v=.tuple [.int .i64 r.1,.int .i64 r.2]∧St h none' [] h':=by
 refine w21 ?_
 unfold W21
 unfold p21 at hf
 have S:St h none' [] h:=St.refl _ _
 refine iI.2 ⟨(f0_0).is,?_⟩
 try rw [show (a0_0).slen=_ from (f0_0).slen]
 obtain ⟨y10,hy10,hf⟩:=oB hf
 have ey10:=(sliceSl_ev01 (k:=.i64) f0_0 hy10)
 have fy10:SlR (rI .u8) (Snap h) (a0_0.sub 1 (0:Int).toNat ((if (p0.length:Int) < (if at1 < 0 then 0 else at1) then (p0.length:Int) else (if at1 < 0 then 0 else at1)):Int).toNat) y10:=slc_eq hy10▸SlR.sub f0_0 (slc_le hy10).1 (slc_le hy10).2
 refine oI (a0_0.sub 1 (0:Int).toNat ((if (p0.length:Int) < (if at1 < 0 then 0 else at1) then (p0.length:Int) else (if at1 < 0 then 0 else at1)):Int).toNat) ey10 ?_
 refine ⟨_,bytes_ev (SlR.mono (sM S.le) fy10),(y10.map u8),rfl,?_⟩
 obtain ⟨y11,hy11,hf⟩:=oB hf
 refine ⟨_,Fz.refl _,?_⟩
 refine (r35 (s0:=(y10.map u8)) (substr1:=([10]:List UInt8)) hy11).mono fun v13 h14 T=>?_
 obtain ⟨rfl,T⟩:=T
 have S:St _ _ [] _:=S.comp T
 refine ⟨y11,rfl,?_⟩
 obtain ⟨y12,hy12,hf⟩:=oB hf
 refine ⟨_,Fz.refl _,?_⟩
 refine (r36 (s0:=(y10.map u8)) (c1:=10) hy12).mono fun v15 h16 T=>?_
 obtain ⟨rfl,T⟩:=T
 have S:St _ _ [] _:=S.comp T
 refine ⟨y12,rfl,?_⟩
 obtain rfl:=oi hf
 exact ⟨rfl,S.sel [] rfl⟩
def p22 (p0:List Int) (e1:Int) (at2:Int):Option TFault:=(p21 p0 at2).bind fun u10=>some (TFault.mk e1 at2 u10.1 u10.2)
theorem r22 {h:Heap} {a0_0:AV} {p0:List Int} {e1:Int} {at2:Int} (f0_0:SlR (rI .u8) (Snap h) a0_0 p0) {r:TFault} (hf:p22 p0 e1 at2=some r):ZC F 22 [a0_0,(.int .i64 e1),(.int .i64 at2)] h fun v h'=>v=.agg [.int .i64 r.Err,.int .i64 r.At,.int .i64 r.Line,.int .i64 r.Col]∧St h none' [] h':=by
 refine w22 ?_
 unfold W22
 unfold p22 at hf
 have S:St h none' [] h:=St.refl _ _
 intro h11
 have S:St _ _ [rowC h.n [(.int .i64 0),(.int .i64 0),(.int .i64 0),(.int .i64 0)] 0] _:=S.pushRow [(.int .i64 0),(.int .i64 0),(.int .i64 0),(.int .i64 0)]
 obtain ⟨u10,hu10,hf⟩:=oB hf
 refine ⟨_,Fz.refl _,?_⟩
 refine (r21 (p0:=p0) (at1:=at2) (f0_0:=(SlR.mono (sM S.le) f0_0)) hu10).mono fun v12 h13 T=>?_
 obtain ⟨rfl,T⟩:=T
 have S:St _ _ [_] _:=S.comp T
 refine oI (.int .i64 u10.1) rfl ⟨u10.1,rfl,?_⟩
 refine oI (.int .i64 u10.2) rfl ⟨u10.2,rfl,?_⟩
 obtain ⟨h14,e15,S⟩:=S.store (off:=0) (n:=4) (x:=(.agg [(.int .i64 e1),(.int .i64 at2),(.int .i64 u10.1),(.int .i64 u10.2)])) (cs':=[(.int .i64 e1),(.int .i64 at2),(.int .i64 u10.1),(.int .i64 u10.2)]) (nl rfl) rfl rfl rfl
 refine ⟨h14,e15,?_⟩
 refine ⟨(.int .i64 e1),(.int .i64 at2),(.int .i64 u10.1),(.int .i64 u10.2),S.rdN m0 (nl rfl) rfl,?_⟩
 obtain rfl:=oi hf
 exact ⟨rfl,S.sel [] rfl⟩
def p18_l0 (p0:List Int) (st:Int×(List TTl)):Option ((Int×(List TTl))⊕((List TTl)×Int×Int×Int×Int)):=match st with | (at10,l11)=>(p31 p0 at10).bind fun y12=>if y12=(p0.length:Int) then ((app 40 l11 [(TTl.mk 0 ([]:List UInt8) 0 y12)]).bind fun l13=>some (.inr (l13,0,0,0,0))) else ((p32 p0 y12).bind fun u14=>if (!decide (u14.2=0))=true then ((p22 p0 u14.2 y12).bind fun y15=>some (.inr ([],y15.Err,y15.At,y15.Line,y15.Col))) else ((app 40 l11 [u14.1]).bind fun l16=>some (.inl ((IntKind.wrap .i64 (y12+(u14.1.Text.length:Int))),l16))))
def p18 (p0:List Int):Option ((List TTl)×TFault):=(loopC (p18_l0 p0) (0,[])).bind fun res17=>(match res17 with | (y18,c19,c20,c21,c22)=>some (y18,(TFault.mk c19 c20 c21 c22)))
theorem r18 {h:Heap} {a0_0:AV} {p0:List Int} (f0_0:SlR (rI .u8) (Snap h) a0_0 p0) {r:(List TTl)×TFault} (hf:p18 p0=some r):ZC F 18 [a0_0] h fun v h'=>∃ w0,v=.tuple [w0,.agg [.int .i64 r.2.Err,.int .i64 r.2.At,.int .i64 r.2.Line,.int .i64 r.2.Col]]∧St h none' [own (oSl (fz rTl)) [w0] r.1] h':=by
 refine w18 ?_
 unfold W18
 unfold p18 at hf
 have S:St h none' [] h:=St.refl _ _
 intro h23
 have S:St _ _ [rowC h.n [(.int .i64 0),(.int .i64 0),(.int .i64 0),(.int .i64 0)] 0] _:=S.pushRow [(.int .i64 0),(.int .i64 0),(.int .i64 0),(.int .i64 0)]
 obtain ⟨res17,hL,hf⟩:=oB hf
 obtain ⟨n24,hL⟩:=loopC_iff.1 hL
 have S:St _ _ [own (oSl (fz rTl)) [.nilSlice] [],_] _:=S.addE (oSl_nil _ _)
 have S:=S.sel [1,0] rfl
 refine loopm18_0 (R:=fun (p25:AV) (y26:AV) (y27:AV) (l28:AV) (at29:Int) (h30:Heap)=>∃ (y18:List TTl),∃ (c19:Int),∃ (c20:Int),∃ (c21:Int),∃ (c22:Int),AV.ptr h.n 0 0=y27∧St h none' [own (oSl (fz rTl)) [y26] y18,rowC h.n [(.int .i64 c19),(.int .i64 c20),(.int .i64 c21),(.int .i64 c22)] 0] h30∧(y18,c19,c20,c21,c22)=res17) ?_ (loop18_0 (I:=fun (m31:Nat) (p32:AV) (y33:AV) (y34:AV) (l35:AV) (at10:Int) (h36:Heap)=>∃ (l11:List TTl),a0_0=p32∧AV.ptr h.n 0 0=y34∧St h none' [rowC h.n [(.int .i64 0),(.int .i64 0),(.int .i64 0),(.int .i64 0)] 0,own (oSl (fz rTl)) [l35] l11] h36∧iter (p18_l0 p0) m31 (at10,l11)=some res17) ?_ (m:=n24) ?_)
 ·rintro p25 y26 y27 l28 at29 h30 ⟨y18,c19,c20,c21,c22,rfl,S,rfl⟩
  try dsimp only at hf
  refine ⟨(.int .i64 c19),(.int .i64 c20),(.int .i64 c21),(.int .i64 c22),S.rdN m1 (nl rfl) rfl,?_⟩
  obtain rfl:=oi hf
  exact ⟨y26,rfl,S.sel [0] rfl⟩
 ·rintro m37 p32 y33 y34 l35 at10 h36 ⟨l11,rfl,rfl,S,hit⟩
  obtain ⟨m31,q38,rfl,hf,hk⟩:=iter_some hit
  clear hit
  unfold B18_0
  unfold p18_l0 at hf
  try dsimp only at hf
  obtain ⟨y12,hy12,hf⟩:=oB hf
  refine ⟨_,Fz.refl _,?_⟩
  refine (r31 (p0:=p0) (at1:=at10) (f0_0:=(SlR.mono (sM S.le) f0_0)) hy12).mono fun v39 h40 T=>?_
  obtain ⟨rfl,T⟩:=T
  have S:St _ _ [_,_] _:=S.comp T
  refine ⟨y12,rfl,?_⟩
  refine iI.2 ⟨(f0_0).is,?_⟩
  try rw [show (a0_0).slen=_ from (f0_0).slen]
  refine bI (fun hc=>?_) (fun hc=>?_)
  ·rw [ifD hc] at hf
   intro h41
   have S:St _ _ [rowC h40.n [(.int .u8 0),(.str ([]:List UInt8)),(.int .i64 0),(.int .i64 y12)] 0,_,_] _:=S.pushRow [(.int .u8 0),(.str ([]:List UInt8)),(.int .i64 0),(.int .i64 y12)]
   obtain ⟨l13,hl13,hf⟩:=oB hf
   have S:St _ _ [own (fz rTl) [(.int .u8 0),(.str ([]:List UInt8)),(.int .i64 0),(.int .i64 y12)] (TTl.mk 0 ([]:List UInt8) 0 y12),_,_,_] _:=S.add (r:=rTl) (x:=(TTl.mk 0 ([]:List UInt8) 0 y12)) (rTl_mk (x:=(TTl.mk 0 ([]:List UInt8) 0 y12)))
   have S:=S.sel [3,0,1,2] rfl
   have ml13:=app_some hl13
   obtain ⟨v42,h43,e44,S⟩:=St.app1R (r:=(fz rTl)) (b:=40) S ml13.1
   have S:St _ _ [own (oSl (fz rTl)) [v42] l13,_] _:=S.cast1 (by rw [← ml13.2]<;>rfl)
   refine ⟨v42,h43,e44,?_⟩
   have S:=S.sel [1,0] rfl
   obtain ⟨h45,e46,S⟩:=S.store (off:=0) (n:=4) (x:=(.agg [(.int .i64 0),(.int .i64 0),(.int .i64 0),(.int .i64 0)])) (cs':=[(.int .i64 0),(.int .i64 0),(.int .i64 0),(.int .i64 0)]) (nl rfl) rfl rfl rfl
   refine ⟨h45,e46,?_⟩
   have S:=S.sel [1,0] rfl
   obtain rfl:=oi hf
   obtain rfl:=hk
   exact ⟨l13,0,0,0,0,rfl,S,rfl⟩
  rw [ifE hc] at hf
  obtain ⟨u14,hu14,hf⟩:=oB hf
  refine ⟨_,Fz.refl _,?_⟩
  refine (r32 (x0:=p0) (x1:=y12) (f0_0:=(SlR.mono (sM S.le) f0_0)) hu14).mono fun v47 h48 T=>?_
  obtain ⟨rfl,T⟩:=T
  have S:St _ _ [_,_] _:=S.comp T
  refine oI (.agg [(.int .u8 u14.1.Kind),(.str u14.1.Text),(.int .i64 u14.1.N),(.int .i64 u14.1.At)]) rfl ?_
  refine oI (.int .i64 u14.2) rfl ⟨u14.2,rfl,?_⟩
  intro h49
  have S:St _ _ [rowC h48.n [(.int .u8 0),(.str ([]:List UInt8)),(.int .i64 0),(.int .i64 0)] 0,_,_] _:=S.pushRow [(.int .u8 0),(.str ([]:List UInt8)),(.int .i64 0),(.int .i64 0)]
  obtain ⟨h50,e51,S⟩:=S.store (off:=0) (n:=4) (x:=(.agg [(.int .u8 u14.1.Kind),(.str u14.1.Text),(.int .i64 u14.1.N),(.int .i64 u14.1.At)])) (cs':=[(.int .u8 u14.1.Kind),(.str u14.1.Text),(.int .i64 u14.1.N),(.int .i64 u14.1.At)]) (nl rfl) rfl rfl rfl
  refine ⟨h50,e51,?_⟩
  refine bI (fun hc=>?_) (fun hc=>?_)
  ·rw [ifT hc] at hf
   obtain ⟨y15,hy15,hf⟩:=oB hf
   refine ⟨_,Fz.refl _,?_⟩
   refine (r22 (p0:=p0) (e1:=u14.2) (at2:=y12) (f0_0:=(SlR.mono (sM S.le) f0_0)) hy15).mono fun v52 h53 T=>?_
   obtain ⟨rfl,T⟩:=T
   have S:St _ _ [_,_,_] _:=S.comp T
   have S:=S.sel [1,0,2] rfl
   obtain ⟨h54,e55,S⟩:=S.store (off:=0) (n:=4) (x:=(.agg [(.int .i64 y15.Err),(.int .i64 y15.At),(.int .i64 y15.Line),(.int .i64 y15.Col)])) (cs':=[(.int .i64 y15.Err),(.int .i64 y15.At),(.int .i64 y15.Line),(.int .i64 y15.Col)]) (nl rfl) rfl rfl rfl
   refine ⟨h54,e55,?_⟩
   have S:St _ _ [own (oSl (fz rTl)) [.nilSlice] [],_,_,_] _:=S.addE (oSl_nil _ _)
   have S:=S.sel [0,1] rfl
   obtain rfl:=oi hf
   obtain rfl:=hk
   exact ⟨[],y15.Err,y15.At,y15.Line,y15.Col,rfl,S,rfl⟩
  rw [ifF hc] at hf
  refine ⟨(.int .u8 u14.1.Kind),(.str u14.1.Text),(.int .i64 u14.1.N),(.int .i64 u14.1.At),S.rdN m0 (nl rfl) rfl,?_⟩
  intro h56
  have S:St _ _ [rowC h50.n [(.int .u8 u14.1.Kind),(.str u14.1.Text),(.int .i64 u14.1.N),(.int .i64 u14.1.At)] 0,_,_,_] _:=S.pushRow [(.int .u8 u14.1.Kind),(.str u14.1.Text),(.int .i64 u14.1.N),(.int .i64 u14.1.At)]
  obtain ⟨l16,hl16,hf⟩:=oB hf
  have S:St _ _ [own (fz rTl) [(.int .u8 u14.1.Kind),(.str u14.1.Text),(.int .i64 u14.1.N),(.int .i64 u14.1.At)] u14.1,_,_,_,_] _:=S.add (r:=rTl) (x:=u14.1) (rTl_mk (x:=u14.1))
  have S:=S.sel [4,0,1,2,3] rfl
  have ml16:=app_some hl16
  obtain ⟨v57,h58,e59,S⟩:=St.app1R (r:=(fz rTl)) (b:=40) S ml16.1
  have S:St _ _ [own (oSl (fz rTl)) [v57] l16,_,_] _:=S.cast1 (by rw [← ml16.2]<;>rfl)
  refine ⟨v57,h58,e59,?_⟩
  refine ⟨u14.1.Text,S.rd1 m1 rfl,?_⟩
  have S:=S.sel [2,0] rfl
  obtain rfl:=oi hf
  exact ⟨m31,Nat.lt_succ_self _,l16,rfl,rfl,S,hk⟩
 exact ⟨[],rfl,rfl,S,hL⟩
def p33_j0 (b10:Bool):Option Bool:=some b10
def p33 (c0:Int):Option Bool:=if 97≤c0 then (p33_j0 (decide (c0≤(122:Int)))) else (p33_j0 false)
theorem r33 {h:Heap}  {c0:Int} {r:Bool} (hf:p33 c0=some r):ZC F 33 [(.int .u8 c0)] h fun v h'=>v=.bool r∧St h none' [] h':=by
 refine w33 ?_
 unfold W33
 unfold p33 at hf
 have S:St h none' [] h:=St.refl _ _
 intro jjj0
 have hjj0:∀ (b10:Bool) (h11:Heap),p33_j0 b10=some r→h=h11→St h none' [] h→jjj0 b10 h11:=by
  rintro b10 h11 hf rfl S
  unfold p33_j0 at hf
  unfold jjj0
  obtain rfl:=oi hf
  exact ⟨rfl,S.sel [] rfl⟩
 refine bI (fun hc=>?_) (fun hc=>?_)
 ·rw [ifD hc] at hf
  exact hjj0 _ _  hf rfl S
 rw [ifE hc] at hf
 exact hjj0 _ _  hf rfl S
def p34_j0 (b10:Bool):Option Bool:=some b10
def p34 (c0:Int):Option Bool:=if 48≤c0 then (p34_j0 (decide (c0≤(57:Int)))) else (p34_j0 false)
theorem r34 {h:Heap}  {c0:Int} {r:Bool} (hf:p34 c0=some r):ZC F 34 [(.int .u8 c0)] h fun v h'=>v=.bool r∧St h none' [] h':=by
 refine w34 ?_
 unfold W34
 unfold p34 at hf
 have S:St h none' [] h:=St.refl _ _
 intro jjj0
 have hjj0:∀ (b10:Bool) (h11:Heap),p34_j0 b10=some r→h=h11→St h none' [] h→jjj0 b10 h11:=by
  rintro b10 h11 hf rfl S
  unfold p34_j0 at hf
  unfold jjj0
  obtain rfl:=oi hf
  exact ⟨rfl,S.sel [] rfl⟩
 refine bI (fun hc=>?_) (fun hc=>?_)
 ·rw [ifD hc] at hf
  exact hjj0 _ _  hf rfl S
 rw [ifE hc] at hf
 exact hjj0 _ _  hf rfl S
def p20_j0 (i10:Int) (line11:Int) (col12:Int):Option ((Int×Int×Int)⊕(Int×Int)):=some (.inl (line11,col12,(IntKind.wrap .i64 (i10+1))))
def p20_j1 (p0:List Int) (line13:Int) (col14:Int) (i10:Int) (b15:Bool):Option ((Int×Int×Int)⊕(Int×Int)):=if b15=true then ((idx p0 i10).bind fun e16=>if e16=10 then (p20_j0 i10 (IntKind.wrap .i64 (line13+1)) 1) else (p20_j0 i10 line13 (IntKind.wrap .i64 (col14+1)))) else (some (.inr (line13,col14)))
def p20_l0 (p0:List Int) (at1:Int) (st:Int×Int×Int):Option ((Int×Int×Int)⊕(Int×Int)):=match st with | (line13,col14,i10)=>if i10 < at1 then (p20_j1 p0 line13 col14 i10 (decide (i10 < (p0.length:Int)))) else (p20_j1 p0 line13 col14 i10 false)
def p20 (p0:List Int) (at1:Int):Option (Int×Int):=(loopC (p20_l0 p0 at1) (1,1,0)).bind fun res17=>(match res17 with | (line18,col19)=>some (line18,col19))
theorem r20 {h:Heap} {a0_0:AV} {p0:List Int} {at1:Int} (f0_0:SlR (rI .u8) (Snap h) a0_0 p0) {r:Int×Int} (hf:p20 p0 at1=some r):ZC F 20 [a0_0,(.int .i64 at1)] h fun v h'=>v=.tuple [.int .i64 r.1,.int .i64 r.2]∧St h none' [] h':=by
 refine w20 ?_
 unfold W20
 unfold p20 at hf
 have S:St h none' [] h:=St.refl _ _
 obtain ⟨res17,hL,hf⟩:=oB hf
 obtain ⟨n20,hL⟩:=loopC_iff.1 hL
 refine loopm20_0 (X0:=fun (p21:AV) (at22:Int) (line18:Int) (col19:Int) (i23:Int) (h24:Heap)=>St h none' [] h24∧(line18,col19)=res17) ?_ (loop20_0 (I:=fun (m25:Nat) (p26:AV) (at27:Int) (line13:Int) (col14:Int) (i10:Int) (h28:Heap)=>a0_0=p26∧at1=at27∧St h none' [] h28∧iter (p20_l0 p0 at1) m25 (line13,col14,i10)=some res17) ?_ (m:=n20) ?_)
 ·rintro p21 at22 line18 col19 i23 h24 ⟨S,rfl⟩
  try dsimp only at hf
  obtain rfl:=oi hf
  exact ⟨rfl,S.sel [] rfl⟩
 ·rintro m29 p26 at27 line13 col14 i10 h28 ⟨rfl,rfl,S,hit⟩
  obtain ⟨m25,q30,rfl,hf,hk⟩:=iter_some hit
  clear hit
  unfold B20_0
  unfold p20_l0 at hf
  try dsimp only at hf
  intro jjj1
  have hjj1:∀ (b15:Bool) (h31:Heap),p20_j1 p0 line13 col14 i10 b15=some q30→h28=h31→St h none' [] h28→jjj1 b15 h31:=by
   rintro b15 h31 hf rfl S
   unfold p20_j1 at hf
   unfold jjj1
   refine bI (fun hc=>?_) (fun hc=>?_)
   ·rw [ifT hc] at hf
    obtain ⟨e16,he16,hf⟩:=oB hf
    refine ix_go f0_0 (sM S.le) he16 fun pe16=>?_
    obtain ⟨_,cr32,Rr32,Nr32,Or32,Zr32⟩:=SlR.idx f0_0 (sM S.le) he16
    obtain rfl:cr32=[(.int .u8 e16)]:=Rr32
    refine ⟨e16,Zr32 _ rfl,?_⟩
    intro jjj0
    have hjj0:∀ (line11:Int) (col12:Int) (h33:Heap),p20_j0 i10 line11 col12=some q30→St h none' [] h33→jjj0 line11 col12 h33:=by
     rintro line11 col12 h33 hf S
     unfold p20_j0 at hf
     unfold jjj0
     obtain rfl:=oi hf
     exact ⟨m25,Nat.lt_succ_self _,rfl,rfl,S,hk⟩
    refine bI (fun hc=>?_) (fun hc=>?_)
    ·rw [ifD hc] at hf
     exact hjj0 _ _ _  hf  S
    rw [ifE hc] at hf
    exact hjj0 _ _ _  hf  S
   rw [ifF hc] at hf
   obtain rfl:=oi hf
   obtain rfl:=hk
   exact ⟨S,rfl⟩
  refine bI (fun hc=>?_) (fun hc=>?_)
  ·rw [ifD hc] at hf
   refine iI.2 ⟨(f0_0).is,?_⟩
   try rw [show (a0_0).slen=_ from (f0_0).slen]
   exact hjj1 _ _  hf rfl S
  rw [ifE hc] at hf
  exact hjj1 _ _  hf rfl S
 exact ⟨rfl,rfl,S,hL⟩
def p19_j0 (y10:Int) (b11:Bool):Option (Int⊕Int):=if b11=true then (some (.inl (IntKind.wrap .i64 (y10+1)))) else (some (.inr y10))
def p19_l0 (x0:List Int) (y10:Int):Option (Int⊕Int):=if y10 < (x0.length:Int) then ((idx x0 y10).bind fun e12=>p19_j0 y10 (!decide (e12=10))) else (p19_j0 y10 false)
def p19_j1 (x0:List Int) (y13:Int) (y14:List TToken) (y15:List TToken) (y16:Int) (y17:Int) (y18:Int) (c19:Int) (c20:Int):Option ((Int×Int×Int×(List TToken)×(List TToken))⊕((Int×Int)⊕(List TToken))):=(slc x0 y13 y18).bind fun y21=>(app 40 y15 [(TToken.mk c19 (y21.map u8) c20 y13)]).bind fun y22=>some (.inl (y16,y17,y18,y14,y22))
def p19_j2 (y23:Int) (b24:Bool):Option (Int⊕Int):=if b24=true then (some (.inl (IntKind.wrap .i64 (y23+1)))) else (some (.inr y23))
def p19_j3 (y23:Int) (b25:Bool):Option (Int⊕Int):=p19_j2 y23 b25
def p19_j4 (x0:List Int) (y23:Int) (b26:Bool):Option (Int⊕Int):=if b26=true then (p19_j3 y23 true) else ((idx x0 y23).bind fun e27=>p19_j3 y23 (decide (e27=46)))
def p19_l1 (x0:List Int) (y23:Int):Option (Int⊕Int):=if y23 < (x0.length:Int) then ((idx x0 y23).bind fun e28=>(p33 e28).bind fun y29=>if y29=true then (p19_j4 x0 y23 true) else ((idx x0 y23).bind fun e30=>(p34 e30).bind fun y31=>p19_j4 x0 y23 y31)) else (p19_j2 y23 false)
def p19_j5 (y32:Int) (b33:Bool):Option (Int⊕Int):=if b33=true then (some (.inl (IntKind.wrap .i64 (y32+1)))) else (some (.inr y32))
def p19_l2 (x0:List Int) (y32:Int):Option (Int⊕Int):=if y32 < (x0.length:Int) then ((idx x0 y32).bind fun e34=>(p34 e34).bind fun y35=>p19_j5 y32 y35) else (p19_j5 y32 false)
def p19_l3 (x0:List Int) (y36:Int) (st:Int×Int×Int×Int):Option ((Int×Int×Int×Int)⊕(Unit⊕(Int×Int×Int))):=match st with | (y37,y38,y39,c40)=>if y39 < y36 then ((idx x0 y39).bind fun e41=>if 1125899906842624 < (IntKind.wrap .i64 ((IntKind.wrap .i64 (c40 * 10))+(IntKind.wrap .i64 (IntKind.wrap .u8 (e41 - 48))))) then (some (.inr (.inl ()))) else (some (.inl (y37,y38,(IntKind.wrap .i64 (y39+1)),(IntKind.wrap .i64 ((IntKind.wrap .i64 (c40 * 10))+(IntKind.wrap .i64 (IntKind.wrap .u8 (e41 - 48))))))))) else (some (.inr (.inr (y37,y38,c40))))
def p19_j6 (y42:Int) (c43:Int):Option ((Int×Int)⊕Int):=some (.inl ((IntKind.wrap .i64 (y42+1)),c43))
def p19_l4 (e44:Int) (st:Int×Int):Option ((Int×Int)⊕Int):=match st with | (y42,c45)=>if y42 < 8 then ((idxS ([59,58,44,42,33,126,64,61]:List UInt8) y42).bind fun y46=>if y46=e44 then (p19_j6 y42 3) else (p19_j6 y42 c45)) else (some (.inr c45))
def p19_j7 (x0:List Int) (y47:Int) (y48:Int) (y13:Int) (y14:List TToken) (y15:List TToken) (e44:Int) (b49:Bool):Option ((Int×Int×Int×(List TToken)×(List TToken))⊕((Int×Int)⊕(List TToken))):=if b49=true then (p19_j1 x0 y13 y14 y15 y47 y48 (IntKind.wrap .i64 ((IntKind.wrap .i64 (y13+1))+1)) 3 0) else ((loopC (p19_l4 e44) (0,0)).bind fun res50=>((fun (c51:Int)=>if c51=0 then (some (.inr (.inl (6,y13)))) else (p19_j1 x0 y13 y14 y15 y47 y48 (IntKind.wrap .i64 (y13+1)) c51 0)) res50))
def p19_j8 (x0:List Int) (y47:Int) (y48:Int) (y13:Int) (y14:List TToken) (y15:List TToken) (e44:Int) (b52:Bool):Option ((Int×Int×Int×(List TToken)×(List TToken))⊕((Int×Int)⊕(List TToken))):=if b52=true then ((idx x0 (IntKind.wrap .i64 (y13+1))).bind fun e53=>p19_j7 x0 y47 y48 y13 y14 y15 e44 (decide (e53=62))) else (p19_j7 x0 y47 y48 y13 y14 y15 e44 false)
def p19_j9 (x0:List Int) (y47:Int) (y48:Int) (y13:Int) (y14:List TToken) (y15:List TToken) (e44:Int) (b54:Bool):Option ((Int×Int×Int×(List TToken)×(List TToken))⊕((Int×Int)⊕(List TToken))):=if b54=true then (some (.inl (y47,y48,(IntKind.wrap .i64 (y13+1)),y14,y15))) else (if e44=35 then ((loopC (p19_l0 x0) y13).bind fun res55=>((fun (y56:Int)=>some (.inl (y47,y48,y56,y14,y15))) res55)) else ((p33 e44).bind fun y57=>if y57=true then ((loopC (p19_l1 x0) (IntKind.wrap .i64 (y13+1))).bind fun res58=>((fun (y59:Int)=>p19_j1 x0 y13 y14 y15 y47 y48 y59 1 0) res58)) else ((p34 e44).bind fun y60=>if y60=true then ((loopC (p19_l2 x0) (IntKind.wrap .i64 (y13+1))).bind fun res61=>((fun (y36:Int)=>(loopC (p19_l3 x0 y36) (y47,y48,y13,0)).bind fun res62=>(match res62 with | .inl _=>some (.inr (.inl (3,y13))) | .inr (y63,y64,c65)=>p19_j1 x0 y13 y14 y15 y63 y64 y36 2 c65)) res61)) else (if e44=45 then (p19_j8 x0 y47 y48 y13 y14 y15 e44 (decide ((IntKind.wrap .i64 (y13+1)) < (x0.length:Int)))) else (p19_j8 x0 y47 y48 y13 y14 y15 e44 false)))))
def p19_j10 (x0:List Int) (y47:Int) (y48:Int) (y13:Int) (y14:List TToken) (y15:List TToken) (e44:Int) (b66:Bool):Option ((Int×Int×Int×(List TToken)×(List TToken))⊕((Int×Int)⊕(List TToken))):=if b66=true then (p19_j9 x0 y47 y48 y13 y14 y15 e44 true) else (p19_j9 x0 y47 y48 y13 y14 y15 e44 (decide (e44=13)))
def p19_j11 (x0:List Int) (y47:Int) (y48:Int) (y13:Int) (y14:List TToken) (y15:List TToken) (e44:Int) (b67:Bool):Option ((Int×Int×Int×(List TToken)×(List TToken))⊕((Int×Int)⊕(List TToken))):=if b67=true then (p19_j10 x0 y47 y48 y13 y14 y15 e44 true) else (p19_j10 x0 y47 y48 y13 y14 y15 e44 (decide (e44=10)))
def p19_l5 (x0:List Int) (st:Int×Int×Int×(List TToken)×(List TToken)):Option ((Int×Int×Int×(List TToken)×(List TToken))⊕((Int×Int)⊕(List TToken))):=match st with | (y47,y48,y13,y14,y15)=>if y13 < (x0.length:Int) then ((idx x0 y13).bind fun e44=>if e44=32 then (p19_j11 x0 y47 y48 y13 y14 y15 e44 true) else (p19_j11 x0 y47 y48 y13 y14 y15 e44 (decide (e44=9)))) else (some (.inr (.inr y15)))
def p19 (x0:List Int):Option ((List TToken)×Int×Int):=(loopC (p19_l5 x0) (0,0,0,[],[])).bind fun res68=>(match res68 with | .inl (y69,y70)=>some ([],y69,y70) | .inr y71=>(app 40 y71 [(TToken.mk 0 ([]:List UInt8) 0 (x0.length:Int))]).bind fun y72=>some (y72,0,0))
theorem r19 {h:Heap} {a0_0:AV} {x0:List Int} (f0_0:SlR (rI .u8) (Snap h) a0_0 x0) {r:(List TToken)×Int×Int} (hf:p19 x0=some r):ZC F 19 [a0_0] h fun v h'=>∃ w0,v=.tuple [w0,.int .i64 r.2.1,.int .i64 r.2.2]∧St h none' [own (oSl (fz rToken)) [w0] r.1] h':=by
 refine w19 ?_
 unfold W19
 unfold p19 at hf
 have S:St h none' [] h:=St.refl _ _
 obtain ⟨res68,hL,hf⟩:=oB hf
 obtain ⟨n73,hL⟩:=loopC_iff.1 hL
 have S:St _ _ [own (oSl (fz rToken)) [.nilSlice] []] _:=S.addE (oSl_nil _ _)
 have S:St _ _ [own (oSl (fz rToken)) [.nilSlice] [],_] _:=S.addE (oSl_nil _ _)
 have S:=S.sel [1,0] rfl
 refine loopm19_5 (R:=fun (y74:AV) (y75:AV) (y69:Int) (y70:Int) (y76:AV) (y77:Int) (h78:Heap)=>AV.nilSlice=y75∧St h none' [] h78∧(.inl (y69,y70))=res68) (X0:=fun (y79:AV) (y80:AV) (y81:Int) (y82:Int) (y83:AV) (y84:Int) (h85:Heap)=>∃ (y71:List TToken),a0_0=y79∧St h none' [own (oSl (fz rToken)) [y83] y71] h85∧(.inr y71)=res68) ?_ ?_ (loop19_5 (I:=fun (m86:Nat) (y87:AV) (y88:AV) (y47:Int) (y48:Int) (y89:AV) (y13:Int) (h90:Heap)=>∃ (y14:List TToken),∃ (y15:List TToken),a0_0=y87∧St h none' [own (oSl (fz rToken)) [y88] y14,own (oSl (fz rToken)) [y89] y15] h90∧iter (p19_l5 x0) m86 (y47,y48,y13,y14,y15)=some res68) ?_ (m:=n73) ?_)
 ·rintro y74 y75 y69 y70 y76 y77 h78 ⟨rfl,S,rfl⟩
  try dsimp only at hf
  have S:St _ _ [own (oSl (fz rToken)) [.nilSlice] []] _:=S.addE (oSl_nil _ _)
  obtain rfl:=oi hf
  exact ⟨.nilSlice,rfl,S.sel [0] rfl⟩
 ·rintro y79 y80 y81 y82 y83 y84 h85 ⟨y71,rfl,S,rfl⟩
  try dsimp only at hf
  refine iI.2 ⟨(f0_0).is,?_⟩
  try rw [show (a0_0).slen=_ from (f0_0).slen]
  intro h91
  have S:St _ _ [rowC h85.n [(.int .u8 0),(.str ([]:List UInt8)),(.int .i64 0),(.int .i64 (x0.length:Int))] 0,_] _:=S.pushRow [(.int .u8 0),(.str ([]:List UInt8)),(.int .i64 0),(.int .i64 (x0.length:Int))]
  obtain ⟨y72,hy72,hf⟩:=oB hf
  have S:St _ _ [own (fz rToken) [(.int .u8 0),(.str ([]:List UInt8)),(.int .i64 0),(.int .i64 (x0.length:Int))] (TToken.mk 0 ([]:List UInt8) 0 (x0.length:Int)),_,_] _:=S.add (r:=rToken) (x:=(TToken.mk 0 ([]:List UInt8) 0 (x0.length:Int))) (rToken_mk (x:=(TToken.mk 0 ([]:List UInt8) 0 (x0.length:Int))))
  have S:=S.sel [2,0,1] rfl
  have my72:=app_some hy72
  obtain ⟨v92,h93,e94,S⟩:=St.app1R (r:=(fz rToken)) (b:=40) S my72.1
  have S:St _ _ [own (oSl (fz rToken)) [v92] y72] _:=S.cast1 (by rw [← my72.2]<;>rfl)
  refine ⟨v92,h93,e94,?_⟩
  obtain rfl:=oi hf
  exact ⟨v92,rfl,S.sel [0] rfl⟩
 ·rintro m95 y87 y88 y47 y48 y89 y13 h90 ⟨y14,y15,rfl,S,hit⟩
  obtain ⟨m86,q96,rfl,hf,hk⟩:=iter_some hit
  clear hit
  unfold B19_5
  unfold p19_l5 at hf
  try dsimp only at hf
  refine iI.2 ⟨(f0_0).is,?_⟩
  try rw [show (a0_0).slen=_ from (f0_0).slen]
  refine bI (fun hc=>?_) (fun hc=>?_)
  ·rw [ifD hc] at hf
   obtain ⟨e44,he44,hf⟩:=oB hf
   refine ix_go f0_0 (sM S.le) he44 fun pe44=>?_
   obtain ⟨_,cr97,Rr97,Nr97,Or97,Zr97⟩:=SlR.idx f0_0 (sM S.le) he44
   obtain rfl:cr97=[(.int .u8 e44)]:=Rr97
   refine ⟨e44,Zr97 _ rfl,?_⟩
   intro jjj11
   have hjj11:∀ (b67:Bool) (h98:Heap),p19_j11 x0 y47 y48 y13 y14 y15 e44 b67=some q96→h90=h98→St h none' [own (oSl (fz rToken)) [y88] y14,own (oSl (fz rToken)) [y89] y15] h90→jjj11 b67 h98:=by
    rintro b67 h98 hf rfl S
    unfold p19_j11 at hf
    unfold jjj11
    intro jjj10
    have hjj10:∀ (b66:Bool) (h99:Heap),p19_j10 x0 y47 y48 y13 y14 y15 e44 b66=some q96→h90=h99→St h none' [own (oSl (fz rToken)) [y88] y14,own (oSl (fz rToken)) [y89] y15] h90→jjj10 b66 h99:=by
     rintro b66 h99 hf rfl S
     unfold p19_j10 at hf
     unfold jjj10
     intro jjj9
     have hjj9:∀ (b54:Bool) (h100:Heap),p19_j9 x0 y47 y48 y13 y14 y15 e44 b54=some q96→h90=h100→St h none' [own (oSl (fz rToken)) [y88] y14,own (oSl (fz rToken)) [y89] y15] h90→jjj9 b54 h100:=by
      rintro b54 h100 hf rfl S
      unfold p19_j9 at hf
      unfold jjj9
      refine bI (fun hc=>?_) (fun hc=>?_)
      ·rw [ifT hc] at hf
       obtain rfl:=oi hf
       exact ⟨m86,Nat.lt_succ_self _,y14,y15,rfl,S,hk⟩
      rw [ifF hc] at hf
      refine bI (fun hc=>?_) (fun hc=>?_)
      ·rw [ifD hc] at hf
       obtain ⟨res55,hL,hf⟩:=oB hf
       obtain ⟨n101,hL⟩:=loopC_iff.1 hL
       refine loopm19_0 (X2:=fun (y102:AV) (y103:AV) (y104:Int) (y105:Int) (y106:AV) (y56:Int) (h107:Heap)=>a0_0=y102∧y88=y103∧y47=y104∧y48=y105∧y89=y106∧St h none' [own (oSl (fz rToken)) [y88] y14,own (oSl (fz rToken)) [y89] y15] h107∧y56=res55) ?_ (loop19_0 (I:=fun (m108:Nat) (y109:AV) (y110:AV) (y111:Int) (y112:Int) (y113:AV) (y10:Int) (h114:Heap)=>a0_0=y109∧y88=y110∧y47=y111∧y48=y112∧y89=y113∧St h none' [own (oSl (fz rToken)) [y88] y14,own (oSl (fz rToken)) [y89] y15] h114∧iter (p19_l0 x0) m108 y10=some res55) ?_ (m:=n101) ?_)
       ·rintro y102 y103 y104 y105 y106 y56 h107 ⟨rfl,rfl,rfl,rfl,rfl,S,rfl⟩
        try dsimp only at hf
        obtain rfl:=oi hf
        exact ⟨m86,Nat.lt_succ_self _,y14,y15,rfl,S,hk⟩
       ·rintro m115 y109 y110 y111 y112 y113 y10 h114 ⟨rfl,rfl,rfl,rfl,rfl,S,hit⟩
        obtain ⟨m108,q116,rfl,hf,hk⟩:=iter_some hit
        clear hit
        unfold B19_0
        unfold p19_l0 at hf
        try dsimp only at hf
        refine iI.2 ⟨(f0_0).is,?_⟩
        try rw [show (a0_0).slen=_ from (f0_0).slen]
        intro jjj0
        have hjj0:∀ (b11:Bool) (h117:Heap),p19_j0 y10 b11=some q116→h114=h117→St h none' [own (oSl (fz rToken)) [y88] y14,own (oSl (fz rToken)) [y89] y15] h114→jjj0 b11 h117:=by
         rintro b11 h117 hf rfl S
         unfold p19_j0 at hf
         unfold jjj0
         refine bI (fun hc=>?_) (fun hc=>?_)
         ·rw [ifT hc] at hf
          obtain rfl:=oi hf
          exact ⟨m108,Nat.lt_succ_self _,rfl,rfl,rfl,rfl,rfl,S,hk⟩
         rw [ifF hc] at hf
         obtain rfl:=oi hf
         obtain rfl:=hk
         exact ⟨rfl,rfl,rfl,rfl,rfl,S,rfl⟩
        refine bI (fun hc=>?_) (fun hc=>?_)
        ·rw [ifD hc] at hf
         obtain ⟨e12,he12,hf⟩:=oB hf
         refine ix_go f0_0 (sM S.le) he12 fun pe12=>?_
         obtain ⟨_,cr118,Rr118,Nr118,Or118,Zr118⟩:=SlR.idx f0_0 (sM S.le) he12
         obtain rfl:cr118=[(.int .u8 e12)]:=Rr118
         refine ⟨e12,Zr118 _ rfl,?_⟩
         exact hjj0 _ _  hf rfl S
        rw [ifE hc] at hf
        exact hjj0 _ _  hf rfl S
       exact ⟨rfl,rfl,rfl,rfl,rfl,S,hL⟩
      rw [ifE hc] at hf
      intro h119
      have S:St _ _ [rowC h90.n [(.int .u8 0),(.str ([]:List UInt8)),(.int .i64 0),(.int .i64 0)] 0,_,_] _:=S.pushRow [(.int .u8 0),(.str ([]:List UInt8)),(.int .i64 0),(.int .i64 0)]
      obtain ⟨h120,e121,S⟩:=S.store (off:=0) (n:=4) (x:=(.agg [(.int .u8 0),(.str ([]:List UInt8)),(.int .i64 0),(.int .i64 y13)])) (cs':=[(.int .u8 0),(.str ([]:List UInt8)),(.int .i64 0),(.int .i64 y13)]) (nl rfl) rfl rfl rfl
      refine ⟨h120,e121,?_⟩
      obtain ⟨y57,hy57,hf⟩:=oB hf
      refine ⟨_,Fz.refl _,?_⟩
      refine (r33 (c0:=e44) hy57).mono fun v122 h123 T=>?_
      obtain ⟨rfl,T⟩:=T
      have S:St _ _ [_,_,_] _:=S.comp T
      refine ⟨y57,rfl,?_⟩
      intro jjj1
      have hjj1:∀ (y124:AV) (y125:AV) (y16:Int) (y17:Int) (y126:AV) (y127:Int) (y18:Int) (y128:AV) (h129:Heap) (c19:Int) (c20:Int),p19_j1 x0 y13 y14 y15 y16 y17 y18 c19 c20=some q96→a0_0=y124→y89=y126→y13=y127→AV.ptr h90.n 0 0=y128→St h none' [own (oSl (fz rToken)) [y125] y14,own (oSl (fz rToken)) [y89] y15,rowC h90.n [(.int .u8 c19),(.str ([]:List UInt8)),(.int .i64 c20),(.int .i64 y13)] 0] h129→jjj1 y124 y125 y16 y17 y126 y127 y18 y128 h129:=by
       rintro y124 y125 y16 y17 y126 y127 y18 y128 h129 c19 c20 hf rfl rfl rfl rfl S
       unfold p19_j1 at hf
       unfold jjj1
       obtain ⟨y21,hy21,hf⟩:=oB hf
       have ey21:=(sliceSl_ev11 (k:=.i64) (k':=.i64) f0_0 hy21)
       have fy21:SlR (rI .u8) (Snap h) (a0_0.sub 1 (y13:Int).toNat (y18:Int).toNat) y21:=slc_eq hy21▸SlR.sub f0_0 (slc_le hy21).1 (slc_le hy21).2
       refine oI (a0_0.sub 1 (y13:Int).toNat (y18:Int).toNat) ey21 ?_
       refine ⟨_,bytes_ev (SlR.mono (sM S.le) fy21),(y21.map u8),rfl,?_⟩
       refine iI.2 ⟨rfl,?_⟩
       have S:=S.sel [2,0,1] rfl
       obtain ⟨h130,e131,S⟩:=S.store (off:=1) (n:=1) (x:=(.str (y21.map u8))) (cs':=[(.int .u8 c19),(.str (y21.map u8)),(.int .i64 c20),(.int .i64 y13)]) (nl rfl) rfl rfl rfl
       refine ⟨h130,e131,?_⟩
       refine ⟨(.int .u8 c19),(.str (y21.map u8)),(.int .i64 c20),(.int .i64 y13),S.rdN m0 (nl rfl) rfl,?_⟩
       intro h132
       have S:St _ _ [rowC h130.n [(.int .u8 c19),(.str (y21.map u8)),(.int .i64 c20),(.int .i64 y13)] 0,_,_,_] _:=S.pushRow [(.int .u8 c19),(.str (y21.map u8)),(.int .i64 c20),(.int .i64 y13)]
       obtain ⟨y22,hy22,hf⟩:=oB hf
       have S:St _ _ [own (fz rToken) [(.int .u8 c19),(.str (y21.map u8)),(.int .i64 c20),(.int .i64 y13)] (TToken.mk c19 (y21.map u8) c20 y13),_,_,_,_] _:=S.add (r:=rToken) (x:=(TToken.mk c19 (y21.map u8) c20 y13)) (rToken_mk (x:=(TToken.mk c19 (y21.map u8) c20 y13)))
       have S:=S.sel [4,0,1,2,3] rfl
       have my22:=app_some hy22
       obtain ⟨v133,h134,e135,S⟩:=St.app1R (r:=(fz rToken)) (b:=40) S my22.1
       have S:St _ _ [own (oSl (fz rToken)) [v133] y22,_,_] _:=S.cast1 (by rw [← my22.2]<;>rfl)
       refine ⟨v133,h134,e135,?_⟩
       have S:=S.sel [2,0] rfl
       obtain rfl:=oi hf
       exact ⟨m86,Nat.lt_succ_self _,y14,y22,rfl,S,hk⟩
      refine bI (fun hc=>?_) (fun hc=>?_)
      ·rw [ifT hc] at hf
       obtain ⟨h136,e137,S⟩:=S.store (off:=0) (n:=1) (x:=(.int .u8 1)) (cs':=[(.int .u8 1),(.str ([]:List UInt8)),(.int .i64 0),(.int .i64 y13)]) (nl rfl) rfl rfl rfl
       refine ⟨h136,e137,?_⟩
       obtain ⟨res58,hL,hf⟩:=oB hf
       obtain ⟨n138,hL⟩:=loopC_iff.1 hL
       have S:=S.sel [1,2,0] rfl
       refine loopm19_1 (X4:=fun (y139:AV) (y140:AV) (y141:Int) (y142:Int) (y143:AV) (y144:Int) (y59:Int) (y145:AV) (h146:Heap)=>a0_0=y139∧y88=y140∧y47=y141∧y48=y142∧y89=y143∧y13=y144∧AV.ptr h90.n 0 0=y145∧St h none' [own (oSl (fz rToken)) [y88] y14,own (oSl (fz rToken)) [y89] y15,rowC h90.n [(.int .u8 1),(.str ([]:List UInt8)),(.int .i64 0),(.int .i64 y13)] 0] h146∧y59=res58) ?_ (loop19_1 (I:=fun (m147:Nat) (y148:AV) (y149:AV) (y150:Int) (y151:Int) (y152:AV) (y153:Int) (y23:Int) (y154:AV) (h155:Heap)=>a0_0=y148∧y88=y149∧y47=y150∧y48=y151∧y89=y152∧y13=y153∧AV.ptr h90.n 0 0=y154∧St h none' [own (oSl (fz rToken)) [y88] y14,own (oSl (fz rToken)) [y89] y15,rowC h90.n [(.int .u8 1),(.str ([]:List UInt8)),(.int .i64 0),(.int .i64 y13)] 0] h155∧iter (p19_l1 x0) m147 y23=some res58) ?_ (m:=n138) ?_)
       ·rintro y139 y140 y141 y142 y143 y144 y59 y145 h146 ⟨rfl,rfl,rfl,rfl,rfl,rfl,rfl,S,rfl⟩
        try dsimp only at hf
        exact hjj1 _ _ _ _ _ _ _ _ _ 1 0 hf rfl rfl rfl rfl S
       ·rintro m156 y148 y149 y150 y151 y152 y153 y23 y154 h155 ⟨rfl,rfl,rfl,rfl,rfl,rfl,rfl,S,hit⟩
        obtain ⟨m147,q157,rfl,hf,hk⟩:=iter_some hit
        clear hit
        unfold B19_1
        unfold p19_l1 at hf
        try dsimp only at hf
        refine iI.2 ⟨(f0_0).is,?_⟩
        try rw [show (a0_0).slen=_ from (f0_0).slen]
        intro jjj2
        have hjj2:∀ (b24:Bool) (h158:Heap),p19_j2 y23 b24=some q157→St h none' [own (oSl (fz rToken)) [y88] y14,own (oSl (fz rToken)) [y89] y15,rowC h90.n [(.int .u8 1),(.str ([]:List UInt8)),(.int .i64 0),(.int .i64 y13)] 0] h158→jjj2 b24 h158:=by
         rintro b24 h158 hf S
         unfold p19_j2 at hf
         unfold jjj2
         refine bI (fun hc=>?_) (fun hc=>?_)
         ·rw [ifT hc] at hf
          obtain rfl:=oi hf
          exact ⟨m147,Nat.lt_succ_self _,rfl,rfl,rfl,rfl,rfl,rfl,rfl,S,hk⟩
         rw [ifF hc] at hf
         obtain rfl:=oi hf
         obtain rfl:=hk
         exact ⟨rfl,rfl,rfl,rfl,rfl,rfl,rfl,S,rfl⟩
        refine bI (fun hc=>?_) (fun hc=>?_)
        ·rw [ifD hc] at hf
         obtain ⟨e28,he28,hf⟩:=oB hf
         refine ix_go f0_0 (sM S.le) he28 fun pe28=>?_
         obtain ⟨_,cr159,Rr159,Nr159,Or159,Zr159⟩:=SlR.idx f0_0 (sM S.le) he28
         obtain rfl:cr159=[(.int .u8 e28)]:=Rr159
         refine ⟨e28,Zr159 _ rfl,?_⟩
         obtain ⟨y29,hy29,hf⟩:=oB hf
         refine ⟨_,Fz.refl _,?_⟩
         refine (r33 (c0:=e28) hy29).mono fun v160 h161 T=>?_
         obtain ⟨rfl,T⟩:=T
         have S:St _ _ [_,_,_] _:=S.comp T
         refine ⟨y29,rfl,?_⟩
         intro jjj4
         have hjj4:∀ (b26:Bool) (h162:Heap),p19_j4 x0 y23 b26=some q157→St h none' [own (oSl (fz rToken)) [y88] y14,own (oSl (fz rToken)) [y89] y15,rowC h90.n [(.int .u8 1),(.str ([]:List UInt8)),(.int .i64 0),(.int .i64 y13)] 0] h162→jjj4 b26 h162:=by
          rintro b26 h162 hf S
          unfold p19_j4 at hf
          unfold jjj4
          intro jjj3
          have hjj3:∀ (b25:Bool) (h163:Heap),p19_j3 y23 b25=some q157→h162=h163→St h none' [own (oSl (fz rToken)) [y88] y14,own (oSl (fz rToken)) [y89] y15,rowC h90.n [(.int .u8 1),(.str ([]:List UInt8)),(.int .i64 0),(.int .i64 y13)] 0] h162→jjj3 b25 h163:=by
           rintro b25 h163 hf rfl S
           unfold p19_j3 at hf
           unfold jjj3
           exact hjj2 _ _  hf  S
          refine bI (fun hc=>?_) (fun hc=>?_)
          ·rw [ifT hc] at hf
           exact hjj3 _ _  hf rfl S
          rw [ifF hc] at hf
          obtain ⟨e27,he27,hf⟩:=oB hf
          refine ix_go f0_0 (sM S.le) he27 fun pe27=>?_
          obtain ⟨_,cr164,Rr164,Nr164,Or164,Zr164⟩:=SlR.idx f0_0 (sM S.le) he27
          obtain rfl:cr164=[(.int .u8 e27)]:=Rr164
          refine ⟨e27,Zr164 _ rfl,?_⟩
          exact hjj3 _ _  hf rfl S
         refine bI (fun hc=>?_) (fun hc=>?_)
         ·rw [ifT hc] at hf
          exact hjj4 _ _  hf  S
         rw [ifF hc] at hf
         obtain ⟨e30,he30,hf⟩:=oB hf
         refine ix_go f0_0 (sM S.le) he30 fun pe30=>?_
         obtain ⟨_,cr165,Rr165,Nr165,Or165,Zr165⟩:=SlR.idx f0_0 (sM S.le) he30
         obtain rfl:cr165=[(.int .u8 e30)]:=Rr165
         refine ⟨e30,Zr165 _ rfl,?_⟩
         obtain ⟨y31,hy31,hf⟩:=oB hf
         refine ⟨_,Fz.refl _,?_⟩
         refine (r34 (c0:=e30) hy31).mono fun v166 h167 T=>?_
         obtain ⟨rfl,T⟩:=T
         have S:St _ _ [_,_,_] _:=S.comp T
         refine ⟨y31,rfl,?_⟩
         exact hjj4 _ _  hf  S
        rw [ifE hc] at hf
        exact hjj2 _ _  hf  S
       exact ⟨rfl,rfl,rfl,rfl,rfl,rfl,rfl,S,hL⟩
      rw [ifF hc] at hf
      obtain ⟨y60,hy60,hf⟩:=oB hf
      refine ⟨_,Fz.refl _,?_⟩
      refine (r34 (c0:=e44) hy60).mono fun v168 h169 T=>?_
      obtain ⟨rfl,T⟩:=T
      have S:St _ _ [_,_,_] _:=S.comp T
      refine ⟨y60,rfl,?_⟩
      refine bI (fun hc=>?_) (fun hc=>?_)
      ·rw [ifT hc] at hf
       obtain ⟨h170,e171,S⟩:=S.store (off:=0) (n:=1) (x:=(.int .u8 2)) (cs':=[(.int .u8 2),(.str ([]:List UInt8)),(.int .i64 0),(.int .i64 y13)]) (nl rfl) rfl rfl rfl
       refine ⟨h170,e171,?_⟩
       obtain ⟨res61,hL,hf⟩:=oB hf
       obtain ⟨n172,hL⟩:=loopC_iff.1 hL
       have S:=S.sel [1,2,0] rfl
       refine loopm19_2 (X6:=fun (y173:AV) (y174:AV) (y175:Int) (y176:Int) (y177:AV) (y178:Int) (y36:Int) (y179:AV) (h180:Heap)=>a0_0=y173∧y88=y174∧y47=y175∧y48=y176∧y89=y177∧y13=y178∧AV.ptr h90.n 0 0=y179∧St h none' [own (oSl (fz rToken)) [y88] y14,own (oSl (fz rToken)) [y89] y15,rowC h90.n [(.int .u8 2),(.str ([]:List UInt8)),(.int .i64 0),(.int .i64 y13)] 0] h180∧y36=res61) ?_ (loop19_2 (I:=fun (m181:Nat) (y182:AV) (y183:AV) (y184:Int) (y185:Int) (y186:AV) (y187:Int) (y32:Int) (y188:AV) (h189:Heap)=>a0_0=y182∧y88=y183∧y47=y184∧y48=y185∧y89=y186∧y13=y187∧AV.ptr h90.n 0 0=y188∧St h none' [own (oSl (fz rToken)) [y88] y14,own (oSl (fz rToken)) [y89] y15,rowC h90.n [(.int .u8 2),(.str ([]:List UInt8)),(.int .i64 0),(.int .i64 y13)] 0] h189∧iter (p19_l2 x0) m181 y32=some res61) ?_ (m:=n172) ?_)
       ·rintro y173 y174 y175 y176 y177 y178 y36 y179 h180 ⟨rfl,rfl,rfl,rfl,rfl,rfl,rfl,S,rfl⟩
        try dsimp only at hf
        obtain ⟨res62,hL,hf⟩:=oB hf
        obtain ⟨n190,hL⟩:=loopC_iff.1 hL
        refine loopm19_3 (R:=fun (y191:AV) (y192:AV) (y193:Int) (y194:Int) (y195:AV) (y196:Int) (y197:Int) (y198:AV) (y199:Int) (h200:Heap)=>AV.nilSlice=y192∧3=y193∧y13=y194∧St h none' [] h200∧(.inl ())=res62) (X8:=fun (y201:AV) (y202:AV) (y63:Int) (y64:Int) (y203:AV) (y204:Int) (y205:Int) (y206:AV) (y207:Int) (h208:Heap)=>∃ (c65:Int),a0_0=y201∧y89=y203∧y13=y204∧y36=y205∧AV.ptr h90.n 0 0=y206∧St h none' [own (oSl (fz rToken)) [y202] y14,own (oSl (fz rToken)) [y89] y15,rowC h90.n [(.int .u8 2),(.str ([]:List UInt8)),(.int .i64 c65),(.int .i64 y13)] 0] h208∧(.inr (y63,y64,c65))=res62) ?_ ?_ (loop19_3 (I:=fun (m209:Nat) (y210:AV) (y211:AV) (y37:Int) (y38:Int) (y212:AV) (y213:Int) (y214:Int) (y215:AV) (y39:Int) (h216:Heap)=>∃ (c40:Int),a0_0=y210∧y89=y212∧y13=y213∧y36=y214∧AV.ptr h90.n 0 0=y215∧St h none' [own (oSl (fz rToken)) [y211] y14,own (oSl (fz rToken)) [y89] y15,rowC h90.n [(.int .u8 2),(.str ([]:List UInt8)),(.int .i64 c40),(.int .i64 y13)] 0] h216∧iter (p19_l3 x0 y36) m209 (y37,y38,y39,c40)=some res62) ?_ (m:=n190) ?_)
        ·rintro y191 y192 y193 y194 y195 y196 y197 y198 y199 h200 ⟨rfl,rfl,rfl,S,rfl⟩
         try dsimp only at hf
         obtain rfl:=oi hf
         obtain rfl:=hk
         exact ⟨rfl,S,rfl⟩
        ·rintro y201 y202 y63 y64 y203 y204 y205 y206 y207 h208 ⟨c65,rfl,rfl,rfl,rfl,rfl,S,rfl⟩
         try dsimp only at hf
         exact hjj1 _ _ _ _ _ _ _ _ _ 2 c65 hf rfl rfl rfl rfl S
        ·rintro m217 y210 y211 y37 y38 y212 y213 y214 y215 y39 h216 ⟨c40,rfl,rfl,rfl,rfl,rfl,S,hit⟩
         obtain ⟨m209,q218,rfl,hf,hk⟩:=iter_some hit
         clear hit
         unfold B19_3
         unfold p19_l3 at hf
         try dsimp only at hf
         refine bI (fun hc=>?_) (fun hc=>?_)
         ·rw [ifD hc] at hf
          refine iI.2 ⟨rfl,?_⟩
          refine ⟨c40,S.rd1 m2 rfl,?_⟩
          obtain ⟨e41,he41,hf⟩:=oB hf
          refine ix_go f0_0 (sM S.le) he41 fun pe41=>?_
          obtain ⟨_,cr219,Rr219,Nr219,Or219,Zr219⟩:=SlR.idx f0_0 (sM S.le) he41
          obtain rfl:cr219=[(.int .u8 e41)]:=Rr219
          refine ⟨e41,Zr219 _ rfl,?_⟩
          refine iI.2 ⟨rfl,?_⟩
          have S:=S.sel [2,0,1] rfl
          obtain ⟨h220,e221,S⟩:=S.store (off:=2) (n:=1) (x:=(.int .i64 (IntKind.wrap .i64 ((IntKind.wrap .i64 (c40 * 10))+(IntKind.wrap .i64 (IntKind.wrap .u8 (e41 - 48))))))) (cs':=[(.int .u8 2),(.str ([]:List UInt8)),(.int .i64 (IntKind.wrap .i64 ((IntKind.wrap .i64 (c40 * 10))+(IntKind.wrap .i64 (IntKind.wrap .u8 (e41 - 48)))))),(.int .i64 y13)]) (nl rfl) rfl rfl rfl
          refine ⟨h220,e221,?_⟩
          refine iI.2 ⟨rfl,?_⟩
          refine ⟨(IntKind.wrap .i64 ((IntKind.wrap .i64 (c40 * 10))+(IntKind.wrap .i64 (IntKind.wrap .u8 (e41 - 48))))),S.rd1 m0 rfl,?_⟩
          refine bI (fun hc=>?_) (fun hc=>?_)
          ·rw [ifD hc] at hf
           have S:=S.sel [] rfl
           obtain rfl:=oi hf
           obtain rfl:=hk
           exact ⟨rfl,rfl,rfl,S,rfl⟩
          rw [ifE hc] at hf
          have S:=S.sel [1,2,0] rfl
          obtain rfl:=oi hf
          exact ⟨m209,Nat.lt_succ_self _,(IntKind.wrap .i64 ((IntKind.wrap .i64 (c40 * 10))+(IntKind.wrap .i64 (IntKind.wrap .u8 (e41 - 48))))),rfl,rfl,rfl,rfl,rfl,S,hk⟩
         rw [ifE hc] at hf
         obtain rfl:=oi hf
         obtain rfl:=hk
         exact ⟨c40,rfl,rfl,rfl,rfl,rfl,S,rfl⟩
        exact ⟨0,rfl,rfl,rfl,rfl,rfl,S,hL⟩
       ·rintro m222 y182 y183 y184 y185 y186 y187 y32 y188 h189 ⟨rfl,rfl,rfl,rfl,rfl,rfl,rfl,S,hit⟩
        obtain ⟨m181,q223,rfl,hf,hk⟩:=iter_some hit
        clear hit
        unfold B19_2
        unfold p19_l2 at hf
        try dsimp only at hf
        refine iI.2 ⟨(f0_0).is,?_⟩
        try rw [show (a0_0).slen=_ from (f0_0).slen]
        intro jjj5
        have hjj5:∀ (b33:Bool) (h224:Heap),p19_j5 y32 b33=some q223→St h none' [own (oSl (fz rToken)) [y88] y14,own (oSl (fz rToken)) [y89] y15,rowC h90.n [(.int .u8 2),(.str ([]:List UInt8)),(.int .i64 0),(.int .i64 y13)] 0] h224→jjj5 b33 h224:=by
         rintro b33 h224 hf S
         unfold p19_j5 at hf
         unfold jjj5
         refine bI (fun hc=>?_) (fun hc=>?_)
         ·rw [ifT hc] at hf
          obtain rfl:=oi hf
          exact ⟨m181,Nat.lt_succ_self _,rfl,rfl,rfl,rfl,rfl,rfl,rfl,S,hk⟩
         rw [ifF hc] at hf
         obtain rfl:=oi hf
         obtain rfl:=hk
         exact ⟨rfl,rfl,rfl,rfl,rfl,rfl,rfl,S,rfl⟩
        refine bI (fun hc=>?_) (fun hc=>?_)
        ·rw [ifD hc] at hf
         obtain ⟨e34,he34,hf⟩:=oB hf
         refine ix_go f0_0 (sM S.le) he34 fun pe34=>?_
         obtain ⟨_,cr225,Rr225,Nr225,Or225,Zr225⟩:=SlR.idx f0_0 (sM S.le) he34
         obtain rfl:cr225=[(.int .u8 e34)]:=Rr225
         refine ⟨e34,Zr225 _ rfl,?_⟩
         obtain ⟨y35,hy35,hf⟩:=oB hf
         refine ⟨_,Fz.refl _,?_⟩
         refine (r34 (c0:=e34) hy35).mono fun v226 h227 T=>?_
         obtain ⟨rfl,T⟩:=T
         have S:St _ _ [_,_,_] _:=S.comp T
         refine ⟨y35,rfl,?_⟩
         exact hjj5 _ _  hf  S
        rw [ifE hc] at hf
        exact hjj5 _ _  hf  S
       exact ⟨rfl,rfl,rfl,rfl,rfl,rfl,rfl,S,hL⟩
      rw [ifF hc] at hf
      intro jjj8
      have hjj8:∀ (b52:Bool) (h228:Heap),p19_j8 x0 y47 y48 y13 y14 y15 e44 b52=some q96→h169=h228→St h none' [own (oSl (fz rToken)) [y88] y14,own (oSl (fz rToken)) [y89] y15,rowC h90.n [(.int .u8 0),(.str ([]:List UInt8)),(.int .i64 0),(.int .i64 y13)] 0] h169→jjj8 b52 h228:=by
       rintro b52 h228 hf rfl S
       unfold p19_j8 at hf
       unfold jjj8
       intro jjj7
       have hjj7:∀ (b49:Bool) (h229:Heap),p19_j7 x0 y47 y48 y13 y14 y15 e44 b49=some q96→h169=h229→St h none' [own (oSl (fz rToken)) [y88] y14,own (oSl (fz rToken)) [y89] y15,rowC h90.n [(.int .u8 0),(.str ([]:List UInt8)),(.int .i64 0),(.int .i64 y13)] 0] h169→jjj7 b49 h229:=by
        rintro b49 h229 hf rfl S
        unfold p19_j7 at hf
        unfold jjj7
        refine bI (fun hc=>?_) (fun hc=>?_)
        ·rw [ifT hc] at hf
         refine iI.2 ⟨rfl,?_⟩
         have S:=S.sel [2,0,1] rfl
         obtain ⟨h230,e231,S⟩:=S.store (off:=0) (n:=1) (x:=(.int .u8 3)) (cs':=[(.int .u8 3),(.str ([]:List UInt8)),(.int .i64 0),(.int .i64 y13)]) (nl rfl) rfl rfl rfl
         refine ⟨h230,e231,?_⟩
         have S:=S.sel [1,2,0] rfl
         exact hjj1 _ _ _ _ _ _ _ _ _ 3 0 hf rfl rfl rfl rfl S
        rw [ifF hc] at hf
        obtain ⟨res50,hL,hf⟩:=oB hf
        obtain ⟨n232,hL⟩:=loopC_iff.1 hL
        refine loopm19_4 (X10:=fun (y233:AV) (y234:AV) (y235:Int) (y236:Int) (y237:AV) (y238:Int) (y239:Int) (y240:Int) (y241:AV) (y242:Int) (h243:Heap)=>∃ (c51:Int),a0_0=y233∧y88=y234∧y47=y235∧y48=y236∧y89=y237∧y13=y238∧(IntKind.wrap .i64 (y13+1))=y240∧AV.ptr h90.n 0 0=y241∧St h none' [own (oSl (fz rToken)) [y88] y14,own (oSl (fz rToken)) [y89] y15,rowC h90.n [(.int .u8 c51),(.str ([]:List UInt8)),(.int .i64 0),(.int .i64 y13)] 0] h243∧c51=res50) ?_ (loop19_4 (I:=fun (m244:Nat) (y245:AV) (y246:AV) (y247:Int) (y248:Int) (y249:AV) (y250:Int) (y251:Int) (y252:Int) (y253:AV) (y42:Int) (h254:Heap)=>∃ (c45:Int),a0_0=y245∧y88=y246∧y47=y247∧y48=y248∧y89=y249∧y13=y250∧e44=y251∧(IntKind.wrap .i64 (y13+1))=y252∧AV.ptr h90.n 0 0=y253∧St h none' [own (oSl (fz rToken)) [y88] y14,own (oSl (fz rToken)) [y89] y15,rowC h90.n [(.int .u8 c45),(.str ([]:List UInt8)),(.int .i64 0),(.int .i64 y13)] 0] h254∧iter (p19_l4 e44) m244 (y42,c45)=some res50) ?_ (m:=n232) ?_)
        ·rintro y233 y234 y235 y236 y237 y238 y239 y240 y241 y242 h243 ⟨c51,rfl,rfl,rfl,rfl,rfl,rfl,rfl,rfl,S,rfl⟩
         try dsimp only at hf
         refine iI.2 ⟨rfl,?_⟩
         refine ⟨c51,S.rd1 m2 rfl,?_⟩
         refine bI (fun hc=>?_) (fun hc=>?_)
         ·rw [ifD hc] at hf
          have S:=S.sel [] rfl
          obtain rfl:=oi hf
          obtain rfl:=hk
          exact ⟨rfl,S,rfl⟩
         rw [ifE hc] at hf
         exact hjj1 _ _ _ _ _ _ _ _ _ c51 0 hf rfl rfl rfl rfl S
        ·rintro m255 y245 y246 y247 y248 y249 y250 y251 y252 y253 y42 h254 ⟨c45,rfl,rfl,rfl,rfl,rfl,rfl,rfl,rfl,rfl,S,hit⟩
         obtain ⟨m244,q256,rfl,hf,hk⟩:=iter_some hit
         clear hit
         unfold B19_4
         unfold p19_l4 at hf
         try dsimp only at hf
         refine bI (fun hc=>?_) (fun hc=>?_)
         ·rw [ifD hc] at hf
          obtain ⟨y46,hy46,hf⟩:=oB hf
          refine oI (.int .u8 y46) (idxS_ev hy46) ⟨y46,rfl,?_⟩
          intro jjj6
          have hjj6:∀  (h257:Heap) (c43:Int),p19_j6 y42 c43=some q256→St h none' [own (oSl (fz rToken)) [y88] y14,own (oSl (fz rToken)) [y89] y15,rowC h90.n [(.int .u8 c43),(.str ([]:List UInt8)),(.int .i64 0),(.int .i64 y13)] 0] h257→jjj6 h257:=by
           rintro h257 c43 hf S
           unfold p19_j6 at hf
           unfold jjj6
           obtain rfl:=oi hf
           exact ⟨m244,Nat.lt_succ_self _,c43,rfl,rfl,rfl,rfl,rfl,rfl,rfl,rfl,rfl,S,hk⟩
          refine bI (fun hc=>?_) (fun hc=>?_)
          ·rw [ifD hc] at hf
           refine iI.2 ⟨rfl,?_⟩
           have S:=S.sel [2,0,1] rfl
           obtain ⟨h258,e259,S⟩:=S.store (off:=0) (n:=1) (x:=(.int .u8 3)) (cs':=[(.int .u8 3),(.str ([]:List UInt8)),(.int .i64 0),(.int .i64 y13)]) (nl rfl) rfl rfl rfl
           refine ⟨h258,e259,?_⟩
           have S:=S.sel [1,2,0] rfl
           exact hjj6  _ 3 hf  S
          rw [ifE hc] at hf
          exact hjj6  _ c45 hf  S
         rw [ifE hc] at hf
         obtain rfl:=oi hf
         obtain rfl:=hk
         exact ⟨c45,rfl,rfl,rfl,rfl,rfl,rfl,rfl,rfl,S,rfl⟩
        exact ⟨0,rfl,rfl,rfl,rfl,rfl,rfl,rfl,rfl,rfl,S,hL⟩
       refine bI (fun hc=>?_) (fun hc=>?_)
       ·rw [ifT hc] at hf
        obtain ⟨e53,he53,hf⟩:=oB hf
        refine ix_go f0_0 (sM S.le) he53 fun pe53=>?_
        obtain ⟨_,cr260,Rr260,Nr260,Or260,Zr260⟩:=SlR.idx f0_0 (sM S.le) he53
        obtain rfl:cr260=[(.int .u8 e53)]:=Rr260
        refine ⟨e53,Zr260 _ rfl,?_⟩
        exact hjj7 _ _  hf rfl S
       rw [ifF hc] at hf
       exact hjj7 _ _  hf rfl S
      refine bI (fun hc=>?_) (fun hc=>?_)
      ·rw [ifD hc] at hf
       refine iI.2 ⟨(f0_0).is,?_⟩
       try rw [show (a0_0).slen=_ from (f0_0).slen]
       have S:=S.sel [1,2,0] rfl
       exact hjj8 _ _  hf rfl S
      rw [ifE hc] at hf
      have S:=S.sel [1,2,0] rfl
      exact hjj8 _ _  hf rfl S
     refine bI (fun hc=>?_) (fun hc=>?_)
     ·rw [ifT hc] at hf
      exact hjj9 _ _  hf rfl S
     rw [ifF hc] at hf
     exact hjj9 _ _  hf rfl S
    refine bI (fun hc=>?_) (fun hc=>?_)
    ·rw [ifT hc] at hf
     exact hjj10 _ _  hf rfl S
    rw [ifF hc] at hf
    exact hjj10 _ _  hf rfl S
   refine bI (fun hc=>?_) (fun hc=>?_)
   ·rw [ifD hc] at hf
    exact hjj11 _ _  hf rfl S
   rw [ifE hc] at hf
   exact hjj11 _ _  hf rfl S
  rw [ifE hc] at hf
  have S:=S.sel [1] rfl
  obtain rfl:=oi hf
  obtain rfl:=hk
  exact ⟨y15,rfl,S,rfl⟩
 exact ⟨[],[],rfl,S,hL⟩
def p23_j0 (s0:List UInt8) (pos10:Nat) (b11:Bool):Option (Nat⊕(Unit⊕Unit)):=if b11=true then (some (.inr (.inl ()))) else (some (.inl (nextAt s0 pos10)))
def p23_j1 (s0:List UInt8) (pos10:Nat) (b12:Bool):Option (Nat⊕(Unit⊕Unit)):=p23_j0 s0 pos10 b12
def p23_j2 (s0:List UInt8) (pos10:Nat) (b13:Bool):Option (Nat⊕(Unit⊕Unit)):=p23_j1 s0 pos10 b13
def p23_j3 (s0:List UInt8) (pos10:Nat) (b14:Bool):Option (Nat⊕(Unit⊕Unit)):=p23_j2 s0 pos10 b14
def p23_l0 (s0:List UInt8) (pos10:Nat):Option (Nat⊕(Unit⊕Unit)):=if pos10 < s0.length then (if 122 < (runeAt s0 pos10) then (p23_j0 s0 pos10 true) else ((p37 (IntKind.wrap .u8 (runeAt s0 pos10))).bind fun y15=>if (!y15)=true then (if (pos10:Int)=0 then (p23_j2 s0 pos10 true) else ((p38 (IntKind.wrap .u8 (runeAt s0 pos10))).bind fun y16=>if (!y16)=true then (p23_j3 s0 pos10 (!decide ((runeAt s0 pos10)=46))) else (p23_j3 s0 pos10 false))) else (p23_j1 s0 pos10 false))) else (some (.inr (.inr ())))
def p23_j4 (b17:Bool):Option Bool:=some b17
def p23 (s0:List UInt8):Option Bool:=(loopC (p23_l0 s0) 0).bind fun res18=>(match res18 with | .inl _=>some false | .inr _=>if (!(s0==([]:List UInt8)))=true then (p23_j4 (decide ((s0.length:Int)≤(12:Int)))) else (p23_j4 false))
theorem r23 {h:Heap}  {s0:List UInt8} {r:Bool} (hf:p23 s0=some r):ZC F 23 [(.str s0)] h fun v h'=>v=.bool r∧St h none' [] h':=by
 refine w23 ?_
 unfold W23
 unfold p23 at hf
 have S:St h none' [] h:=St.refl _ _
 refine oI _ rfl ?_
 intro h19
 have S:St _ _ [itC h.n s0 0] _:=S.pushIt s0
 obtain ⟨res18,hL,hf⟩:=oB hf
 obtain ⟨n20,hL⟩:=loopC_iff.1 hL
 refine loopm23_0 (R:=fun (s21:List UInt8) (y22:Bool) (y23:AV) (h24:Heap)=>false=y22∧St h none' [] h24∧(.inl ())=res18) (X0:=fun (s25:List UInt8) (y26:Bool) (y27:AV) (h28:Heap)=>s0=s25∧St h none' [] h28∧(.inr ())=res18) ?_ ?_ (loop23_0 (I:=fun (m29:Nat) (s30:List UInt8) (y31:Bool) (y32:AV) (h33:Heap)=>∃ (pos10:Nat),s0=s30∧AV.iter h.n=y32∧St h none' [itC h.n s0 pos10] h33∧iter (p23_l0 s0) m29 pos10=some res18) ?_ (m:=n20) ?_)
 ·rintro s21 y22 y23 h24 ⟨rfl,S,rfl⟩
  try dsimp only at hf
  obtain rfl:=oi hf
  exact ⟨rfl,S.sel [] rfl⟩
 ·rintro s25 y26 y27 h28 ⟨rfl,S,rfl⟩
  try dsimp only at hf
  intro jjj4
  have hjj4:∀ (b17:Bool) (h34:Heap),p23_j4 b17=some r→h28=h34→St h none' [] h28→jjj4 b17 h34:=by
   rintro b17 h34 hf rfl S
   unfold p23_j4 at hf
   unfold jjj4
   obtain rfl:=oi hf
   exact ⟨rfl,S.sel [] rfl⟩
  refine bI (fun hc=>?_) (fun hc=>?_)
  ·rw [ifT hc] at hf
   exact hjj4 _ _  hf rfl S
  rw [ifF hc] at hf
  exact hjj4 _ _  hf rfl S
 ·rintro m35 s30 y31 y32 h33 ⟨pos10,rfl,rfl,S,hit⟩
  obtain ⟨m29,q36,rfl,hf,hk⟩:=iter_some hit
  clear hit
  unfold B23_0
  unfold p23_l0 at hf
  try dsimp only at hf
  by_cases hc:pos10 < s0.length
  ·rw [if_pos hc] at hf
   obtain ⟨h37,e38,S⟩:=St.next S hc
   refine ⟨_,h37,e38,?_⟩
   refine oI (.bool true) rfl ⟨true,rfl,?_⟩
   refine bI (fun _=>?_) (fun hc=>absurd hc (by decide))
   refine oI (.int .i64 (pos10:Int)) rfl ⟨(pos10:Int),rfl,?_⟩
   refine oI (.int .i32 (runeAt s0 pos10)) rfl ⟨(runeAt s0 pos10),rfl,?_⟩
   intro jjj0
   have hjj0:∀ (b11:Bool) (h39:Heap),p23_j0 s0 pos10 b11=some q36→St h none' [itC h.n s0 (nextAt s0 pos10)] h39→jjj0 b11 h39:=by
    rintro b11 h39 hf S
    unfold p23_j0 at hf
    unfold jjj0
    refine bI (fun hc=>?_) (fun hc=>?_)
    ·rw [ifT hc] at hf
     have S:=S.sel [] rfl
     obtain rfl:=oi hf
     obtain rfl:=hk
     exact ⟨rfl,S,rfl⟩
    rw [ifF hc] at hf
    obtain rfl:=oi hf
    exact ⟨m29,Nat.lt_succ_self _,(nextAt s0 pos10),rfl,rfl,S,hk⟩
   refine bI (fun hc=>?_) (fun hc=>?_)
   ·rw [ifD hc] at hf
    exact hjj0 _ _  hf  S
   rw [ifE hc] at hf
   obtain ⟨y15,hy15,hf⟩:=oB hf
   refine ⟨_,Fz.refl _,?_⟩
   refine (r37 (c0:=(IntKind.wrap .u8 (runeAt s0 pos10))) hy15).mono fun v40 h41 T=>?_
   obtain ⟨rfl,T⟩:=T
   have S:St _ _ [itC h.n s0 (nextAt s0 pos10)] _:=S.comp T
   refine ⟨y15,rfl,?_⟩
   intro jjj1
   have hjj1:∀ (b12:Bool) (h42:Heap),p23_j1 s0 pos10 b12=some q36→St h none' [itC h.n s0 (nextAt s0 pos10)] h42→jjj1 b12 h42:=by
    rintro b12 h42 hf S
    unfold p23_j1 at hf
    unfold jjj1
    exact hjj0 _ _  hf  S
   refine bI (fun hc=>?_) (fun hc=>?_)
   ·rw [ifT hc] at hf
    intro jjj2
    have hjj2:∀ (b13:Bool) (h43:Heap),p23_j2 s0 pos10 b13=some q36→St h none' [itC h.n s0 (nextAt s0 pos10)] h43→jjj2 b13 h43:=by
     rintro b13 h43 hf S
     unfold p23_j2 at hf
     unfold jjj2
     exact hjj1 _ _  hf  S
    refine bI (fun hc=>?_) (fun hc=>?_)
    ·rw [ifD hc] at hf
     exact hjj2 _ _  hf  S
    rw [ifE hc] at hf
    obtain ⟨y16,hy16,hf⟩:=oB hf
    refine ⟨_,Fz.refl _,?_⟩
    refine (r38 (c0:=(IntKind.wrap .u8 (runeAt s0 pos10))) hy16).mono fun v44 h45 T=>?_
    obtain ⟨rfl,T⟩:=T
    have S:St _ _ [_] _:=S.comp T
    refine ⟨y16,rfl,?_⟩
    intro jjj3
    have hjj3:∀ (b14:Bool) (h46:Heap),p23_j3 s0 pos10 b14=some q36→h45=h46→St h none' [itC h.n s0 (nextAt s0 pos10)] h45→jjj3 b14 h46:=by
     rintro b14 h46 hf rfl S
     unfold p23_j3 at hf
     unfold jjj3
     exact hjj2 _ _  hf  S
    refine bI (fun hc=>?_) (fun hc=>?_)
    ·rw [ifT hc] at hf
     exact hjj3 _ _  hf rfl S
    rw [ifF hc] at hf
    exact hjj3 _ _  hf rfl S
   rw [ifF hc] at hf
   exact hjj1 _ _  hf  S
  rw [if_neg hc] at hf
  refine ⟨_,_,St.nextEnd S hc,?_⟩
  refine oI (.bool false) rfl ⟨false,rfl,?_⟩
  refine bI (fun hc=>absurd hc (by decide)) (fun _=>?_)
  have S:=S.sel [] rfl
  obtain rfl:=oi hf
  obtain rfl:=hk
  exact ⟨rfl,S,rfl⟩
 exact ⟨0,rfl,rfl,S,hL⟩
def p60 (s0:List TPlace):Option (List TPlace):=(app 24 [] s0).bind fun l10=>some l10
theorem r60 {h:Heap} {a0_0:AV} {s0:List TPlace} (f0_0:SlR rPlace (Snap h) a0_0 s0) {r:(List TPlace)} (hf:p60 s0=some r):ZC F 60 [a0_0] h fun v h'=>St h none' [own (oSl (fz rPlace)) [v] r] h':=by
 refine w60 ?_
 unfold W60
 unfold p60 at hf
 have S:St h none' [] h:=St.refl _ _
 rcases sl_cases f0_0 with ⟨e11,e2⟩ | e11
 ·have hf:some []=some r:=by rw [e2] at hf; simp [app] at hf; simp [hf]
  refine oI (.bool true) (by rw [e11]; rfl) ⟨_,rfl,?_⟩
  refine bI (fun _=>?_) (fun hc=>absurd hc (by decide))
  have S:St _ _ [own (oSl (fz rPlace)) [.nilSlice] []] _:=S.addE (oSl_nil _ _)
  obtain rfl:=oi hf
  exact S.sel [0] rfl
 refine oI (.bool false) (sl_nil e11) ⟨_,rfl,?_⟩
 refine bI (fun hc=>absurd hc (by decide)) (fun _=>?_)
 intro h12
 have S:St _ _ [rowC h.n [] 0] _:=S.pushRow []
 obtain ⟨l10,hl10,hf⟩:=oB hf
 have S:St _ _ [own (oSl (fz rPlace)) [(.slice h.n 0 0 0 2)] []] _:=St.lit (r:=rPlace) (els:=[]) (l:=[]) (n:=0) S rfl (.nil) rfl
 have Fl10:=(SlR.mono (sM S.le) f0_0)
 have ml10:=app_some hl10
 obtain ⟨v13,h14,e15,S⟩:=St.appF (r:=rPlace) (b:=24) S (Hp.le_refl _) Fl10 (.inl flat_Place) ml10.1
 have S:St _ _ [own (oSl (fz rPlace)) [v13] l10] _:=S.cast1 (by rw [← ml10.2]<;>rfl)
 refine ⟨v13,h14,e15,?_⟩
 obtain rfl:=oi hf
 exact S.sel [0] rfl
def p61 (s0:List TTrans):Option (List TTrans):=(app 104 [] s0).bind fun l10=>some l10
theorem r61 {h:Heap} {a0_0:AV} {s0:List TTrans} (f0_0:SlR rTrans (Frz h) a0_0 s0) {r:(List TTrans)} (hf:p61 s0=some r):ZC F 61 [a0_0] h fun v h'=>St h none' [own (oSl (fz rTrans)) [v] r] h':=by
 refine w61 ?_
 unfold W61
 unfold p61 at hf
 have S:St h none' [] h:=St.refl _ _
 have S:=S.add (rSl_mk f0_0)
 rcases sl_cases (S.slz (r:=rTrans) m0) with ⟨e11,e2⟩ | e11
 ·have hf:some []=some r:=by rw [e2] at hf; simp [app] at hf; simp [hf]
  refine oI (.bool true) (by rw [e11]; rfl) ⟨_,rfl,?_⟩
  refine bI (fun _=>?_) (fun hc=>absurd hc (by decide))
  have S:St _ _ [own (oSl (fz rTrans)) [.nilSlice] [],own (fz (rSl rTrans)) [a0_0] s0] _:=S.addE (oSl_nil _ _)
  obtain rfl:=oi hf
  exact S.sel [0] rfl
 refine oI (.bool false) (sl_nil e11) ⟨_,rfl,?_⟩
 refine bI (fun hc=>absurd hc (by decide)) (fun _=>?_)
 intro h12
 have S:St _ _ [rowC h.n [] 0,own (fz (rSl rTrans)) [a0_0] s0] _:=S.pushRow []
 obtain ⟨l10,hl10,hf⟩:=oB hf
 have S:St _ _ [own (oSl (fz rTrans)) [(.slice h.n 0 0 0 6)] [],_] _:=St.lit (r:=rTrans) (els:=[]) (l:=[]) (n:=0) S rfl (.nil) rfl
 have Fl10:=(S.slz (r:=rTrans) m1)
 have ml10:=app_some hl10
 obtain ⟨v13,h14,e15,S⟩:=St.appF (r:=rTrans) (b:=104) S (frz_snap _) Fl10 (.inr (Hp.le_refl _)) ml10.1
 have S:St _ _ [own (oSl (fz rTrans)) [v13] l10,_] _:=S.cast1 (by rw [← ml10.2]<;>rfl)
 refine ⟨v13,h14,e15,?_⟩
 obtain rfl:=oi hf
 exact S.sel [0] rfl
def p62 (s0:List TArc):Option (List TArc):=(app 16 [] s0).bind fun l10=>some l10
theorem r62 {h:Heap} {a0_0:AV} {s0:List TArc} (f0_0:SlR rArc (Snap h) a0_0 s0) {r:(List TArc)} (hf:p62 s0=some r):ZC F 62 [a0_0] h fun v h'=>St h none' [own (oSl (fz rArc)) [v] r] h':=by
 refine w62 ?_
 unfold W62
 unfold p62 at hf
 have S:St h none' [] h:=St.refl _ _
 rcases sl_cases f0_0 with ⟨e11,e2⟩ | e11
 ·have hf:some []=some r:=by rw [e2] at hf; simp [app] at hf; simp [hf]
  refine oI (.bool true) (by rw [e11]; rfl) ⟨_,rfl,?_⟩
  refine bI (fun _=>?_) (fun hc=>absurd hc (by decide))
  have S:St _ _ [own (oSl (fz rArc)) [.nilSlice] []] _:=S.addE (oSl_nil _ _)
  obtain rfl:=oi hf
  exact S.sel [0] rfl
 refine oI (.bool false) (sl_nil e11) ⟨_,rfl,?_⟩
 refine bI (fun hc=>absurd hc (by decide)) (fun _=>?_)
 intro h12
 have S:St _ _ [rowC h.n [] 0] _:=S.pushRow []
 obtain ⟨l10,hl10,hf⟩:=oB hf
 have S:St _ _ [own (oSl (fz rArc)) [(.slice h.n 0 0 0 2)] []] _:=St.lit (r:=rArc) (els:=[]) (l:=[]) (n:=0) S rfl (.nil) rfl
 have Fl10:=(SlR.mono (sM S.le) f0_0)
 have ml10:=app_some hl10
 obtain ⟨v13,h14,e15,S⟩:=St.appF (r:=rArc) (b:=16) S (Hp.le_refl _) Fl10 (.inl flat_Arc) ml10.1
 have S:St _ _ [own (oSl (fz rArc)) [v13] l10] _:=S.cast1 (by rw [← ml10.2]<;>rfl)
 refine ⟨v13,h14,e15,?_⟩
 obtain rfl:=oi hf
 exact S.sel [0] rfl
def p41_l0 (y10:(List TTrans)) (st:Int×(List TTrans)):Option ((Int×(List TTrans))⊕(List TTrans)):=match st with | (y11,c12)=>if y11 < (y10.length:Int) then ((idx c12 y11).bind fun e13=>(p62 e13.In).bind fun y14=>(p62 e13.Not).bind fun y15=>(p62 e13.Out).bind fun y16=>(some (c12.set (y11:Int).toNat (TTrans.mk e13.Name e13.Delay e13.Prio y14 e13.Not e13.Out))).bind fun c17=>(some (c17.set (y11:Int).toNat (TTrans.mk e13.Name e13.Delay e13.Prio y14 y15 e13.Out))).bind fun c18=>(some (c18.set (y11:Int).toNat (TTrans.mk e13.Name e13.Delay e13.Prio y14 y15 y16))).bind fun c19=>some (.inl ((IntKind.wrap .i64 (y11+1)),c19))) else (some (.inr c12))
def p41 (n0:TNet):Option TNet:=(p60 n0.Places).bind fun y20=>(p61 n0.Trans).bind fun y10=>(loopC (p41_l0 y10) (0,y10)).bind fun res21=>((fun (c22:List TTrans)=>some (TNet.mk y20 c22)) res21)
theorem r41 {h:Heap} {a0_0:AV} {a0_1:AV} {n0:TNet} (f0_0:SlR rPlace (Snap h) a0_0 n0.Places) (f0_1:SlR rTrans (Frz h) a0_1 n0.Trans) {r:TNet} (hf:p41 n0=some r):ZC F 41 [(.agg [a0_0,a0_1])] h fun v h'=>∃ cs,v=.agg cs∧St h none' [own (fz rNet) cs r] h':=by
 refine ZC.frz (K:=fun v h'=>∃ c0 c1,v=.agg [c0,c1]∧St h none' [own (oSl (fz rPlace)) [c0] r.Places,own (oSl (fz rTrans)) [c1] r.Trans] h') ?_ (fun v h' hq=>?_)
 ·refine w41 ?_
  unfold W41
  unfold p41 at hf
  have S:St h none' [] h:=St.refl _ _
  have S:=S.add (rSl_mk f0_1)
  intro h23
  have S:St _ _ [rowC h.n [a0_0,a0_1] 0,own (fz (rSl rTrans)) [a0_1] n0.Trans] _:=S.pushRow [a0_0,a0_1]
  intro h24
  have S:St _ _ [rowC h23.n [.nilSlice,.nilSlice] 0,_,_] _:=S.pushRow [.nilSlice,.nilSlice]
  have S_2:=S
  intro h25
  have S:St _ _ [rowC h24.n [.nilSlice,.nilSlice] 0,_,_,_] _:=S.pushRow [.nilSlice,.nilSlice]
  refine ⟨a0_0,S.rd1 m2 rfl,?_⟩
  have S_4:=S
  obtain ⟨y20,hy20,hf⟩:=oB hf
  refine (r60 (s0:=n0.Places) (f0_0:=(SlR.mono (sM S.le) f0_0)) hy20).mono fun v26 h27 T=>?_
  have S:St _ _ [own (oSl (fz rPlace)) [v26] y20,_,_,_,_] _:=S.comp T
  have S_5:=S
  refine ⟨a0_1,S.rd1 m3 rfl,?_⟩
  have S_6:=S
  obtain ⟨y10,hy10,hf⟩:=oB hf
  refine (r61 (s0:=n0.Trans) (f0_0:=S.slz (r:=rTrans) m4) hy10).mono fun v28 h29 T=>?_
  have S:St _ _ [own (oSl (fz rTrans)) [v28] y10,_,_,_,_,_] _:=S.comp T
  have S_7:=S
  refine oI (.agg [v26,v28]) (by simp only [POp.ev,place,sl_cells ((S.sl (r:=(fz rPlace)) m1)).is,sl_tup ((S.sl (r:=(fz rPlace)) m1)).is,sl_cells ((S.sl (r:=(fz rTrans)) m0)).is,sl_tup ((S.sl (r:=(fz rTrans)) m0)).is]<;>first | rfl | (simp [AV.cells,AV.isTup,splice]; done) | (simp [AV.cells,AV.isTup,splice]; rfl)) ?_
  have S:=S.sel [2,0,1,3,4,5] rfl
  obtain ⟨h30,e31,S⟩:=S.store (off:=0) (n:=2) (x:=(.agg [v26,v28])) (cs':=[v26,v28]) (nl rfl) rfl rfl rfl
  refine ⟨h30,e31,?_⟩
  refine ⟨sameRow_of S_4 m0 S_5 m1,?_⟩
  refine ⟨⟨a0_1,rd1_ev (S_5.rd1 m3 rfl),rd1_ev (S_4.rd1 m2 rfl),rd1_ev (S_5.rd1 m3 rfl)⟩,?_⟩
  refine ⟨sameRow_of S_6 m1 S_7 m2,?_⟩
  refine ⟨v28,S.rd1 m0 rfl,?_⟩
  refine iI.2 ⟨((S.sl (r:=(fz rTrans)) m1)).is,?_⟩
  try rw [show (v28).slen=_ from ((S.sl (r:=(fz rTrans)) m1)).slen]
  obtain ⟨res21,hL,hf⟩:=oB hf
  obtain ⟨n32,hL⟩:=loopC_iff.1 hL
  have S:=S.sel [3,0,2,1] rfl
  refine loopm41_0 (X0:=fun (y33:AV) (out34:AV) (y35:Int) (y36:Int) (h37:Heap)=>∃ (c22:List TTrans),AV.ptr h23.n 0 0=y33∧AV.ptr h24.n 0 0=out34∧St h none' [rowC h23.n [.nilSlice,.nilSlice] 0,rowC h24.n [v26,v28] 0,own (oSl (fz rPlace)) [v26] y20,own (oSl (fz rTrans)) [v28] c22] h37∧c22=res21) ?_ (loop41_0 (I:=fun (m38:Nat) (y39:AV) (out40:AV) (y41:Int) (y11:Int) (h42:Heap)=>∃ (c12:List TTrans),AV.ptr h23.n 0 0=y39∧AV.ptr h24.n 0 0=out40∧(y10.length:Int)=y41∧St h none' [rowC h23.n [.nilSlice,.nilSlice] 0,rowC h24.n [v26,v28] 0,own (oSl (fz rPlace)) [v26] y20,own (oSl (fz rTrans)) [v28] c12] h42∧iter (p41_l0 y10) m38 (y11,c12)=some res21) ?_ (m:=n32) ?_)
  ·rintro y33 out34 y35 y36 h37 ⟨c22,rfl,rfl,S,rfl⟩
   try dsimp only at hf
   refine ⟨v26,v28,S.rdN m1 (nl rfl) rfl,?_⟩
   obtain ⟨h43,e44,S⟩:=S.store (off:=0) (n:=2) (x:=(.agg [v26,v28])) (cs':=[v26,v28]) (nl rfl) rfl rfl rfl
   refine ⟨h43,e44,?_⟩
   refine ⟨v26,v28,S.rdN m0 (nl rfl) rfl,?_⟩
   obtain rfl:=oi hf
   exact ⟨v26,v28,rfl,S.sel [2,3] rfl⟩
  ·rintro m45 y39 out40 y41 y11 h42 ⟨c12,rfl,rfl,rfl,S,hit⟩
   obtain ⟨m38,q46,rfl,hf,hk⟩:=iter_some hit
   clear hit
   unfold B41_0
   unfold p41_l0 at hf
   try dsimp only at hf
   refine bI (fun hc=>?_) (fun hc=>?_)
   ·rw [ifD hc] at hf
    refine iI.2 ⟨rfl,?_⟩
    refine ⟨v28,S.rd1 m1 rfl,?_⟩
    obtain ⟨e13,he13,hf⟩:=oB hf
    refine ix_go (S.sl (r:=(fz rTrans)) m3) (Hp.le_refl _) he13 fun pe13=>?_
    have K_0:=Hp.le_refl (Snap h42)
    have K_1:=Hp.le_refl (Snap h42)
    have K_2:=Hp.le_refl (Snap h42)
    have K_3:=Hp.le_refl (Snap h42)
    refine oI _ (nil_ev pe13) ?_
    have K_4:=Hp.le_refl (Snap h42)
    refine iI.2 ⟨pe13,?_⟩
    have K_5:=Hp.le_refl (Snap h42)
    obtain ⟨_,cr47,Rr47,Nr47,Or47,Zr47⟩:=St.idxO (r:=rTrans) S m3 he13
    obtain ⟨cr47_3,cr47_4,cr47_5,rfl,Fr47_3,Fr47_4,Fr47_5⟩:=rTrans_open Rr47
    have S:St _ _ [own (fz (rSl rArc)) [cr47_3] e13.In,_,_,_,_] _:=S.add (rSl_mk Fr47_3)
    have RD_6:(h42).rd1 (AV.padd 3 (v28.at ((y11:Int).toNat * 6)))=some cr47_3:=Or47 3 _ rfl
    refine ⟨cr47_3,RD_6,?_⟩
    have K_6:=Hp.le_refl (Snap h42)
    have S_7:=S
    obtain ⟨y14,hy14,hf⟩:=oB hf
    refine (r62 (s0:=e13.In) (f0_0:=(SlR.mono (frz_snap _) (S.slz (r:=rArc) m0))) hy14).frz fun v48 h49 T=>?_
    have K_7:=sM T.le
    have S:St _ _ [own (oSl (fz rArc)) [v48] y14,_,_,_,_,_] _:=S.comp T
    obtain ⟨h50,z51,S⟩:=St.freeze S
    refine ⟨h50,z51,?_⟩
    have K_7:=Hp.le_trans K_7 (fz_snap z51)
    have S_8:=S
    have K_8:=Hp.le_refl (Snap h50)
    refine oI _ (nil_ev pe13) ?_
    have K_9:=Hp.le_refl (Snap h50)
    refine iI.2 ⟨pe13,?_⟩
    have K_10:=Hp.le_refl (Snap h50)
    have S_11:=S
    obtain ⟨_,cr52,Rr52,Nr52,Or52,Zr52⟩:=St.idxO (r:=rTrans) S m5 he13
    obtain ⟨cr52_3,cr52_4,cr52_5,rfl,Fr52_3,Fr52_4,Fr52_5⟩:=rTrans_open Rr52
    have S:St _ _ [own (fz (rSl rArc)) [cr52_4] e13.Not,_,_,_,_,_,_] _:=S.add (rSl_mk Fr52_4)
    have RD_11:(h50).rd1 (AV.padd 4 (v28.at ((y11:Int).toNat * 6)))=some cr52_4:=Or52 4 _ rfl
    refine ⟨cr52_4,RD_11,?_⟩
    have K_11:=Hp.le_refl (Snap h50)
    have S_12:=S
    obtain ⟨y15,hy15,hf⟩:=oB hf
    refine (r62 (s0:=e13.Not) (f0_0:=(SlR.mono (frz_snap _) (S.slz (r:=rArc) m0))) hy15).frz fun v53 h54 T=>?_
    have K_12:=sM T.le
    have S:St _ _ [own (oSl (fz rArc)) [v53] y15,_,_,_,_,_,_,_] _:=S.comp T
    obtain ⟨h55,z56,S⟩:=St.freeze S
    refine ⟨h55,z56,?_⟩
    have K_12:=Hp.le_trans K_12 (fz_snap z56)
    have S_13:=S
    have K_13:=Hp.le_refl (Snap h55)
    refine oI _ (nil_ev pe13) ?_
    have K_14:=Hp.le_refl (Snap h55)
    refine iI.2 ⟨pe13,?_⟩
    have K_15:=Hp.le_refl (Snap h55)
    have S_16:=S
    obtain ⟨_,cr57,Rr57,Nr57,Or57,Zr57⟩:=St.idxO (r:=rTrans) S m7 he13
    obtain ⟨cr57_3,cr57_4,cr57_5,rfl,Fr57_3,Fr57_4,Fr57_5⟩:=rTrans_open Rr57
    have S:St _ _ [own (fz (rSl rArc)) [cr57_5] e13.Out,_,_,_,_,_,_,_,_] _:=S.add (rSl_mk Fr57_5)
    have RD_16:(h55).rd1 (AV.padd 5 (v28.at ((y11:Int).toNat * 6)))=some cr57_5:=Or57 5 _ rfl
    refine ⟨cr57_5,RD_16,?_⟩
    have K_16:=Hp.le_refl (Snap h55)
    obtain ⟨y16,hy16,hf⟩:=oB hf
    refine (r62 (s0:=e13.Out) (f0_0:=(SlR.mono (frz_snap _) (S.slz (r:=rArc) m0))) hy16).frz fun v58 h59 T=>?_
    have K_17:=sM T.le
    have S:St _ _ [own (oSl (fz rArc)) [v58] y16,_,_,_,_,_,_,_,_,_] _:=S.comp T
    obtain ⟨h60,z61,S⟩:=St.freeze S
    refine ⟨h60,z61,?_⟩
    have K_17:=Hp.le_trans K_17 (fz_snap z61)
    refine oI _ (nil_ev pe13) ?_
    have K_18:=Hp.le_refl (Snap h60)
    refine iI.2 ⟨pe13,?_⟩
    have K_19:=Hp.le_refl (Snap h60)
    obtain ⟨c17,hc17,hf⟩:=oB hf
    have fe62:=(S.slz (r:=rArc) m4)
    have S:=S.sel [9,0,1,2,3,4,5,6,7,8] rfl
    obtain ⟨h63,e62,S⟩:=St.setE (r:=rTrans) (x':=(TTrans.mk e13.Name e13.Delay e13.Prio y14 e13.Not e13.Out)) (k:=3) (n:=1) (y:=v48) S he13 (by rw [sl_cells fe62.is]; rfl) (sl_tup fe62.is) (nl rfl) (by rintro _ h; obtain ⟨c3,c4,c5,rfl,F3,F4,F5⟩:=rTrans_open h; rw [sl_cells fe62.is]; exact rTrans_mk (x:=(TTrans.mk e13.Name e13.Delay e13.Prio y14 e13.Not e13.Out)) fe62 F4 F5)
    have S:St _ _ [own (oSl (fz rTrans)) [v28] c17,_,_,_,_,_,_,_,_,_] _:=S.cast1 (by rw [← oi hc17]<;>rfl)
    have hqc17:idx c17 y11=some (TTrans.mk e13.Name e13.Delay e13.Prio y14 e13.Not e13.Out):=oi hc17▸idx_set he13
    refine ⟨h63,e62,?_⟩
    refine oI _ (nil_ev pe13) ?_
    have K_21:=Hp.le_refl (Snap h63)
    refine iI.2 ⟨pe13,?_⟩
    have K_22:=Hp.le_refl (Snap h63)
    obtain ⟨c18,hc18,hf⟩:=oB hf
    have fe64:=(S.slz (r:=rArc) m3)
    obtain ⟨h65,e64,S⟩:=St.setE (r:=rTrans) (x':=(TTrans.mk e13.Name e13.Delay e13.Prio y14 y15 e13.Out)) (k:=4) (n:=1) (y:=v53) S hqc17 (by rw [sl_cells fe64.is]; rfl) (sl_tup fe64.is) (nl rfl) (by rintro _ h; obtain ⟨c3,c4,c5,rfl,F3,F4,F5⟩:=rTrans_open h; rw [sl_cells fe64.is]; exact rTrans_mk (x:=(TTrans.mk e13.Name e13.Delay e13.Prio y14 y15 e13.Out)) F3 fe64 F5)
    have S:St _ _ [own (oSl (fz rTrans)) [v28] c18,_,_,_,_,_,_,_,_,_] _:=S.cast1 (by rw [← oi hc18]<;>rfl)
    have hqc18:idx c18 y11=some (TTrans.mk e13.Name e13.Delay e13.Prio y14 y15 e13.Out):=oi hc18▸idx_set hqc17
    refine ⟨h65,e64,?_⟩
    refine oI _ (nil_ev pe13) ?_
    have K_24:=Hp.le_refl (Snap h65)
    refine iI.2 ⟨pe13,?_⟩
    have K_25:=Hp.le_refl (Snap h65)
    obtain ⟨c19,hc19,hf⟩:=oB hf
    have fe66:=(S.slz (r:=rArc) m1)
    obtain ⟨h67,e66,S⟩:=St.setE (r:=rTrans) (x':=(TTrans.mk e13.Name e13.Delay e13.Prio y14 y15 y16)) (k:=5) (n:=1) (y:=v58) S hqc18 (by rw [sl_cells fe66.is]; rfl) (sl_tup fe66.is) (nl rfl) (by rintro _ h; obtain ⟨c3,c4,c5,rfl,F3,F4,F5⟩:=rTrans_open h; rw [sl_cells fe66.is]; exact rTrans_mk (x:=(TTrans.mk e13.Name e13.Delay e13.Prio y14 y15 y16)) F3 F4 fe66)
    have S:St _ _ [own (oSl (fz rTrans)) [v28] c19,_,_,_,_,_,_,_,_,_] _:=S.cast1 (by rw [← oi hc19]<;>rfl)
    have hqc19:idx c19 y11=some (TTrans.mk e13.Name e13.Delay e13.Prio y14 y15 y16):=oi hc19▸idx_set hqc18
    refine ⟨h67,e66,?_⟩
    obtain ⟨_,cr68,Rr68,Nr68,Or68,Zr68⟩:=St.idxO (r:=rTrans) S_7 m4 he13
    obtain ⟨cr68_3,cr68_4,cr68_5,rfl,Fr68_3,Fr68_4,Fr68_5⟩:=rTrans_open Rr68
    have RXr68:(h42).rd1 (AV.padd 4 (v28.at ((y11:Int).toNat * 6)))=some cr68_4:=Or68 4 _ rfl
    have eXr68:=Option.some.inj ((rd_keep (Hp.le_trans (Hp.le_trans (Hp.le_trans K_7 K_8) K_9) K_10) RXr68).symm.trans RD_11)
    rw [eXr68] at RXr68
    refine ⟨⟨cr52_4,rd1_ev RD_11,rd1_ev RXr68,rd1_ev (rd_keep K_7 RXr68)⟩,?_⟩
    obtain ⟨_,cr69,Rr69,Nr69,Or69,Zr69⟩:=St.idxO (r:=rTrans) S_7 m4 he13
    obtain ⟨cr69_3,cr69_4,cr69_5,rfl,Fr69_3,Fr69_4,Fr69_5⟩:=rTrans_open Rr69
    have RXr69:(h42).rd1 (AV.padd 5 (v28.at ((y11:Int).toNat * 6)))=some cr69_5:=Or69 5 _ rfl
    have eXr69:=Option.some.inj ((rd_keep (Hp.le_trans (Hp.le_trans (Hp.le_trans (Hp.le_trans (Hp.le_trans (Hp.le_trans (Hp.le_trans (Hp.le_trans K_7 K_8) K_9) K_10) K_11) K_12) K_13) K_14) K_15) RXr69).symm.trans RD_16)
    rw [eXr69] at RXr69
    refine ⟨⟨cr57_5,rd1_ev RD_16,rd1_ev RXr69,rd1_ev (rd_keep K_7 RXr69)⟩,?_⟩
    obtain ⟨_,cr70,Rr70,Nr70,Or70,Zr70⟩:=St.idxO (r:=rTrans) S_12 m6 he13
    obtain ⟨cr70_3,cr70_4,cr70_5,rfl,Fr70_3,Fr70_4,Fr70_5⟩:=rTrans_open Rr70
    have RXr70:(h50).rd1 (AV.padd 5 (v28.at ((y11:Int).toNat * 6)))=some cr70_5:=Or70 5 _ rfl
    have eXr70:=Option.some.inj ((rd_keep (Hp.le_trans (Hp.le_trans (Hp.le_trans K_12 K_13) K_14) K_15) RXr70).symm.trans RD_16)
    rw [eXr70] at RXr70
    refine ⟨⟨cr57_5,rd1_ev RD_16,rd1_ev RXr70,rd1_ev (rd_keep K_12 RXr70)⟩,?_⟩
    have S:=S.sel [7,8,9,0] rfl
    obtain rfl:=oi hf
    exact ⟨m38,Nat.lt_succ_self _,c19,rfl,rfl,rfl,S,hk⟩
   rw [ifE hc] at hf
   obtain rfl:=oi hf
   obtain rfl:=hk
   exact ⟨c12,rfl,rfl,S,rfl⟩
  exact ⟨y10,rfl,rfl,rfl,S,hL⟩
 obtain ⟨c0,c1,rfl,S⟩:=hq
 have Z0:=Fz.refl h'
 obtain ⟨h0,z0,S⟩:=St.freeze S
 have Z0:=Z0.trans z0
 have S:=S.sel [1,0] rfl
 obtain ⟨h1,z1,S⟩:=St.freeze S
 have Z0:=Z0.trans z1
 have S:=S.sel [1,0] rfl
 refine ⟨_,Z0,_,rfl,(S.add (r:=rNet) (x:=r) (rNet_mk (x:=r) (S.slz (r:=rPlace) m0) (S.slz (r:=rTrans) m1))).sel [0] rfl⟩
def p39_j0 (b10:Bool):Option Bool:=some b10
def p39 (t0:TTl) (s1:List UInt8):Option Bool:=if t0.Kind=1 then (p39_j0 (t0.Text==s1)) else (p39_j0 false)
theorem r39 {h:Heap}  {t0:TTl} {s1:List UInt8} {r:Bool} (hf:p39 t0 s1=some r):ZC F 39 [(.agg [(.int .u8 t0.Kind),(.str t0.Text),(.int .i64 t0.N),(.int .i64 t0.At)]),(.str s1)] h fun v h'=>v=.bool r∧St h none' [] h':=by
 refine w39 ?_
 unfold W39
 unfold p39 at hf
 have S:St h none' [] h:=St.refl _ _
 intro h11
 have S:St _ _ [rowC h.n [(.int .u8 t0.Kind),(.str t0.Text),(.int .i64 t0.N),(.int .i64 t0.At)] 0] _:=S.pushRow [(.int .u8 t0.Kind),(.str t0.Text),(.int .i64 t0.N),(.int .i64 t0.At)]
 refine ⟨t0.Kind,S.rd1 m0 rfl,?_⟩
 intro jjj0
 have hjj0:∀ (b10:Bool) (h12:Heap),p39_j0 b10=some r→h11=h12→St h none' [] h11→jjj0 b10 h12:=by
  rintro b10 h12 hf rfl S
  unfold p39_j0 at hf
  unfold jjj0
  obtain rfl:=oi hf
  exact ⟨rfl,S.sel [] rfl⟩
 refine bI (fun hc=>?_) (fun hc=>?_)
 ·rw [ifD hc] at hf
  refine ⟨t0.Text,S.rd1 m0 rfl,?_⟩
  have S:=S.sel [] rfl
  exact hjj0 _ _  hf rfl S
 rw [ifE hc] at hf
 have S:=S.sel [] rfl
 exact hjj0 _ _  hf rfl S
def p54 (r0:Option Tparser) (e1:Int) (t2:TTl):Option (Option Tparser):=r0.bind fun b10=>if b10.f.Err=0 then ((p22 b10.p e1 t2.At).bind fun y11=>some (some (Tparser.mk b10.p b10.l y11 b10.n b10.places b10.told))) else (some (some b10))
theorem r54 {h:Heap} {a0_0:AV} {M:Nat→Prop} {r0:Option Tparser} {e1:Int} {t2:TTl} (S:St h M [own (oPtr oparser) [a0_0] r0] h) {r:(Option Tparser)} (hf:p54 r0 e1 t2=some r):ZC F 54 [a0_0,(.int .i64 e1),(.agg [(.int .u8 t2.Kind),(.str t2.Text),(.int .i64 t2.N),(.int .i64 t2.At)])] h fun v h'=>v=.tuple []∧St h M [own (oPtr oparser) [a0_0] r] h':=by
 refine w54 ?_
 unfold W54
 unfold p54 at hf
 intro h12
 have S:St _ _ [rowC h.n [(.int .u8 t2.Kind),(.str t2.Text),(.int .i64 t2.N),(.int .i64 t2.At)] 0,own (oPtr oparser) [a0_0] r0] _:=S.pushRow [(.int .u8 t2.Kind),(.str t2.Text),(.int .i64 t2.N),(.int .i64 t2.At)]
 obtain ⟨b10,hb10,hf⟩:=oB hf
 have S:=S.sel [1,0] rfl
 obtain ⟨o13,v14,b10c_0,b10c_1,b10c_6,b10c_7,b10c_8,b10c_9,eP,S2⟩:=oparser_deref hb10 S
 subst eP
 have S:=S2
 refine oI _ rfl ?_
 refine iI.2 ⟨rfl,?_⟩
 refine iI.2 ⟨rfl,?_⟩
 refine ⟨b10.f.Err,S.rd1 m6 rfl,?_⟩
 refine bI (fun hc=>?_) (fun hc=>?_)
 ·rw [ifD hc] at hf
  refine oI (.ptr o13 v14 0) rfl ?_
  refine iI.2 ⟨rfl,?_⟩
  refine ⟨b10c_0,S.rd1 m6 rfl,?_⟩
  refine ⟨t2.At,S.rd1 m7 rfl,?_⟩
  obtain ⟨y11,hy11,hf⟩:=oB hf
  refine ⟨_,Fz.refl _,?_⟩
  refine (r22 (p0:=b10.p) (e1:=e1) (at2:=t2.At) (f0_0:=(SlR.mono (frz_snap _) (S.slz (r:=(rI .u8)) m0))) hy11).mono fun v15 h16 T=>?_
  obtain ⟨rfl,T⟩:=T
  have S:St _ _ [_,_,_,_,_,_,_,_] _:=S.comp T
  refine oI (.ptr o13 v14 0) rfl ?_
  refine iI.2 ⟨rfl,?_⟩
  have S:=S.sel [6,0,1,2,3,4,5,7] rfl
  obtain ⟨h17,e18,S⟩:=S.store (off:=2) (n:=4) (x:=(.agg [(.int .i64 y11.Err),(.int .i64 y11.At),(.int .i64 y11.Line),(.int .i64 y11.Col)])) (cs':=[b10c_0,b10c_1,(.int .i64 y11.Err),(.int .i64 y11.At),(.int .i64 y11.Line),(.int .i64 y11.Col),b10c_6,b10c_7,b10c_8,b10c_9]) (nl rfl) rfl rfl rfl
  refine ⟨h17,e18,?_⟩
  have S:St _ _ [own (fz (rSl (rI .u8))) [b10c_0] b10.p,_,_,_,_,_,_,_,_] _:=S.add (rSl_mk (S.slz (r:=(rI .u8)) m1))
  have S:=S.sel [0,3,4,5,6,7,1,2,8] rfl
  have S:St _ _ [own (oPtr oparser) [(.ptr o13 v14 0)] (some (Tparser.mk b10.p b10.l y11 b10.n b10.places b10.told)),_,_] _:=oparser_shut (x:=(Tparser.mk b10.p b10.l y11 b10.n b10.places b10.told)) S
  obtain rfl:=oi hf
  exact ⟨rfl,S.sel [0] rfl⟩
 rw [ifE hc] at hf
 have S:St _ _ [own (fz (rSl (rI .u8))) [b10c_0] b10.p,_,_,_,_,_,_,_,_] _:=S.add (rSl_mk (S.slz (r:=(rI .u8)) m0))
 have S:=S.sel [0,2,3,4,5,6,7,1,8] rfl
 have S:St _ _ [own (oPtr oparser) [(.ptr o13 v14 0)] (some b10),_,_] _:=oparser_shut (x:=b10) S
 obtain rfl:=oi hf
 exact ⟨rfl,S.sel [0] rfl⟩
def p53_j0 (b10:Tparser) (e11:TTl) (c12:List TTl):Option (TTl×(Option Tparser)):=some (e11,(some (Tparser.mk b10.p c12 b10.f b10.n b10.places b10.told)))
def p53_j1 (b10:Tparser) (e11:TTl) (b13:Bool):Option (TTl×(Option Tparser)):=if b13=true then ((slc b10.l 1 (b10.l.length:Int)).bind fun y14=>p53_j0 b10 e11 y14) else (p53_j0 b10 e11 b10.l)
def p53 (r0:Option Tparser):Option (TTl×(Option Tparser)):=r0.bind fun b10=>(idx b10.l 0).bind fun e11=>if b10.f.Err=0 then (p53_j1 b10 e11 (decide (1 < (b10.l.length:Int)))) else (p53_j1 b10 e11 false)
theorem r53 {h:Heap} {a0_0:AV} {M:Nat→Prop} {r0:Option Tparser} (S:St h M [own (oPtr oparser) [a0_0] r0] h) {r:TTl×(Option Tparser)} (hf:p53 r0=some r):ZC F 53 [a0_0] h fun v h'=>v=.agg [.int .u8 r.1.Kind,.str r.1.Text,.int .i64 r.1.N,.int .i64 r.1.At]∧St h M [own (oPtr oparser) [a0_0] r.2] h':=by
 refine w53 ?_
 unfold W53
 unfold p53 at hf
 intro h15
 have S:St _ _ [rowC h.n [(.int .u8 0),(.str ([]:List UInt8)),(.int .i64 0),(.int .i64 0)] 0,own (oPtr oparser) [a0_0] r0] _:=S.pushRow [(.int .u8 0),(.str ([]:List UInt8)),(.int .i64 0),(.int .i64 0)]
 obtain ⟨b10,hb10,hf⟩:=oB hf
 have S:=S.sel [1,0] rfl
 obtain ⟨o16,v17,b10c_0,b10c_1,b10c_6,b10c_7,b10c_8,b10c_9,eP,S2⟩:=oparser_deref hb10 S
 subst eP
 have S:=S2
 refine oI _ rfl ?_
 refine iI.2 ⟨rfl,?_⟩
 refine ⟨b10c_1,S.rd1 m6 rfl,?_⟩
 obtain ⟨e11,he11,hf⟩:=oB hf
 refine ix_go (S.sl (r:=(fz rTl)) m1) (Hp.le_refl _) he11 fun pe11=>?_
 obtain ⟨_,cr18,Rr18,Nr18,Or18,Zr18⟩:=St.idxO (r:=rTl) S m1 he11
 obtain rfl:=rTl_open Rr18
 refine ⟨(.int .u8 e11.Kind),(.str e11.Text),(.int .i64 e11.N),(.int .i64 e11.At),Nr18,?_⟩
 intro h19
 have S:St _ _ [rowC h15.n [(.int .u8 0),(.str ([]:List UInt8)),(.int .i64 0),(.int .i64 0)] 0,_,_,_,_,_,_,_,_] _:=S.pushRow [(.int .u8 0),(.str ([]:List UInt8)),(.int .i64 0),(.int .i64 0)]
 obtain ⟨h20,e21,S⟩:=S.store (off:=0) (n:=4) (x:=(.agg [(.int .u8 e11.Kind),(.str e11.Text),(.int .i64 e11.N),(.int .i64 e11.At)])) (cs':=[(.int .u8 e11.Kind),(.str e11.Text),(.int .i64 e11.N),(.int .i64 e11.At)]) (nl rfl) rfl rfl rfl
 refine ⟨h20,e21,?_⟩
 refine oI (.ptr o16 v17 0) rfl ?_
 refine iI.2 ⟨rfl,?_⟩
 refine iI.2 ⟨rfl,?_⟩
 refine ⟨b10.f.Err,S.rd1 m7 rfl,?_⟩
 intro jjj1
 have hjj1:∀ (b13:Bool) (h22:Heap),p53_j1 b10 e11 b13=some r→h20=h22→St h M [rowC o16 [b10c_0,b10c_1,(.int .i64 b10.f.Err),(.int .i64 b10.f.At),(.int .i64 b10.f.Line),(.int .i64 b10.f.Col),b10c_6,b10c_7,b10c_8,b10c_9] v17,rowC h.n [(.int .u8 0),(.str ([]:List UInt8)),(.int .i64 0),(.int .i64 0)] 0,rowC h15.n [(.int .u8 e11.Kind),(.str e11.Text),(.int .i64 e11.N),(.int .i64 e11.At)] 0,own (fz (rSl (rI .u8))) [b10c_0] b10.p,own (oSl (fz rTl)) [b10c_1] b10.l,own (oSl (fz rPlace)) [b10c_6] b10.n.Places,own (oSl oTrans) [b10c_7] b10.n.Trans,own (oMap keS (AV.int .i64)) [b10c_8] b10.places,own (oMap keS AV.bool) [b10c_9] b10.told] h20→jjj1 b13 h22:=by
  rintro b13 h22 hf rfl S
  unfold p53_j1 at hf
  unfold jjj1
  intro jjj0
  have hjj0:∀  (h23:Heap) (c24:AV) (c12:List TTl),p53_j0 b10 e11 c12=some r→St h M [rowC h.n [(.int .u8 0),(.str ([]:List UInt8)),(.int .i64 0),(.int .i64 0)] 0,rowC h15.n [(.int .u8 e11.Kind),(.str e11.Text),(.int .i64 e11.N),(.int .i64 e11.At)] 0,rowC o16 [b10c_0,c24,(.int .i64 b10.f.Err),(.int .i64 b10.f.At),(.int .i64 b10.f.Line),(.int .i64 b10.f.Col),b10c_6,b10c_7,b10c_8,b10c_9] v17,own (fz (rSl (rI .u8))) [b10c_0] b10.p,own (oSl (fz rTl)) [c24] c12,own (oSl (fz rPlace)) [b10c_6] b10.n.Places,own (oSl oTrans) [b10c_7] b10.n.Trans,own (oMap keS (AV.int .i64)) [b10c_8] b10.places,own (oMap keS AV.bool) [b10c_9] b10.told] h23→jjj0 h23:=by
   rintro h23 c24 c12 hf S
   unfold p53_j0 at hf
   unfold jjj0
   refine ⟨(.int .u8 e11.Kind),(.str e11.Text),(.int .i64 e11.N),(.int .i64 e11.At),S.rdN m1 (nl rfl) rfl,?_⟩
   obtain ⟨h25,e26,S⟩:=S.store (off:=0) (n:=4) (x:=(.agg [(.int .u8 e11.Kind),(.str e11.Text),(.int .i64 e11.N),(.int .i64 e11.At)])) (cs':=[(.int .u8 e11.Kind),(.str e11.Text),(.int .i64 e11.N),(.int .i64 e11.At)]) (nl rfl) rfl rfl rfl
   refine ⟨h25,e26,?_⟩
   refine ⟨(.int .u8 e11.Kind),(.str e11.Text),(.int .i64 e11.N),(.int .i64 e11.At),S.rdN m0 (nl rfl) rfl,?_⟩
   have S:St _ _ [own (fz (rSl (rI .u8))) [b10c_0] b10.p,_,_,_,_,_,_,_,_,_] _:=S.add (rSl_mk (S.slz (r:=(rI .u8)) m3))
   have S:=S.sel [0,5,6,7,8,9,3,1,2,4] rfl
   have S:St _ _ [own (oPtr oparser) [(.ptr o16 v17 0)] (some (Tparser.mk b10.p c12 b10.f b10.n b10.places b10.told)),_,_,_] _:=oparser_shut (x:=(Tparser.mk b10.p c12 b10.f b10.n b10.places b10.told)) S
   obtain rfl:=oi hf
   exact ⟨rfl,S.sel [0] rfl⟩
  refine bI (fun hc=>?_) (fun hc=>?_)
  ·rw [ifT hc] at hf
   refine oI (.ptr o16 v17 0) rfl ?_
   refine iI.2 ⟨rfl,?_⟩
   refine ⟨b10c_1,S.rd1 m0 rfl,?_⟩
   obtain ⟨y14,hy14,hf⟩:=oB hf
   have ey14:=(sliceSl_ev10 (k:=.i64) (S.sl (r:=(fz rTl)) m4) hy14)
   have S:=S.sel [4,0,1,2,3,5,6,7,8] rfl
   have S:St _ _ [own (oSl (fz rTl)) [(b10c_1.sub 4 (1:Int).toNat ((b10.l.length:Int):Int).toNat)] y14,_,_,_,_,_,_,_,_] _:=(S.sub (slc_le hy14).1 (slc_le hy14).2).cast1 (by rw [← slc_eq hy14]<;>rfl)
   refine oI (b10c_1.sub 4 (1:Int).toNat ((b10.l.length:Int):Int).toNat) ey14 ?_
   refine oI (.ptr o16 v17 0) rfl ?_
   refine iI.2 ⟨rfl,?_⟩
   have S:=S.sel [1,0,2,3,4,5,6,7,8] rfl
   obtain ⟨h27,e28,S⟩:=S.storeS (off:=1) (x:=(b10c_1.sub 4 (1:Int).toNat ((b10.l.length:Int):Int).toNat)) (cs':=[b10c_0,(b10c_1.sub 4 (1:Int).toNat ((b10.l.length:Int):Int).toNat),(.int .i64 b10.f.Err),(.int .i64 b10.f.At),(.int .i64 b10.f.Line),(.int .i64 b10.f.Col),b10c_6,b10c_7,b10c_8,b10c_9]) (nl rfl) ((S.sl (r:=(fz rTl)) m1)).is rfl
   refine ⟨h27,e28,?_⟩
   have S:=S.sel [2,3,0,4,1,5,6,7,8] rfl
   exact hjj0  _ (b10c_1.sub 4 (1:Int).toNat ((b10.l.length:Int):Int).toNat) y14 hf  S
  rw [ifF hc] at hf
  have S:=S.sel [1,2,0,3,4,5,6,7,8] rfl
  exact hjj0  _ b10c_1 b10.l hf  S
 refine bI (fun hc=>?_) (fun hc=>?_)
 ·rw [ifD hc] at hf
  refine oI (.ptr o16 v17 0) rfl ?_
  refine iI.2 ⟨rfl,?_⟩
  refine ⟨b10c_1,S.rd1 m7 rfl,?_⟩
  refine iI.2 ⟨((S.sl (r:=(fz rTl)) m2)).is,?_⟩
  try rw [show (b10c_1).slen=_ from ((S.sl (r:=(fz rTl)) m2)).slen]
  have S:=S.sel [7,8,0,1,2,3,4,5,6] rfl
  exact hjj1 _ _  hf rfl S
 rw [ifE hc] at hf
 have S:=S.sel [7,8,0,1,2,3,4,5,6] rfl
 exact hjj1 _ _  hf rfl S
def p56_j0 (b10:Tparser) (b11:Bool):Option (Bool×(Option Tparser)):=if b11=true then (some (false,(some b10))) else ((p53 (some b10)).bind fun u12=>some (true,u12.2))
def p56_j1 (s1:List UInt8) (b10:Tparser) (b13:Bool):Option (Bool×(Option Tparser)):=if b13=true then (p56_j0 b10 true) else ((idx b10.l 0).bind fun e14=>p56_j0 b10 (!(e14.Text==s1)))
def p56 (r0:Option Tparser) (s1:List UInt8):Option (Bool×(Option Tparser)):=r0.bind fun b10=>if (!decide (b10.f.Err=0))=true then (p56_j1 s1 b10 true) else ((idx b10.l 0).bind fun e15=>p56_j1 s1 b10 (!decide (e15.Kind=3)))
theorem r56 {h:Heap} {a0_0:AV} {M:Nat→Prop} {r0:Option Tparser} {s1:List UInt8} (S:St h M [own (oPtr oparser) [a0_0] r0] h) {r:Bool×(Option Tparser)} (hf:p56 r0 s1=some r):ZC F 56 [a0_0,(.str s1)] h fun v h'=>v=.bool r.1∧St h M [own (oPtr oparser) [a0_0] r.2] h':=by
 refine w56 ?_
 unfold W56
 unfold p56 at hf
 obtain ⟨b10,hb10,hf⟩:=oB hf
 obtain ⟨o16,v17,b10c_0,b10c_1,b10c_6,b10c_7,b10c_8,b10c_9,eP,S2⟩:=oparser_deref hb10 S
 subst eP
 have S:=S2
 refine oI _ rfl ?_
 refine iI.2 ⟨rfl,?_⟩
 refine iI.2 ⟨rfl,?_⟩
 refine ⟨b10.f.Err,S.rd1 m6 rfl,?_⟩
 intro jjj1
 have hjj1:∀ (b13:Bool) (h18:Heap),p56_j1 s1 b10 b13=some r→h=h18→St h M [rowC o16 [b10c_0,b10c_1,(.int .i64 b10.f.Err),(.int .i64 b10.f.At),(.int .i64 b10.f.Line),(.int .i64 b10.f.Col),b10c_6,b10c_7,b10c_8,b10c_9] v17,own (fz (rSl (rI .u8))) [b10c_0] b10.p,own (oSl (fz rTl)) [b10c_1] b10.l,own (oSl (fz rPlace)) [b10c_6] b10.n.Places,own (oSl oTrans) [b10c_7] b10.n.Trans,own (oMap keS (AV.int .i64)) [b10c_8] b10.places,own (oMap keS AV.bool) [b10c_9] b10.told] h→jjj1 b13 h18:=by
  rintro b13 h18 hf rfl S
  unfold p56_j1 at hf
  unfold jjj1
  intro jjj0
  have hjj0:∀ (b11:Bool) (h19:Heap),p56_j0 b10 b11=some r→h=h19→St h M [rowC o16 [b10c_0,b10c_1,(.int .i64 b10.f.Err),(.int .i64 b10.f.At),(.int .i64 b10.f.Line),(.int .i64 b10.f.Col),b10c_6,b10c_7,b10c_8,b10c_9] v17,own (fz (rSl (rI .u8))) [b10c_0] b10.p,own (oSl (fz rTl)) [b10c_1] b10.l,own (oSl (fz rPlace)) [b10c_6] b10.n.Places,own (oSl oTrans) [b10c_7] b10.n.Trans,own (oMap keS (AV.int .i64)) [b10c_8] b10.places,own (oMap keS AV.bool) [b10c_9] b10.told] h→jjj0 b11 h19:=by
   rintro b11 h19 hf rfl S
   unfold p56_j0 at hf
   unfold jjj0
   refine bI (fun hc=>?_) (fun hc=>?_)
   ·rw [ifT hc] at hf
    have S:St _ _ [own (fz (rSl (rI .u8))) [b10c_0] b10.p,_,_,_,_,_,_,_] _:=S.add (rSl_mk (S.slz (r:=(rI .u8)) m1))
    have S:=S.sel [0,3,4,5,6,7,1,2] rfl
    have S:St _ _ [own (oPtr oparser) [(.ptr o16 v17 0)] (some b10),_] _:=oparser_shut (x:=b10) S
    obtain rfl:=oi hf
    exact ⟨rfl,S.sel [0] rfl⟩
   rw [ifF hc] at hf
   obtain ⟨u12,hu12,hf⟩:=oB hf
   have S:St _ _ [own (fz (rSl (rI .u8))) [b10c_0] b10.p,_,_,_,_,_,_,_] _:=S.add (rSl_mk (S.slz (r:=(rI .u8)) m1))
   have S:=S.sel [0,3,4,5,6,7,1,2] rfl
   have S:St _ _ [own (oPtr oparser) [(.ptr o16 v17 0)] (some b10),_] _:=oparser_shut (x:=b10) S
   refine ⟨_,Fz.refl _,?_⟩
   obtain ⟨fpu12,S1u127,backu12⟩:=St.lend [_] S
   refine (r53 (r0:=(some b10)) (S:=S1u127) hu12).mono fun v20 h21 T=>?_
   obtain ⟨rfl,T⟩:=T
   have S:St _ _ [own (oPtr oparser) [(.ptr o16 v17 0)] u12.2,_] _:=backu12 _ _ T
   obtain rfl:=oi hf
   exact ⟨rfl,S.sel [0] rfl⟩
  refine bI (fun hc=>?_) (fun hc=>?_)
  ·rw [ifT hc] at hf
   exact hjj0 _ _  hf rfl S
  rw [ifF hc] at hf
  refine oI (.ptr o16 v17 0) rfl ?_
  refine iI.2 ⟨rfl,?_⟩
  refine ⟨b10c_1,S.rd1 m0 rfl,?_⟩
  obtain ⟨e14,he14,hf⟩:=oB hf
  refine ix_go (S.sl (r:=(fz rTl)) m2) (Hp.le_refl _) he14 fun pe14=>?_
  refine iI.2 ⟨pe14,?_⟩
  obtain ⟨_,cr22,Rr22,Nr22,Or22,Zr22⟩:=St.idxO (r:=rTl) S m2 he14
  obtain rfl:=rTl_open Rr22
  refine ⟨e14.Text,Or22 1 _ rfl,?_⟩
  exact hjj0 _ _  hf rfl S
 refine bI (fun hc=>?_) (fun hc=>?_)
 ·rw [ifT hc] at hf
  have S:=S.sel [6,0,1,2,3,4,5] rfl
  exact hjj1 _ _  hf rfl S
 rw [ifF hc] at hf
 refine oI (.ptr o16 v17 0) rfl ?_
 refine iI.2 ⟨rfl,?_⟩
 refine ⟨b10c_1,S.rd1 m6 rfl,?_⟩
 obtain ⟨e15,he15,hf⟩:=oB hf
 refine ix_go (S.sl (r:=(fz rTl)) m1) (Hp.le_refl _) he15 fun pe15=>?_
 refine iI.2 ⟨pe15,?_⟩
 obtain ⟨_,cr23,Rr23,Nr23,Or23,Zr23⟩:=St.idxO (r:=rTl) S m1 he15
 obtain rfl:=rTl_open Rr23
 refine ⟨e15.Kind,Or23 0 _ rfl,?_⟩
 have S:=S.sel [6,0,1,2,3,4,5] rfl
 exact hjj1 _ _  hf rfl S
def p59 (r0:Option Tparser) (s1:List UInt8):Option (Option Tparser):=(p56 r0 s1).bind fun u10=>if (!u10.1)=true then (u10.2.bind fun b11=>(idx b11.l 0).bind fun e12=>(p54 (some b11) 6 e12).bind fun u13=>some u13) else (some u10.2)
theorem r59 {h:Heap} {a0_0:AV} {M:Nat→Prop} {r0:Option Tparser} {s1:List UInt8} (S:St h M [own (oPtr oparser) [a0_0] r0] h) {r:(Option Tparser)} (hf:p59 r0 s1=some r):ZC F 59 [a0_0,(.str s1)] h fun v h'=>v=.tuple []∧St h M [own (oPtr oparser) [a0_0] r] h':=by
 refine w59 ?_
 unfold W59
 unfold p59 at hf
 obtain ⟨u10,hu10,hf⟩:=oB hf
 refine ⟨_,Fz.refl _,?_⟩
 obtain ⟨fpu10,S1u104,backu10⟩:=St.lend [_] S
 refine (r56 (r0:=r0) (s1:=s1) (S:=S1u104) hu10).mono fun v14 h15 T=>?_
 obtain ⟨rfl,T⟩:=T
 have S:St _ _ [own (oPtr oparser) [a0_0] u10.2] _:=backu10 _ _ T
 refine ⟨u10.1,rfl,?_⟩
 refine bI (fun hc=>?_) (fun hc=>?_)
 ·rw [ifT hc] at hf
  obtain ⟨b11,hb11,hf⟩:=oB hf
  obtain ⟨o16,v17,b11c_0,b11c_1,b11c_6,b11c_7,b11c_8,b11c_9,eP,S2⟩:=oparser_deref hb11 S
  subst eP
  have S:=S2
  refine oI _ rfl ?_
  refine iI.2 ⟨rfl,?_⟩
  refine ⟨b11c_1,S.rd1 m6 rfl,?_⟩
  obtain ⟨e12,he12,hf⟩:=oB hf
  refine ix_go (S.sl (r:=(fz rTl)) m1) (Hp.le_refl _) he12 fun pe12=>?_
  obtain ⟨_,cr18,Rr18,Nr18,Or18,Zr18⟩:=St.idxO (r:=rTl) S m1 he12
  obtain rfl:=rTl_open Rr18
  refine ⟨(.int .u8 e12.Kind),(.str e12.Text),(.int .i64 e12.N),(.int .i64 e12.At),Nr18,?_⟩
  obtain ⟨u13,hu13,hf⟩:=oB hf
  have S:St _ _ [own (fz (rSl (rI .u8))) [b11c_0] b11.p,_,_,_,_,_,_,_] _:=S.add (rSl_mk (S.slz (r:=(rI .u8)) m0))
  have S:=S.sel [0,2,3,4,5,6,7,1] rfl
  have S:St _ _ [own (oPtr oparser) [(.ptr o16 v17 0)] (some b11),_] _:=oparser_shut (x:=b11) S
  refine ⟨_,Fz.refl _,?_⟩
  obtain ⟨fpu13,S1u120,backu13⟩:=St.lend [_] S
  refine (r54 (r0:=(some b11)) (e1:=6) (t2:=e12) (S:=S1u120) hu13).mono fun v19 h20 T=>?_
  obtain ⟨rfl,T⟩:=T
  have S:St _ _ [own (oPtr oparser) [(.ptr o16 v17 0)] u13,_] _:=backu13 _ _ T
  obtain rfl:=oi hf
  exact ⟨rfl,S.sel [0] rfl⟩
 rw [ifF hc] at hf
 obtain rfl:=oi hf
 exact ⟨rfl,S.sel [0] rfl⟩
def p57_j0 (b10:Tparser) (e11:TTl) (b12:Bool):Option (Int×(Option Tparser)):=if b12=true then ((p54 (some b10) 3 e11).bind fun u13=>some (0,u13)) else ((p53 (some b10)).bind fun u14=>some (u14.1.N,u14.2))
def p57 (r0:Option Tparser) (least1:Int):Option (Int×(Option Tparser)):=r0.bind fun b10=>(idx b10.l 0).bind fun e11=>if (!decide (e11.Kind=2))=true then ((p54 (some b10) 6 e11).bind fun u15=>some (0,u15)) else (if e11.N < least1 then (p57_j0 b10 e11 true) else (p57_j0 b10 e11 (decide (1000000 < e11.N))))
theorem r57 {h:Heap} {a0_0:AV} {M:Nat→Prop} {r0:Option Tparser} {least1:Int} (S:St h M [own (oPtr oparser) [a0_0] r0] h) {r:Int×(Option Tparser)} (hf:p57 r0 least1=some r):ZC F 57 [a0_0,(.int .i64 least1)] h fun v h'=>v=.int .i64 r.1∧St h M [own (oPtr oparser) [a0_0] r.2] h':=by
 refine w57 ?_
 unfold W57
 unfold p57 at hf
 obtain ⟨b10,hb10,hf⟩:=oB hf
 obtain ⟨o16,v17,b10c_0,b10c_1,b10c_6,b10c_7,b10c_8,b10c_9,eP,S2⟩:=oparser_deref hb10 S
 subst eP
 have S:=S2
 refine oI _ rfl ?_
 refine iI.2 ⟨rfl,?_⟩
 refine ⟨b10c_1,S.rd1 m6 rfl,?_⟩
 obtain ⟨e11,he11,hf⟩:=oB hf
 refine ix_go (S.sl (r:=(fz rTl)) m1) (Hp.le_refl _) he11 fun pe11=>?_
 obtain ⟨_,cr18,Rr18,Nr18,Or18,Zr18⟩:=St.idxO (r:=rTl) S m1 he11
 obtain rfl:=rTl_open Rr18
 refine ⟨(.int .u8 e11.Kind),(.str e11.Text),(.int .i64 e11.N),(.int .i64 e11.At),Nr18,?_⟩
 intro h19
 have S:St _ _ [rowC h.n [(.int .u8 0),(.str ([]:List UInt8)),(.int .i64 0),(.int .i64 0)] 0,_,_,_,_,_,_,_] _:=S.pushRow [(.int .u8 0),(.str ([]:List UInt8)),(.int .i64 0),(.int .i64 0)]
 obtain ⟨h20,e21,S⟩:=S.store (off:=0) (n:=4) (x:=(.agg [(.int .u8 e11.Kind),(.str e11.Text),(.int .i64 e11.N),(.int .i64 e11.At)])) (cs':=[(.int .u8 e11.Kind),(.str e11.Text),(.int .i64 e11.N),(.int .i64 e11.At)]) (nl rfl) rfl rfl rfl
 refine ⟨h20,e21,?_⟩
 refine ⟨e11.Kind,S.rd1 m0 rfl,?_⟩
 refine bI (fun hc=>?_) (fun hc=>?_)
 ·rw [ifT hc] at hf
  refine ⟨(.int .u8 e11.Kind),(.str e11.Text),(.int .i64 e11.N),(.int .i64 e11.At),S.rdN m0 (nl rfl) rfl,?_⟩
  obtain ⟨u15,hu15,hf⟩:=oB hf
  have S:St _ _ [own (fz (rSl (rI .u8))) [b10c_0] b10.p,_,_,_,_,_,_,_,_] _:=S.add (rSl_mk (S.slz (r:=(rI .u8)) m1))
  have S:=S.sel [0,3,4,5,6,7,8,1,2] rfl
  have S:St _ _ [own (oPtr oparser) [(.ptr o16 v17 0)] (some b10),_,_] _:=oparser_shut (x:=b10) S
  refine ⟨_,Fz.refl _,?_⟩
  obtain ⟨fpu15,S1u121,backu15⟩:=St.lend [_] S
  refine (r54 (r0:=(some b10)) (e1:=6) (t2:=e11) (S:=S1u121) hu15).mono fun v22 h23 T=>?_
  obtain ⟨rfl,T⟩:=T
  have S:St _ _ [own (oPtr oparser) [(.ptr o16 v17 0)] u15,_,_] _:=backu15 _ _ T
  obtain rfl:=oi hf
  exact ⟨rfl,S.sel [0] rfl⟩
 rw [ifF hc] at hf
 refine ⟨e11.N,S.rd1 m0 rfl,?_⟩
 intro jjj0
 have hjj0:∀ (b12:Bool) (h24:Heap),p57_j0 b10 e11 b12=some r→h20=h24→St h M [rowC o16 [b10c_0,b10c_1,(.int .i64 b10.f.Err),(.int .i64 b10.f.At),(.int .i64 b10.f.Line),(.int .i64 b10.f.Col),b10c_6,b10c_7,b10c_8,b10c_9] v17,rowC h.n [(.int .u8 e11.Kind),(.str e11.Text),(.int .i64 e11.N),(.int .i64 e11.At)] 0,own (fz (rSl (rI .u8))) [b10c_0] b10.p,own (oSl (fz rTl)) [b10c_1] b10.l,own (oSl (fz rPlace)) [b10c_6] b10.n.Places,own (oSl oTrans) [b10c_7] b10.n.Trans,own (oMap keS (AV.int .i64)) [b10c_8] b10.places,own (oMap keS AV.bool) [b10c_9] b10.told] h20→jjj0 b12 h24:=by
  rintro b12 h24 hf rfl S
  unfold p57_j0 at hf
  unfold jjj0
  refine bI (fun hc=>?_) (fun hc=>?_)
  ·rw [ifT hc] at hf
   refine ⟨(.int .u8 e11.Kind),(.str e11.Text),(.int .i64 e11.N),(.int .i64 e11.At),S.rdN m1 (nl rfl) rfl,?_⟩
   obtain ⟨u13,hu13,hf⟩:=oB hf
   have S:St _ _ [own (fz (rSl (rI .u8))) [b10c_0] b10.p,_,_,_,_,_,_,_,_] _:=S.add (rSl_mk (S.slz (r:=(rI .u8)) m2))
   have S:=S.sel [0,4,5,6,7,8,1,2,3] rfl
   have S:St _ _ [own (oPtr oparser) [(.ptr o16 v17 0)] (some b10),_,_] _:=oparser_shut (x:=b10) S
   refine ⟨_,Fz.refl _,?_⟩
   obtain ⟨fpu13,S1u129,backu13⟩:=St.lend [_] S
   refine (r54 (r0:=(some b10)) (e1:=3) (t2:=e11) (S:=S1u129) hu13).mono fun v25 h26 T=>?_
   obtain ⟨rfl,T⟩:=T
   have S:St _ _ [own (oPtr oparser) [(.ptr o16 v17 0)] u13,_,_] _:=backu13 _ _ T
   obtain rfl:=oi hf
   exact ⟨rfl,S.sel [0] rfl⟩
  rw [ifF hc] at hf
  obtain ⟨u14,hu14,hf⟩:=oB hf
  have S:St _ _ [own (fz (rSl (rI .u8))) [b10c_0] b10.p,_,_,_,_,_,_,_,_] _:=S.add (rSl_mk (S.slz (r:=(rI .u8)) m2))
  have S:=S.sel [0,4,5,6,7,8,1,2,3] rfl
  have S:St _ _ [own (oPtr oparser) [(.ptr o16 v17 0)] (some b10),_,_] _:=oparser_shut (x:=b10) S
  refine ⟨_,Fz.refl _,?_⟩
  obtain ⟨fpu14,S1u133,backu14⟩:=St.lend [_] S
  refine (r53 (r0:=(some b10)) (S:=S1u133) hu14).mono fun v27 h28 T=>?_
  obtain ⟨rfl,T⟩:=T
  have S:St _ _ [own (oPtr oparser) [(.ptr o16 v17 0)] u14.2,_,_] _:=backu14 _ _ T
  refine oI (.int .i64 u14.1.N) rfl ⟨u14.1.N,rfl,?_⟩
  obtain rfl:=oi hf
  exact ⟨rfl,S.sel [0] rfl⟩
 refine bI (fun hc=>?_) (fun hc=>?_)
 ·rw [ifD hc] at hf
  have S:=S.sel [7,0,1,2,3,4,5,6] rfl
  exact hjj0 _ _  hf rfl S
 rw [ifE hc] at hf
 refine ⟨e11.N,S.rd1 m0 rfl,?_⟩
 have S:=S.sel [7,0,1,2,3,4,5,6] rfl
 exact hjj0 _ _  hf rfl S
def p55_j0 (b10:Tparser) (e11:TTl) (b12:Bool):Option ((List UInt8)×(Option Tparser)):=if b12=true then ((p54 (some b10) 7 e11).bind fun u13=>some (([]:List UInt8),u13)) else ((p53 (some (Tparser.mk b10.p b10.l b10.f b10.n b10.places (mput keS b10.told e11.Text true)))).bind fun u14=>some (u14.1.Text,u14.2))
def p55 (r0:Option Tparser):Option ((List UInt8)×(Option Tparser)):=r0.bind fun b10=>(idx b10.l 0).bind fun e11=>if (!decide (e11.Kind=1))=true then ((p54 (some b10) 6 e11).bind fun u15=>some (([]:List UInt8),u15)) else ((p23 e11.Text).bind fun y16=>if (!y16)=true then (p55_j0 b10 e11 true) else (p55_j0 b10 e11 ((mget keS b10.told e11.Text).getD false)))
theorem r55 {h:Heap} {a0_0:AV} {M:Nat→Prop} {r0:Option Tparser} (S:St h M [own (oPtr oparser) [a0_0] r0] h) {r:(List UInt8)×(Option Tparser)} (hf:p55 r0=some r):ZC F 55 [a0_0] h fun v h'=>v=.str r.1∧St h M [own (oPtr oparser) [a0_0] r.2] h':=by
 refine w55 ?_
 unfold W55
 unfold p55 at hf
 obtain ⟨b10,hb10,hf⟩:=oB hf
 obtain ⟨o17,v18,b10c_0,b10c_1,b10c_6,b10c_7,b10c_8,b10c_9,eP,S2⟩:=oparser_deref hb10 S
 subst eP
 have S:=S2
 refine oI _ rfl ?_
 refine iI.2 ⟨rfl,?_⟩
 refine ⟨b10c_1,S.rd1 m6 rfl,?_⟩
 obtain ⟨e11,he11,hf⟩:=oB hf
 refine ix_go (S.sl (r:=(fz rTl)) m1) (Hp.le_refl _) he11 fun pe11=>?_
 obtain ⟨_,cr19,Rr19,Nr19,Or19,Zr19⟩:=St.idxO (r:=rTl) S m1 he11
 obtain rfl:=rTl_open Rr19
 refine ⟨(.int .u8 e11.Kind),(.str e11.Text),(.int .i64 e11.N),(.int .i64 e11.At),Nr19,?_⟩
 intro h20
 have S:St _ _ [rowC h.n [(.int .u8 0),(.str ([]:List UInt8)),(.int .i64 0),(.int .i64 0)] 0,_,_,_,_,_,_,_] _:=S.pushRow [(.int .u8 0),(.str ([]:List UInt8)),(.int .i64 0),(.int .i64 0)]
 obtain ⟨h21,e22,S⟩:=S.store (off:=0) (n:=4) (x:=(.agg [(.int .u8 e11.Kind),(.str e11.Text),(.int .i64 e11.N),(.int .i64 e11.At)])) (cs':=[(.int .u8 e11.Kind),(.str e11.Text),(.int .i64 e11.N),(.int .i64 e11.At)]) (nl rfl) rfl rfl rfl
 refine ⟨h21,e22,?_⟩
 refine ⟨e11.Kind,S.rd1 m0 rfl,?_⟩
 refine bI (fun hc=>?_) (fun hc=>?_)
 ·rw [ifT hc] at hf
  refine ⟨(.int .u8 e11.Kind),(.str e11.Text),(.int .i64 e11.N),(.int .i64 e11.At),S.rdN m0 (nl rfl) rfl,?_⟩
  obtain ⟨u15,hu15,hf⟩:=oB hf
  have S:St _ _ [own (fz (rSl (rI .u8))) [b10c_0] b10.p,_,_,_,_,_,_,_,_] _:=S.add (rSl_mk (S.slz (r:=(rI .u8)) m1))
  have S:=S.sel [0,3,4,5,6,7,8,1,2] rfl
  have S:St _ _ [own (oPtr oparser) [(.ptr o17 v18 0)] (some b10),_,_] _:=oparser_shut (x:=b10) S
  refine ⟨_,Fz.refl _,?_⟩
  obtain ⟨fpu15,S1u121,backu15⟩:=St.lend [_] S
  refine (r54 (r0:=(some b10)) (e1:=6) (t2:=e11) (S:=S1u121) hu15).mono fun v23 h24 T=>?_
  obtain ⟨rfl,T⟩:=T
  have S:St _ _ [own (oPtr oparser) [(.ptr o17 v18 0)] u15,_,_] _:=backu15 _ _ T
  obtain rfl:=oi hf
  exact ⟨rfl,S.sel [0] rfl⟩
 rw [ifF hc] at hf
 refine ⟨e11.Text,S.rd1 m0 rfl,?_⟩
 obtain ⟨y16,hy16,hf⟩:=oB hf
 refine ⟨_,Fz.refl _,?_⟩
 refine (r23 (s0:=e11.Text) hy16).mono fun v25 h26 T=>?_
 obtain ⟨rfl,T⟩:=T
 have S:St _ _ [_,_,_,_,_,_,_,_] _:=S.comp T
 refine ⟨y16,rfl,?_⟩
 intro jjj0
 have hjj0:∀ (b12:Bool) (h27:Heap),p55_j0 b10 e11 b12=some r→h26=h27→St h M [rowC o17 [b10c_0,b10c_1,(.int .i64 b10.f.Err),(.int .i64 b10.f.At),(.int .i64 b10.f.Line),(.int .i64 b10.f.Col),b10c_6,b10c_7,b10c_8,b10c_9] v18,rowC h.n [(.int .u8 e11.Kind),(.str e11.Text),(.int .i64 e11.N),(.int .i64 e11.At)] 0,own (fz (rSl (rI .u8))) [b10c_0] b10.p,own (oSl (fz rTl)) [b10c_1] b10.l,own (oSl (fz rPlace)) [b10c_6] b10.n.Places,own (oSl oTrans) [b10c_7] b10.n.Trans,own (oMap keS (AV.int .i64)) [b10c_8] b10.places,own (oMap keS AV.bool) [b10c_9] b10.told] h26→jjj0 b12 h27:=by
  rintro b12 h27 hf rfl S
  unfold p55_j0 at hf
  unfold jjj0
  refine bI (fun hc=>?_) (fun hc=>?_)
  ·rw [ifT hc] at hf
   refine ⟨(.int .u8 e11.Kind),(.str e11.Text),(.int .i64 e11.N),(.int .i64 e11.At),S.rdN m1 (nl rfl) rfl,?_⟩
   obtain ⟨u13,hu13,hf⟩:=oB hf
   have S:St _ _ [own (fz (rSl (rI .u8))) [b10c_0] b10.p,_,_,_,_,_,_,_,_] _:=S.add (rSl_mk (S.slz (r:=(rI .u8)) m2))
   have S:=S.sel [0,4,5,6,7,8,1,2,3] rfl
   have S:St _ _ [own (oPtr oparser) [(.ptr o17 v18 0)] (some b10),_,_] _:=oparser_shut (x:=b10) S
   refine ⟨_,Fz.refl _,?_⟩
   obtain ⟨fpu13,S1u132,backu13⟩:=St.lend [_] S
   refine (r54 (r0:=(some b10)) (e1:=7) (t2:=e11) (S:=S1u132) hu13).mono fun v28 h29 T=>?_
   obtain ⟨rfl,T⟩:=T
   have S:St _ _ [own (oPtr oparser) [(.ptr o17 v18 0)] u13,_,_] _:=backu13 _ _ T
   obtain rfl:=oi hf
   exact ⟨rfl,S.sel [0] rfl⟩
  rw [ifF hc] at hf
  refine oI (.ptr o17 v18 0) rfl ?_
  refine iI.2 ⟨rfl,?_⟩
  refine ⟨b10c_9,S.rd1 m0 rfl,?_⟩
  refine iI.2 ⟨rfl,?_⟩
  refine ⟨e11.Text,S.rd1 m1 rfl,?_⟩
  have S:=S.sel [7,0,1,2,3,4,5,6] rfl
  obtain ⟨h30,e31,S⟩:=S.setM e11.Text true
  refine ⟨_,h30,e31,?_⟩
  obtain ⟨u14,hu14,hf⟩:=oB hf
  have S:St _ _ [own (fz (rSl (rI .u8))) [b10c_0] b10.p,_,_,_,_,_,_,_,_] _:=S.add (rSl_mk (S.slz (r:=(rI .u8)) m3))
  have S:=S.sel [0,5,6,7,8,1,2,3,4] rfl
  have S:St _ _ [own (oPtr oparser) [(.ptr o17 v18 0)] (some (Tparser.mk b10.p b10.l b10.f b10.n b10.places (mput keS b10.told e11.Text true))),_,_] _:=oparser_shut (x:=(Tparser.mk b10.p b10.l b10.f b10.n b10.places (mput keS b10.told e11.Text true))) S
  refine ⟨_,Fz.refl _,?_⟩
  obtain ⟨fpu14,S1u138,backu14⟩:=St.lend [_] S
  refine (r53 (r0:=(some (Tparser.mk b10.p b10.l b10.f b10.n b10.places (mput keS b10.told e11.Text true)))) (S:=S1u138) hu14).mono fun v32 h33 T=>?_
  obtain ⟨rfl,T⟩:=T
  have S:St _ _ [own (oPtr oparser) [(.ptr o17 v18 0)] u14.2,_,_] _:=backu14 _ _ T
  refine oI (.str u14.1.Text) rfl ⟨u14.1.Text,rfl,?_⟩
  obtain rfl:=oi hf
  exact ⟨rfl,S.sel [0] rfl⟩
 refine bI (fun hc=>?_) (fun hc=>?_)
 ·rw [ifT hc] at hf
  have S:=S.sel [7,0,1,2,3,4,5,6] rfl
  exact hjj0 _ _  hf rfl S
 rw [ifF hc] at hf
 refine oI (.ptr o17 v18 0) rfl ?_
 refine iI.2 ⟨rfl,?_⟩
 refine ⟨b10c_9,S.rd1 m7 rfl,?_⟩
 refine ⟨e11.Text,S.rd1 m0 rfl,?_⟩
 refine ⟨_,S.look1 (e:=keS) (ve:=AV.bool) m6 e11.Text false,_,rfl,?_⟩
 have S:=S.sel [7,0,1,2,3,4,5,6] rfl
 exact hjj0 _ _  hf rfl S
def p76_j0 (y10:Int) (b11:Bool):Option ((Bool×Int)⊕Bool):=some (.inl (b11,(IntKind.wrap .i64 (y10+1))))
def p76_l0 (x1:List TArc) (b12:Tparser) (e13:TTl) (st:Bool×Int):Option ((Bool×Int)⊕Bool):=match st with | (y14,y10)=>if y10 < (x1.length:Int) then ((idx x1 y10).bind fun e15=>if y14=true then (p76_j0 y10 (!decide (e15.Place=((mget keS b12.places e13.Text).getD 0)))) else (p76_j0 y10 false)) else (some (.inr y14))
def p76_j1 (x1:List TArc) (b12:Tparser) (e13:TTl) (y16:Int) (l17:Option Tparser):Option ((List TArc)×(Option Tparser)):=(app 16 x1 [(TArc.mk ((mget keS b12.places e13.Text).getD 0) y16)]).bind fun x18=>some (x18,l17)
def p76_j2 (x1:List TArc) (b12:Tparser) (e13:TTl) (l19:Option Tparser):Option ((List TArc)×(Option Tparser)):=(p53 l19).bind fun u20=>(p56 u20.2 ([42]:List UInt8)).bind fun u21=>if u21.1=true then ((p57 u21.2 1).bind fun u22=>p76_j1 x1 b12 e13 u22.1 u22.2) else (p76_j1 x1 b12 e13 1 u21.2)
def p76 (x0:Option Tparser) (x1:List TArc):Option ((List TArc)×(Option Tparser)):=x0.bind fun b12=>(idx b12.l 0).bind fun e13=>if (!decide (e13.Kind=1))=true then ((p54 (some b12) 6 e13).bind fun u23=>some (x1,u23)) else ((loopC (p76_l0 x1 b12 e13) ((mget keS b12.places e13.Text).isSome,0)).bind fun res24=>((fun (y25:Bool)=>if (!y25)=true then ((p54 (some b12) 7 e13).bind fun u26=>p76_j2 x1 b12 e13 u26) else (if (x1.length:Int)=8 then ((p54 (some b12) 5 e13).bind fun u27=>p76_j2 x1 b12 e13 u27) else (p76_j2 x1 b12 e13 (some b12)))) res24))
theorem r76 {h:Heap} {a0_0:AV} {a1_0:AV} {M:Nat→Prop} {x0:Option Tparser} {x1:List TArc} (S:St h M [own (oPtr oparser) [a0_0] x0,own (oSl (fz rArc)) [a1_0] x1] h) {r:(List TArc)×(Option Tparser)} (hf:p76 x0 x1=some r):ZC F 76 [a0_0,a1_0] h fun v h'=>St h M [own (oSl (fz rArc)) [v] r.1,own (oPtr oparser) [a0_0] r.2] h':=by
 refine w76 ?_
 unfold W76
 unfold p76 at hf
 obtain ⟨b12,hb12,hf⟩:=oB hf
 obtain ⟨o28,v29,b12c_0,b12c_1,b12c_6,b12c_7,b12c_8,b12c_9,eP,S2⟩:=oparser_deref hb12 S
 subst eP
 have S:=S2
 refine oI _ rfl ?_
 refine iI.2 ⟨rfl,?_⟩
 refine ⟨b12c_1,S.rd1 m6 rfl,?_⟩
 obtain ⟨e13,he13,hf⟩:=oB hf
 refine ix_go (S.sl (r:=(fz rTl)) m1) (Hp.le_refl _) he13 fun pe13=>?_
 obtain ⟨_,cr30,Rr30,Nr30,Or30,Zr30⟩:=St.idxO (r:=rTl) S m1 he13
 obtain rfl:=rTl_open Rr30
 refine ⟨(.int .u8 e13.Kind),(.str e13.Text),(.int .i64 e13.N),(.int .i64 e13.At),Nr30,?_⟩
 intro h31
 have S:St _ _ [rowC h.n [(.int .u8 0),(.str ([]:List UInt8)),(.int .i64 0),(.int .i64 0)] 0,_,_,_,_,_,_,_,_] _:=S.pushRow [(.int .u8 0),(.str ([]:List UInt8)),(.int .i64 0),(.int .i64 0)]
 obtain ⟨h32,e33,S⟩:=S.store (off:=0) (n:=4) (x:=(.agg [(.int .u8 e13.Kind),(.str e13.Text),(.int .i64 e13.N),(.int .i64 e13.At)])) (cs':=[(.int .u8 e13.Kind),(.str e13.Text),(.int .i64 e13.N),(.int .i64 e13.At)]) (nl rfl) rfl rfl rfl
 refine ⟨h32,e33,?_⟩
 refine ⟨e13.Kind,S.rd1 m0 rfl,?_⟩
 refine bI (fun hc=>?_) (fun hc=>?_)
 ·rw [ifT hc] at hf
  refine ⟨(.int .u8 e13.Kind),(.str e13.Text),(.int .i64 e13.N),(.int .i64 e13.At),S.rdN m0 (nl rfl) rfl,?_⟩
  obtain ⟨u23,hu23,hf⟩:=oB hf
  have S:St _ _ [own (fz (rSl (rI .u8))) [b12c_0] b12.p,_,_,_,_,_,_,_,_,_] _:=S.add (rSl_mk (S.slz (r:=(rI .u8)) m1))
  have S:=S.sel [0,3,4,5,6,7,8,1,2,9] rfl
  have S:St _ _ [own (oPtr oparser) [(.ptr o28 v29 0)] (some b12),_,_,_] _:=oparser_shut (x:=b12) S
  refine ⟨_,Fz.refl _,?_⟩
  obtain ⟨fpu23,S1u122,backu23⟩:=St.lend [_] S
  refine (r54 (r0:=(some b12)) (e1:=6) (t2:=e13) (S:=S1u122) hu23).mono fun v34 h35 T=>?_
  obtain ⟨rfl,T⟩:=T
  have S:St _ _ [own (oPtr oparser) [(.ptr o28 v29 0)] u23,_,_,_] _:=backu23 _ _ T
  obtain rfl:=oi hf
  exact S.sel [3,0] rfl
 rw [ifF hc] at hf
 refine oI (.ptr o28 v29 0) rfl ?_
 refine iI.2 ⟨rfl,?_⟩
 refine ⟨b12c_8,S.rd1 m7 rfl,?_⟩
 refine ⟨e13.Text,S.rd1 m0 rfl,?_⟩
 refine ⟨_,S.look2 (e:=keS) (ve:=(AV.int .i64)) m5 e13.Text 0,?_⟩
 refine oI (.int .i64 ((mget keS b12.places e13.Text).getD 0)) rfl ⟨((mget keS b12.places e13.Text).getD 0),rfl,?_⟩
 refine oI (.bool (mget keS b12.places e13.Text).isSome) rfl ⟨(mget keS b12.places e13.Text).isSome,rfl,?_⟩
 refine iI.2 ⟨((S.sl (r:=(fz rArc)) m8)).is,?_⟩
 try rw [show (a1_0).slen=_ from ((S.sl (r:=(fz rArc)) m8)).slen]
 obtain ⟨res24,hL,hf⟩:=oB hf
 obtain ⟨n36,hL⟩:=loopC_iff.1 hL
 have S:=S.sel [7,8,0,1,2,3,4,5,6] rfl
 refine loopm76_0 (X0:=fun (y37:AV) (y38:AV) (y39:AV) (y40:Int) (y25:Bool) (y41:AV) (y42:Int) (y43:Int) (h44:Heap)=>AV.ptr o28 v29 0=y37∧a1_0=y38∧AV.ptr h.n 0 0=y39∧((mget keS b12.places e13.Text).getD 0)=y40∧St h M [rowC o28 [b12c_0,b12c_1,(.int .i64 b12.f.Err),(.int .i64 b12.f.At),(.int .i64 b12.f.Line),(.int .i64 b12.f.Col),b12c_6,b12c_7,b12c_8,b12c_9] v29,own (oSl (fz rArc)) [a1_0] x1,rowC h.n [(.int .u8 e13.Kind),(.str e13.Text),(.int .i64 e13.N),(.int .i64 e13.At)] 0,own (fz (rSl (rI .u8))) [b12c_0] b12.p,own (oSl (fz rTl)) [b12c_1] b12.l,own (oSl (fz rPlace)) [b12c_6] b12.n.Places,own (oSl oTrans) [b12c_7] b12.n.Trans,own (oMap keS (AV.int .i64)) [b12c_8] b12.places,own (oMap keS AV.bool) [b12c_9] b12.told] h44∧y25=res24) ?_ (loop76_0 (I:=fun (m45:Nat) (y46:AV) (y47:AV) (y48:AV) (y49:Int) (y14:Bool) (y50:AV) (y51:Int) (y10:Int) (h52:Heap)=>AV.ptr o28 v29 0=y46∧a1_0=y47∧AV.ptr h.n 0 0=y48∧((mget keS b12.places e13.Text).getD 0)=y49∧a1_0=y50∧(x1.length:Int)=y51∧St h M [rowC o28 [b12c_0,b12c_1,(.int .i64 b12.f.Err),(.int .i64 b12.f.At),(.int .i64 b12.f.Line),(.int .i64 b12.f.Col),b12c_6,b12c_7,b12c_8,b12c_9] v29,own (oSl (fz rArc)) [a1_0] x1,rowC h.n [(.int .u8 e13.Kind),(.str e13.Text),(.int .i64 e13.N),(.int .i64 e13.At)] 0,own (fz (rSl (rI .u8))) [b12c_0] b12.p,own (oSl (fz rTl)) [b12c_1] b12.l,own (oSl (fz rPlace)) [b12c_6] b12.n.Places,own (oSl oTrans) [b12c_7] b12.n.Trans,own (oMap keS (AV.int .i64)) [b12c_8] b12.places,own (oMap keS AV.bool) [b12c_9] b12.told] h52∧iter (p76_l0 x1 b12 e13) m45 (y14,y10)=some res24) ?_ (m:=n36) ?_)
 ·rintro y37 y38 y39 y40 y25 y41 y42 y43 h44 ⟨rfl,rfl,rfl,rfl,S,rfl⟩
  try dsimp only at hf
  intro jjj2
  have hjj2:∀  (h53:Heap) (l19:Option Tparser),p76_j2 x1 b12 e13 l19=some r→St h M [own (oPtr oparser) [(.ptr o28 v29 0)] l19,own (oSl (fz rArc)) [a1_0] x1] h53→jjj2 h53:=by
   rintro h53 l19 hf S
   unfold p76_j2 at hf
   unfold jjj2
   obtain ⟨u20,hu20,hf⟩:=oB hf
   refine ⟨_,Fz.refl _,?_⟩
   obtain ⟨fpu20,S1u195,backu20⟩:=St.lend [_] S
   refine (r53 (r0:=l19) (S:=S1u195) hu20).mono fun v54 h55 T=>?_
   obtain ⟨rfl,T⟩:=T
   have S:St _ _ [own (oPtr oparser) [(.ptr o28 v29 0)] u20.2,_] _:=backu20 _ _ T
   obtain ⟨u21,hu21,hf⟩:=oB hf
   refine ⟨_,Fz.refl _,?_⟩
   obtain ⟨fpu21,S1u198,backu21⟩:=St.lend [_] S
   refine (r56 (r0:=u20.2) (s1:=([42]:List UInt8)) (S:=S1u198) hu21).mono fun v56 h57 T=>?_
   obtain ⟨rfl,T⟩:=T
   have S:St _ _ [own (oPtr oparser) [(.ptr o28 v29 0)] u21.2,_] _:=backu21 _ _ T
   refine ⟨u21.1,rfl,?_⟩
   intro jjj1
   have hjj1:∀ (y16:Int) (h58:Heap) (l17:Option Tparser),p76_j1 x1 b12 e13 y16 l17=some r→St h M [own (oSl (fz rArc)) [a1_0] x1,own (oPtr oparser) [(.ptr o28 v29 0)] l17] h58→jjj1 y16 h58:=by
    rintro y16 h58 l17 hf S
    unfold p76_j1 at hf
    unfold jjj1
    intro h59
    have S:St _ _ [rowC h58.n [(.int .i64 ((mget keS b12.places e13.Text).getD 0)),(.int .i64 y16)] 0,_,_] _:=S.pushRow [(.int .i64 ((mget keS b12.places e13.Text).getD 0)),(.int .i64 y16)]
    obtain ⟨x18,hx18,hf⟩:=oB hf
    have S:St _ _ [own (fz rArc) [(.int .i64 ((mget keS b12.places e13.Text).getD 0)),(.int .i64 y16)] (TArc.mk ((mget keS b12.places e13.Text).getD 0) y16),_,_,_] _:=S.add (r:=rArc) (x:=(TArc.mk ((mget keS b12.places e13.Text).getD 0) y16)) (rArc_mk (x:=(TArc.mk ((mget keS b12.places e13.Text).getD 0) y16)))
    have S:=S.sel [2,0,1,3] rfl
    have mx18:=app_some hx18
    obtain ⟨v60,h61,e62,S⟩:=St.app1R (r:=(fz rArc)) (b:=16) S mx18.1
    have S:St _ _ [own (oSl (fz rArc)) [v60] x18,_] _:=S.cast1 (by rw [← mx18.2]<;>rfl)
    refine ⟨v60,h61,e62,?_⟩
    obtain rfl:=oi hf
    exact S.sel [0,1] rfl
   refine bI (fun hc=>?_) (fun hc=>?_)
   ·rw [ifT hc] at hf
    obtain ⟨u22,hu22,hf⟩:=oB hf
    refine ⟨_,Fz.refl _,?_⟩
    obtain ⟨fpu22,S1u217,backu22⟩:=St.lend [_] S
    refine (r57 (r0:=u21.2) (least1:=1) (S:=S1u217) hu22).mono fun v63 h64 T=>?_
    obtain ⟨rfl,T⟩:=T
    have S:St _ _ [own (oPtr oparser) [(.ptr o28 v29 0)] u22.2,_] _:=backu22 _ _ T
    refine ⟨u22.1,rfl,?_⟩
    have S:=S.sel [1,0] rfl
    exact hjj1 _ _ u22.2 hf  S
   rw [ifF hc] at hf
   have S:=S.sel [1,0] rfl
   exact hjj1 _ _ u21.2 hf  S
  refine bI (fun hc=>?_) (fun hc=>?_)
  ·rw [ifT hc] at hf
   refine ⟨(.int .u8 e13.Kind),(.str e13.Text),(.int .i64 e13.N),(.int .i64 e13.At),S.rdN m2 (nl rfl) rfl,?_⟩
   obtain ⟨u26,hu26,hf⟩:=oB hf
   have S:St _ _ [own (fz (rSl (rI .u8))) [b12c_0] b12.p,_,_,_,_,_,_,_,_,_] _:=S.add (rSl_mk (S.slz (r:=(rI .u8)) m3))
   have S:=S.sel [0,5,6,7,8,9,1,2,3,4] rfl
   have S:St _ _ [own (oPtr oparser) [(.ptr o28 v29 0)] (some b12),_,_,_] _:=oparser_shut (x:=b12) S
   refine ⟨_,Fz.refl _,?_⟩
   obtain ⟨fpu26,S1u222,backu26⟩:=St.lend [_] S
   refine (r54 (r0:=(some b12)) (e1:=7) (t2:=e13) (S:=S1u222) hu26).mono fun v65 h66 T=>?_
   obtain ⟨rfl,T⟩:=T
   have S:St _ _ [own (oPtr oparser) [(.ptr o28 v29 0)] u26,_,_,_] _:=backu26 _ _ T
   have S:=S.sel [0,1] rfl
   exact hjj2  _ u26 hf  S
  rw [ifF hc] at hf
  refine iI.2 ⟨((S.sl (r:=(fz rArc)) m1)).is,?_⟩
  try rw [show (a1_0).slen=_ from ((S.sl (r:=(fz rArc)) m1)).slen]
  refine bI (fun hc=>?_) (fun hc=>?_)
  ·rw [ifD hc] at hf
   refine ⟨(.int .u8 e13.Kind),(.str e13.Text),(.int .i64 e13.N),(.int .i64 e13.At),S.rdN m2 (nl rfl) rfl,?_⟩
   obtain ⟨u27,hu27,hf⟩:=oB hf
   have S:St _ _ [own (fz (rSl (rI .u8))) [b12c_0] b12.p,_,_,_,_,_,_,_,_,_] _:=S.add (rSl_mk (S.slz (r:=(rI .u8)) m3))
   have S:=S.sel [0,5,6,7,8,9,1,2,3,4] rfl
   have S:St _ _ [own (oPtr oparser) [(.ptr o28 v29 0)] (some b12),_,_,_] _:=oparser_shut (x:=b12) S
   refine ⟨_,Fz.refl _,?_⟩
   obtain ⟨fpu27,S1u226,backu27⟩:=St.lend [_] S
   refine (r54 (r0:=(some b12)) (e1:=5) (t2:=e13) (S:=S1u226) hu27).mono fun v67 h68 T=>?_
   obtain ⟨rfl,T⟩:=T
   have S:St _ _ [own (oPtr oparser) [(.ptr o28 v29 0)] u27,_,_,_] _:=backu27 _ _ T
   have S:=S.sel [0,1] rfl
   exact hjj2  _ u27 hf  S
  rw [ifE hc] at hf
  have S:St _ _ [own (fz (rSl (rI .u8))) [b12c_0] b12.p,_,_,_,_,_,_,_,_,_] _:=S.add (rSl_mk (S.slz (r:=(rI .u8)) m3))
  have S:=S.sel [0,5,6,7,8,9,1,2,3,4] rfl
  have S:St _ _ [own (oPtr oparser) [(.ptr o28 v29 0)] (some b12),_,_,_] _:=oparser_shut (x:=b12) S
  have S:=S.sel [0,1] rfl
  exact hjj2  _ (some b12) hf  S
 ·rintro m69 y46 y47 y48 y49 y14 y50 y51 y10 h52 ⟨rfl,rfl,rfl,rfl,rfl,rfl,S,hit⟩
  obtain ⟨m45,q70,rfl,hf,hk⟩:=iter_some hit
  clear hit
  unfold B76_0
  unfold p76_l0 at hf
  try dsimp only at hf
  refine bI (fun hc=>?_) (fun hc=>?_)
  ·rw [ifD hc] at hf
   obtain ⟨e15,he15,hf⟩:=oB hf
   refine ix_go (S.sl (r:=(fz rArc)) m1) (Hp.le_refl _) he15 fun pe15=>?_
   obtain ⟨_,cr71,Rr71,Nr71,Or71,Zr71⟩:=St.idxO (r:=rArc) S m1 he15
   obtain rfl:=rArc_open Rr71
   refine ⟨(.int .i64 e15.Place),(.int .i64 e15.N),Nr71,?_⟩
   intro h72
   have S:St _ _ [rowC h52.n [(.int .i64 0),(.int .i64 0)] 0,_,_,_,_,_,_,_,_,_] _:=S.pushRow [(.int .i64 0),(.int .i64 0)]
   obtain ⟨h73,e74,S⟩:=S.store (off:=0) (n:=2) (x:=(.agg [(.int .i64 e15.Place),(.int .i64 e15.N)])) (cs':=[(.int .i64 e15.Place),(.int .i64 e15.N)]) (nl rfl) rfl rfl rfl
   refine ⟨h73,e74,?_⟩
   intro jjj0
   have hjj0:∀ (b11:Bool) (h75:Heap),p76_j0 y10 b11=some q70→h73=h75→St h M [rowC o28 [b12c_0,b12c_1,(.int .i64 b12.f.Err),(.int .i64 b12.f.At),(.int .i64 b12.f.Line),(.int .i64 b12.f.Col),b12c_6,b12c_7,b12c_8,b12c_9] v29,own (oSl (fz rArc)) [a1_0] x1,rowC h.n [(.int .u8 e13.Kind),(.str e13.Text),(.int .i64 e13.N),(.int .i64 e13.At)] 0,own (fz (rSl (rI .u8))) [b12c_0] b12.p,own (oSl (fz rTl)) [b12c_1] b12.l,own (oSl (fz rPlace)) [b12c_6] b12.n.Places,own (oSl oTrans) [b12c_7] b12.n.Trans,own (oMap keS (AV.int .i64)) [b12c_8] b12.places,own (oMap keS AV.bool) [b12c_9] b12.told] h73→jjj0 b11 h75:=by
    rintro b11 h75 hf rfl S
    unfold p76_j0 at hf
    unfold jjj0
    obtain rfl:=oi hf
    exact ⟨m45,Nat.lt_succ_self _,rfl,rfl,rfl,rfl,rfl,rfl,S,hk⟩
   refine bI (fun hc=>?_) (fun hc=>?_)
   ·rw [ifT hc] at hf
    refine ⟨e15.Place,S.rd1 m0 rfl,?_⟩
    have S:=S.sel [1,2,3,4,5,6,7,8,9] rfl
    exact hjj0 _ _  hf rfl S
   rw [ifF hc] at hf
   have S:=S.sel [1,2,3,4,5,6,7,8,9] rfl
   exact hjj0 _ _  hf rfl S
  rw [ifE hc] at hf
  obtain rfl:=oi hf
  obtain rfl:=hk
  exact ⟨rfl,rfl,rfl,rfl,S,rfl⟩
 exact ⟨rfl,rfl,rfl,rfl,rfl,rfl,S,hL⟩
def p58_j0 (c10:List TArc) (c11:List TArc) (l12:Option Tparser):Option ((Bool×(Option Tparser)×(List TArc)×(List TArc))⊕((Option Tparser)×(List TArc)×(List TArc))):=(p56 l12 ([126]:List UInt8)).bind fun u13=>if u13.1=true then ((p76 u13.2 c11).bind fun u14=>some (.inl (false,u14.2,c10,u14.1))) else ((p76 u13.2 c10).bind fun u15=>some (.inl (false,u15.2,u15.1,c11)))
def p58_j1 (y16:Bool) (c10:List TArc) (c11:List TArc) (b17:Bool) (l18:Option Tparser):Option ((Bool×(Option Tparser)×(List TArc)×(List TArc))⊕((Option Tparser)×(List TArc)×(List TArc))):=if b17=true then (if (!y16)=true then ((p59 l18 ([44]:List UInt8)).bind fun u19=>p58_j0 c10 c11 u19) else (p58_j0 c10 c11 l18)) else (some (.inr (l18,c10,c11)))
def p58_l0 (st:Bool×(Option Tparser)×(List TArc)×(List TArc)):Option ((Bool×(Option Tparser)×(List TArc)×(List TArc))⊕((Option Tparser)×(List TArc)×(List TArc))):=match st with | (y16,l20,c10,c11)=>l20.bind fun b21=>if b21.f.Err=0 then ((p56 (some b21) ([45,62]:List UInt8)).bind fun u22=>p58_j1 y16 c10 c11 (!u22.1) u22.2) else (p58_j1 y16 c10 c11 false (some b21))
def p58_j2 (c23:List TArc) (l24:Option Tparser):Option ((Bool×(Option Tparser)×(List TArc))⊕((Option Tparser)×(List TArc))):=(p76 l24 c23).bind fun u25=>some (.inl (false,u25.2,u25.1))
def p58_j3 (y26:Bool) (c23:List TArc) (b27:Tparser) (b28:Bool):Option ((Bool×(Option Tparser)×(List TArc))⊕((Option Tparser)×(List TArc))):=if b28=true then (if (!y26)=true then ((p59 (some b27) ([44]:List UInt8)).bind fun u29=>p58_j2 c23 u29) else (p58_j2 c23 (some b27))) else (some (.inr ((some b27),c23)))
def p58_j4 (y26:Bool) (c23:List TArc) (b27:Tparser) (b30:Bool):Option ((Bool×(Option Tparser)×(List TArc))⊕((Option Tparser)×(List TArc))):=p58_j3 y26 c23 b27 b30
def p58_l1 (st:Bool×(Option Tparser)×(List TArc)):Option ((Bool×(Option Tparser)×(List TArc))⊕((Option Tparser)×(List TArc))):=match st with | (y26,l31,c23)=>l31.bind fun b27=>if b27.f.Err=0 then ((idx b27.l 0).bind fun e32=>if (!decide (e32.Kind=3))=true then (p58_j4 y26 c23 b27 true) else ((idx b27.l 0).bind fun e33=>p58_j4 y26 c23 b27 (!(e33.Text==([59]:List UInt8))))) else (p58_j3 y26 c23 b27 false)
def p58_j5 (u34:(List UInt8)×(Option Tparser)) (c35:Int) (l36:Option Tparser) (c37:Int):Option (Option Tparser):=(p59 l36 ([58]:List UInt8)).bind fun u38=>(loopC p58_l0 (true,u38,[],[])).bind fun res39=>(match res39 with | (l40,c41,c42)=>(loopC p58_l1 (true,l40,[])).bind fun res43=>(match res43 with | (l44,c45)=>l44.bind fun b46=>(app 104 b46.n.Trans [(TTrans.mk u34.1 c35 c37 c41 c42 c45)]).bind fun b47=>some (some (Tparser.mk b46.p b46.l b46.f (TNet.mk b46.n.Places b47) b46.places b46.told))))
def p58_j6 (u34:(List UInt8)×(Option Tparser)) (l48:Option Tparser) (c35:Int):Option (Option Tparser):=(p56 l48 ([33]:List UInt8)).bind fun u49=>if u49.1=true then ((p57 u49.2 0).bind fun u50=>p58_j5 u34 c35 u50.2 u50.1) else (p58_j5 u34 c35 u49.2 0)
def p58 (x0:Option Tparser):Option (Option Tparser):=(p55 x0).bind fun u34=>(p56 u34.2 ([64]:List UInt8)).bind fun u51=>if u51.1=true then ((p57 u51.2 0).bind fun u52=>p58_j6 u34 u52.2 u52.1) else (p58_j6 u34 u51.2 0)
theorem r58 {h:Heap} {a0_0:AV} {M:Nat→Prop} {x0:Option Tparser} (S:St h M [own (oPtr oparser) [a0_0] x0] h) {r:(Option Tparser)} (hf:p58 x0=some r):ZC F 58 [a0_0] h fun v h'=>v=.tuple []∧St h M [own (oPtr oparser) [a0_0] r] h':=by
 refine w58 ?_
 unfold W58
 unfold p58 at hf
 obtain ⟨u34,hu34,hf⟩:=oB hf
 refine ⟨_,Fz.refl _,?_⟩
 obtain ⟨fpu34,S1u104,backu34⟩:=St.lend [_] S
 refine (r55 (r0:=x0) (S:=S1u104) hu34).mono fun v53 h54 T=>?_
 obtain ⟨rfl,T⟩:=T
 have S:St _ _ [own (oPtr oparser) [a0_0] u34.2] _:=backu34 _ _ T
 refine ⟨u34.1,rfl,?_⟩
 intro h55
 have S:St _ _ [rowC h54.n [(.str ([]:List UInt8)),(.int .i64 0),(.int .i64 0),.nilSlice,.nilSlice,.nilSlice] 0,_] _:=S.pushRow [(.str ([]:List UInt8)),(.int .i64 0),(.int .i64 0),.nilSlice,.nilSlice,.nilSlice]
 obtain ⟨h56,e57,S⟩:=S.store (off:=0) (n:=6) (x:=(.agg [(.str u34.1),(.int .i64 0),(.int .i64 0),.nilSlice,.nilSlice,.nilSlice])) (cs':=[(.str u34.1),(.int .i64 0),(.int .i64 0),.nilSlice,.nilSlice,.nilSlice]) (nl rfl) rfl rfl rfl
 refine ⟨h56,e57,?_⟩
 obtain ⟨u51,hu51,hf⟩:=oB hf
 refine ⟨_,Fz.refl _,?_⟩
 have S:=S.sel [1,0] rfl
 obtain ⟨fpu51,S1u111,backu51⟩:=St.lend [_] S
 refine (r56 (r0:=u34.2) (s1:=([64]:List UInt8)) (S:=S1u111) hu51).mono fun v58 h59 T=>?_
 obtain ⟨rfl,T⟩:=T
 have S:St _ _ [own (oPtr oparser) [a0_0] u51.2,_] _:=backu51 _ _ T
 refine ⟨u51.1,rfl,?_⟩
 intro jjj6
 have hjj6:∀  (h60:Heap) (l48:Option Tparser) (c35:Int),p58_j6 u34 l48 c35=some r→St h M [own (oPtr oparser) [a0_0] l48,rowC h54.n [(.str u34.1),(.int .i64 c35),(.int .i64 0),.nilSlice,.nilSlice,.nilSlice] 0] h60→jjj6 h60:=by
  rintro h60 l48 c35 hf S
  unfold p58_j6 at hf
  unfold jjj6
  obtain ⟨u49,hu49,hf⟩:=oB hf
  refine ⟨_,Fz.refl _,?_⟩
  obtain ⟨fpu49,S1u124,backu49⟩:=St.lend [_] S
  refine (r56 (r0:=l48) (s1:=([33]:List UInt8)) (S:=S1u124) hu49).mono fun v61 h62 T=>?_
  obtain ⟨rfl,T⟩:=T
  have S:St _ _ [own (oPtr oparser) [a0_0] u49.2,_] _:=backu49 _ _ T
  refine ⟨u49.1,rfl,?_⟩
  intro jjj5
  have hjj5:∀  (h63:Heap) (l36:Option Tparser) (c37:Int),p58_j5 u34 c35 l36 c37=some r→St h M [own (oPtr oparser) [a0_0] l36,rowC h54.n [(.str u34.1),(.int .i64 c35),(.int .i64 c37),.nilSlice,.nilSlice,.nilSlice] 0] h63→jjj5 h63:=by
   rintro h63 l36 c37 hf S
   unfold p58_j5 at hf
   unfold jjj5
   obtain ⟨u38,hu38,hf⟩:=oB hf
   refine ⟨_,Fz.refl _,?_⟩
   obtain ⟨fpu38,S1u137,backu38⟩:=St.lend [_] S
   refine (r59 (r0:=l36) (s1:=([58]:List UInt8)) (S:=S1u137) hu38).mono fun v64 h65 T=>?_
   obtain ⟨rfl,T⟩:=T
   have S:St _ _ [own (oPtr oparser) [a0_0] u38,_] _:=backu38 _ _ T
   obtain ⟨res39,hL,hf⟩:=oB hf
   obtain ⟨n66,hL⟩:=loopC_iff.1 hL
   have S:St _ _ [own (oSl (fz rArc)) [.nilSlice] [],_,_] _:=S.addE (oSl_nil _ _)
   have S:St _ _ [own (oSl (fz rArc)) [.nilSlice] [],_,_,_] _:=S.addE (oSl_nil _ _)
   have S:=S.sel [2,3,1,0] rfl
   refine loopm58_0 (X0:=fun (y67:AV) (y68:AV) (y69:Bool) (h70:Heap)=>∃ (l40:Option Tparser),∃ (c71:AV),∃ (c72:AV),∃ (c41:List TArc),∃ (c42:List TArc),a0_0=y67∧AV.ptr h54.n 0 0=y68∧St h M [own (oPtr oparser) [a0_0] l40,rowC h54.n [(.str u34.1),(.int .i64 c35),(.int .i64 c37),c71,c72,.nilSlice] 0,own (oSl (fz rArc)) [c71] c41,own (oSl (fz rArc)) [c72] c42] h70∧(l40,c41,c42)=res39) ?_ (loop58_0 (I:=fun (m73:Nat) (y74:AV) (y75:AV) (y16:Bool) (h76:Heap)=>∃ (l20:Option Tparser),∃ (c77:AV),∃ (c78:AV),∃ (c10:List TArc),∃ (c11:List TArc),a0_0=y74∧AV.ptr h54.n 0 0=y75∧St h M [own (oPtr oparser) [a0_0] l20,rowC h54.n [(.str u34.1),(.int .i64 c35),(.int .i64 c37),c77,c78,.nilSlice] 0,own (oSl (fz rArc)) [c77] c10,own (oSl (fz rArc)) [c78] c11] h76∧iter p58_l0 m73 (y16,l20,c10,c11)=some res39) ?_ (m:=n66) ?_)
   ·rintro y67 y68 y69 h70 ⟨l40,c71,c72,c41,c42,rfl,rfl,S,rfl⟩
    try dsimp only at hf
    obtain ⟨res43,hL,hf⟩:=oB hf
    obtain ⟨n79,hL⟩:=loopC_iff.1 hL
    have S:St _ _ [own (oSl (fz rArc)) [.nilSlice] [],_,_,_,_] _:=S.addE (oSl_nil _ _)
    have S:=S.sel [1,2,3,4,0] rfl
    refine loopm58_1 (X2:=fun (y80:AV) (y81:AV) (y82:Bool) (h83:Heap)=>∃ (l44:Option Tparser),∃ (c84:AV),∃ (c45:List TArc),a0_0=y80∧AV.ptr h54.n 0 0=y81∧St h M [own (oPtr oparser) [a0_0] l44,rowC h54.n [(.str u34.1),(.int .i64 c35),(.int .i64 c37),c71,c72,c84] 0,own (oSl (fz rArc)) [c71] c41,own (oSl (fz rArc)) [c72] c42,own (oSl (fz rArc)) [c84] c45] h83∧(l44,c45)=res43) ?_ (loop58_1 (I:=fun (m85:Nat) (y86:AV) (y87:AV) (y26:Bool) (h88:Heap)=>∃ (l31:Option Tparser),∃ (c89:AV),∃ (c23:List TArc),a0_0=y86∧AV.ptr h54.n 0 0=y87∧St h M [own (oPtr oparser) [a0_0] l31,rowC h54.n [(.str u34.1),(.int .i64 c35),(.int .i64 c37),c71,c72,c89] 0,own (oSl (fz rArc)) [c71] c41,own (oSl (fz rArc)) [c72] c42,own (oSl (fz rArc)) [c89] c23] h88∧iter p58_l1 m85 (y26,l31,c23)=some res43) ?_ (m:=n79) ?_)
    ·rintro y80 y81 y82 h83 ⟨l44,c84,c45,rfl,rfl,S,rfl⟩
     try dsimp only at hf
     obtain ⟨b46,hb46,hf⟩:=oB hf
     obtain ⟨o90,v91,b46c_0,b46c_1,b46c_6,b46c_7,b46c_8,b46c_9,eP,S2⟩:=oparser_deref hb46 S
     subst eP
     have S:=S2
     refine oI _ rfl ?_
     refine iI.2 ⟨rfl,?_⟩
     refine iI.2 ⟨rfl,?_⟩
     refine ⟨b46c_7,S.rd1 m6 rfl,?_⟩
     refine ⟨(.str u34.1),(.int .i64 c35),(.int .i64 c37),c71,c72,c84,S.rdN m7 (nl rfl) rfl,?_⟩
     intro h92
     have S:St _ _ [rowC h83.n [(.str u34.1),(.int .i64 c35),(.int .i64 c37),c71,c72,c84] 0,_,_,_,_,_,_,_,_,_,_,_] _:=S.pushRow [(.str u34.1),(.int .i64 c35),(.int .i64 c37),c71,c72,c84]
     obtain ⟨b47,hb47,hf⟩:=oB hf
     have S:=S.sel [9,10,11,0,1,2,3,4,5,6,7,8] rfl
     have S:St _ _ [own oTrans [(.str u34.1),(.int .i64 c35),(.int .i64 c37),c71,c72,c84] (TTrans.mk u34.1 c35 c37 c41 c42 c45),_,_,_,_,_,_,_,_,_] _:=oTrans_close (x:=(TTrans.mk u34.1 c35 c37 c41 c42 c45)) S
     have S:=S.sel [5,0,1,2,3,4,6,7,8,9] rfl
     have mb47:=app_some hb47
     obtain ⟨v93,h94,e95,S⟩:=St.app1R (r:=oTrans) (b:=104) S mb47.1
     have S:St _ _ [own (oSl oTrans) [v93] b47,_,_,_,_,_,_,_] _:=S.cast1 (by rw [← mb47.2]<;>rfl)
     refine ⟨v93,h94,e95,?_⟩
     refine oI (.ptr o90 v91 0) rfl ?_
     refine iI.2 ⟨rfl,?_⟩
     refine iI.2 ⟨rfl,?_⟩
     have S:=S.sel [6,0,1,2,3,4,5,7] rfl
     obtain ⟨h96,e97,S⟩:=S.storeS (off:=7) (x:=v93) (cs':=[b46c_0,b46c_1,(.int .i64 b46.f.Err),(.int .i64 b46.f.At),(.int .i64 b46.f.Line),(.int .i64 b46.f.Col),b46c_6,v93,b46c_8,b46c_9]) (nl rfl) ((S.sl (r:=oTrans) m1)).is rfl
     refine ⟨h96,e97,?_⟩
     have S:St _ _ [own (fz (rSl (rI .u8))) [b46c_0] b46.p,_,_,_,_,_,_,_,_] _:=S.add (rSl_mk (S.slz (r:=(rI .u8)) m2))
     have S:=S.sel [0,4,5,2,6,7,1,3,8] rfl
     have S:St _ _ [own (oPtr oparser) [(.ptr o90 v91 0)] (some (Tparser.mk b46.p b46.l b46.f (TNet.mk b46.n.Places b47) b46.places b46.told)),_,_] _:=oparser_shut (x:=(Tparser.mk b46.p b46.l b46.f (TNet.mk b46.n.Places b47) b46.places b46.told)) S
     obtain rfl:=oi hf
     exact ⟨rfl,S.sel [0] rfl⟩
    ·rintro m98 y86 y87 y26 h88 ⟨l31,c89,c23,rfl,rfl,S,hit⟩
     obtain ⟨m85,q99,rfl,hf,hk⟩:=iter_some hit
     clear hit
     unfold B58_1
     unfold p58_l1 at hf
     try dsimp only at hf
     obtain ⟨b27,hb27,hf⟩:=oB hf
     obtain ⟨o100,v101,b27c_0,b27c_1,b27c_6,b27c_7,b27c_8,b27c_9,eP,S2⟩:=oparser_deref hb27 S
     subst eP
     have S:=S2
     refine oI _ rfl ?_
     refine iI.2 ⟨rfl,?_⟩
     refine iI.2 ⟨rfl,?_⟩
     refine ⟨b27.f.Err,S.rd1 m6 rfl,?_⟩
     intro jjj3
     have hjj3:∀ (b28:Bool) (h102:Heap),p58_j3 y26 c23 b27 b28=some q99→h88=h102→St h M [rowC o100 [b27c_0,b27c_1,(.int .i64 b27.f.Err),(.int .i64 b27.f.At),(.int .i64 b27.f.Line),(.int .i64 b27.f.Col),b27c_6,b27c_7,b27c_8,b27c_9] v101,rowC h54.n [(.str u34.1),(.int .i64 c35),(.int .i64 c37),c71,c72,c89] 0,own (fz (rSl (rI .u8))) [b27c_0] b27.p,own (oSl (fz rTl)) [b27c_1] b27.l,own (oSl (fz rPlace)) [b27c_6] b27.n.Places,own (oSl oTrans) [b27c_7] b27.n.Trans,own (oMap keS (AV.int .i64)) [b27c_8] b27.places,own (oMap keS AV.bool) [b27c_9] b27.told,own (oSl (fz rArc)) [c71] c41,own (oSl (fz rArc)) [c72] c42,own (oSl (fz rArc)) [c89] c23] h88→jjj3 b28 h102:=by
      rintro b28 h102 hf rfl S
      unfold p58_j3 at hf
      unfold jjj3
      refine bI (fun hc=>?_) (fun hc=>?_)
      ·rw [ifT hc] at hf
       intro jjj2
       have hjj2:∀  (h103:Heap) (l24:Option Tparser),p58_j2 c23 l24=some q99→St h M [own (oPtr oparser) [(.ptr o100 v101 0)] l24,rowC h54.n [(.str u34.1),(.int .i64 c35),(.int .i64 c37),c71,c72,c89] 0,own (oSl (fz rArc)) [c71] c41,own (oSl (fz rArc)) [c72] c42,own (oSl (fz rArc)) [c89] c23] h103→jjj2 h103:=by
        rintro h103 l24 hf S
        unfold p58_j2 at hf
        unfold jjj2
        refine iI.2 ⟨rfl,?_⟩
        refine ⟨c89,S.rd1 m1 rfl,?_⟩
        obtain ⟨u25,hu25,hf⟩:=oB hf
        refine ⟨_,Fz.refl _,?_⟩
        have S:=S.sel [0,4,1,2,3] rfl
        obtain ⟨fpu25,S1u513,backu25⟩:=St.lend [_,_] S
        refine (r76 (x0:=l24) (x1:=c23) (S:=S1u513) hu25).mono fun v104 h105 T=>?_
        have S:St _ _ [own (oSl (fz rArc)) [v104] u25.1,own (oPtr oparser) [(.ptr o100 v101 0)] u25.2,_,_,_] _:=backu25 _ _ T
        refine iI.2 ⟨rfl,?_⟩
        have S:=S.sel [2,0,1,3,4] rfl
        obtain ⟨h106,e107,S⟩:=S.storeS (off:=5) (x:=v104) (cs':=[(.str u34.1),(.int .i64 c35),(.int .i64 c37),c71,c72,v104]) (nl rfl) ((S.sl (r:=(fz rArc)) m1)).is rfl
        refine ⟨h106,e107,?_⟩
        have S:=S.sel [2,0,3,4,1] rfl
        obtain rfl:=oi hf
        exact ⟨m85,Nat.lt_succ_self _,u25.2,v104,u25.1,rfl,rfl,S,hk⟩
       refine bI (fun hc=>?_) (fun hc=>?_)
       ·rw [ifT hc] at hf
        obtain ⟨u29,hu29,hf⟩:=oB hf
        have S:St _ _ [own (fz (rSl (rI .u8))) [b27c_0] b27.p,_,_,_,_,_,_,_,_,_,_,_] _:=S.add (rSl_mk (S.slz (r:=(rI .u8)) m2))
        have S:=S.sel [0,4,5,6,7,8,1,2,3,9,10,11] rfl
        have S:St _ _ [own (oPtr oparser) [(.ptr o100 v101 0)] (some b27),_,_,_,_,_] _:=oparser_shut (x:=b27) S
        refine ⟨_,Fz.refl _,?_⟩
        obtain ⟨fpu29,S1u521,backu29⟩:=St.lend [_] S
        refine (r59 (r0:=(some b27)) (s1:=([44]:List UInt8)) (S:=S1u521) hu29).mono fun v108 h109 T=>?_
        obtain ⟨rfl,T⟩:=T
        have S:St _ _ [own (oPtr oparser) [(.ptr o100 v101 0)] u29,_,_,_,_,_] _:=backu29 _ _ T
        have S:=S.sel [0,1,3,4,5] rfl
        exact hjj2  _ u29 hf  S
       rw [ifF hc] at hf
       have S:St _ _ [own (fz (rSl (rI .u8))) [b27c_0] b27.p,_,_,_,_,_,_,_,_,_,_,_] _:=S.add (rSl_mk (S.slz (r:=(rI .u8)) m2))
       have S:=S.sel [0,4,5,6,7,8,1,2,3,9,10,11] rfl
       have S:St _ _ [own (oPtr oparser) [(.ptr o100 v101 0)] (some b27),_,_,_,_,_] _:=oparser_shut (x:=b27) S
       have S:=S.sel [0,1,3,4,5] rfl
       exact hjj2  _ (some b27) hf  S
      rw [ifF hc] at hf
      have S:St _ _ [own (fz (rSl (rI .u8))) [b27c_0] b27.p,_,_,_,_,_,_,_,_,_,_,_] _:=S.add (rSl_mk (S.slz (r:=(rI .u8)) m2))
      have S:=S.sel [0,4,5,6,7,8,1,2,3,9,10,11] rfl
      have S:St _ _ [own (oPtr oparser) [(.ptr o100 v101 0)] (some b27),_,_,_,_,_] _:=oparser_shut (x:=b27) S
      have S:=S.sel [0,1,3,4,5] rfl
      obtain rfl:=oi hf
      obtain rfl:=hk
      exact ⟨(some b27),c89,c23,rfl,rfl,S,rfl⟩
     refine bI (fun hc=>?_) (fun hc=>?_)
     ·rw [ifD hc] at hf
      refine oI (.ptr o100 v101 0) rfl ?_
      refine iI.2 ⟨rfl,?_⟩
      refine ⟨b27c_1,S.rd1 m6 rfl,?_⟩
      obtain ⟨e32,he32,hf⟩:=oB hf
      refine ix_go (S.sl (r:=(fz rTl)) m1) (Hp.le_refl _) he32 fun pe32=>?_
      refine iI.2 ⟨pe32,?_⟩
      obtain ⟨_,cr110,Rr110,Nr110,Or110,Zr110⟩:=St.idxO (r:=rTl) S m1 he32
      obtain rfl:=rTl_open Rr110
      refine ⟨e32.Kind,Or110 0 _ rfl,?_⟩
      intro jjj4
      have hjj4:∀ (b30:Bool) (h111:Heap),p58_j4 y26 c23 b27 b30=some q99→h88=h111→St h M [rowC o100 [b27c_0,b27c_1,(.int .i64 b27.f.Err),(.int .i64 b27.f.At),(.int .i64 b27.f.Line),(.int .i64 b27.f.Col),b27c_6,b27c_7,b27c_8,b27c_9] v101,rowC h54.n [(.str u34.1),(.int .i64 c35),(.int .i64 c37),c71,c72,c89] 0,own (fz (rSl (rI .u8))) [b27c_0] b27.p,own (oSl (fz rTl)) [b27c_1] b27.l,own (oSl (fz rPlace)) [b27c_6] b27.n.Places,own (oSl oTrans) [b27c_7] b27.n.Trans,own (oMap keS (AV.int .i64)) [b27c_8] b27.places,own (oMap keS AV.bool) [b27c_9] b27.told,own (oSl (fz rArc)) [c71] c41,own (oSl (fz rArc)) [c72] c42,own (oSl (fz rArc)) [c89] c23] h88→jjj4 b30 h111:=by
       rintro b30 h111 hf rfl S
       unfold p58_j4 at hf
       unfold jjj4
       exact hjj3 _ _  hf rfl S
      refine bI (fun hc=>?_) (fun hc=>?_)
      ·rw [ifT hc] at hf
       have S:=S.sel [6,7,0,1,2,3,4,5,8,9,10] rfl
       exact hjj4 _ _  hf rfl S
      rw [ifF hc] at hf
      refine oI (.ptr o100 v101 0) rfl ?_
      refine iI.2 ⟨rfl,?_⟩
      refine ⟨b27c_1,S.rd1 m6 rfl,?_⟩
      obtain ⟨e33,he33,hf⟩:=oB hf
      refine ix_go (S.sl (r:=(fz rTl)) m1) (Hp.le_refl _) he33 fun pe33=>?_
      refine iI.2 ⟨pe33,?_⟩
      obtain ⟨_,cr112,Rr112,Nr112,Or112,Zr112⟩:=St.idxO (r:=rTl) S m1 he33
      obtain rfl:=rTl_open Rr112
      refine ⟨e33.Text,Or112 1 _ rfl,?_⟩
      have S:=S.sel [6,7,0,1,2,3,4,5,8,9,10] rfl
      exact hjj4 _ _  hf rfl S
     rw [ifE hc] at hf
     have S:=S.sel [6,7,0,1,2,3,4,5,8,9,10] rfl
     exact hjj3 _ _  hf rfl S
    exact ⟨l40,.nilSlice,[],rfl,rfl,S,hL⟩
   ·rintro m113 y74 y75 y16 h76 ⟨l20,c77,c78,c10,c11,rfl,rfl,S,hit⟩
    obtain ⟨m73,q114,rfl,hf,hk⟩:=iter_some hit
    clear hit
    unfold B58_0
    unfold p58_l0 at hf
    try dsimp only at hf
    obtain ⟨b21,hb21,hf⟩:=oB hf
    obtain ⟨o115,v116,b21c_0,b21c_1,b21c_6,b21c_7,b21c_8,b21c_9,eP,S2⟩:=oparser_deref hb21 S
    subst eP
    have S:=S2
    refine oI _ rfl ?_
    refine iI.2 ⟨rfl,?_⟩
    refine iI.2 ⟨rfl,?_⟩
    refine ⟨b21.f.Err,S.rd1 m6 rfl,?_⟩
    intro jjj1
    have hjj1:∀ (b17:Bool) (h117:Heap) (l18:Option Tparser),p58_j1 y16 c10 c11 b17 l18=some q114→St h M [own (oPtr oparser) [(.ptr o115 v116 0)] l18,rowC h54.n [(.str u34.1),(.int .i64 c35),(.int .i64 c37),c77,c78,.nilSlice] 0,own (oSl (fz rArc)) [c77] c10,own (oSl (fz rArc)) [c78] c11] h117→jjj1 b17 h117:=by
     rintro b17 h117 l18 hf S
     unfold p58_j1 at hf
     unfold jjj1
     refine bI (fun hc=>?_) (fun hc=>?_)
     ·rw [ifT hc] at hf
      intro jjj0
      have hjj0:∀  (h118:Heap) (l12:Option Tparser),p58_j0 c10 c11 l12=some q114→St h M [own (oPtr oparser) [(.ptr o115 v116 0)] l12,rowC h54.n [(.str u34.1),(.int .i64 c35),(.int .i64 c37),c77,c78,.nilSlice] 0,own (oSl (fz rArc)) [c77] c10,own (oSl (fz rArc)) [c78] c11] h118→jjj0 h118:=by
       rintro h118 l12 hf S
       unfold p58_j0 at hf
       unfold jjj0
       obtain ⟨u13,hu13,hf⟩:=oB hf
       refine ⟨_,Fz.refl _,?_⟩
       obtain ⟨fpu13,S1u302,backu13⟩:=St.lend [_] S
       refine (r56 (r0:=l12) (s1:=([126]:List UInt8)) (S:=S1u302) hu13).mono fun v119 h120 T=>?_
       obtain ⟨rfl,T⟩:=T
       have S:St _ _ [own (oPtr oparser) [(.ptr o115 v116 0)] u13.2,_,_,_] _:=backu13 _ _ T
       refine ⟨u13.1,rfl,?_⟩
       refine bI (fun hc=>?_) (fun hc=>?_)
       ·rw [ifT hc] at hf
        refine iI.2 ⟨rfl,?_⟩
        refine ⟨c78,S.rd1 m1 rfl,?_⟩
        obtain ⟨u14,hu14,hf⟩:=oB hf
        refine ⟨_,Fz.refl _,?_⟩
        have S:=S.sel [0,3,1,2] rfl
        obtain ⟨fpu14,S1u305,backu14⟩:=St.lend [_,_] S
        refine (r76 (x0:=u13.2) (x1:=c11) (S:=S1u305) hu14).mono fun v121 h122 T=>?_
        have S:St _ _ [own (oSl (fz rArc)) [v121] u14.1,own (oPtr oparser) [(.ptr o115 v116 0)] u14.2,_,_] _:=backu14 _ _ T
        refine iI.2 ⟨rfl,?_⟩
        have S:=S.sel [2,0,1,3] rfl
        obtain ⟨h123,e124,S⟩:=S.storeS (off:=4) (x:=v121) (cs':=[(.str u34.1),(.int .i64 c35),(.int .i64 c37),c77,v121,.nilSlice]) (nl rfl) ((S.sl (r:=(fz rArc)) m1)).is rfl
        refine ⟨h123,e124,?_⟩
        have S:=S.sel [2,0,3,1] rfl
        obtain rfl:=oi hf
        exact ⟨m73,Nat.lt_succ_self _,u14.2,c77,v121,c10,u14.1,rfl,rfl,S,hk⟩
       rw [ifF hc] at hf
       refine iI.2 ⟨rfl,?_⟩
       refine ⟨c77,S.rd1 m1 rfl,?_⟩
       obtain ⟨u15,hu15,hf⟩:=oB hf
       refine ⟨_,Fz.refl _,?_⟩
       have S:=S.sel [0,2,1,3] rfl
       obtain ⟨fpu15,S1u311,backu15⟩:=St.lend [_,_] S
       refine (r76 (x0:=u13.2) (x1:=c10) (S:=S1u311) hu15).mono fun v125 h126 T=>?_
       have S:St _ _ [own (oSl (fz rArc)) [v125] u15.1,own (oPtr oparser) [(.ptr o115 v116 0)] u15.2,_,_] _:=backu15 _ _ T
       refine iI.2 ⟨rfl,?_⟩
       have S:=S.sel [2,0,1,3] rfl
       obtain ⟨h127,e128,S⟩:=S.storeS (off:=3) (x:=v125) (cs':=[(.str u34.1),(.int .i64 c35),(.int .i64 c37),v125,c78,.nilSlice]) (nl rfl) ((S.sl (r:=(fz rArc)) m1)).is rfl
       refine ⟨h127,e128,?_⟩
       have S:=S.sel [2,0,1,3] rfl
       obtain rfl:=oi hf
       exact ⟨m73,Nat.lt_succ_self _,u15.2,v125,c78,u15.1,c11,rfl,rfl,S,hk⟩
      refine bI (fun hc=>?_) (fun hc=>?_)
      ·rw [ifT hc] at hf
       obtain ⟨u19,hu19,hf⟩:=oB hf
       refine ⟨_,Fz.refl _,?_⟩
       obtain ⟨fpu19,S1u318,backu19⟩:=St.lend [_] S
       refine (r59 (r0:=l18) (s1:=([44]:List UInt8)) (S:=S1u318) hu19).mono fun v129 h130 T=>?_
       obtain ⟨rfl,T⟩:=T
       have S:St _ _ [own (oPtr oparser) [(.ptr o115 v116 0)] u19,_,_,_] _:=backu19 _ _ T
       exact hjj0  _ u19 hf  S
      rw [ifF hc] at hf
      exact hjj0  _ l18 hf  S
     rw [ifF hc] at hf
     obtain rfl:=oi hf
     obtain rfl:=hk
     exact ⟨l18,c77,c78,c10,c11,rfl,rfl,S,rfl⟩
    refine bI (fun hc=>?_) (fun hc=>?_)
    ·rw [ifD hc] at hf
     obtain ⟨u22,hu22,hf⟩:=oB hf
     have S:St _ _ [own (fz (rSl (rI .u8))) [b21c_0] b21.p,_,_,_,_,_,_,_,_,_,_] _:=S.add (rSl_mk (S.slz (r:=(rI .u8)) m0))
     have S:=S.sel [0,2,3,4,5,6,7,1,8,9,10] rfl
     have S:St _ _ [own (oPtr oparser) [(.ptr o115 v116 0)] (some b21),_,_,_,_] _:=oparser_shut (x:=b21) S
     refine ⟨_,Fz.refl _,?_⟩
     obtain ⟨fpu22,S1u323,backu22⟩:=St.lend [_] S
     refine (r56 (r0:=(some b21)) (s1:=([45,62]:List UInt8)) (S:=S1u323) hu22).mono fun v131 h132 T=>?_
     obtain ⟨rfl,T⟩:=T
     have S:St _ _ [own (oPtr oparser) [(.ptr o115 v116 0)] u22.2,_,_,_,_] _:=backu22 _ _ T
     refine ⟨u22.1,rfl,?_⟩
     have S:=S.sel [0,2,3,4] rfl
     exact hjj1 _ _ u22.2 hf  S
    rw [ifE hc] at hf
    have S:St _ _ [own (fz (rSl (rI .u8))) [b21c_0] b21.p,_,_,_,_,_,_,_,_,_,_] _:=S.add (rSl_mk (S.slz (r:=(rI .u8)) m0))
    have S:=S.sel [0,2,3,4,5,6,7,1,8,9,10] rfl
    have S:St _ _ [own (oPtr oparser) [(.ptr o115 v116 0)] (some b21),_,_,_,_] _:=oparser_shut (x:=b21) S
    have S:=S.sel [0,2,3,4] rfl
    exact hjj1 _ _ (some b21) hf  S
   exact ⟨u38,.nilSlice,.nilSlice,[],[],rfl,rfl,S,hL⟩
  refine bI (fun hc=>?_) (fun hc=>?_)
  ·rw [ifT hc] at hf
   obtain ⟨u50,hu50,hf⟩:=oB hf
   refine ⟨_,Fz.refl _,?_⟩
   obtain ⟨fpu50,S1u562,backu50⟩:=St.lend [_] S
   refine (r57 (r0:=u49.2) (least1:=0) (S:=S1u562) hu50).mono fun v133 h134 T=>?_
   obtain ⟨rfl,T⟩:=T
   have S:St _ _ [own (oPtr oparser) [a0_0] u50.2,_] _:=backu50 _ _ T
   refine ⟨u50.1,rfl,?_⟩
   refine iI.2 ⟨rfl,?_⟩
   have S:=S.sel [1,0] rfl
   obtain ⟨h135,e136,S⟩:=S.store (off:=2) (n:=1) (x:=(.int .i64 u50.1)) (cs':=[(.str u34.1),(.int .i64 c35),(.int .i64 u50.1),.nilSlice,.nilSlice,.nilSlice]) (nl rfl) rfl rfl rfl
   refine ⟨h135,e136,?_⟩
   have S:=S.sel [1,0] rfl
   exact hjj5  _ u50.2 u50.1 hf  S
  rw [ifF hc] at hf
  exact hjj5  _ u49.2 0 hf  S
 refine bI (fun hc=>?_) (fun hc=>?_)
 ·rw [ifT hc] at hf
  obtain ⟨u52,hu52,hf⟩:=oB hf
  refine ⟨_,Fz.refl _,?_⟩
  obtain ⟨fpu52,S1u568,backu52⟩:=St.lend [_] S
  refine (r57 (r0:=u51.2) (least1:=0) (S:=S1u568) hu52).mono fun v137 h138 T=>?_
  obtain ⟨rfl,T⟩:=T
  have S:St _ _ [own (oPtr oparser) [a0_0] u52.2,_] _:=backu52 _ _ T
  refine ⟨u52.1,rfl,?_⟩
  have S:=S.sel [1,0] rfl
  obtain ⟨h139,e140,S⟩:=S.store (off:=1) (n:=1) (x:=(.int .i64 u52.1)) (cs':=[(.str u34.1),(.int .i64 u52.1),(.int .i64 0),.nilSlice,.nilSlice,.nilSlice]) (nl rfl) rfl rfl rfl
  refine ⟨h139,e140,?_⟩
  have S:=S.sel [1,0] rfl
  exact hjj6  _ u52.2 u52.1 hf  S
 rw [ifF hc] at hf
 exact hjj6  _ u51.2 0 hf  S
def p40_j0 (l10:Option Tparser):Option (Option Tparser):=(p59 l10 ([59]:List UInt8)).bind fun u11=>some u11
def p40_j1 (u12:(List UInt8)×(Option Tparser)) (l13:Option Tparser) (c14:Int):Option (Option Tparser):=l13.bind fun b15=>(app 24 b15.n.Places [(TPlace.mk u12.1 c14)]).bind fun b16=>p40_j0 (some (Tparser.mk b15.p b15.l b15.f (TNet.mk b16 b15.n.Trans) b15.places b15.told))
def p40_j2 (l17:Option Tparser):Option (Option Tparser):=(p55 l17).bind fun u12=>(p56 u12.2 ([61]:List UInt8)).bind fun u18=>if u18.1=true then ((p57 u18.2 0).bind fun u19=>p40_j1 u12 u19.2 u19.1) else (p40_j1 u12 u18.2 0)
def p40_j3 (l20:Option Tparser):Option (Option Tparser):=(p58 l20).bind fun u21=>p40_j0 u21
def p40 (x0:Option Tparser):Option (Option Tparser):=(p53 x0).bind fun u22=>u22.2.bind fun b23=>(idx b23.l 0).bind fun e24=>(p39 u22.1 ([112,108,97,99,101]:List UInt8)).bind fun y25=>if y25=true then (if (b23.n.Places.length:Int)=32 then ((p54 (some b23) 5 e24).bind fun u26=>p40_j2 u26) else (p40_j2 (some b23))) else ((p39 u22.1 ([116,114,97,110,115]:List UInt8)).bind fun y27=>if y27=true then (if (b23.n.Trans.length:Int)=32 then ((p54 (some b23) 5 e24).bind fun u28=>p40_j3 u28) else (p40_j3 (some b23))) else ((p54 (some b23) 6 u22.1).bind fun u29=>p40_j0 u29))
theorem r40 {h:Heap} {a0_0:AV} {M:Nat→Prop} {x0:Option Tparser} (S:St h M [own (oPtr oparser) [a0_0] x0] h) {r:(Option Tparser)} (hf:p40 x0=some r):ZC F 40 [a0_0] h fun v h'=>v=.tuple []∧St h M [own (oPtr oparser) [a0_0] r] h':=by
 refine w40 ?_
 unfold W40
 unfold p40 at hf
 obtain ⟨u22,hu22,hf⟩:=oB hf
 refine ⟨_,Fz.refl _,?_⟩
 obtain ⟨fpu22,S1u104,backu22⟩:=St.lend [_] S
 refine (r53 (r0:=x0) (S:=S1u104) hu22).mono fun v30 h31 T=>?_
 obtain ⟨rfl,T⟩:=T
 have S:St _ _ [own (oPtr oparser) [a0_0] u22.2] _:=backu22 _ _ T
 intro h32
 have S:St _ _ [rowC h31.n [(.int .u8 0),(.str ([]:List UInt8)),(.int .i64 0),(.int .i64 0)] 0,_] _:=S.pushRow [(.int .u8 0),(.str ([]:List UInt8)),(.int .i64 0),(.int .i64 0)]
 obtain ⟨h33,e34,S⟩:=S.store (off:=0) (n:=4) (x:=(.agg [(.int .u8 u22.1.Kind),(.str u22.1.Text),(.int .i64 u22.1.N),(.int .i64 u22.1.At)])) (cs':=[(.int .u8 u22.1.Kind),(.str u22.1.Text),(.int .i64 u22.1.N),(.int .i64 u22.1.At)]) (nl rfl) rfl rfl rfl
 refine ⟨h33,e34,?_⟩
 obtain ⟨b23,hb23,hf⟩:=oB hf
 have S:=S.sel [1,0] rfl
 obtain ⟨o35,v36,b23c_0,b23c_1,b23c_6,b23c_7,b23c_8,b23c_9,eP,S2⟩:=oparser_deref hb23 S
 subst eP
 have S:=S2
 refine oI _ rfl ?_
 refine iI.2 ⟨rfl,?_⟩
 refine ⟨b23c_1,S.rd1 m6 rfl,?_⟩
 obtain ⟨e24,he24,hf⟩:=oB hf
 refine ix_go (S.sl (r:=(fz rTl)) m1) (Hp.le_refl _) he24 fun pe24=>?_
 obtain ⟨_,cr37,Rr37,Nr37,Or37,Zr37⟩:=St.idxO (r:=rTl) S m1 he24
 obtain rfl:=rTl_open Rr37
 refine ⟨(.int .u8 e24.Kind),(.str e24.Text),(.int .i64 e24.N),(.int .i64 e24.At),Nr37,?_⟩
 intro h38
 have S:St _ _ [rowC h33.n [(.int .u8 0),(.str ([]:List UInt8)),(.int .i64 0),(.int .i64 0)] 0,_,_,_,_,_,_,_,_] _:=S.pushRow [(.int .u8 0),(.str ([]:List UInt8)),(.int .i64 0),(.int .i64 0)]
 obtain ⟨h39,e40,S⟩:=S.store (off:=0) (n:=4) (x:=(.agg [(.int .u8 e24.Kind),(.str e24.Text),(.int .i64 e24.N),(.int .i64 e24.At)])) (cs':=[(.int .u8 e24.Kind),(.str e24.Text),(.int .i64 e24.N),(.int .i64 e24.At)]) (nl rfl) rfl rfl rfl
 refine ⟨h39,e40,?_⟩
 refine ⟨(.int .u8 u22.1.Kind),(.str u22.1.Text),(.int .i64 u22.1.N),(.int .i64 u22.1.At),S.rdN m8 (nl rfl) rfl,?_⟩
 obtain ⟨y25,hy25,hf⟩:=oB hf
 refine ⟨_,Fz.refl _,?_⟩
 refine (r39 (t0:=u22.1) (s1:=([112,108,97,99,101]:List UInt8)) hy25).mono fun v41 h42 T=>?_
 obtain ⟨rfl,T⟩:=T
 have S:St _ _ [_,_,_,_,_,_,_,_,_] _:=S.comp T
 refine ⟨y25,rfl,?_⟩
 intro jjj0
 have hjj0:∀  (h43:Heap) (l10:Option Tparser),p40_j0 l10=some r→St h M [own (oPtr oparser) [(.ptr o35 v36 0)] l10] h43→jjj0 h43:=by
  rintro h43 l10 hf S
  unfold p40_j0 at hf
  unfold jjj0
  obtain ⟨u11,hu11,hf⟩:=oB hf
  refine ⟨_,Fz.refl _,?_⟩
  obtain ⟨fpu11,S1u214,backu11⟩:=St.lend [_] S
  refine (r59 (r0:=l10) (s1:=([59]:List UInt8)) (S:=S1u214) hu11).mono fun v44 h45 T=>?_
  obtain ⟨rfl,T⟩:=T
  have S:St _ _ [own (oPtr oparser) [(.ptr o35 v36 0)] u11] _:=backu11 _ _ T
  obtain rfl:=oi hf
  exact ⟨rfl,S.sel [0] rfl⟩
 refine bI (fun hc=>?_) (fun hc=>?_)
 ·rw [ifT hc] at hf
  refine oI (.ptr o35 v36 0) rfl ?_
  refine iI.2 ⟨rfl,?_⟩
  refine iI.2 ⟨rfl,?_⟩
  refine ⟨b23c_6,S.rd1 m7 rfl,?_⟩
  refine iI.2 ⟨((S.sl (r:=(fz rPlace)) m3)).is,?_⟩
  try rw [show (b23c_6).slen=_ from ((S.sl (r:=(fz rPlace)) m3)).slen]
  intro jjj2
  have hjj2:∀  (h46:Heap) (l17:Option Tparser),p40_j2 l17=some r→St h M [own (oPtr oparser) [(.ptr o35 v36 0)] l17] h46→jjj2 h46:=by
   rintro h46 l17 hf S
   unfold p40_j2 at hf
   unfold jjj2
   obtain ⟨u12,hu12,hf⟩:=oB hf
   refine ⟨_,Fz.refl _,?_⟩
   obtain ⟨fpu12,S1u225,backu12⟩:=St.lend [_] S
   refine (r55 (r0:=l17) (S:=S1u225) hu12).mono fun v47 h48 T=>?_
   obtain ⟨rfl,T⟩:=T
   have S:St _ _ [own (oPtr oparser) [(.ptr o35 v36 0)] u12.2] _:=backu12 _ _ T
   refine ⟨u12.1,rfl,?_⟩
   intro h49
   have S:St _ _ [rowC h48.n [(.str ([]:List UInt8)),(.int .i64 0)] 0,_] _:=S.pushRow [(.str ([]:List UInt8)),(.int .i64 0)]
   obtain ⟨h50,e51,S⟩:=S.store (off:=0) (n:=2) (x:=(.agg [(.str u12.1),(.int .i64 0)])) (cs':=[(.str u12.1),(.int .i64 0)]) (nl rfl) rfl rfl rfl
   refine ⟨h50,e51,?_⟩
   obtain ⟨u18,hu18,hf⟩:=oB hf
   refine ⟨_,Fz.refl _,?_⟩
   have S:=S.sel [1,0] rfl
   obtain ⟨fpu18,S1u232,backu18⟩:=St.lend [_] S
   refine (r56 (r0:=u12.2) (s1:=([61]:List UInt8)) (S:=S1u232) hu18).mono fun v52 h53 T=>?_
   obtain ⟨rfl,T⟩:=T
   have S:St _ _ [own (oPtr oparser) [(.ptr o35 v36 0)] u18.2,_] _:=backu18 _ _ T
   refine ⟨u18.1,rfl,?_⟩
   intro jjj1
   have hjj1:∀  (h54:Heap) (l13:Option Tparser) (c14:Int),p40_j1 u12 l13 c14=some r→St h M [own (oPtr oparser) [(.ptr o35 v36 0)] l13,rowC h48.n [(.str u12.1),(.int .i64 c14)] 0] h54→jjj1 h54:=by
    rintro h54 l13 c14 hf S
    unfold p40_j1 at hf
    unfold jjj1
    obtain ⟨b15,hb15,hf⟩:=oB hf
    obtain ⟨b15c_0,b15c_1,b15c_6,b15c_7,b15c_8,b15c_9,S⟩:=oparser_derefAt hb15 S
    refine oI _ rfl ?_
    refine iI.2 ⟨rfl,?_⟩
    refine iI.2 ⟨rfl,?_⟩
    refine ⟨b15c_6,S.rd1 m6 rfl,?_⟩
    refine ⟨(.str u12.1),(.int .i64 c14),S.rdN m7 (nl rfl) rfl,?_⟩
    intro h55
    have S:St _ _ [rowC h54.n [(.str u12.1),(.int .i64 c14)] 0,_,_,_,_,_,_,_,_] _:=S.pushRow [(.str u12.1),(.int .i64 c14)]
    obtain ⟨b16,hb16,hf⟩:=oB hf
    have S:St _ _ [own (fz rPlace) [(.str u12.1),(.int .i64 c14)] (TPlace.mk u12.1 c14),_,_,_,_,_,_,_,_,_] _:=S.add (r:=rPlace) (x:=(TPlace.mk u12.1 c14)) (rPlace_mk (x:=(TPlace.mk u12.1 c14)))
    have S:=S.sel [4,0,1,2,3,5,6,7,8,9] rfl
    have mb16:=app_some hb16
    obtain ⟨v56,h57,e58,S⟩:=St.app1R (r:=(fz rPlace)) (b:=24) S mb16.1
    have S:St _ _ [own (oSl (fz rPlace)) [v56] b16,_,_,_,_,_,_,_] _:=S.cast1 (by rw [← mb16.2]<;>rfl)
    refine ⟨v56,h57,e58,?_⟩
    refine oI (.ptr o35 v36 0) rfl ?_
    refine iI.2 ⟨rfl,?_⟩
    refine iI.2 ⟨rfl,?_⟩
    have S:=S.sel [6,0,1,2,3,4,5,7] rfl
    obtain ⟨h59,e60,S⟩:=S.storeS (off:=6) (x:=v56) (cs':=[b15c_0,b15c_1,(.int .i64 b15.f.Err),(.int .i64 b15.f.At),(.int .i64 b15.f.Line),(.int .i64 b15.f.Col),v56,b15c_7,b15c_8,b15c_9]) (nl rfl) ((S.sl (r:=(fz rPlace)) m1)).is rfl
    refine ⟨h59,e60,?_⟩
    have S:St _ _ [own (fz (rSl (rI .u8))) [b15c_0] b15.p,_,_,_,_,_,_,_,_] _:=S.add (rSl_mk (S.slz (r:=(rI .u8)) m2))
    have S:=S.sel [0,4,2,5,6,7,1,3,8] rfl
    have S:St _ _ [own (oPtr oparser) [(.ptr o35 v36 0)] (some (Tparser.mk b15.p b15.l b15.f (TNet.mk b16 b15.n.Trans) b15.places b15.told)),_,_] _:=oparser_shut (x:=(Tparser.mk b15.p b15.l b15.f (TNet.mk b16 b15.n.Trans) b15.places b15.told)) S
    have S:=S.sel [0] rfl
    exact hjj0  _ (some (Tparser.mk b15.p b15.l b15.f (TNet.mk b16 b15.n.Trans) b15.places b15.told)) hf  S
   refine bI (fun hc=>?_) (fun hc=>?_)
   ·rw [ifT hc] at hf
    obtain ⟨u19,hu19,hf⟩:=oB hf
    refine ⟨_,Fz.refl _,?_⟩
    obtain ⟨fpu19,S1u266,backu19⟩:=St.lend [_] S
    refine (r57 (r0:=u18.2) (least1:=0) (S:=S1u266) hu19).mono fun v61 h62 T=>?_
    obtain ⟨rfl,T⟩:=T
    have S:St _ _ [own (oPtr oparser) [(.ptr o35 v36 0)] u19.2,_] _:=backu19 _ _ T
    refine ⟨u19.1,rfl,?_⟩
    have S:=S.sel [1,0] rfl
    obtain ⟨h63,e64,S⟩:=S.store (off:=1) (n:=1) (x:=(.int .i64 u19.1)) (cs':=[(.str u12.1),(.int .i64 u19.1)]) (nl rfl) rfl rfl rfl
    refine ⟨h63,e64,?_⟩
    have S:=S.sel [1,0] rfl
    exact hjj1  _ u19.2 u19.1 hf  S
   rw [ifF hc] at hf
   exact hjj1  _ u18.2 0 hf  S
  refine bI (fun hc=>?_) (fun hc=>?_)
  ·rw [ifD hc] at hf
   refine ⟨(.int .u8 e24.Kind),(.str e24.Text),(.int .i64 e24.N),(.int .i64 e24.At),S.rdN m0 (nl rfl) rfl,?_⟩
   obtain ⟨u26,hu26,hf⟩:=oB hf
   have S:St _ _ [own (fz (rSl (rI .u8))) [b23c_0] b23.p,_,_,_,_,_,_,_,_,_] _:=S.add (rSl_mk (S.slz (r:=(rI .u8)) m1))
   have S:=S.sel [0,3,4,5,6,7,8,1,2,9] rfl
   have S:St _ _ [own (oPtr oparser) [(.ptr o35 v36 0)] (some b23),_,_,_] _:=oparser_shut (x:=b23) S
   refine ⟨_,Fz.refl _,?_⟩
   obtain ⟨fpu26,S1u273,backu26⟩:=St.lend [_] S
   refine (r54 (r0:=(some b23)) (e1:=5) (t2:=e24) (S:=S1u273) hu26).mono fun v65 h66 T=>?_
   obtain ⟨rfl,T⟩:=T
   have S:St _ _ [own (oPtr oparser) [(.ptr o35 v36 0)] u26,_,_,_] _:=backu26 _ _ T
   have S:=S.sel [0] rfl
   exact hjj2  _ u26 hf  S
  rw [ifE hc] at hf
  have S:St _ _ [own (fz (rSl (rI .u8))) [b23c_0] b23.p,_,_,_,_,_,_,_,_,_] _:=S.add (rSl_mk (S.slz (r:=(rI .u8)) m1))
  have S:=S.sel [0,3,4,5,6,7,8,1,2,9] rfl
  have S:St _ _ [own (oPtr oparser) [(.ptr o35 v36 0)] (some b23),_,_,_] _:=oparser_shut (x:=b23) S
  have S:=S.sel [0] rfl
  exact hjj2  _ (some b23) hf  S
 rw [ifF hc] at hf
 refine ⟨(.int .u8 u22.1.Kind),(.str u22.1.Text),(.int .i64 u22.1.N),(.int .i64 u22.1.At),S.rdN m8 (nl rfl) rfl,?_⟩
 obtain ⟨y27,hy27,hf⟩:=oB hf
 refine ⟨_,Fz.refl _,?_⟩
 refine (r39 (t0:=u22.1) (s1:=([116,114,97,110,115]:List UInt8)) hy27).mono fun v67 h68 T=>?_
 obtain ⟨rfl,T⟩:=T
 have S:St _ _ [_,_,_,_,_,_,_,_,_] _:=S.comp T
 refine ⟨y27,rfl,?_⟩
 refine bI (fun hc=>?_) (fun hc=>?_)
 ·rw [ifT hc] at hf
  refine oI (.ptr o35 v36 0) rfl ?_
  refine iI.2 ⟨rfl,?_⟩
  refine iI.2 ⟨rfl,?_⟩
  refine ⟨b23c_7,S.rd1 m7 rfl,?_⟩
  refine iI.2 ⟨((S.sl (r:=oTrans) m4)).is,?_⟩
  try rw [show (b23c_7).slen=_ from ((S.sl (r:=oTrans) m4)).slen]
  intro jjj3
  have hjj3:∀  (h69:Heap) (l20:Option Tparser),p40_j3 l20=some r→St h M [own (oPtr oparser) [(.ptr o35 v36 0)] l20] h69→jjj3 h69:=by
   rintro h69 l20 hf S
   unfold p40_j3 at hf
   unfold jjj3
   obtain ⟨u21,hu21,hf⟩:=oB hf
   refine ⟨_,Fz.refl _,?_⟩
   obtain ⟨fpu21,S1u287,backu21⟩:=St.lend [_] S
   refine (r58 (x0:=l20) (S:=S1u287) hu21).mono fun v70 h71 T=>?_
   obtain ⟨rfl,T⟩:=T
   have S:St _ _ [own (oPtr oparser) [(.ptr o35 v36 0)] u21] _:=backu21 _ _ T
   exact hjj0  _ u21 hf  S
  refine bI (fun hc=>?_) (fun hc=>?_)
  ·rw [ifD hc] at hf
   refine ⟨(.int .u8 e24.Kind),(.str e24.Text),(.int .i64 e24.N),(.int .i64 e24.At),S.rdN m0 (nl rfl) rfl,?_⟩
   obtain ⟨u28,hu28,hf⟩:=oB hf
   have S:St _ _ [own (fz (rSl (rI .u8))) [b23c_0] b23.p,_,_,_,_,_,_,_,_,_] _:=S.add (rSl_mk (S.slz (r:=(rI .u8)) m1))
   have S:=S.sel [0,3,4,5,6,7,8,1,2,9] rfl
   have S:St _ _ [own (oPtr oparser) [(.ptr o35 v36 0)] (some b23),_,_,_] _:=oparser_shut (x:=b23) S
   refine ⟨_,Fz.refl _,?_⟩
   obtain ⟨fpu28,S1u292,backu28⟩:=St.lend [_] S
   refine (r54 (r0:=(some b23)) (e1:=5) (t2:=e24) (S:=S1u292) hu28).mono fun v72 h73 T=>?_
   obtain ⟨rfl,T⟩:=T
   have S:St _ _ [own (oPtr oparser) [(.ptr o35 v36 0)] u28,_,_,_] _:=backu28 _ _ T
   have S:=S.sel [0] rfl
   exact hjj3  _ u28 hf  S
  rw [ifE hc] at hf
  have S:St _ _ [own (fz (rSl (rI .u8))) [b23c_0] b23.p,_,_,_,_,_,_,_,_,_] _:=S.add (rSl_mk (S.slz (r:=(rI .u8)) m1))
  have S:=S.sel [0,3,4,5,6,7,8,1,2,9] rfl
  have S:St _ _ [own (oPtr oparser) [(.ptr o35 v36 0)] (some b23),_,_,_] _:=oparser_shut (x:=b23) S
  have S:=S.sel [0] rfl
  exact hjj3  _ (some b23) hf  S
 rw [ifF hc] at hf
 refine ⟨(.int .u8 u22.1.Kind),(.str u22.1.Text),(.int .i64 u22.1.N),(.int .i64 u22.1.At),S.rdN m8 (nl rfl) rfl,?_⟩
 obtain ⟨u29,hu29,hf⟩:=oB hf
 have S:St _ _ [own (fz (rSl (rI .u8))) [b23c_0] b23.p,_,_,_,_,_,_,_,_,_] _:=S.add (rSl_mk (S.slz (r:=(rI .u8)) m1))
 have S:=S.sel [0,3,4,5,6,7,8,1,2,9] rfl
 have S:St _ _ [own (oPtr oparser) [(.ptr o35 v36 0)] (some b23),_,_,_] _:=oparser_shut (x:=b23) S
 refine ⟨_,Fz.refl _,?_⟩
 obtain ⟨fpu29,S1u297,backu29⟩:=St.lend [_] S
 refine (r54 (r0:=(some b23)) (e1:=6) (t2:=u22.1) (S:=S1u297) hu29).mono fun v74 h75 T=>?_
 obtain ⟨rfl,T⟩:=T
 have S:St _ _ [own (oPtr oparser) [(.ptr o35 v36 0)] u29,_,_,_] _:=backu29 _ _ T
 have S:=S.sel [0] rfl
 exact hjj0  _ u29 hf  S
def p26_j0 (y10:Int) (l11:List (List UInt8×Int)):Option ((Int×(List (List UInt8×Int)))⊕(List (List UInt8×Int))):=some (.inl ((IntKind.wrap .i64 (y10+1)),l11))
def p26_j1 (u12:(List TTl)×TFault) (y10:Int) (l13:List (List UInt8×Int)) (b14:Bool):Option ((Int×(List (List UInt8×Int)))⊕(List (List UInt8×Int))):=if b14=true then ((idx u12.1 (IntKind.wrap .i64 (y10+1))).bind fun e15=>if (!(mget keS l13 e15.Text).isSome)=true then ((idx u12.1 (IntKind.wrap .i64 (y10+1))).bind fun e16=>p26_j0 y10 (mput keS l13 e16.Text (l13.length:Int))) else (p26_j0 y10 l13)) else (p26_j0 y10 l13)
def p26_l0 (u12:(List TTl)×TFault) (y17:List TTl) (st:Int×(List (List UInt8×Int))):Option ((Int×(List (List UInt8×Int)))⊕(List (List UInt8×Int))):=match st with | (y10,l13)=>if y10 < (y17.length:Int) then ((idx y17 y10).bind fun e18=>(p39 e18 ([112,108,97,99,101]:List UInt8)).bind fun y19=>if y19=true then ((idx u12.1 (IntKind.wrap .i64 (y10+1))).bind fun e20=>p26_j1 u12 y10 l13 (decide (e20.Kind=1))) else (p26_j1 u12 y10 l13 false)) else (some (.inr l13))
def p26_j2 (b21:Tparser) (b22:Bool):Option ((Option Tparser)⊕(Option Tparser)):=if b22=true then ((p40 (some b21)).bind fun u23=>some (.inl u23)) else (some (.inr (some b21)))
def p26_l1 (l24:Option Tparser):Option ((Option Tparser)⊕(Option Tparser)):=l24.bind fun b21=>if b21.f.Err=0 then ((idx b21.l 0).bind fun e25=>p26_j2 b21 (!decide (e25.Kind=0))) else (p26_j2 b21 false)
def p26 (x0:List Int):Option (TNet×TFault):=(p18 x0).bind fun u12=>if (!decide (u12.2.Err=0))=true then (some ((TNet.mk [] []),u12.2)) else ((slc u12.1 0 (IntKind.wrap .i64 ((u12.1.length:Int) - 1))).bind fun y17=>(loopC (p26_l0 u12 y17) (0,[])).bind fun res26=>((fun (l27:List (List UInt8×Int))=>(loopC p26_l1 (some (Tparser.mk x0 u12.1 (TFault.mk 0 0 0 0) (TNet.mk [] []) l27 []))).bind fun res28=>((fun (l29:Option Tparser)=>l29.bind fun b30=>if (!decide (b30.f.Err=0))=true then (some ((TNet.mk [] []),b30.f)) else ((p41 b30.n).bind fun y31=>some (y31,(TFault.mk 0 0 0 0)))) res28)) res26))
theorem r26 {h:Heap} {a0_0:AV} {x0:List Int} (f0_0:SlR (rI .u8) (Frz h) a0_0 x0) {r:TNet×TFault} (hf:p26 x0=some r):ZC F 26 [a0_0] h fun v h'=>∃ cs0,v=.tuple [.agg cs0,.agg [.int .i64 r.2.Err,.int .i64 r.2.At,.int .i64 r.2.Line,.int .i64 r.2.Col]]∧St h none' [own (fz rNet) cs0 r.1] h':=by
 refine w26 ?_
 unfold W26
 unfold p26 at hf
 have S:St h none' [] h:=St.refl _ _
 have S:=S.add (rSl_mk f0_0)
 intro h32
 have S:St _ _ [rowC h.n [.nilSlice,.nilSlice] 0,own (fz (rSl (rI .u8))) [a0_0] x0] _:=S.pushRow [.nilSlice,.nilSlice]
 intro h33
 have S:St _ _ [rowC h32.n [(.int .i64 0),(.int .i64 0),(.int .i64 0),(.int .i64 0)] 0,_,_] _:=S.pushRow [(.int .i64 0),(.int .i64 0),(.int .i64 0),(.int .i64 0)]
 obtain ⟨u12,hu12,hf⟩:=oB hf
 refine ⟨_,Fz.refl _,?_⟩
 refine (r18 (p0:=x0) (f0_0:=(SlR.mono (frz_snap _) (S.slz (r:=(rI .u8)) m2))) hu12).mono fun v34 h35 T=>?_
 obtain ⟨w36,rfl,T⟩:=T
 have S:St _ _ [own (oSl (fz rTl)) [w36] u12.1,_,_,_] _:=S.comp T
 refine oI w36 rfl ?_
 refine oI (.agg [(.int .i64 u12.2.Err),(.int .i64 u12.2.At),(.int .i64 u12.2.Line),(.int .i64 u12.2.Col)]) rfl ?_
 intro h37
 have S:St _ _ [rowC h35.n [(.int .i64 0),(.int .i64 0),(.int .i64 0),(.int .i64 0)] 0,_,_,_,_] _:=S.pushRow [(.int .i64 0),(.int .i64 0),(.int .i64 0),(.int .i64 0)]
 obtain ⟨h38,e39,S⟩:=S.store (off:=0) (n:=4) (x:=(.agg [(.int .i64 u12.2.Err),(.int .i64 u12.2.At),(.int .i64 u12.2.Line),(.int .i64 u12.2.Col)])) (cs':=[(.int .i64 u12.2.Err),(.int .i64 u12.2.At),(.int .i64 u12.2.Line),(.int .i64 u12.2.Col)]) (nl rfl) rfl rfl rfl
 refine ⟨h38,e39,?_⟩
 refine ⟨u12.2.Err,S.rd1 m0 rfl,?_⟩
 refine bI (fun hc=>?_) (fun hc=>?_)
 ·rw [ifT hc] at hf
  have S_1:=S
  refine ⟨(.int .i64 u12.2.Err),(.int .i64 u12.2.At),(.int .i64 u12.2.Line),(.int .i64 u12.2.Col),S.rdN m0 (nl rfl) rfl,?_⟩
  have S_2:=S
  have S:=S.sel [3,0,1,2,4] rfl
  obtain ⟨h40,e41,S⟩:=S.store (off:=0) (n:=2) (x:=(.agg [.nilSlice,.nilSlice])) (cs':=[.nilSlice,.nilSlice]) (nl rfl) rfl rfl rfl
  refine ⟨h40,e41,?_⟩
  have S_3:=S
  have S:=S.sel [3,0,1,2,4] rfl
  obtain ⟨h42,e43,S⟩:=S.store (off:=0) (n:=4) (x:=(.agg [(.int .i64 u12.2.Err),(.int .i64 u12.2.At),(.int .i64 u12.2.Line),(.int .i64 u12.2.Col)])) (cs':=[(.int .i64 u12.2.Err),(.int .i64 u12.2.At),(.int .i64 u12.2.Line),(.int .i64 u12.2.Col)]) (nl rfl) rfl rfl rfl
  refine ⟨h42,e43,?_⟩
  refine ⟨⟨(.agg [(.int .i64 u12.2.Err),(.int .i64 u12.2.At),(.int .i64 u12.2.Line),(.int .i64 u12.2.Col)]),rdN_ev (S_1.rdN m0 (nl rfl) rfl),rdN_ev (S_2.rdN m0 (nl rfl) rfl),rdN_ev (S_3.rdN m1 (nl rfl) rfl)⟩,?_⟩
  refine ⟨.nilSlice,.nilSlice,S.rdN m1 (nl rfl) rfl,?_⟩
  refine ⟨(.int .i64 u12.2.Err),(.int .i64 u12.2.At),(.int .i64 u12.2.Line),(.int .i64 u12.2.Col),S.rdN m0 (nl rfl) rfl,?_⟩
  have S:St _ _ [own (fz rNet) [.nilSlice,.nilSlice] (TNet.mk [] []),_,_,_,_,_] _:=S.add (r:=rNet) (x:=(TNet.mk [] [])) (rNet_mk (x:=(TNet.mk [] [])) (SlR.nil _ _) (SlR.nil _ _))
  obtain rfl:=oi hf
  exact ⟨_,rfl,S.sel [0] rfl⟩
 rw [ifF hc] at hf
 refine oI _ rfl ?_
 intro h44
 have S:St _ _ [own (oMap keS (AV.int .i64)) [(.map h38.n)] [],_,_,_,_,_] _:=S.pushM keS (AV.int .i64)
 refine oI _ rfl ?_
 intro h45
 have S:St _ _ [own (oMap keS AV.bool) [(.map h44.n)] [],_,_,_,_,_,_] _:=S.pushM keS AV.bool
 refine oI (.agg [a0_0,w36,(.int .i64 0),(.int .i64 0),(.int .i64 0),(.int .i64 0),.nilSlice,.nilSlice,(.map h38.n),(.map h44.n)]) (by simp only [POp.ev,place,sl_cells ((S.slz (r:=(rI .u8)) m6)).is,sl_tup ((S.slz (r:=(rI .u8)) m6)).is,sl_cells ((S.sl (r:=(fz rTl)) m3)).is,sl_tup ((S.sl (r:=(fz rTl)) m3)).is]<;>first | rfl | (simp [AV.cells,AV.isTup,splice]; done) | (simp [AV.cells,AV.isTup,splice]; rfl)) ?_
 refine iI.2 ⟨rfl,?_⟩
 intro h46
 have S:St _ _ [rowC h45.n [a0_0,w36,(.int .i64 0),(.int .i64 0),(.int .i64 0),(.int .i64 0),.nilSlice,.nilSlice,(.map h38.n),(.map h44.n)] 0,_,_,_,_,_,_,_] _:=S.pushRow [a0_0,w36,(.int .i64 0),(.int .i64 0),(.int .i64 0),(.int .i64 0),.nilSlice,.nilSlice,(.map h38.n),(.map h44.n)]
 refine iI.2 ⟨((S.sl (r:=(fz rTl)) m4)).is,?_⟩
 try rw [show (w36).slen=_ from ((S.sl (r:=(fz rTl)) m4)).slen]
 obtain ⟨y17,hy17,hf⟩:=oB hf
 have ey17:=(sliceSl_ev01 (k:=.i64) (S.sl (r:=(fz rTl)) m4) hy17)
 refine oI (w36.sub 4 (0:Int).toNat ((IntKind.wrap .i64 ((u12.1.length:Int) - 1)):Int).toNat) ey17 ?_
 have V47:SlR rTl (Snap h46) (w36.sub 4 (0:Int).toNat ((IntKind.wrap .i64 ((u12.1.length:Int) - 1)):Int).toNat) y17:=slc_eq hy17▸SlR.sub (S.sl (r:=(fz rTl)) m4) (slc_le hy17).1 (slc_le hy17).2
 refine iI.2 ⟨(V47).is,?_⟩
 try rw [show ((w36.sub 4 (0:Int).toNat ((IntKind.wrap .i64 ((u12.1.length:Int) - 1)):Int).toNat)).slen=_ from (V47).slen]
 obtain ⟨res26,hL,hf⟩:=oB hf
 obtain ⟨n48,hL⟩:=loopC_iff.1 hL
 have S:=S.sel [6,5,4,0,7,2,1] rfl
 refine loopm26_0 (X0:=fun (y49:AV) (y50:AV) (y51:AV) (y52:AV) (y53:AV) (y54:Int) (y55:Int) (h56:Heap)=>∃ (l27:List (List UInt8×Int)),AV.ptr h.n 0 0=y49∧AV.ptr h32.n 0 0=y50∧AV.ptr h45.n 0 0=y52∧St h none' [rowC h.n [.nilSlice,.nilSlice] 0,rowC h32.n [(.int .i64 0),(.int .i64 0),(.int .i64 0),(.int .i64 0)] 0,rowC h45.n [a0_0,w36,(.int .i64 0),(.int .i64 0),(.int .i64 0),(.int .i64 0),.nilSlice,.nilSlice,(.map h38.n),(.map h44.n)] 0,own (fz (rSl (rI .u8))) [a0_0] x0,own (oSl (fz rTl)) [w36] u12.1,own (oMap keS (AV.int .i64)) [(.map h38.n)] l27,own (oMap keS AV.bool) [(.map h44.n)] []] h56∧l27=res26) ?_ (loop26_0 (I:=fun (m57:Nat) (y58:AV) (y59:AV) (y60:AV) (y61:AV) (y62:AV) (y63:Int) (y10:Int) (h64:Heap)=>∃ (l13:List (List UInt8×Int)),AV.ptr h.n 0 0=y58∧AV.ptr h32.n 0 0=y59∧w36=y60∧AV.ptr h45.n 0 0=y61∧(w36.sub 4 (0:Int).toNat ((IntKind.wrap .i64 ((u12.1.length:Int) - 1)):Int).toNat)=y62∧(y17.length:Int)=y63∧St h none' [rowC h.n [.nilSlice,.nilSlice] 0,rowC h32.n [(.int .i64 0),(.int .i64 0),(.int .i64 0),(.int .i64 0)] 0,own (oSl (fz rTl)) [w36] u12.1,rowC h45.n [a0_0,w36,(.int .i64 0),(.int .i64 0),(.int .i64 0),(.int .i64 0),.nilSlice,.nilSlice,(.map h38.n),(.map h44.n)] 0,own (fz (rSl (rI .u8))) [a0_0] x0,own (oMap keS (AV.int .i64)) [(.map h38.n)] l13,own (oMap keS AV.bool) [(.map h44.n)] []] h64∧iter (p26_l0 u12 y17) m57 (y10,l13)=some res26) ?_ (m:=n48) ?_)
 ·rintro y49 y50 y51 y52 y53 y54 y55 h56 ⟨l27,rfl,rfl,rfl,S,rfl⟩
  try dsimp only at hf
  obtain ⟨res28,hL,hf⟩:=oB hf
  obtain ⟨n65,hL⟩:=loopC_iff.1 hL
  have S:St _ _ [own (fz (rSl (rI .u8))) [a0_0] x0,_,_,_,_,_,_,_] _:=S.add (rSl_mk (S.slz (r:=(rI .u8)) m3))
  have S:St _ _ [own (oSl (fz rPlace)) [.nilSlice] [],_,_,_,_,_,_,_,_] _:=S.addE (oSl_nil _ _)
  have S:St _ _ [own (oSl oTrans) [.nilSlice] [],_,_,_,_,_,_,_,_,_] _:=S.addE (oSl_nil _ _)
  have S:=S.sel [2,7,1,0,8,9,5,3,4,6] rfl
  have S:St _ _ [own (oPtr oparser) [(.ptr h45.n 0 0)] (some (Tparser.mk x0 u12.1 (TFault.mk 0 0 0 0) (TNet.mk [] []) l27 [])),_,_,_] _:=oparser_shut (x:=(Tparser.mk x0 u12.1 (TFault.mk 0 0 0 0) (TNet.mk [] []) l27 [])) S
  have S:=S.sel [1,2,0] rfl
  refine loopm26_1 (X2:=fun (y66:AV) (y67:AV) (y68:AV) (h69:Heap)=>∃ (l29:Option Tparser),AV.ptr h.n 0 0=y66∧AV.ptr h32.n 0 0=y67∧(AV.ptr h45.n 0 0)=y68∧St h none' [rowC h.n [.nilSlice,.nilSlice] 0,rowC h32.n [(.int .i64 0),(.int .i64 0),(.int .i64 0),(.int .i64 0)] 0,own (oPtr oparser) [(.ptr h45.n 0 0)] l29] h69∧l29=res28) ?_ (loop26_1 (I:=fun (m70:Nat) (y71:AV) (y72:AV) (y73:AV) (h74:Heap)=>∃ (l24:Option Tparser),AV.ptr h.n 0 0=y71∧AV.ptr h32.n 0 0=y72∧(AV.ptr h45.n 0 0)=y73∧St h none' [rowC h.n [.nilSlice,.nilSlice] 0,rowC h32.n [(.int .i64 0),(.int .i64 0),(.int .i64 0),(.int .i64 0)] 0,own (oPtr oparser) [(.ptr h45.n 0 0)] l24] h74∧iter p26_l1 m70 l24=some res28) ?_ (m:=n65) ?_)
  ·rintro y66 y67 y68 h69 ⟨l29,rfl,rfl,rfl,S,rfl⟩
   try dsimp only at hf
   obtain ⟨b30,hb30,hf⟩:=oB hf
   have S:=S.sel [2,0,1] rfl
   obtain ⟨b30c_0,b30c_1,b30c_6,b30c_7,b30c_8,b30c_9,S⟩:=oparser_derefAt hb30 S
   refine oI _ rfl ?_
   refine iI.2 ⟨rfl,?_⟩
   refine iI.2 ⟨rfl,?_⟩
   refine ⟨b30.f.Err,S.rd1 m6 rfl,?_⟩
   refine bI (fun hc=>?_) (fun hc=>?_)
   ·rw [ifT hc] at hf
    refine oI (.ptr h45.n 0 0) rfl ?_
    refine iI.2 ⟨rfl,?_⟩
    have S_4:=S
    refine ⟨(.int .i64 b30.f.Err),(.int .i64 b30.f.At),(.int .i64 b30.f.Line),(.int .i64 b30.f.Col),S.rdN m6 (nl rfl) rfl,?_⟩
    have S_5:=S
    have S:=S.sel [7,0,1,2,3,4,5,6,8] rfl
    obtain ⟨h75,e76,S⟩:=S.store (off:=0) (n:=2) (x:=(.agg [.nilSlice,.nilSlice])) (cs':=[.nilSlice,.nilSlice]) (nl rfl) rfl rfl rfl
    refine ⟨h75,e76,?_⟩
    have S_6:=S
    have S:=S.sel [8,0,1,2,3,4,5,6,7] rfl
    obtain ⟨h77,e78,S⟩:=S.store (off:=0) (n:=4) (x:=(.agg [(.int .i64 b30.f.Err),(.int .i64 b30.f.At),(.int .i64 b30.f.Line),(.int .i64 b30.f.Col)])) (cs':=[(.int .i64 b30.f.Err),(.int .i64 b30.f.At),(.int .i64 b30.f.Line),(.int .i64 b30.f.Col)]) (nl rfl) rfl rfl rfl
    refine ⟨h77,e78,?_⟩
    refine ⟨⟨(.agg [(.int .i64 b30.f.Err),(.int .i64 b30.f.At),(.int .i64 b30.f.Line),(.int .i64 b30.f.Col)]),rdN_ev (S_4.rdN m6 (nl rfl) rfl),rdN_ev (S_5.rdN m6 (nl rfl) rfl),rdN_ev (S_6.rdN m7 (nl rfl) rfl)⟩,?_⟩
    refine ⟨.nilSlice,.nilSlice,S.rdN m1 (nl rfl) rfl,?_⟩
    refine ⟨(.int .i64 b30.f.Err),(.int .i64 b30.f.At),(.int .i64 b30.f.Line),(.int .i64 b30.f.Col),S.rdN m0 (nl rfl) rfl,?_⟩
    have S:St _ _ [own (fz rNet) [.nilSlice,.nilSlice] (TNet.mk [] []),_,_,_,_,_,_,_,_,_] _:=S.add (r:=rNet) (x:=(TNet.mk [] [])) (rNet_mk (x:=(TNet.mk [] [])) (SlR.nil _ _) (SlR.nil _ _))
    obtain rfl:=oi hf
    exact ⟨_,rfl,S.sel [0] rfl⟩
   rw [ifF hc] at hf
   refine oI (.ptr h45.n 0 0) rfl ?_
   refine iI.2 ⟨rfl,?_⟩
   refine ⟨b30c_6,b30c_7,S.rdN m6 (nl rfl) rfl,?_⟩
   obtain ⟨y31,hy31,hf⟩:=oB hf
   have S:=S.sel [3,0,1,2,4,5,6,7,8] rfl
   obtain ⟨h79,z80,S⟩:=St.freeze S
   refine ⟨_,z80,?_⟩
   refine (r41 (n0:=b30.n) (f0_0:=(S.sl (r:=(fz rPlace)) m3)) (f0_1:=S.slz (r:=rTrans) m0) hy31).mono fun v81 h82 T=>?_
   obtain ⟨c83,rfl,T⟩:=T
   have S:=S.comp T
   obtain ⟨ay31_0,ay31_1,rfl,Fay31_0,Fay31_1⟩:=rNet_open (S.fzr (.head _))
   have S:=S.drop
   have S:St _ _ [own (fz (rSl rPlace)) [ay31_0] y31.Places,_,_,_,_,_,_,_,_,_] _:=S.add (rSl_mk Fay31_0)
   have S:St _ _ [own (fz (rSl rTrans)) [ay31_1] y31.Trans,_,_,_,_,_,_,_,_,_,_] _:=S.add (rSl_mk Fay31_1)
   have S:=S.sel [9,0,1,2,3,4,5,6,7,8,10] rfl
   obtain ⟨h84,e85,S⟩:=S.store (off:=0) (n:=2) (x:=(.agg [ay31_0,ay31_1])) (cs':=[ay31_0,ay31_1]) (nl rfl) rfl rfl rfl
   refine ⟨h84,e85,?_⟩
   have S:=S.sel [10,0,1,2,3,4,5,6,7,8,9] rfl
   obtain ⟨h86,e87,S⟩:=S.store (off:=0) (n:=4) (x:=(.agg [(.int .i64 0),(.int .i64 0),(.int .i64 0),(.int .i64 0)])) (cs':=[(.int .i64 0),(.int .i64 0),(.int .i64 0),(.int .i64 0)]) (nl rfl) rfl rfl rfl
   refine ⟨h86,e87,?_⟩
   refine ⟨ay31_0,ay31_1,S.rdN m1 (nl rfl) rfl,?_⟩
   refine ⟨(.int .i64 0),(.int .i64 0),(.int .i64 0),(.int .i64 0),S.rdN m0 (nl rfl) rfl,?_⟩
   have S:St _ _ [own (fz rNet) [ay31_0,ay31_1] y31,_,_,_,_,_,_,_,_,_,_,_] _:=S.add (r:=rNet) (x:=y31) (rNet_mk (x:=y31) (S.slz (r:=rPlace) m3) (S.slz (r:=rTrans) m2))
   obtain rfl:=oi hf
   exact ⟨_,rfl,S.sel [0] rfl⟩
  ·rintro m88 y71 y72 y73 h74 ⟨l24,rfl,rfl,rfl,S,hit⟩
   obtain ⟨m70,q89,rfl,hf,hk⟩:=iter_some hit
   clear hit
   unfold B26_1
   unfold p26_l1 at hf
   try dsimp only at hf
   obtain ⟨b21,hb21,hf⟩:=oB hf
   have S:=S.sel [2,0,1] rfl
   obtain ⟨b21c_0,b21c_1,b21c_6,b21c_7,b21c_8,b21c_9,S⟩:=oparser_derefAt hb21 S
   refine oI _ rfl ?_
   refine iI.2 ⟨rfl,?_⟩
   refine iI.2 ⟨rfl,?_⟩
   refine ⟨b21.f.Err,S.rd1 m6 rfl,?_⟩
   intro jjj2
   have hjj2:∀ (b22:Bool) (h90:Heap),p26_j2 b21 b22=some q89→h74=h90→St h none' [rowC h.n [.nilSlice,.nilSlice] 0,rowC h32.n [(.int .i64 0),(.int .i64 0),(.int .i64 0),(.int .i64 0)] 0,rowC h45.n [b21c_0,b21c_1,(.int .i64 b21.f.Err),(.int .i64 b21.f.At),(.int .i64 b21.f.Line),(.int .i64 b21.f.Col),b21c_6,b21c_7,b21c_8,b21c_9] 0,own (fz (rSl (rI .u8))) [b21c_0] b21.p,own (oSl (fz rTl)) [b21c_1] b21.l,own (oSl (fz rPlace)) [b21c_6] b21.n.Places,own (oSl oTrans) [b21c_7] b21.n.Trans,own (oMap keS (AV.int .i64)) [b21c_8] b21.places,own (oMap keS AV.bool) [b21c_9] b21.told] h74→jjj2 b22 h90:=by
    rintro b22 h90 hf rfl S
    unfold p26_j2 at hf
    unfold jjj2
    refine bI (fun hc=>?_) (fun hc=>?_)
    ·rw [ifT hc] at hf
     obtain ⟨u23,hu23,hf⟩:=oB hf
     have S:St _ _ [own (fz (rSl (rI .u8))) [b21c_0] b21.p,_,_,_,_,_,_,_,_,_] _:=S.add (rSl_mk (S.slz (r:=(rI .u8)) m3))
     have S:=S.sel [0,5,6,7,8,9,3,1,2,4] rfl
     have S:St _ _ [own (oPtr oparser) [(.ptr h45.n 0 0)] (some b21),_,_,_] _:=oparser_shut (x:=b21) S
     refine ⟨_,Fz.refl _,?_⟩
     obtain ⟨fpu23,S1u375,backu23⟩:=St.lend [_] S
     refine (r40 (x0:=(some b21)) (S:=S1u375) hu23).mono fun v91 h92 T=>?_
     obtain ⟨rfl,T⟩:=T
     have S:St _ _ [own (oPtr oparser) [(.ptr h45.n 0 0)] u23,_,_,_] _:=backu23 _ _ T
     have S:=S.sel [1,2,0] rfl
     obtain rfl:=oi hf
     exact ⟨m70,Nat.lt_succ_self _,u23,rfl,rfl,rfl,S,hk⟩
    rw [ifF hc] at hf
    have S:St _ _ [own (fz (rSl (rI .u8))) [b21c_0] b21.p,_,_,_,_,_,_,_,_,_] _:=S.add (rSl_mk (S.slz (r:=(rI .u8)) m3))
    have S:=S.sel [0,5,6,7,8,9,3,1,2,4] rfl
    have S:St _ _ [own (oPtr oparser) [(.ptr h45.n 0 0)] (some b21),_,_,_] _:=oparser_shut (x:=b21) S
    have S:=S.sel [1,2,0] rfl
    obtain rfl:=oi hf
    obtain rfl:=hk
    exact ⟨(some b21),rfl,rfl,rfl,S,rfl⟩
   refine bI (fun hc=>?_) (fun hc=>?_)
   ·rw [ifD hc] at hf
    refine oI (.ptr h45.n 0 0) rfl ?_
    refine iI.2 ⟨rfl,?_⟩
    refine ⟨b21c_1,S.rd1 m6 rfl,?_⟩
    obtain ⟨e25,he25,hf⟩:=oB hf
    refine ix_go (S.sl (r:=(fz rTl)) m1) (Hp.le_refl _) he25 fun pe25=>?_
    refine iI.2 ⟨pe25,?_⟩
    obtain ⟨_,cr93,Rr93,Nr93,Or93,Zr93⟩:=St.idxO (r:=rTl) S m1 he25
    obtain rfl:=rTl_open Rr93
    refine ⟨e25.Kind,Or93 0 _ rfl,?_⟩
    have S:=S.sel [7,8,6,0,1,2,3,4,5] rfl
    exact hjj2 _ _  hf rfl S
   rw [ifE hc] at hf
   have S:=S.sel [7,8,6,0,1,2,3,4,5] rfl
   exact hjj2 _ _  hf rfl S
  exact ⟨(some (Tparser.mk x0 u12.1 (TFault.mk 0 0 0 0) (TNet.mk [] []) l27 [])),rfl,rfl,rfl,S,hL⟩
 ·rintro m94 y58 y59 y60 y61 y62 y63 y10 h64 ⟨l13,rfl,rfl,rfl,rfl,rfl,rfl,S,hit⟩
  obtain ⟨m57,q95,rfl,hf,hk⟩:=iter_some hit
  clear hit
  unfold B26_0
  unfold p26_l0 at hf
  try dsimp only at hf
  refine bI (fun hc=>?_) (fun hc=>?_)
  ·rw [ifD hc] at hf
   obtain ⟨e18,he18,hf⟩:=oB hf
   have V96:SlR rTl (Snap h64) (w36.sub 4 (0:Int).toNat ((IntKind.wrap .i64 ((u12.1.length:Int) - 1)):Int).toNat) y17:=slc_eq hy17▸SlR.sub (S.sl (r:=(fz rTl)) m2) (slc_le hy17).1 (slc_le hy17).2
   refine ix_go V96 (Hp.le_refl _) he18 fun pe18=>?_
   have V97:SlR rTl (Snap h64) (w36.sub 4 (0:Int).toNat ((IntKind.wrap .i64 ((u12.1.length:Int) - 1)):Int).toNat) y17:=slc_eq hy17▸SlR.sub (S.sl (r:=(fz rTl)) m2) (slc_le hy17).1 (slc_le hy17).2
   obtain ⟨_,cr98,Rr98,Nr98,Or98,Zr98⟩:=SlR.idx V97 (Hp.le_refl _) he18
   obtain rfl:=rTl_open Rr98
   refine ⟨(.int .u8 e18.Kind),(.str e18.Text),(.int .i64 e18.N),(.int .i64 e18.At),Nr98,?_⟩
   intro h99
   have S:St _ _ [rowC h64.n [(.int .u8 0),(.str ([]:List UInt8)),(.int .i64 0),(.int .i64 0)] 0,_,_,_,_,_,_,_] _:=S.pushRow [(.int .u8 0),(.str ([]:List UInt8)),(.int .i64 0),(.int .i64 0)]
   obtain ⟨h100,e101,S⟩:=S.store (off:=0) (n:=4) (x:=(.agg [(.int .u8 e18.Kind),(.str e18.Text),(.int .i64 e18.N),(.int .i64 e18.At)])) (cs':=[(.int .u8 e18.Kind),(.str e18.Text),(.int .i64 e18.N),(.int .i64 e18.At)]) (nl rfl) rfl rfl rfl
   refine ⟨h100,e101,?_⟩
   refine ⟨(.int .u8 e18.Kind),(.str e18.Text),(.int .i64 e18.N),(.int .i64 e18.At),S.rdN m0 (nl rfl) rfl,?_⟩
   obtain ⟨y19,hy19,hf⟩:=oB hf
   refine ⟨_,Fz.refl _,?_⟩
   refine (r39 (t0:=e18) (s1:=([112,108,97,99,101]:List UInt8)) hy19).mono fun v102 h103 T=>?_
   obtain ⟨rfl,T⟩:=T
   have S:St _ _ [_,_,_,_,_,_,_,_] _:=S.comp T
   refine ⟨y19,rfl,?_⟩
   intro jjj1
   have hjj1:∀ (b14:Bool) (h104:Heap),p26_j1 u12 y10 l13 b14=some q95→h103=h104→St h none' [rowC h.n [.nilSlice,.nilSlice] 0,rowC h32.n [(.int .i64 0),(.int .i64 0),(.int .i64 0),(.int .i64 0)] 0,own (oSl (fz rTl)) [w36] u12.1,rowC h45.n [a0_0,w36,(.int .i64 0),(.int .i64 0),(.int .i64 0),(.int .i64 0),.nilSlice,.nilSlice,(.map h38.n),(.map h44.n)] 0,own (fz (rSl (rI .u8))) [a0_0] x0,own (oMap keS (AV.int .i64)) [(.map h38.n)] l13,own (oMap keS AV.bool) [(.map h44.n)] []] h103→jjj1 b14 h104:=by
    rintro b14 h104 hf rfl S
    unfold p26_j1 at hf
    unfold jjj1
    intro jjj0
    have hjj0:∀  (h105:Heap) (l11:List (List UInt8×Int)),p26_j0 y10 l11=some q95→St h none' [rowC h.n [.nilSlice,.nilSlice] 0,rowC h32.n [(.int .i64 0),(.int .i64 0),(.int .i64 0),(.int .i64 0)] 0,own (oSl (fz rTl)) [w36] u12.1,rowC h45.n [a0_0,w36,(.int .i64 0),(.int .i64 0),(.int .i64 0),(.int .i64 0),.nilSlice,.nilSlice,(.map h38.n),(.map h44.n)] 0,own (fz (rSl (rI .u8))) [a0_0] x0,own (oMap keS (AV.int .i64)) [(.map h38.n)] l11,own (oMap keS AV.bool) [(.map h44.n)] []] h105→jjj0 h105:=by
     rintro h105 l11 hf S
     unfold p26_j0 at hf
     unfold jjj0
     obtain rfl:=oi hf
     exact ⟨m57,Nat.lt_succ_self _,l11,rfl,rfl,rfl,rfl,rfl,rfl,S,hk⟩
    refine bI (fun hc=>?_) (fun hc=>?_)
    ·rw [ifT hc] at hf
     refine oI (.ptr h45.n 0 0) rfl ?_
     refine iI.2 ⟨rfl,?_⟩
     refine ⟨(.map h38.n),S.rd1 m3 rfl,?_⟩
     obtain ⟨e15,he15,hf⟩:=oB hf
     refine ix_go (S.sl (r:=(fz rTl)) m2) (Hp.le_refl _) he15 fun pe15=>?_
     refine iI.2 ⟨pe15,?_⟩
     obtain ⟨_,cr106,Rr106,Nr106,Or106,Zr106⟩:=St.idxO (r:=rTl) S m2 he15
     obtain rfl:=rTl_open Rr106
     refine ⟨e15.Text,Or106 1 _ rfl,?_⟩
     refine ⟨_,S.look2 (e:=keS) (ve:=(AV.int .i64)) m5 e15.Text 0,?_⟩
     refine oI (.int .i64 ((mget keS l13 e15.Text).getD 0)) rfl ⟨((mget keS l13 e15.Text).getD 0),rfl,?_⟩
     refine oI (.bool (mget keS l13 e15.Text).isSome) rfl ⟨(mget keS l13 e15.Text).isSome,rfl,?_⟩
     refine bI (fun hc=>?_) (fun hc=>?_)
     ·rw [ifT hc] at hf
      refine oI (.ptr h45.n 0 0) rfl ?_
      refine iI.2 ⟨rfl,?_⟩
      refine ⟨(.map h38.n),S.rd1 m3 rfl,?_⟩
      obtain ⟨e16,he16,hf⟩:=oB hf
      refine ix_go (S.sl (r:=(fz rTl)) m2) (Hp.le_refl _) he16 fun pe16=>?_
      refine iI.2 ⟨pe16,?_⟩
      obtain ⟨_,cr107,Rr107,Nr107,Or107,Zr107⟩:=St.idxO (r:=rTl) S m2 he16
      obtain rfl:=rTl_open Rr107
      refine ⟨e16.Text,Or107 1 _ rfl,?_⟩
      refine oI (.ptr h45.n 0 0) rfl ?_
      refine iI.2 ⟨rfl,?_⟩
      refine ⟨(.map h38.n),S.rd1 m3 rfl,?_⟩
      refine ⟨_,S.lenM (e:=keS) (ve:=(AV.int .i64)) m5,_,rfl,?_⟩
      have S:=S.sel [5,0,1,2,3,4,6] rfl
      obtain ⟨h108,e109,S⟩:=S.setM e16.Text (l13.length:Int)
      refine ⟨_,h108,e109,?_⟩
      have S:=S.sel [1,2,3,4,5,0,6] rfl
      exact hjj0  _ (mput keS l13 e16.Text (l13.length:Int)) hf  S
     rw [ifF hc] at hf
     exact hjj0  _ l13 hf  S
    rw [ifF hc] at hf
    exact hjj0  _ l13 hf  S
   refine bI (fun hc=>?_) (fun hc=>?_)
   ·rw [ifT hc] at hf
    obtain ⟨e20,he20,hf⟩:=oB hf
    refine ix_go (S.sl (r:=(fz rTl)) m3) (Hp.le_refl _) he20 fun pe20=>?_
    refine iI.2 ⟨pe20,?_⟩
    obtain ⟨_,cr110,Rr110,Nr110,Or110,Zr110⟩:=St.idxO (r:=rTl) S m3 he20
    obtain rfl:=rTl_open Rr110
    refine ⟨e20.Kind,Or110 0 _ rfl,?_⟩
    have S:=S.sel [1,2,3,4,5,6,7] rfl
    exact hjj1 _ _  hf rfl S
   rw [ifF hc] at hf
   have S:=S.sel [1,2,3,4,5,6,7] rfl
   exact hjj1 _ _  hf rfl S
  rw [ifE hc] at hf
  have S:=S.sel [0,1,3,4,2,5,6] rfl
  obtain rfl:=oi hf
  obtain rfl:=hk
  exact ⟨l13,rfl,rfl,rfl,S,rfl⟩
 exact ⟨[],rfl,rfl,rfl,rfl,rfl,rfl,S,hL⟩
def p45_l0 (a0:List TArc) (b1:List TArc) (i10:Int):Option (Int⊕(Unit⊕Unit)):=if i10 < (a0.length:Int) then ((idx a0 i10).bind fun e11=>(idx b1 i10).bind fun e12=>if (!((decide (e11.Place=e12.Place))&&((decide (e11.N=e12.N))&&true)))=true then (some (.inr (.inl ()))) else (some (.inl (IntKind.wrap .i64 (i10+1))))) else (some (.inr (.inr ())))
def p45 (a0:List TArc) (b1:List TArc):Option Bool:=if (!decide ((a0.length:Int)=(b1.length:Int)))=true then (some false) else ((loopC (p45_l0 a0 b1) 0).bind fun res13=>(match res13 with | .inl _=>some false | .inr _=>some true))
theorem r45 {h:Heap} {a0_0:AV} {a1_0:AV} {a0:List TArc} {b1:List TArc} (f0_0:SlR rArc (Snap h) a0_0 a0) (f1_0:SlR rArc (Snap h) a1_0 b1) {r:Bool} (hf:p45 a0 b1=some r):ZC F 45 [a0_0,a1_0] h fun v h'=>v=.bool r∧St h none' [] h':=by
 refine w45 ?_
 unfold W45
 unfold p45 at hf
 have S:St h none' [] h:=St.refl _ _
 refine iI.2 ⟨(f0_0).is,?_⟩
 try rw [show (a0_0).slen=_ from (f0_0).slen]
 refine iI.2 ⟨(f1_0).is,?_⟩
 try rw [show (a1_0).slen=_ from (f1_0).slen]
 refine bI (fun hc=>?_) (fun hc=>?_)
 ·rw [ifT hc] at hf
  obtain rfl:=oi hf
  exact ⟨rfl,S.sel [] rfl⟩
 rw [ifF hc] at hf
 obtain ⟨res13,hL,hf⟩:=oB hf
 obtain ⟨n14,hL⟩:=loopC_iff.1 hL
 refine loopm45_0 (R:=fun (a15:AV) (b16:AV) (y17:Bool) (i18:Int) (h19:Heap)=>false=y17∧St h none' [] h19∧(.inl ())=res13) (X0:=fun (a20:AV) (b21:AV) (y22:Bool) (i23:Int) (h24:Heap)=>St h none' [] h24∧(.inr ())=res13) ?_ ?_ (loop45_0 (I:=fun (m25:Nat) (a26:AV) (b27:AV) (y28:Bool) (i10:Int) (h29:Heap)=>a0_0=a26∧a1_0=b27∧St h none' [] h29∧iter (p45_l0 a0 b1) m25 i10=some res13) ?_ (m:=n14) ?_)
 ·rintro a15 b16 y17 i18 h19 ⟨rfl,S,rfl⟩
  try dsimp only at hf
  obtain rfl:=oi hf
  exact ⟨rfl,S.sel [] rfl⟩
 ·rintro a20 b21 y22 i23 h24 ⟨S,rfl⟩
  try dsimp only at hf
  obtain rfl:=oi hf
  exact ⟨rfl,S.sel [] rfl⟩
 ·rintro m30 a26 b27 y28 i10 h29 ⟨rfl,rfl,S,hit⟩
  obtain ⟨m25,q31,rfl,hf,hk⟩:=iter_some hit
  clear hit
  unfold B45_0
  unfold p45_l0 at hf
  try dsimp only at hf
  refine iI.2 ⟨(f0_0).is,?_⟩
  try rw [show (a0_0).slen=_ from (f0_0).slen]
  refine bI (fun hc=>?_) (fun hc=>?_)
  ·rw [ifD hc] at hf
   obtain ⟨e11,he11,hf⟩:=oB hf
   refine ix_go f0_0 (sM S.le) he11 fun pe11=>?_
   obtain ⟨_,cr32,Rr32,Nr32,Or32,Zr32⟩:=SlR.idx f0_0 (sM S.le) he11
   obtain rfl:=rArc_open Rr32
   refine ⟨(.int .i64 e11.Place),(.int .i64 e11.N),Nr32,?_⟩
   obtain ⟨e12,he12,hf⟩:=oB hf
   refine ix_go f1_0 (sM S.le) he12 fun pe12=>?_
   obtain ⟨_,cr33,Rr33,Nr33,Or33,Zr33⟩:=SlR.idx f1_0 (sM S.le) he12
   obtain rfl:=rArc_open Rr33
   refine ⟨(.int .i64 e12.Place),(.int .i64 e12.N),Nr33,?_⟩
   refine oI (.bool (!((decide (e11.Place=e12.Place))&&((decide (e11.N=e12.N))&&true)))) rfl ⟨(!((decide (e11.Place=e12.Place))&&((decide (e11.N=e12.N))&&true))),rfl,?_⟩
   refine bI (fun hc=>?_) (fun hc=>?_)
   ·rw [ifT hc] at hf
    obtain rfl:=oi hf
    obtain rfl:=hk
    exact ⟨rfl,S,rfl⟩
   rw [ifF hc] at hf
   obtain rfl:=oi hf
   exact ⟨m25,Nat.lt_succ_self _,rfl,rfl,S,hk⟩
  rw [ifE hc] at hf
  obtain rfl:=oi hf
  obtain rfl:=hk
  exact ⟨S,rfl⟩
 exact ⟨rfl,rfl,S,hL⟩
def p29_l0 (x0:TNet) (x1:TNet) (st:Bool×Int):Option ((Bool×Int)⊕(Unit⊕Bool)):=match st with | (y10,y11)=>if y11 < (x0.Places.length:Int) then ((idx x0.Places y11).bind fun e12=>(idx x1.Places y11).bind fun e13=>if (!((e12.Name==e13.Name)&&((decide (e12.Tokens=e13.Tokens))&&true)))=true then (some (.inr (.inl ()))) else (some (.inl (y10,(IntKind.wrap .i64 (y11+1)))))) else (some (.inr (.inr y10)))
def p29_j0 (y14:Int) (b15:Bool):Option (Int⊕(Unit⊕Unit)):=if b15=true then (some (.inr (.inl ()))) else (some (.inl (IntKind.wrap .i64 (y14+1))))
def p29_j1 (y14:Int) (e16:TTrans) (e17:TTrans) (b18:Bool):Option (Int⊕(Unit⊕Unit)):=if b18=true then (p29_j0 y14 true) else ((p45 e16.Out e17.Out).bind fun y19=>p29_j0 y14 (!y19))
def p29_j2 (y14:Int) (e16:TTrans) (e17:TTrans) (b20:Bool):Option (Int⊕(Unit⊕Unit)):=if b20=true then (p29_j1 y14 e16 e17 true) else ((p45 e16.Not e17.Not).bind fun y21=>p29_j1 y14 e16 e17 (!y21))
def p29_j3 (y14:Int) (e16:TTrans) (e17:TTrans) (b22:Bool):Option (Int⊕(Unit⊕Unit)):=if b22=true then (p29_j2 y14 e16 e17 true) else ((p45 e16.In e17.In).bind fun y23=>p29_j2 y14 e16 e17 (!y23))
def p29_j4 (y14:Int) (e16:TTrans) (e17:TTrans) (b24:Bool):Option (Int⊕(Unit⊕Unit)):=if b24=true then (p29_j3 y14 e16 e17 true) else (p29_j3 y14 e16 e17 (!decide (e16.Prio=e17.Prio)))
def p29_l1 (x0:TNet) (x1:TNet) (y14:Int):Option (Int⊕(Unit⊕Unit)):=if y14 < (x0.Trans.length:Int) then ((idx x0.Trans y14).bind fun e16=>(idx x1.Trans y14).bind fun e17=>if (!(e16.Name==e17.Name))=true then (p29_j4 y14 e16 e17 true) else (p29_j4 y14 e16 e17 (!decide (e16.Delay=e17.Delay)))) else (some (.inr (.inr ())))
def p29_j5 (x0:TNet) (x1:TNet) (b25:Bool):Option Bool:=if b25=true then (some false) else ((loopC (p29_l0 x0 x1) (false,0)).bind fun res26=>(match res26 with | .inl _=>some false | .inr y27=>(loopC (p29_l1 x0 x1) 0).bind fun res28=>(match res28 with | .inl _=>some false | .inr _=>some true)))
def p29 (x0:TNet) (x1:TNet):Option Bool:=if (!decide ((x0.Places.length:Int)=(x1.Places.length:Int)))=true then (p29_j5 x0 x1 true) else (p29_j5 x0 x1 (!decide ((x0.Trans.length:Int)=(x1.Trans.length:Int))))
theorem r29 {h:Heap} {a0_0:AV} {a0_1:AV} {a1_0:AV} {a1_1:AV} {x0:TNet} {x1:TNet} (f0_0:SlR rPlace (Snap h) a0_0 x0.Places) (f0_1:SlR rTrans (Snap h) a0_1 x0.Trans) (f1_0:SlR rPlace (Snap h) a1_0 x1.Places) (f1_1:SlR rTrans (Snap h) a1_1 x1.Trans) {r:Bool} (hf:p29 x0 x1=some r):ZC F 29 [(.agg [a0_0,a0_1]),(.agg [a1_0,a1_1])] h fun v h'=>v=.bool r∧St h none' [] h':=by
 refine w29 ?_
 unfold W29
 unfold p29 at hf
 have S:St h none' [] h:=St.refl _ _
 intro h29
 have S:St _ _ [rowC h.n [a0_0,a0_1] 0] _:=S.pushRow [a0_0,a0_1]
 intro h30
 have S:St _ _ [rowC h29.n [a1_0,a1_1] 0,_] _:=S.pushRow [a1_0,a1_1]
 refine ⟨a0_0,S.rd1 m1 rfl,?_⟩
 refine iI.2 ⟨(f0_0).is,?_⟩
 try rw [show (a0_0).slen=_ from (f0_0).slen]
 refine ⟨a1_0,S.rd1 m0 rfl,?_⟩
 refine iI.2 ⟨(f1_0).is,?_⟩
 try rw [show (a1_0).slen=_ from (f1_0).slen]
 intro jjj5
 have hjj5:∀ (b25:Bool) (h31:Heap),p29_j5 x0 x1 b25=some r→h30=h31→St h none' [rowC h.n [a0_0,a0_1] 0,rowC h29.n [a1_0,a1_1] 0] h30→jjj5 b25 h31:=by
  rintro b25 h31 hf rfl S
  unfold p29_j5 at hf
  unfold jjj5
  refine bI (fun hc=>?_) (fun hc=>?_)
  ·rw [ifT hc] at hf
   obtain rfl:=oi hf
   exact ⟨rfl,S.sel [] rfl⟩
  rw [ifF hc] at hf
  obtain ⟨res26,hL,hf⟩:=oB hf
  obtain ⟨n32,hL⟩:=loopC_iff.1 hL
  refine loopm29_0 (R:=fun (y33:AV) (y34:AV) (y35:Bool) (y36:Int) (h37:Heap)=>false=y35∧St h none' [] h37∧(.inl ())=res26) (X0:=fun (y38:AV) (y39:AV) (y27:Bool) (y40:Int) (h41:Heap)=>AV.ptr h.n 0 0=y38∧AV.ptr h29.n 0 0=y39∧St h none' [rowC h.n [a0_0,a0_1] 0,rowC h29.n [a1_0,a1_1] 0] h41∧(.inr y27)=res26) ?_ ?_ (loop29_0 (I:=fun (m42:Nat) (y43:AV) (y44:AV) (y10:Bool) (y11:Int) (h45:Heap)=>AV.ptr h.n 0 0=y43∧AV.ptr h29.n 0 0=y44∧St h none' [rowC h.n [a0_0,a0_1] 0,rowC h29.n [a1_0,a1_1] 0] h45∧iter (p29_l0 x0 x1) m42 (y10,y11)=some res26) ?_ (m:=n32) ?_)
  ·rintro y33 y34 y35 y36 h37 ⟨rfl,S,rfl⟩
   try dsimp only at hf
   obtain rfl:=oi hf
   exact ⟨rfl,S.sel [] rfl⟩
  ·rintro y38 y39 y27 y40 h41 ⟨rfl,rfl,S,rfl⟩
   try dsimp only at hf
   obtain ⟨res28,hL,hf⟩:=oB hf
   obtain ⟨n46,hL⟩:=loopC_iff.1 hL
   refine loopm29_1 (R:=fun (y47:AV) (y48:AV) (y49:Bool) (y50:Int) (h51:Heap)=>false=y49∧St h none' [] h51∧(.inl ())=res28) (X2:=fun (y52:AV) (y53:AV) (y54:Bool) (y55:Int) (h56:Heap)=>St h none' [] h56∧(.inr ())=res28) ?_ ?_ (loop29_1 (I:=fun (m57:Nat) (y58:AV) (y59:AV) (y60:Bool) (y14:Int) (h61:Heap)=>AV.ptr h.n 0 0=y58∧AV.ptr h29.n 0 0=y59∧St h none' [rowC h.n [a0_0,a0_1] 0,rowC h29.n [a1_0,a1_1] 0] h61∧iter (p29_l1 x0 x1) m57 y14=some res28) ?_ (m:=n46) ?_)
   ·rintro y47 y48 y49 y50 h51 ⟨rfl,S,rfl⟩
    try dsimp only at hf
    obtain rfl:=oi hf
    exact ⟨rfl,S.sel [] rfl⟩
   ·rintro y52 y53 y54 y55 h56 ⟨S,rfl⟩
    try dsimp only at hf
    obtain rfl:=oi hf
    exact ⟨rfl,S.sel [] rfl⟩
   ·rintro m62 y58 y59 y60 y14 h61 ⟨rfl,rfl,S,hit⟩
    obtain ⟨m57,q63,rfl,hf,hk⟩:=iter_some hit
    clear hit
    unfold B29_1
    unfold p29_l1 at hf
    try dsimp only at hf
    refine iI.2 ⟨rfl,?_⟩
    refine ⟨a0_1,S.rd1 m0 rfl,?_⟩
    refine iI.2 ⟨(f0_1).is,?_⟩
    try rw [show (a0_1).slen=_ from (f0_1).slen]
    refine bI (fun hc=>?_) (fun hc=>?_)
    ·rw [ifD hc] at hf
     refine iI.2 ⟨rfl,?_⟩
     refine ⟨a0_1,S.rd1 m0 rfl,?_⟩
     obtain ⟨e16,he16,hf⟩:=oB hf
     refine ix_go f0_1 (sM S.le) he16 fun pe16=>?_
     obtain ⟨_,cr64,Rr64,Nr64,Or64,Zr64⟩:=SlR.idx f0_1 (sM S.le) he16
     obtain ⟨cr64_3,cr64_4,cr64_5,rfl,Fr64_3,Fr64_4,Fr64_5⟩:=rTrans_open Rr64
     refine ⟨(.str e16.Name),(.int .i64 e16.Delay),(.int .i64 e16.Prio),cr64_3,cr64_4,cr64_5,Nr64,?_⟩
     intro h65
     have S:St _ _ [rowC h61.n [(.str ([]:List UInt8)),(.int .i64 0),(.int .i64 0),.nilSlice,.nilSlice,.nilSlice] 0,_,_] _:=S.pushRow [(.str ([]:List UInt8)),(.int .i64 0),(.int .i64 0),.nilSlice,.nilSlice,.nilSlice]
     obtain ⟨h66,e67,S⟩:=S.store (off:=0) (n:=6) (x:=(.agg [(.str e16.Name),(.int .i64 e16.Delay),(.int .i64 e16.Prio),cr64_3,cr64_4,cr64_5])) (cs':=[(.str e16.Name),(.int .i64 e16.Delay),(.int .i64 e16.Prio),cr64_3,cr64_4,cr64_5]) (nl rfl) rfl rfl rfl
     refine ⟨h66,e67,?_⟩
     refine iI.2 ⟨rfl,?_⟩
     refine ⟨a1_1,S.rd1 m2 rfl,?_⟩
     obtain ⟨e17,he17,hf⟩:=oB hf
     refine ix_go f1_1 (sM S.le) he17 fun pe17=>?_
     obtain ⟨_,cr68,Rr68,Nr68,Or68,Zr68⟩:=SlR.idx f1_1 (sM S.le) he17
     obtain ⟨cr68_3,cr68_4,cr68_5,rfl,Fr68_3,Fr68_4,Fr68_5⟩:=rTrans_open Rr68
     refine ⟨(.str e17.Name),(.int .i64 e17.Delay),(.int .i64 e17.Prio),cr68_3,cr68_4,cr68_5,Nr68,?_⟩
     intro h69
     have S:St _ _ [rowC h66.n [(.str ([]:List UInt8)),(.int .i64 0),(.int .i64 0),.nilSlice,.nilSlice,.nilSlice] 0,_,_,_] _:=S.pushRow [(.str ([]:List UInt8)),(.int .i64 0),(.int .i64 0),.nilSlice,.nilSlice,.nilSlice]
     obtain ⟨h70,e71,S⟩:=S.store (off:=0) (n:=6) (x:=(.agg [(.str e17.Name),(.int .i64 e17.Delay),(.int .i64 e17.Prio),cr68_3,cr68_4,cr68_5])) (cs':=[(.str e17.Name),(.int .i64 e17.Delay),(.int .i64 e17.Prio),cr68_3,cr68_4,cr68_5]) (nl rfl) rfl rfl rfl
     refine ⟨h70,e71,?_⟩
     refine ⟨e16.Name,S.rd1 m1 rfl,?_⟩
     refine ⟨e17.Name,S.rd1 m0 rfl,?_⟩
     intro jjj4
     have hjj4:∀ (b24:Bool) (h72:Heap),p29_j4 y14 e16 e17 b24=some q63→h70=h72→St h none' [rowC h.n [a0_0,a0_1] 0,rowC h29.n [a1_0,a1_1] 0,rowC h61.n [(.str e16.Name),(.int .i64 e16.Delay),(.int .i64 e16.Prio),cr64_3,cr64_4,cr64_5] 0,rowC h66.n [(.str e17.Name),(.int .i64 e17.Delay),(.int .i64 e17.Prio),cr68_3,cr68_4,cr68_5] 0] h70→jjj4 b24 h72:=by
      rintro b24 h72 hf rfl S
      unfold p29_j4 at hf
      unfold jjj4
      intro jjj3
      have hjj3:∀ (b22:Bool) (h73:Heap),p29_j3 y14 e16 e17 b22=some q63→h70=h73→St h none' [rowC h.n [a0_0,a0_1] 0,rowC h29.n [a1_0,a1_1] 0,rowC h61.n [(.str e16.Name),(.int .i64 e16.Delay),(.int .i64 e16.Prio),cr64_3,cr64_4,cr64_5] 0,rowC h66.n [(.str e17.Name),(.int .i64 e17.Delay),(.int .i64 e17.Prio),cr68_3,cr68_4,cr68_5] 0] h70→jjj3 b22 h73:=by
       rintro b22 h73 hf rfl S
       unfold p29_j3 at hf
       unfold jjj3
       intro jjj2
       have hjj2:∀ (b20:Bool) (h74:Heap),p29_j2 y14 e16 e17 b20=some q63→St h none' [rowC h.n [a0_0,a0_1] 0,rowC h29.n [a1_0,a1_1] 0,rowC h61.n [(.str e16.Name),(.int .i64 e16.Delay),(.int .i64 e16.Prio),cr64_3,cr64_4,cr64_5] 0,rowC h66.n [(.str e17.Name),(.int .i64 e17.Delay),(.int .i64 e17.Prio),cr68_3,cr68_4,cr68_5] 0] h74→jjj2 b20 h74:=by
        rintro b20 h74 hf S
        unfold p29_j2 at hf
        unfold jjj2
        intro jjj1
        have hjj1:∀ (b18:Bool) (h75:Heap),p29_j1 y14 e16 e17 b18=some q63→St h none' [rowC h.n [a0_0,a0_1] 0,rowC h29.n [a1_0,a1_1] 0,rowC h61.n [(.str e16.Name),(.int .i64 e16.Delay),(.int .i64 e16.Prio),cr64_3,cr64_4,cr64_5] 0,rowC h66.n [(.str e17.Name),(.int .i64 e17.Delay),(.int .i64 e17.Prio),cr68_3,cr68_4,cr68_5] 0] h75→jjj1 b18 h75:=by
         rintro b18 h75 hf S
         unfold p29_j1 at hf
         unfold jjj1
         intro jjj0
         have hjj0:∀ (b15:Bool) (h76:Heap),p29_j0 y14 b15=some q63→St h none' [rowC h.n [a0_0,a0_1] 0,rowC h29.n [a1_0,a1_1] 0] h76→jjj0 b15 h76:=by
          rintro b15 h76 hf S
          unfold p29_j0 at hf
          unfold jjj0
          refine bI (fun hc=>?_) (fun hc=>?_)
          ·rw [ifT hc] at hf
           have S:=S.sel [] rfl
           obtain rfl:=oi hf
           obtain rfl:=hk
           exact ⟨rfl,S,rfl⟩
          rw [ifF hc] at hf
          obtain rfl:=oi hf
          exact ⟨m57,Nat.lt_succ_self _,rfl,rfl,S,hk⟩
         refine bI (fun hc=>?_) (fun hc=>?_)
         ·rw [ifT hc] at hf
          have S:=S.sel [0,1] rfl
          exact hjj0 _ _  hf  S
         rw [ifF hc] at hf
         refine iI.2 ⟨rfl,?_⟩
         refine ⟨cr64_5,S.rd1 m2 rfl,?_⟩
         refine iI.2 ⟨rfl,?_⟩
         refine ⟨cr68_5,S.rd1 m3 rfl,?_⟩
         obtain ⟨y19,hy19,hf⟩:=oB hf
         refine ⟨_,Fz.refl _,?_⟩
         refine (r45 (a0:=e16.Out) (b1:=e17.Out) (f0_0:=(SlR.mono (sM S.le) Fr64_5)) (f1_0:=(SlR.mono (sM S.le) Fr68_5)) hy19).mono fun v77 h78 T=>?_
         obtain ⟨rfl,T⟩:=T
         have S:St _ _ [_,_,_,_] _:=S.comp T
         refine ⟨y19,rfl,?_⟩
         have S:=S.sel [0,1] rfl
         exact hjj0 _ _  hf  S
        refine bI (fun hc=>?_) (fun hc=>?_)
        ·rw [ifT hc] at hf
         exact hjj1 _ _  hf  S
        rw [ifF hc] at hf
        refine iI.2 ⟨rfl,?_⟩
        refine ⟨cr64_4,S.rd1 m2 rfl,?_⟩
        refine iI.2 ⟨rfl,?_⟩
        refine ⟨cr68_4,S.rd1 m3 rfl,?_⟩
        obtain ⟨y21,hy21,hf⟩:=oB hf
        refine ⟨_,Fz.refl _,?_⟩
        refine (r45 (a0:=e16.Not) (b1:=e17.Not) (f0_0:=(SlR.mono (sM S.le) Fr64_4)) (f1_0:=(SlR.mono (sM S.le) Fr68_4)) hy21).mono fun v79 h80 T=>?_
        obtain ⟨rfl,T⟩:=T
        have S:St _ _ [_,_,_,_] _:=S.comp T
        refine ⟨y21,rfl,?_⟩
        exact hjj1 _ _  hf  S
       refine bI (fun hc=>?_) (fun hc=>?_)
       ·rw [ifT hc] at hf
        exact hjj2 _ _  hf  S
       rw [ifF hc] at hf
       refine iI.2 ⟨rfl,?_⟩
       refine ⟨cr64_3,S.rd1 m2 rfl,?_⟩
       refine iI.2 ⟨rfl,?_⟩
       refine ⟨cr68_3,S.rd1 m3 rfl,?_⟩
       obtain ⟨y23,hy23,hf⟩:=oB hf
       refine ⟨_,Fz.refl _,?_⟩
       refine (r45 (a0:=e16.In) (b1:=e17.In) (f0_0:=(SlR.mono (sM S.le) Fr64_3)) (f1_0:=(SlR.mono (sM S.le) Fr68_3)) hy23).mono fun v81 h82 T=>?_
       obtain ⟨rfl,T⟩:=T
       have S:St _ _ [_,_,_,_] _:=S.comp T
       refine ⟨y23,rfl,?_⟩
       exact hjj2 _ _  hf  S
      refine bI (fun hc=>?_) (fun hc=>?_)
      ·rw [ifT hc] at hf
       exact hjj3 _ _  hf rfl S
      rw [ifF hc] at hf
      refine iI.2 ⟨rfl,?_⟩
      refine ⟨e16.Prio,S.rd1 m2 rfl,?_⟩
      refine iI.2 ⟨rfl,?_⟩
      refine ⟨e17.Prio,S.rd1 m3 rfl,?_⟩
      exact hjj3 _ _  hf rfl S
     refine bI (fun hc=>?_) (fun hc=>?_)
     ·rw [ifT hc] at hf
      have S:=S.sel [2,3,1,0] rfl
      exact hjj4 _ _  hf rfl S
     rw [ifF hc] at hf
     refine ⟨e16.Delay,S.rd1 m1 rfl,?_⟩
     refine ⟨e17.Delay,S.rd1 m0 rfl,?_⟩
     have S:=S.sel [2,3,1,0] rfl
     exact hjj4 _ _  hf rfl S
    rw [ifE hc] at hf
    have S:=S.sel [] rfl
    obtain rfl:=oi hf
    obtain rfl:=hk
    exact ⟨S,rfl⟩
   exact ⟨rfl,rfl,S,hL⟩
  ·rintro m83 y43 y44 y10 y11 h45 ⟨rfl,rfl,S,hit⟩
   obtain ⟨m42,q84,rfl,hf,hk⟩:=iter_some hit
   clear hit
   unfold B29_0
   unfold p29_l0 at hf
   try dsimp only at hf
   refine iI.2 ⟨rfl,?_⟩
   refine ⟨a0_0,S.rd1 m0 rfl,?_⟩
   refine iI.2 ⟨(f0_0).is,?_⟩
   try rw [show (a0_0).slen=_ from (f0_0).slen]
   refine bI (fun hc=>?_) (fun hc=>?_)
   ·rw [ifD hc] at hf
    refine iI.2 ⟨rfl,?_⟩
    refine ⟨a0_0,S.rd1 m0 rfl,?_⟩
    obtain ⟨e12,he12,hf⟩:=oB hf
    refine ix_go f0_0 (sM S.le) he12 fun pe12=>?_
    obtain ⟨_,cr85,Rr85,Nr85,Or85,Zr85⟩:=SlR.idx f0_0 (sM S.le) he12
    obtain rfl:=rPlace_open Rr85
    refine ⟨(.str e12.Name),(.int .i64 e12.Tokens),Nr85,?_⟩
    refine iI.2 ⟨rfl,?_⟩
    refine ⟨a1_0,S.rd1 m1 rfl,?_⟩
    obtain ⟨e13,he13,hf⟩:=oB hf
    refine ix_go f1_0 (sM S.le) he13 fun pe13=>?_
    obtain ⟨_,cr86,Rr86,Nr86,Or86,Zr86⟩:=SlR.idx f1_0 (sM S.le) he13
    obtain rfl:=rPlace_open Rr86
    refine ⟨(.str e13.Name),(.int .i64 e13.Tokens),Nr86,?_⟩
    refine oI (.bool (!((e12.Name==e13.Name)&&((decide (e12.Tokens=e13.Tokens))&&true)))) rfl ⟨(!((e12.Name==e13.Name)&&((decide (e12.Tokens=e13.Tokens))&&true))),rfl,?_⟩
    refine bI (fun hc=>?_) (fun hc=>?_)
    ·rw [ifT hc] at hf
     have S:=S.sel [] rfl
     obtain rfl:=oi hf
     obtain rfl:=hk
     exact ⟨rfl,S,rfl⟩
    rw [ifF hc] at hf
    obtain rfl:=oi hf
    exact ⟨m42,Nat.lt_succ_self _,rfl,rfl,S,hk⟩
   rw [ifE hc] at hf
   obtain rfl:=oi hf
   obtain rfl:=hk
   exact ⟨rfl,rfl,S,rfl⟩
  exact ⟨rfl,rfl,S,hL⟩
 refine bI (fun hc=>?_) (fun hc=>?_)
 ·rw [ifT hc] at hf
  have S:=S.sel [1,0] rfl
  exact hjj5 _ _  hf rfl S
 rw [ifF hc] at hf
 refine ⟨a0_1,S.rd1 m1 rfl,?_⟩
 refine iI.2 ⟨(f0_1).is,?_⟩
 try rw [show (a0_1).slen=_ from (f0_1).slen]
 refine ⟨a1_1,S.rd1 m0 rfl,?_⟩
 refine iI.2 ⟨(f1_1).is,?_⟩
 try rw [show (a1_1).slen=_ from (f1_1).slen]
 have S:=S.sel [1,0] rfl
 exact hjj5 _ _  hf rfl S
def b42 (rec42:Int→Option (List UInt8)) (n0:Int):Option (List UInt8):=if n0 < 0 then ((rec42 (IntKind.wrap .i64 (0 - n0))).bind fun y103=>(catS ([45]:List UInt8) y103).bind fun s104=>some s104) else (if n0 < 10 then (some ([(IntKind.wrap .u8 (IntKind.wrap .i64 (48+n0)))].map u8)) else ((rec42 (IntKind.wrap .i64 (Int.tdiv n0 10))).bind fun y111=>(catS y111 ([(IntKind.wrap .u8 (IntKind.wrap .i64 (48+(Int.tmod n0 10))))].map u8)).bind fun s112=>some s112))
def q42:Nat→Int→Option (List UInt8)
  | 0=>fun _=>none
  | k+1=>b42 (q42 k)
def p42 (n0:Int):Option (List UInt8):=q42 64 n0
theorem rb42 (rec42:Int→Option (List UInt8)) (ih:∀ {h:Heap}  {n0:Int} {r:(List UInt8)} (hf:rec42 n0=some r),ZC F 42 [(.int .i64 n0)] h fun v h'=>v=.str r∧St h none' [] h') {h:Heap}  {n0:Int} {r:(List UInt8)} (hf:b42 rec42 n0=some r):ZC F 42 [(.int .i64 n0)] h fun v h'=>v=.str r∧St h none' [] h':=by
 refine w42 ?_
 unfold W42
 unfold b42 at hf
 have S:St h none' [] h:=St.refl _ _
 refine bI (fun hc=>?_) (fun hc=>?_)
 ·rw [ifD hc] at hf
  obtain ⟨y103,hy103,hf⟩:=oB hf
  refine ⟨_,Fz.refl _,?_⟩
  refine (ih (n0:=(IntKind.wrap .i64 (0 - n0))) hy103).mono fun v101 h102 T=>?_
  obtain ⟨rfl,T⟩:=T
  have S:St _ _ [] _:=S.comp T
  refine ⟨y103,rfl,?_⟩
  obtain ⟨s104,hs104,hf⟩:=oB hf
  refine oI (.str s104) (catS_ev hs104) ⟨s104,rfl,?_⟩
  obtain rfl:=oi hf
  exact ⟨rfl,S.sel [] rfl⟩
 rw [ifE hc] at hf
 refine bI (fun hc=>?_) (fun hc=>?_)
 ·rw [ifD hc] at hf
  intro h105
  have S:St _ _ [rowC h.n [(.int .u8 (IntKind.wrap .u8 (IntKind.wrap .i64 (48+n0))))] 0] _:=S.pushRow [(.int .u8 (IntKind.wrap .u8 (IntKind.wrap .i64 (48+n0))))]
  have S:St _ _ [own (oSl (fz (rI .u8))) [(.slice h.n 0 0 1 1)] [(IntKind.wrap .u8 (IntKind.wrap .i64 (48+n0)))]] _:=St.lit (r:=(rI .u8)) (els:=([(IntKind.wrap .u8 (IntKind.wrap .i64 (48+n0)))]:List Int).map fun n=>[AV.int .u8 n]) (l:=([(IntKind.wrap .u8 (IntKind.wrap .i64 (48+n0)))]:List Int)) (n:=1) S rfl (all2_intL _) rfl
  refine ⟨_,bytes_ev (S.sl (r:=(fz (rI .u8))) m0),([(IntKind.wrap .u8 (IntKind.wrap .i64 (48+n0)))].map u8),rfl,?_⟩
  obtain rfl:=oi hf
  exact ⟨rfl,S.sel [] rfl⟩
 rw [ifE hc] at hf
 have S_6:=S
 intro h107
 have S:St _ _ [rowC h.n [(.int .u8 (IntKind.wrap .u8 (IntKind.wrap .i64 (48+(Int.tmod n0 10)))))] 0] _:=S.pushRow [(.int .u8 (IntKind.wrap .u8 (IntKind.wrap .i64 (48+(Int.tmod n0 10)))))]
 have S_7:=S
 obtain ⟨y111,hy111,hf⟩:=oB hf
 refine (ih (n0:=(IntKind.wrap .i64 (Int.tdiv n0 10))) hy111).mono fun v109 h110 T=>?_
 obtain ⟨rfl,T⟩:=T
 have S:St _ _ [_] _:=S.comp T
 refine ⟨y111,rfl,?_⟩
 have S_8:=S
 refine ⟨_,St.bytesRow (l:=[(IntKind.wrap .u8 (IntKind.wrap .i64 (48+(Int.tmod n0 10))))]) S m0 rfl,([(IntKind.wrap .u8 (IntKind.wrap .i64 (48+(Int.tmod n0 10))))].map u8),rfl,?_⟩
 obtain ⟨s112,hs112,hf⟩:=oB hf
 refine oI (.str s112) (catS_ev hs112) ⟨s112,rfl,?_⟩
 refine ⟨sameRow_of S_7 m0 S_8 m0,?_⟩
 refine ⟨⟨_,St.bytesRow (l:=[(IntKind.wrap .u8 (IntKind.wrap .i64 (48+(Int.tmod n0 10))))]) S_8 m0 rfl,St.bytesRow (l:=[(IntKind.wrap .u8 (IntKind.wrap .i64 (48+(Int.tmod n0 10))))]) S_7 m0 rfl,St.bytesRow (l:=[(IntKind.wrap .u8 (IntKind.wrap .i64 (48+(Int.tmod n0 10))))]) S_8 m0 rfl⟩,?_⟩
 obtain rfl:=oi hf
 exact ⟨rfl,S.sel [] rfl⟩
theorem rq42:∀ (k:Nat) {h:Heap}  {n0:Int} {r:(List UInt8)} (hf:q42 k n0=some r),ZC F 42 [(.int .i64 n0)] h fun v h'=>v=.str r∧St h none' [] h'
  | 0=>by intros; contradiction
  | k+1=>rb42 (q42 k) (rq42 k)
theorem r42 {h:Heap}  {n0:Int} {r:(List UInt8)} (hf:p42 n0=some r):ZC F 42 [(.int .i64 n0)] h fun v h'=>v=.str r∧St h none' [] h':=rq42 64  hf
def p43_j0 (s10:List UInt8):Option (List UInt8):=some s10
def p43 (n0:TNet) (a1:TArc):Option (List UInt8):=(idx n0.Places a1.Place).bind fun e11=>if (!decide (a1.N=1))=true then ((p42 a1.N).bind fun y12=>(catS ([42]:List UInt8) y12).bind fun s13=>(catS e11.Name s13).bind fun s14=>p43_j0 s14) else (p43_j0 e11.Name)
theorem r43 {h:Heap} {a0_0:AV} {a0_1:AV} {n0:TNet} {a1:TArc} (f0_0:SlR rPlace (Snap h) a0_0 n0.Places) (f0_1:SlR rTrans (Snap h) a0_1 n0.Trans) {r:(List UInt8)} (hf:p43 n0 a1=some r):ZC F 43 [(.agg [a0_0,a0_1]),(.agg [(.int .i64 a1.Place),(.int .i64 a1.N)])] h fun v h'=>v=.str r∧St h none' [] h':=by
 refine w43 ?_
 unfold W43
 unfold p43 at hf
 have S:St h none' [] h:=St.refl _ _
 intro h15
 have S:St _ _ [rowC h.n [a0_0,a0_1] 0] _:=S.pushRow [a0_0,a0_1]
 intro h16
 have S:St _ _ [rowC h15.n [(.int .i64 a1.Place),(.int .i64 a1.N)] 0,_] _:=S.pushRow [(.int .i64 a1.Place),(.int .i64 a1.N)]
 refine ⟨a0_0,S.rd1 m1 rfl,?_⟩
 refine ⟨a1.Place,S.rd1 m0 rfl,?_⟩
 obtain ⟨e11,he11,hf⟩:=oB hf
 refine ix_go f0_0 (sM S.le) he11 fun pe11=>?_
 refine iI.2 ⟨pe11,?_⟩
 obtain ⟨_,cr17,Rr17,Nr17,Or17,Zr17⟩:=SlR.idx f0_0 (sM S.le) he11
 obtain rfl:=rPlace_open Rr17
 refine ⟨e11.Name,Or17 0 _ rfl,?_⟩
 refine ⟨a1.N,S.rd1 m0 rfl,?_⟩
 intro jjj0
 have hjj0:∀ (s10:List UInt8) (h18:Heap),p43_j0 s10=some r→St h none' [] h18→jjj0 s10 h18:=by
  rintro s10 h18 hf S
  unfold p43_j0 at hf
  unfold jjj0
  obtain rfl:=oi hf
  exact ⟨rfl,S.sel [] rfl⟩
 refine bI (fun hc=>?_) (fun hc=>?_)
 ·rw [ifT hc] at hf
  refine ⟨a1.N,S.rd1 m0 rfl,?_⟩
  obtain ⟨y12,hy12,hf⟩:=oB hf
  refine ⟨_,Fz.refl _,?_⟩
  refine (r42 (n0:=a1.N) hy12).mono fun v19 h20 T=>?_
  obtain ⟨rfl,T⟩:=T
  have S:St _ _ [_,_] _:=S.comp T
  refine ⟨y12,rfl,?_⟩
  obtain ⟨s13,hs13,hf⟩:=oB hf
  refine oI (.str s13) (catS_ev hs13) ⟨s13,rfl,?_⟩
  obtain ⟨s14,hs14,hf⟩:=oB hf
  refine oI (.str s14) (catS_ev hs14) ⟨s14,rfl,?_⟩
  have S:=S.sel [] rfl
  exact hjj0 _ _  hf  S
 rw [ifF hc] at hf
 have S:=S.sel [] rfl
 exact hjj0 _ _  hf  S
def p44_l0 (l0:List TArc) (place1:Int) (i10:Int):Option (Int⊕(Unit⊕Unit)):=if i10 < (l0.length:Int) then ((idx l0 i10).bind fun e11=>if e11.Place=place1 then (some (.inr (.inl ()))) else (some (.inl (IntKind.wrap .i64 (i10+1))))) else (some (.inr (.inr ())))
def p44 (l0:List TArc) (place1:Int) (n2:Int):Option (List TArc):=(loopC (p44_l0 l0 place1) 0).bind fun res12=>(match res12 with | .inl _=>some l0 | .inr _=>(app 16 l0 [(TArc.mk place1 n2)]).bind fun l13=>some l13)
theorem r44 {h:Heap} {a0_0:AV} {M:Nat→Prop} {l0:List TArc} {place1:Int} {n2:Int} (S:St h M [own (oSl (fz rArc)) [a0_0] l0] h) {r:(List TArc)} (hf:p44 l0 place1 n2=some r):ZC F 44 [a0_0,(.int .i64 place1),(.int .i64 n2)] h fun v h'=>St h M [own (oSl (fz rArc)) [v] r] h':=by
 refine w44 ?_
 unfold W44
 unfold p44 at hf
 obtain ⟨res12,hL,hf⟩:=oB hf
 obtain ⟨n14,hL⟩:=loopC_iff.1 hL
 refine loopm44_0 (R:=fun (l15:AV) (place16:Int) (n17:Int) (y18:AV) (i19:Int) (h20:Heap)=>a0_0=y18∧St h M [own (oSl (fz rArc)) [a0_0] l0] h20∧(.inl ())=res12) (X0:=fun (l21:AV) (place22:Int) (n23:Int) (y24:AV) (i25:Int) (h26:Heap)=>a0_0=l21∧place1=place22∧n2=n23∧St h M [own (oSl (fz rArc)) [a0_0] l0] h26∧(.inr ())=res12) ?_ ?_ (loop44_0 (I:=fun (m27:Nat) (l28:AV) (place29:Int) (n30:Int) (y31:AV) (i10:Int) (h32:Heap)=>a0_0=l28∧place1=place29∧n2=n30∧St h M [own (oSl (fz rArc)) [a0_0] l0] h32∧iter (p44_l0 l0 place1) m27 i10=some res12) ?_ (m:=n14) ?_)
 ·rintro l15 place16 n17 y18 i19 h20 ⟨rfl,S,rfl⟩
  try dsimp only at hf
  obtain rfl:=oi hf
  exact S.sel [0] rfl
 ·rintro l21 place22 n23 y24 i25 h26 ⟨rfl,rfl,rfl,S,rfl⟩
  try dsimp only at hf
  intro h33
  have S:St _ _ [rowC h26.n [(.int .i64 place1),(.int .i64 n2)] 0,_] _:=S.pushRow [(.int .i64 place1),(.int .i64 n2)]
  obtain ⟨l13,hl13,hf⟩:=oB hf
  have S:St _ _ [own (fz rArc) [(.int .i64 place1),(.int .i64 n2)] (TArc.mk place1 n2),_,_] _:=S.add (r:=rArc) (x:=(TArc.mk place1 n2)) (rArc_mk (x:=(TArc.mk place1 n2)))
  have S:=S.sel [2,0,1] rfl
  have ml13:=app_some hl13
  obtain ⟨v34,h35,e36,S⟩:=St.app1R (r:=(fz rArc)) (b:=16) S ml13.1
  have S:St _ _ [own (oSl (fz rArc)) [v34] l13] _:=S.cast1 (by rw [← ml13.2]<;>rfl)
  refine ⟨v34,h35,e36,?_⟩
  obtain rfl:=oi hf
  exact S.sel [0] rfl
 ·rintro m37 l28 place29 n30 y31 i10 h32 ⟨rfl,rfl,rfl,S,hit⟩
  obtain ⟨m27,q38,rfl,hf,hk⟩:=iter_some hit
  clear hit
  unfold B44_0
  unfold p44_l0 at hf
  try dsimp only at hf
  refine iI.2 ⟨((S.sl (r:=(fz rArc)) m0)).is,?_⟩
  try rw [show (a0_0).slen=_ from ((S.sl (r:=(fz rArc)) m0)).slen]
  refine bI (fun hc=>?_) (fun hc=>?_)
  ·rw [ifD hc] at hf
   obtain ⟨e11,he11,hf⟩:=oB hf
   refine ix_go (S.sl (r:=(fz rArc)) m0) (Hp.le_refl _) he11 fun pe11=>?_
   refine iI.2 ⟨pe11,?_⟩
   obtain ⟨_,cr39,Rr39,Nr39,Or39,Zr39⟩:=St.idxO (r:=rArc) S m0 he11
   obtain rfl:=rArc_open Rr39
   refine ⟨e11.Place,Or39 0 _ rfl,?_⟩
   refine bI (fun hc=>?_) (fun hc=>?_)
   ·rw [ifD hc] at hf
    obtain rfl:=oi hf
    obtain rfl:=hk
    exact ⟨rfl,S,rfl⟩
   rw [ifE hc] at hf
   obtain rfl:=oi hf
   exact ⟨m27,Nat.lt_succ_self _,rfl,rfl,rfl,S,hk⟩
  rw [ifE hc] at hf
  obtain rfl:=oi hf
  obtain rfl:=hk
  exact ⟨rfl,rfl,rfl,S,rfl⟩
 exact ⟨rfl,rfl,rfl,S,hL⟩
def p28_j0 (y10:Int) (c11:List TPlace) (y12:Int):Option ((Int×(List TPlace))⊕(List TPlace)):=(catS ([112]:List UInt8) ([(IntKind.wrap .u8 (IntKind.wrap .i64 (97+y10)))].map u8)).bind fun s13=>(app 24 c11 [(TPlace.mk s13 y12)]).bind fun c14=>some (.inl ((IntKind.wrap .i64 (y10+1)),c14))
def p28_l0 (x0:TDraft) (st:Int×(List TPlace)):Option ((Int×(List TPlace))⊕(List TPlace)):=match st with | (y10,c11)=>if y10 < (IntKind.wrap .i64 (1+(Int.tmod (x0.Tokens.length:Int) 7))) then (if y10 < (x0.Tokens.length:Int) then ((idx x0.Tokens y10).bind fun e15=>p28_j0 y10 c11 (IntKind.wrap .i64 (Int.tmod e15 5))) else (p28_j0 y10 c11 0)) else (some (.inr c11))
def p28_j1 (y16:Int) (c17:List TTrans) (e18:TAct) (s19:List UInt8) (c20:List TArc) (c21:List TArc) (c22:List TArc) (c23:Int):Option ((Int×(List TTrans))⊕(List TTrans)):=(app 104 c17 [(TTrans.mk s19 c23 (IntKind.wrap .i64 (Int.tmod e18.P 3)) c20 c21 c22)]).bind fun c24=>some (.inl ((IntKind.wrap .i64 (y16+1)),c24))
def p28_j2 (y16:Int) (c17:List TTrans) (e18:TAct) (s19:List UInt8) (c20:List TArc) (c21:List TArc) (c22:List TArc) (b25:Bool):Option ((Int×(List TTrans))⊕(List TTrans)):=if b25=true then (p28_j1 y16 c17 e18 s19 c20 c21 c22 1) else (p28_j1 y16 c17 e18 s19 c20 c21 c22 (IntKind.wrap .i64 (Int.tmod e18.D 5)))
def p28_j3 (y16:Int) (c17:List TTrans) (e18:TAct) (s19:List UInt8) (c20:List TArc) (c21:List TArc) (c22:List TArc):Option ((Int×(List TTrans))⊕(List TTrans)):=if (IntKind.wrap .i64 (Int.tmod e18.D 5))=0 then (p28_j2 y16 c17 e18 s19 c20 c21 c22 (decide (e18.D < 128))) else (p28_j2 y16 c17 e18 s19 c20 c21 c22 false)
def p28_j4 (c26:List TPlace) (y16:Int) (c17:List TTrans) (e18:TAct) (s19:List UInt8) (c20:List TArc) (c21:List TArc) (c27:List TArc):Option ((Int×(List TTrans))⊕(List TTrans)):=if 0 < (Int.tmod e18.Q 3) then ((remI .i64 (IntKind.wrap .i64 (IntKind.wrap .u8 (Int.tdiv e18.Q 3))) (c26.length:Int)).bind fun d28=>(p44 c27 d28 1).bind fun y29=>p28_j3 y16 c17 e18 s19 c20 c21 y29) else (p28_j3 y16 c17 e18 s19 c20 c21 c27)
def p28_j5 (c26:List TPlace) (y16:Int) (c17:List TTrans) (e18:TAct) (s19:List UInt8) (c20:List TArc) (c21:List TArc):Option ((Int×(List TTrans))⊕(List TTrans)):=if 0 < (Int.tmod e18.O 5) then ((remI .i64 (IntKind.wrap .i64 (IntKind.wrap .u8 (Int.tdiv e18.O 5))) (c26.length:Int)).bind fun d30=>(p44 [] d30 (IntKind.wrap .i64 (1+(IntKind.wrap .i64 (IntKind.wrap .u8 (Int.tdiv e18.O 128)))))).bind fun y31=>p28_j4 c26 y16 c17 e18 s19 c20 c21 y31) else (p28_j4 c26 y16 c17 e18 s19 c20 c21 [])
def p28_j6 (c26:List TPlace) (y16:Int) (c17:List TTrans) (e18:TAct) (s19:List UInt8) (c20:List TArc):Option ((Int×(List TTrans))⊕(List TTrans)):=if (Int.tmod e18.N 4)=0 then ((remI .i64 (IntKind.wrap .i64 (IntKind.wrap .u8 (Int.tdiv e18.N 4))) (c26.length:Int)).bind fun d32=>(p44 [] d32 (IntKind.wrap .i64 (1+(IntKind.wrap .i64 (IntKind.wrap .u8 (Int.tdiv e18.N 64)))))).bind fun y33=>p28_j5 c26 y16 c17 e18 s19 c20 y33) else (p28_j5 c26 y16 c17 e18 s19 c20 [])
def p28_j7 (x0:TDraft) (c26:List TPlace) (y16:Int) (c17:List TTrans) (b34:Bool):Option ((Int×(List TTrans))⊕(List TTrans)):=if b34=true then ((idx x0.Acts y16).bind fun e18=>(catS ([116]:List UInt8) ([(IntKind.wrap .u8 (IntKind.wrap .i64 (48+y16)))].map u8)).bind fun s35=>(catS s35 ([46,120]:List UInt8)).bind fun s19=>(remI .i64 (IntKind.wrap .i64 e18.I) (c26.length:Int)).bind fun d36=>(p44 [] d36 (IntKind.wrap .i64 (1+(Int.tmod (IntKind.wrap .i64 (IntKind.wrap .u8 (Int.tdiv e18.I 64))) 2)))).bind fun y37=>if (Int.tmod e18.J 3)=0 then ((remI .i64 (IntKind.wrap .i64 (IntKind.wrap .u8 (Int.tdiv e18.J 3))) (c26.length:Int)).bind fun d38=>(p44 y37 d38 1).bind fun y39=>p28_j6 c26 y16 c17 e18 s19 y39) else (p28_j6 c26 y16 c17 e18 s19 y37)) else (some (.inr c17))
def p28_l1 (x0:TDraft) (c26:List TPlace) (st:Int×(List TTrans)):Option ((Int×(List TTrans))⊕(List TTrans)):=match st with | (y16,c17)=>if y16 < (x0.Acts.length:Int) then (p28_j7 x0 c26 y16 c17 (decide (y16 < 9))) else (p28_j7 x0 c26 y16 c17 false)
def p28 (x0:TDraft):Option TNet:=(loopC (p28_l0 x0) (0,[])).bind fun res40=>((fun (c26:List TPlace)=>(loopC (p28_l1 x0 c26) (0,[])).bind fun res41=>((fun (c42:List TTrans)=>some (TNet.mk c26 c42)) res41)) res40)
theorem r28 {h:Heap} {a0_0:AV} {a0_1:AV} {x0:TDraft} (f0_0:SlR (rI .u8) (Snap h) a0_0 x0.Tokens) (f0_1:SlR rAct (Snap h) a0_1 x0.Acts) {r:TNet} (hf:p28 x0=some r):ZC F 28 [(.agg [a0_0,a0_1])] h fun v h'=>∃ cs,v=.agg cs∧St h none' [own oNet cs r] h':=by
 refine w28 ?_
 unfold W28
 unfold p28 at hf
 have S:St h none' [] h:=St.refl _ _
 intro h43
 have S:St _ _ [rowC h.n [a0_0,a0_1] 0] _:=S.pushRow [a0_0,a0_1]
 intro h44
 have S:St _ _ [rowC h43.n [.nilSlice,.nilSlice] 0,_] _:=S.pushRow [.nilSlice,.nilSlice]
 intro h45
 have S:St _ _ [rowC h44.n [.nilSlice,.nilSlice] 0,_,_] _:=S.pushRow [.nilSlice,.nilSlice]
 obtain ⟨res40,hL,hf⟩:=oB hf
 obtain ⟨n46,hL⟩:=loopC_iff.1 hL
 have S:St _ _ [own (oSl (fz rPlace)) [.nilSlice] [],_,_,_] _:=S.addE (oSl_nil _ _)
 have S:=S.sel [3,2,1,0] rfl
 refine loopm28_0 (X0:=fun (y47:AV) (y48:AV) (y49:AV) (y50:Int) (h51:Heap)=>∃ (c52:AV),∃ (c26:List TPlace),AV.ptr h.n 0 0=y47∧AV.ptr h43.n 0 0=y48∧AV.ptr h44.n 0 0=y49∧St h none' [rowC h.n [a0_0,a0_1] 0,rowC h43.n [.nilSlice,.nilSlice] 0,rowC h44.n [c52,.nilSlice] 0,own (oSl (fz rPlace)) [c52] c26] h51∧c26=res40) ?_ (loop28_0 (I:=fun (m53:Nat) (y54:AV) (y55:AV) (y56:AV) (y10:Int) (h57:Heap)=>∃ (c58:AV),∃ (c11:List TPlace),AV.ptr h.n 0 0=y54∧AV.ptr h43.n 0 0=y55∧AV.ptr h44.n 0 0=y56∧St h none' [rowC h.n [a0_0,a0_1] 0,rowC h43.n [.nilSlice,.nilSlice] 0,rowC h44.n [c58,.nilSlice] 0,own (oSl (fz rPlace)) [c58] c11] h57∧iter (p28_l0 x0) m53 (y10,c11)=some res40) ?_ (m:=n46) ?_)
 ·rintro y47 y48 y49 y50 h51 ⟨c52,c26,rfl,rfl,rfl,S,rfl⟩
  try dsimp only at hf
  refine iI.2 ⟨rfl,?_⟩
  refine ⟨c52,S.rd1 m2 rfl,?_⟩
  refine iI.2 ⟨((S.sl (r:=(fz rPlace)) m3)).is,?_⟩
  try rw [show (c52).slen=_ from ((S.sl (r:=(fz rPlace)) m3)).slen]
  obtain ⟨res41,hL,hf⟩:=oB hf
  obtain ⟨n59,hL⟩:=loopC_iff.1 hL
  have S:St _ _ [own (oSl oTrans) [.nilSlice] [],_,_,_,_] _:=S.addE (oSl_nil _ _)
  have S:=S.sel [1,2,3,4,0] rfl
  refine loopm28_1 (X2:=fun (y60:AV) (y61:AV) (y62:AV) (y63:Int) (y64:Int) (h65:Heap)=>∃ (c66:AV),∃ (c42:List TTrans),AV.ptr h43.n 0 0=y61∧AV.ptr h44.n 0 0=y62∧St h none' [rowC h43.n [.nilSlice,.nilSlice] 0,rowC h44.n [c52,c66] 0,own (oSl (fz rPlace)) [c52] c26,own (oSl oTrans) [c66] c42] h65∧c42=res41) ?_ (loop28_1 (I:=fun (m67:Nat) (y68:AV) (y69:AV) (y70:AV) (y71:Int) (y16:Int) (h72:Heap)=>∃ (c73:AV),∃ (c17:List TTrans),AV.ptr h.n 0 0=y68∧AV.ptr h43.n 0 0=y69∧AV.ptr h44.n 0 0=y70∧(c26.length:Int)=y71∧St h none' [rowC h.n [a0_0,a0_1] 0,rowC h43.n [.nilSlice,.nilSlice] 0,rowC h44.n [c52,c73] 0,own (oSl (fz rPlace)) [c52] c26,own (oSl oTrans) [c73] c17] h72∧iter (p28_l1 x0 c26) m67 (y16,c17)=some res41) ?_ (m:=n59) ?_)
  ·rintro y60 y61 y62 y63 y64 h65 ⟨c66,c42,rfl,rfl,S,rfl⟩
   try dsimp only at hf
   refine ⟨c52,c66,S.rdN m1 (nl rfl) rfl,?_⟩
   obtain ⟨h74,e75,S⟩:=S.store (off:=0) (n:=2) (x:=(.agg [c52,c66])) (cs':=[c52,c66]) (nl rfl) rfl rfl rfl
   refine ⟨h74,e75,?_⟩
   refine ⟨c52,c66,S.rdN m0 (nl rfl) rfl,?_⟩
   have S:=S.sel [2,3,0,1] rfl
   have S:St _ _ [own oNet [c52,c66] (TNet.mk c26 c42),_,_] _:=oNet_close (x:=(TNet.mk c26 c42)) S
   obtain rfl:=oi hf
   exact ⟨_,rfl,S.sel [0] rfl⟩
  ·rintro m76 y68 y69 y70 y71 y16 h72 ⟨c73,c17,rfl,rfl,rfl,rfl,S,hit⟩
   obtain ⟨m67,q77,rfl,hf,hk⟩:=iter_some hit
   clear hit
   unfold B28_1
   unfold p28_l1 at hf
   try dsimp only at hf
   refine iI.2 ⟨rfl,?_⟩
   refine ⟨a0_1,S.rd1 m0 rfl,?_⟩
   refine iI.2 ⟨(f0_1).is,?_⟩
   try rw [show (a0_1).slen=_ from (f0_1).slen]
   intro jjj7
   have hjj7:∀ (b34:Bool) (h78:Heap),p28_j7 x0 c26 y16 c17 b34=some q77→h72=h78→St h none' [rowC h.n [a0_0,a0_1] 0,rowC h43.n [.nilSlice,.nilSlice] 0,rowC h44.n [c52,c73] 0,own (oSl (fz rPlace)) [c52] c26,own (oSl oTrans) [c73] c17] h72→jjj7 b34 h78:=by
    rintro b34 h78 hf rfl S
    unfold p28_j7 at hf
    unfold jjj7
    refine bI (fun hc=>?_) (fun hc=>?_)
    ·rw [ifT hc] at hf
     refine iI.2 ⟨rfl,?_⟩
     refine ⟨a0_1,S.rd1 m0 rfl,?_⟩
     obtain ⟨e18,he18,hf⟩:=oB hf
     refine ix_go f0_1 (sM S.le) he18 fun pe18=>?_
     obtain ⟨_,cr79,Rr79,Nr79,Or79,Zr79⟩:=SlR.idx f0_1 (sM S.le) he18
     obtain rfl:=rAct_open Rr79
     refine ⟨(.int .u8 e18.D),(.int .u8 e18.P),(.int .u8 e18.I),(.int .u8 e18.J),(.int .u8 e18.N),(.int .u8 e18.O),(.int .u8 e18.Q),Nr79,?_⟩
     intro h80
     have S:St _ _ [rowC h72.n [(.int .u8 0),(.int .u8 0),(.int .u8 0),(.int .u8 0),(.int .u8 0),(.int .u8 0),(.int .u8 0)] 0,_,_,_,_,_] _:=S.pushRow [(.int .u8 0),(.int .u8 0),(.int .u8 0),(.int .u8 0),(.int .u8 0),(.int .u8 0),(.int .u8 0)]
     obtain ⟨h81,e82,S⟩:=S.store (off:=0) (n:=7) (x:=(.agg [(.int .u8 e18.D),(.int .u8 e18.P),(.int .u8 e18.I),(.int .u8 e18.J),(.int .u8 e18.N),(.int .u8 e18.O),(.int .u8 e18.Q)])) (cs':=[(.int .u8 e18.D),(.int .u8 e18.P),(.int .u8 e18.I),(.int .u8 e18.J),(.int .u8 e18.N),(.int .u8 e18.O),(.int .u8 e18.Q)]) (nl rfl) rfl rfl rfl
     refine ⟨h81,e82,?_⟩
     intro h83
     have S:St _ _ [rowC h81.n [(.int .u8 (IntKind.wrap .u8 (IntKind.wrap .i64 (48+y16))))] 0,_,_,_,_,_,_] _:=S.pushRow [(.int .u8 (IntKind.wrap .u8 (IntKind.wrap .i64 (48+y16))))]
     have S:St _ _ [own (oSl (fz (rI .u8))) [(.slice h81.n 0 0 1 1)] [(IntKind.wrap .u8 (IntKind.wrap .i64 (48+y16)))],_,_,_,_,_,_] _:=St.lit (r:=(rI .u8)) (els:=([(IntKind.wrap .u8 (IntKind.wrap .i64 (48+y16)))]:List Int).map fun n=>[AV.int .u8 n]) (l:=([(IntKind.wrap .u8 (IntKind.wrap .i64 (48+y16)))]:List Int)) (n:=1) S rfl (all2_intL _) rfl
     refine ⟨_,bytes_ev (S.sl (r:=(fz (rI .u8))) m0),([(IntKind.wrap .u8 (IntKind.wrap .i64 (48+y16)))].map u8),rfl,?_⟩
     obtain ⟨s35,hs35,hf⟩:=oB hf
     refine oI (.str s35) (catS_ev hs35) ⟨s35,rfl,?_⟩
     obtain ⟨s19,hs19,hf⟩:=oB hf
     refine oI (.str s19) (catS_ev hs19) ⟨s19,rfl,?_⟩
     refine ⟨e18.D,S.rd1 m1 rfl,?_⟩
     refine ⟨e18.P,S.rd1 m1 rfl,?_⟩
     intro h84
     have S:St _ _ [rowC h83.n [(.str ([]:List UInt8)),(.int .i64 0),(.int .i64 0),.nilSlice,.nilSlice,.nilSlice] 0,_,_,_,_,_,_,_] _:=S.pushRow [(.str ([]:List UInt8)),(.int .i64 0),(.int .i64 0),.nilSlice,.nilSlice,.nilSlice]
     obtain ⟨h85,e86,S⟩:=S.store (off:=0) (n:=6) (x:=(.agg [(.str s19),(.int .i64 (IntKind.wrap .i64 (Int.tmod e18.D 5))),(.int .i64 (IntKind.wrap .i64 (Int.tmod e18.P 3))),.nilSlice,.nilSlice,.nilSlice])) (cs':=[(.str s19),(.int .i64 (IntKind.wrap .i64 (Int.tmod e18.D 5))),(.int .i64 (IntKind.wrap .i64 (Int.tmod e18.P 3))),.nilSlice,.nilSlice,.nilSlice]) (nl rfl) rfl rfl rfl
     refine ⟨h85,e86,?_⟩
     refine ⟨.nilSlice,S.rd1 m0 rfl,?_⟩
     refine ⟨e18.I,S.rd1 m2 rfl,?_⟩
     obtain ⟨d36,hd36,hf⟩:=oB hf
     refine oI (.int .i64 d36) (remI_ev hd36) ⟨d36,rfl,?_⟩
     refine ⟨e18.I,S.rd1 m2 rfl,?_⟩
     obtain ⟨y37,hy37,hf⟩:=oB hf
     have S:St _ _ [own (oSl (fz rArc)) [.nilSlice] [],_,_,_,_,_,_,_,_] _:=S.addE (oSl_nil _ _)
     refine ⟨_,Fz.refl _,?_⟩
     obtain ⟨fpy37,S1y584,backy37⟩:=St.lend [_] S
     refine (r44 (l0:=[]) (place1:=d36) (n2:=(IntKind.wrap .i64 (1+(Int.tmod (IntKind.wrap .i64 (IntKind.wrap .u8 (Int.tdiv e18.I 64))) 2)))) (S:=S1y584) hy37).mono fun v87 h88 T=>?_
     have S:St _ _ [own (oSl (fz rArc)) [v87] y37,_,_,_,_,_,_,_,_] _:=backy37 _ _ T
     have S:=S.sel [1,0,2,3,4,5,6,7,8] rfl
     obtain ⟨h89,e90,S⟩:=S.storeS (off:=3) (x:=v87) (cs':=[(.str s19),(.int .i64 (IntKind.wrap .i64 (Int.tmod e18.D 5))),(.int .i64 (IntKind.wrap .i64 (Int.tmod e18.P 3))),v87,.nilSlice,.nilSlice]) (nl rfl) ((S.sl (r:=(fz rArc)) m1)).is rfl
     refine ⟨h89,e90,?_⟩
     refine ⟨e18.J,S.rd1 m3 rfl,?_⟩
     intro jjj6
     have hjj6:∀  (h91:Heap) (c92:AV) (c20:List TArc),p28_j6 c26 y16 c17 e18 s19 c20=some q77→St h none' [rowC h.n [a0_0,a0_1] 0,rowC h43.n [.nilSlice,.nilSlice] 0,rowC h44.n [c52,c73] 0,rowC h72.n [(.int .u8 e18.D),(.int .u8 e18.P),(.int .u8 e18.I),(.int .u8 e18.J),(.int .u8 e18.N),(.int .u8 e18.O),(.int .u8 e18.Q)] 0,rowC h83.n [(.str s19),(.int .i64 (IntKind.wrap .i64 (Int.tmod e18.D 5))),(.int .i64 (IntKind.wrap .i64 (Int.tmod e18.P 3))),c92,.nilSlice,.nilSlice] 0,own (oSl (fz rPlace)) [c52] c26,own (oSl oTrans) [c73] c17,own (oSl (fz rArc)) [c92] c20] h91→jjj6 h91:=by
      rintro h91 c92 c20 hf S
      unfold p28_j6 at hf
      unfold jjj6
      refine iI.2 ⟨rfl,?_⟩
      refine ⟨e18.N,S.rd1 m3 rfl,?_⟩
      intro jjj5
      have hjj5:∀  (h93:Heap) (c94:AV) (c21:List TArc),p28_j5 c26 y16 c17 e18 s19 c20 c21=some q77→St h none' [rowC h.n [a0_0,a0_1] 0,rowC h43.n [.nilSlice,.nilSlice] 0,rowC h44.n [c52,c73] 0,rowC h72.n [(.int .u8 e18.D),(.int .u8 e18.P),(.int .u8 e18.I),(.int .u8 e18.J),(.int .u8 e18.N),(.int .u8 e18.O),(.int .u8 e18.Q)] 0,rowC h83.n [(.str s19),(.int .i64 (IntKind.wrap .i64 (Int.tmod e18.D 5))),(.int .i64 (IntKind.wrap .i64 (Int.tmod e18.P 3))),c92,c94,.nilSlice] 0,own (oSl (fz rPlace)) [c52] c26,own (oSl oTrans) [c73] c17,own (oSl (fz rArc)) [c92] c20,own (oSl (fz rArc)) [c94] c21] h93→jjj5 h93:=by
       rintro h93 c94 c21 hf S
       unfold p28_j5 at hf
       unfold jjj5
       refine iI.2 ⟨rfl,?_⟩
       refine ⟨e18.O,S.rd1 m3 rfl,?_⟩
       intro jjj4
       have hjj4:∀  (h95:Heap) (c96:AV) (c27:List TArc),p28_j4 c26 y16 c17 e18 s19 c20 c21 c27=some q77→St h none' [rowC h.n [a0_0,a0_1] 0,rowC h43.n [.nilSlice,.nilSlice] 0,rowC h44.n [c52,c73] 0,rowC h72.n [(.int .u8 e18.D),(.int .u8 e18.P),(.int .u8 e18.I),(.int .u8 e18.J),(.int .u8 e18.N),(.int .u8 e18.O),(.int .u8 e18.Q)] 0,rowC h83.n [(.str s19),(.int .i64 (IntKind.wrap .i64 (Int.tmod e18.D 5))),(.int .i64 (IntKind.wrap .i64 (Int.tmod e18.P 3))),c92,c94,c96] 0,own (oSl (fz rPlace)) [c52] c26,own (oSl oTrans) [c73] c17,own (oSl (fz rArc)) [c92] c20,own (oSl (fz rArc)) [c94] c21,own (oSl (fz rArc)) [c96] c27] h95→jjj4 h95:=by
        rintro h95 c96 c27 hf S
        unfold p28_j4 at hf
        unfold jjj4
        refine iI.2 ⟨rfl,?_⟩
        refine ⟨e18.Q,S.rd1 m3 rfl,?_⟩
        intro jjj3
        have hjj3:∀  (h97:Heap) (c98:AV) (c22:List TArc),p28_j3 y16 c17 e18 s19 c20 c21 c22=some q77→St h none' [rowC h.n [a0_0,a0_1] 0,rowC h43.n [.nilSlice,.nilSlice] 0,rowC h44.n [c52,c73] 0,rowC h72.n [(.int .u8 e18.D),(.int .u8 e18.P),(.int .u8 e18.I),(.int .u8 e18.J),(.int .u8 e18.N),(.int .u8 e18.O),(.int .u8 e18.Q)] 0,rowC h83.n [(.str s19),(.int .i64 (IntKind.wrap .i64 (Int.tmod e18.D 5))),(.int .i64 (IntKind.wrap .i64 (Int.tmod e18.P 3))),c92,c94,c98] 0,own (oSl (fz rPlace)) [c52] c26,own (oSl oTrans) [c73] c17,own (oSl (fz rArc)) [c92] c20,own (oSl (fz rArc)) [c94] c21,own (oSl (fz rArc)) [c98] c22] h97→jjj3 h97:=by
         rintro h97 c98 c22 hf S
         unfold p28_j3 at hf
         unfold jjj3
         refine iI.2 ⟨rfl,?_⟩
         refine ⟨(IntKind.wrap .i64 (Int.tmod e18.D 5)),S.rd1 m4 rfl,?_⟩
         intro jjj2
         have hjj2:∀ (b25:Bool) (h99:Heap),p28_j2 y16 c17 e18 s19 c20 c21 c22 b25=some q77→h97=h99→St h none' [rowC h.n [a0_0,a0_1] 0,rowC h43.n [.nilSlice,.nilSlice] 0,rowC h44.n [c52,c73] 0,rowC h83.n [(.str s19),(.int .i64 (IntKind.wrap .i64 (Int.tmod e18.D 5))),(.int .i64 (IntKind.wrap .i64 (Int.tmod e18.P 3))),c92,c94,c98] 0,own (oSl (fz rPlace)) [c52] c26,own (oSl oTrans) [c73] c17,own (oSl (fz rArc)) [c92] c20,own (oSl (fz rArc)) [c94] c21,own (oSl (fz rArc)) [c98] c22] h97→jjj2 b25 h99:=by
          rintro b25 h99 hf rfl S
          unfold p28_j2 at hf
          unfold jjj2
          intro jjj1
          have hjj1:∀  (h100:Heap) (c23:Int),p28_j1 y16 c17 e18 s19 c20 c21 c22 c23=some q77→St h none' [rowC h.n [a0_0,a0_1] 0,rowC h43.n [.nilSlice,.nilSlice] 0,rowC h44.n [c52,c73] 0,rowC h83.n [(.str s19),(.int .i64 c23),(.int .i64 (IntKind.wrap .i64 (Int.tmod e18.P 3))),c92,c94,c98] 0,own (oSl (fz rPlace)) [c52] c26,own (oSl oTrans) [c73] c17,own (oSl (fz rArc)) [c92] c20,own (oSl (fz rArc)) [c94] c21,own (oSl (fz rArc)) [c98] c22] h100→jjj1 h100:=by
           rintro h100 c23 hf S
           unfold p28_j1 at hf
           unfold jjj1
           refine iI.2 ⟨rfl,?_⟩
           refine ⟨c73,S.rd1 m2 rfl,?_⟩
           refine ⟨(.str s19),(.int .i64 c23),(.int .i64 (IntKind.wrap .i64 (Int.tmod e18.P 3))),c92,c94,c98,S.rdN m3 (nl rfl) rfl,?_⟩
           intro h101
           have S:St _ _ [rowC h100.n [(.str s19),(.int .i64 c23),(.int .i64 (IntKind.wrap .i64 (Int.tmod e18.P 3))),c92,c94,c98] 0,_,_,_,_,_,_,_,_,_] _:=S.pushRow [(.str s19),(.int .i64 c23),(.int .i64 (IntKind.wrap .i64 (Int.tmod e18.P 3))),c92,c94,c98]
           obtain ⟨c24,hc24,hf⟩:=oB hf
           have S:=S.sel [7,8,9,0,1,2,3,4,5,6] rfl
           have S:St _ _ [own oTrans [(.str s19),(.int .i64 c23),(.int .i64 (IntKind.wrap .i64 (Int.tmod e18.P 3))),c92,c94,c98] (TTrans.mk s19 c23 (IntKind.wrap .i64 (Int.tmod e18.P 3)) c20 c21 c22),_,_,_,_,_,_,_] _:=oTrans_close (x:=(TTrans.mk s19 c23 (IntKind.wrap .i64 (Int.tmod e18.P 3)) c20 c21 c22)) S
           have S:=S.sel [7,0,1,2,3,4,5,6] rfl
           have mc24:=app_some hc24
           obtain ⟨v102,h103,e104,S⟩:=St.app1R (r:=oTrans) (b:=104) S mc24.1
           have S:St _ _ [own (oSl oTrans) [v102] c24,_,_,_,_,_] _:=S.cast1 (by rw [← mc24.2]<;>rfl)
           refine ⟨v102,h103,e104,?_⟩
           refine iI.2 ⟨rfl,?_⟩
           have S:=S.sel [3,0,1,2,4,5] rfl
           obtain ⟨h105,e106,S⟩:=S.storeS (off:=1) (x:=v102) (cs':=[c52,v102]) (nl rfl) ((S.sl (r:=oTrans) m1)).is rfl
           refine ⟨h105,e106,?_⟩
           have S:=S.sel [2,3,0,5,1] rfl
           obtain rfl:=oi hf
           exact ⟨m67,Nat.lt_succ_self _,v102,c24,rfl,rfl,rfl,rfl,S,hk⟩
          refine bI (fun hc=>?_) (fun hc=>?_)
          ·rw [ifT hc] at hf
           refine iI.2 ⟨rfl,?_⟩
           have S:=S.sel [3,0,1,2,4,5,6,7,8] rfl
           obtain ⟨h107,e108,S⟩:=S.store (off:=1) (n:=1) (x:=(.int .i64 1)) (cs':=[(.str s19),(.int .i64 1),(.int .i64 (IntKind.wrap .i64 (Int.tmod e18.P 3))),c92,c94,c98]) (nl rfl) rfl rfl rfl
           refine ⟨h107,e108,?_⟩
           have S:=S.sel [1,2,3,0,4,5,6,7,8] rfl
           exact hjj1  _ 1 hf  S
          rw [ifF hc] at hf
          exact hjj1  _ (IntKind.wrap .i64 (Int.tmod e18.D 5)) hf  S
         refine bI (fun hc=>?_) (fun hc=>?_)
         ·rw [ifD hc] at hf
          refine iI.2 ⟨rfl,?_⟩
          refine ⟨e18.D,S.rd1 m3 rfl,?_⟩
          have S:=S.sel [0,1,2,4,5,6,7,8,9] rfl
          exact hjj2 _ _  hf rfl S
         rw [ifE hc] at hf
         have S:=S.sel [0,1,2,4,5,6,7,8,9] rfl
         exact hjj2 _ _  hf rfl S
        refine bI (fun hc=>?_) (fun hc=>?_)
        ·rw [ifD hc] at hf
         refine iI.2 ⟨rfl,?_⟩
         refine ⟨c96,S.rd1 m4 rfl,?_⟩
         refine iI.2 ⟨rfl,?_⟩
         refine ⟨e18.Q,S.rd1 m3 rfl,?_⟩
         obtain ⟨d28,hd28,hf⟩:=oB hf
         refine oI (.int .i64 d28) (remI_ev hd28) ⟨d28,rfl,?_⟩
         obtain ⟨y29,hy29,hf⟩:=oB hf
         refine ⟨_,Fz.refl _,?_⟩
         have S:=S.sel [9,0,1,2,3,4,5,6,7,8] rfl
         obtain ⟨fpy29,S1y693,backy29⟩:=St.lend [_] S
         refine (r44 (l0:=c27) (place1:=d28) (n2:=1) (S:=S1y693) hy29).mono fun v109 h110 T=>?_
         have S:St _ _ [own (oSl (fz rArc)) [v109] y29,_,_,_,_,_,_,_,_,_] _:=backy29 _ _ T
         refine iI.2 ⟨rfl,?_⟩
         have S:=S.sel [5,0,1,2,3,4,6,7,8,9] rfl
         obtain ⟨h111,e112,S⟩:=S.storeS (off:=5) (x:=v109) (cs':=[(.str s19),(.int .i64 (IntKind.wrap .i64 (Int.tmod e18.D 5))),(.int .i64 (IntKind.wrap .i64 (Int.tmod e18.P 3))),c92,c94,v109]) (nl rfl) ((S.sl (r:=(fz rArc)) m1)).is rfl
         refine ⟨h111,e112,?_⟩
         have S:=S.sel [2,3,4,5,0,6,7,8,9,1] rfl
         exact hjj3  _ v109 y29 hf  S
        rw [ifE hc] at hf
        exact hjj3  _ c96 c27 hf  S
       refine bI (fun hc=>?_) (fun hc=>?_)
       ·rw [ifD hc] at hf
        refine iI.2 ⟨rfl,?_⟩
        refine ⟨.nilSlice,S.rd1 m4 rfl,?_⟩
        refine iI.2 ⟨rfl,?_⟩
        refine ⟨e18.O,S.rd1 m3 rfl,?_⟩
        obtain ⟨d30,hd30,hf⟩:=oB hf
        refine oI (.int .i64 d30) (remI_ev hd30) ⟨d30,rfl,?_⟩
        refine iI.2 ⟨rfl,?_⟩
        refine ⟨e18.O,S.rd1 m3 rfl,?_⟩
        obtain ⟨y31,hy31,hf⟩:=oB hf
        have S:St _ _ [own (oSl (fz rArc)) [.nilSlice] [],_,_,_,_,_,_,_,_,_] _:=S.addE (oSl_nil _ _)
        refine ⟨_,Fz.refl _,?_⟩
        obtain ⟨fpy31,S1y702,backy31⟩:=St.lend [_] S
        refine (r44 (l0:=[]) (place1:=d30) (n2:=(IntKind.wrap .i64 (1+(IntKind.wrap .i64 (IntKind.wrap .u8 (Int.tdiv e18.O 128)))))) (S:=S1y702) hy31).mono fun v113 h114 T=>?_
        have S:St _ _ [own (oSl (fz rArc)) [v113] y31,_,_,_,_,_,_,_,_,_] _:=backy31 _ _ T
        refine iI.2 ⟨rfl,?_⟩
        have S:=S.sel [5,0,1,2,3,4,6,7,8,9] rfl
        obtain ⟨h115,e116,S⟩:=S.storeS (off:=5) (x:=v113) (cs':=[(.str s19),(.int .i64 (IntKind.wrap .i64 (Int.tmod e18.D 5))),(.int .i64 (IntKind.wrap .i64 (Int.tmod e18.P 3))),c92,c94,v113]) (nl rfl) ((S.sl (r:=(fz rArc)) m1)).is rfl
        refine ⟨h115,e116,?_⟩
        have S:=S.sel [2,3,4,5,0,6,7,8,9,1] rfl
        exact hjj4  _ v113 y31 hf  S
       rw [ifE hc] at hf
       have S:St _ _ [own (oSl (fz rArc)) [.nilSlice] [],_,_,_,_,_,_,_,_,_] _:=S.addE (oSl_nil _ _)
       have S:=S.sel [1,2,3,4,5,6,7,8,9,0] rfl
       exact hjj4  _ .nilSlice [] hf  S
      refine bI (fun hc=>?_) (fun hc=>?_)
      ·rw [ifD hc] at hf
       refine iI.2 ⟨rfl,?_⟩
       refine ⟨.nilSlice,S.rd1 m4 rfl,?_⟩
       refine iI.2 ⟨rfl,?_⟩
       refine ⟨e18.N,S.rd1 m3 rfl,?_⟩
       obtain ⟨d32,hd32,hf⟩:=oB hf
       refine oI (.int .i64 d32) (remI_ev hd32) ⟨d32,rfl,?_⟩
       refine iI.2 ⟨rfl,?_⟩
       refine ⟨e18.N,S.rd1 m3 rfl,?_⟩
       obtain ⟨y33,hy33,hf⟩:=oB hf
       have S:St _ _ [own (oSl (fz rArc)) [.nilSlice] [],_,_,_,_,_,_,_,_] _:=S.addE (oSl_nil _ _)
       refine ⟨_,Fz.refl _,?_⟩
       obtain ⟨fpy33,S1y712,backy33⟩:=St.lend [_] S
       refine (r44 (l0:=[]) (place1:=d32) (n2:=(IntKind.wrap .i64 (1+(IntKind.wrap .i64 (IntKind.wrap .u8 (Int.tdiv e18.N 64)))))) (S:=S1y712) hy33).mono fun v117 h118 T=>?_
       have S:St _ _ [own (oSl (fz rArc)) [v117] y33,_,_,_,_,_,_,_,_] _:=backy33 _ _ T
       refine iI.2 ⟨rfl,?_⟩
       have S:=S.sel [5,0,1,2,3,4,6,7,8] rfl
       obtain ⟨h119,e120,S⟩:=S.storeS (off:=4) (x:=v117) (cs':=[(.str s19),(.int .i64 (IntKind.wrap .i64 (Int.tmod e18.D 5))),(.int .i64 (IntKind.wrap .i64 (Int.tmod e18.P 3))),c92,v117,.nilSlice]) (nl rfl) ((S.sl (r:=(fz rArc)) m1)).is rfl
       refine ⟨h119,e120,?_⟩
       have S:=S.sel [2,3,4,5,0,6,7,8,1] rfl
       exact hjj5  _ v117 y33 hf  S
      rw [ifE hc] at hf
      have S:St _ _ [own (oSl (fz rArc)) [.nilSlice] [],_,_,_,_,_,_,_,_] _:=S.addE (oSl_nil _ _)
      have S:=S.sel [1,2,3,4,5,6,7,8,0] rfl
      exact hjj5  _ .nilSlice [] hf  S
     refine bI (fun hc=>?_) (fun hc=>?_)
     ·rw [ifD hc] at hf
      refine ⟨v87,S.rd1 m0 rfl,?_⟩
      refine ⟨e18.J,S.rd1 m3 rfl,?_⟩
      obtain ⟨d38,hd38,hf⟩:=oB hf
      refine oI (.int .i64 d38) (remI_ev hd38) ⟨d38,rfl,?_⟩
      obtain ⟨y39,hy39,hf⟩:=oB hf
      refine ⟨_,Fz.refl _,?_⟩
      have S:=S.sel [1,0,2,3,4,5,6,7,8] rfl
      obtain ⟨fpy39,S1y721,backy39⟩:=St.lend [_] S
      refine (r44 (l0:=y37) (place1:=d38) (n2:=1) (S:=S1y721) hy39).mono fun v121 h122 T=>?_
      have S:St _ _ [own (oSl (fz rArc)) [v121] y39,_,_,_,_,_,_,_,_] _:=backy39 _ _ T
      have S:=S.sel [1,0,2,3,4,5,6,7,8] rfl
      obtain ⟨h123,e124,S⟩:=S.storeS (off:=3) (x:=v121) (cs':=[(.str s19),(.int .i64 (IntKind.wrap .i64 (Int.tmod e18.D 5))),(.int .i64 (IntKind.wrap .i64 (Int.tmod e18.P 3))),v121,.nilSlice,.nilSlice]) (nl rfl) ((S.sl (r:=(fz rArc)) m1)).is rfl
      refine ⟨h123,e124,?_⟩
      have S:=S.sel [4,5,6,3,0,7,8,1] rfl
      exact hjj6  _ v121 y39 hf  S
     rw [ifE hc] at hf
     have S:=S.sel [4,5,6,3,0,7,8,1] rfl
     exact hjj6  _ v87 y37 hf  S
    rw [ifF hc] at hf
    have S:=S.sel [1,2,3,4] rfl
    obtain rfl:=oi hf
    obtain rfl:=hk
    exact ⟨c73,c17,rfl,rfl,S,rfl⟩
   refine bI (fun hc=>?_) (fun hc=>?_)
   ·rw [ifD hc] at hf
    exact hjj7 _ _  hf rfl S
   rw [ifE hc] at hf
   exact hjj7 _ _  hf rfl S
  exact ⟨.nilSlice,[],rfl,rfl,rfl,rfl,S,hL⟩
 ·rintro m125 y54 y55 y56 y10 h57 ⟨c58,c11,rfl,rfl,rfl,S,hit⟩
  obtain ⟨m53,q126,rfl,hf,hk⟩:=iter_some hit
  clear hit
  unfold B28_0
  unfold p28_l0 at hf
  try dsimp only at hf
  refine iI.2 ⟨rfl,?_⟩
  refine ⟨a0_0,S.rd1 m0 rfl,?_⟩
  refine iI.2 ⟨(f0_0).is,?_⟩
  try rw [show (a0_0).slen=_ from (f0_0).slen]
  refine bI (fun hc=>?_) (fun hc=>?_)
  ·rw [ifD hc] at hf
   refine iI.2 ⟨rfl,?_⟩
   refine ⟨a0_0,S.rd1 m0 rfl,?_⟩
   refine iI.2 ⟨(f0_0).is,?_⟩
   try rw [show (a0_0).slen=_ from (f0_0).slen]
   intro jjj0
   have hjj0:∀ (y12:Int) (h127:Heap),p28_j0 y10 c11 y12=some q126→St h none' [rowC h.n [a0_0,a0_1] 0,rowC h43.n [.nilSlice,.nilSlice] 0,rowC h44.n [c58,.nilSlice] 0,own (oSl (fz rPlace)) [c58] c11] h127→jjj0 y12 h127:=by
    rintro y12 h127 hf S
    unfold p28_j0 at hf
    unfold jjj0
    refine iI.2 ⟨rfl,?_⟩
    refine ⟨c58,S.rd1 m2 rfl,?_⟩
    intro h128
    have S:St _ _ [rowC h127.n [(.int .u8 (IntKind.wrap .u8 (IntKind.wrap .i64 (97+y10))))] 0,_,_,_,_] _:=S.pushRow [(.int .u8 (IntKind.wrap .u8 (IntKind.wrap .i64 (97+y10))))]
    have S:St _ _ [own (oSl (fz (rI .u8))) [(.slice h127.n 0 0 1 1)] [(IntKind.wrap .u8 (IntKind.wrap .i64 (97+y10)))],_,_,_,_] _:=St.lit (r:=(rI .u8)) (els:=([(IntKind.wrap .u8 (IntKind.wrap .i64 (97+y10)))]:List Int).map fun n=>[AV.int .u8 n]) (l:=([(IntKind.wrap .u8 (IntKind.wrap .i64 (97+y10)))]:List Int)) (n:=1) S rfl (all2_intL _) rfl
    refine ⟨_,bytes_ev (S.sl (r:=(fz (rI .u8))) m0),([(IntKind.wrap .u8 (IntKind.wrap .i64 (97+y10)))].map u8),rfl,?_⟩
    obtain ⟨s13,hs13,hf⟩:=oB hf
    refine oI (.str s13) (catS_ev hs13) ⟨s13,rfl,?_⟩
    intro h129
    have S:St _ _ [rowC h128.n [(.str s13),(.int .i64 y12)] 0,_,_,_,_,_] _:=S.pushRow [(.str s13),(.int .i64 y12)]
    obtain ⟨c14,hc14,hf⟩:=oB hf
    have S:St _ _ [own (fz rPlace) [(.str s13),(.int .i64 y12)] (TPlace.mk s13 y12),_,_,_,_,_,_] _:=S.add (r:=rPlace) (x:=(TPlace.mk s13 y12)) (rPlace_mk (x:=(TPlace.mk s13 y12)))
    have S:=S.sel [6,0,1,2,3,4,5] rfl
    have mc14:=app_some hc14
    obtain ⟨v130,h131,e132,S⟩:=St.app1R (r:=(fz rPlace)) (b:=24) S mc14.1
    have S:St _ _ [own (oSl (fz rPlace)) [v130] c14,_,_,_,_] _:=S.cast1 (by rw [← mc14.2]<;>rfl)
    refine ⟨v130,h131,e132,?_⟩
    refine iI.2 ⟨rfl,?_⟩
    have S:=S.sel [4,0,1,2,3] rfl
    obtain ⟨h133,e134,S⟩:=S.storeS (off:=0) (x:=v130) (cs':=[v130,.nilSlice]) (nl rfl) ((S.sl (r:=(fz rPlace)) m1)).is rfl
    refine ⟨h133,e134,?_⟩
    have S:=S.sel [3,4,0,1] rfl
    obtain rfl:=oi hf
    exact ⟨m53,Nat.lt_succ_self _,v130,c14,rfl,rfl,rfl,S,hk⟩
   refine bI (fun hc=>?_) (fun hc=>?_)
   ·rw [ifD hc] at hf
    refine iI.2 ⟨rfl,?_⟩
    refine ⟨a0_0,S.rd1 m0 rfl,?_⟩
    obtain ⟨e15,he15,hf⟩:=oB hf
    refine ix_go f0_0 (sM S.le) he15 fun pe15=>?_
    obtain ⟨_,cr135,Rr135,Nr135,Or135,Zr135⟩:=SlR.idx f0_0 (sM S.le) he15
    obtain rfl:cr135=[(.int .u8 e15)]:=Rr135
    refine ⟨e15,Zr135 _ rfl,?_⟩
    exact hjj0 _ _  hf  S
   rw [ifE hc] at hf
   exact hjj0 _ _  hf  S
  rw [ifE hc] at hf
  obtain rfl:=oi hf
  obtain rfl:=hk
  exact ⟨c58,c11,rfl,rfl,rfl,S,rfl⟩
 exact ⟨.nilSlice,[],rfl,rfl,rfl,S,hL⟩
end
end Go.Proofs.Ytloaoofdbilpeaa
