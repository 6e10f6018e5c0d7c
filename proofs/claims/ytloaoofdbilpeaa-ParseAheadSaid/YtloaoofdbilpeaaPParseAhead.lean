/- Pure functions, and that the machine's functions answer as they do. No condition. Own work. -/
import Derived.Test.YtloaoofdbilpeaaSParseAhead
import Derived.Test.YtloaoofdbilpeaaTParseAhead
/- Pure functions, and that the machine's functions answer as they do; printed by a program of mine (pm.py). Own work. -/
namespace Go.Proofs.Ytloaoofdbilpeaa
open Go Go.Am
set_option linter.unusedVariables false
set_option linter.unusedSimpArgs false
/-! 74: internal/stringslite.IndexByte -/
noncomputable def p74 (s0:List UInt8) (c1:Int):Option Int:=some (idxB s0 c1)
theorem r74 {h:Heap}  {s0:List UInt8} {c1:Int} {r:Int} (hf:p74 s0 c1=some r):ZCalls F 74 [(.str s0),(.int .u8 c1)] h fun v h'=>v=.int .i64 r∧St h none' [] h':=by
 refine w74 ?_
 unfold W74
 unfold p74 at hf
 have S:St h none' [] h:=St.refl _ _
 refine oP_intro (.int .i64 (idxB s0 c1)) rfl ⟨(idxB s0 c1),rfl,?_⟩
 obtain rfl:=oi hf
 exact ⟨rfl,S.sel [] rfl⟩
/-! 48: strings.IndexByte -/
noncomputable def p48 (s0:List UInt8) (c1:Int):Option Int:=(p74 s0 c1).bind fun y103=>some y103
theorem r48 {h:Heap}  {s0:List UInt8} {c1:Int} {r:Int} (hf:p48 s0 c1=some r):ZCalls F 48 [(.str s0),(.int .u8 c1)] h fun v h'=>v=.int .i64 r∧St h none' [] h':=by
 refine w48 ?_
 unfold W48
 unfold p48 at hf
 have S:St h none' [] h:=St.refl _ _
 obtain ⟨y103,hy103,hf⟩:=obind hf
 refine ⟨_,Fz.refl _,?_⟩
 refine (r74 (s0:=s0) (c1:=c1) hy103).mono fun v101 h102 T=>?_
 obtain ⟨rfl,T⟩:=T
 have S:St _ _ [] _:=S.comp T
 refine ⟨y103,rfl,?_⟩
 obtain rfl:=oi hf
 exact ⟨rfl,S.sel [] rfl⟩
/-! 49: never come to -/
noncomputable def p49 (x0:List UInt8):Option Int:=none
theorem r49 {h:Heap} {x0:List UInt8} {r:Int} (hf:p49 x0=some r):ZCalls F 49 [.str x0] h fun v h'=>v=.int .i64 r∧St h none' [] h':=by
  unfold p49 at hf
  cases hf
/-! 75: never come to -/
noncomputable def p75 (x0:List UInt8) (x1:List UInt8):Option Int:=none
theorem r75 {h:Heap} {x0:List UInt8} {x1:List UInt8} {r:Int} (hf:p75 x0 x1=some r):ZCalls F 75 [.str x0,.str x1] h fun v h'=>v=.int .i64 r∧St h none' [] h':=by
  unfold p75 at hf
  cases hf
/-! 51: strings.Index -/
noncomputable def p51 (s0:List UInt8) (substr1:List UInt8):Option Int:=(p75 s0 substr1).bind fun y103=>some y103
theorem r51 {h:Heap}  {s0:List UInt8} {substr1:List UInt8} {r:Int} (hf:p51 s0 substr1=some r):ZCalls F 51 [(.str s0),(.str substr1)] h fun v h'=>v=.int .i64 r∧St h none' [] h':=by
 refine w51 ?_
 unfold W51
 unfold p51 at hf
 have S:St h none' [] h:=St.refl _ _
 obtain ⟨y103,hy103,hf⟩:=obind hf
 refine ⟨_,Fz.refl _,?_⟩
 refine (r75 (x0:=s0) (x1:=substr1) hy103).mono fun v101 h102 T=>?_
 obtain ⟨rfl,T⟩:=T
 have S:St _ _ [] _:=S.comp T
 refine ⟨y103,rfl,?_⟩
 obtain rfl:=oi hf
 exact ⟨rfl,S.sel [] rfl⟩
/-! 35: strings.Count -/
noncomputable def p35_l0 (substr1:List UInt8) (st:(List UInt8)×Int):Option (((List UInt8)×Int)⊕Int):=match st with | (s105,n108)=>(p51 s105 substr1).bind fun y126=>if y126=((-1):Int) then (some (.inr n108)) else ((slc s105 (IntKind.wrap .i64 (y126+(substr1.length:Int))) (s105.length:Int)).bind fun y127=>some (.inl (y127,(IntKind.wrap .i64 (n108+(1:Int))))))
noncomputable def p35 (s0:List UInt8) (substr1:List UInt8):Option Int:=if (substr1.length:Int)=(0:Int) then ((p49 s0).bind fun y103=>some (IntKind.wrap .i64 (y103+(1:Int)))) else (if (substr1.length:Int)=(1:Int) then ((idxS substr1 (0:Int)).bind fun y104=>some (cntB s0 y104)) else ((loopC (p35_l0 substr1) (s0,(0:Int))).bind fun res120=>((fun (y117:Int)=>some y117) res120)))
theorem r35 {h:Heap}  {s0:List UInt8} {substr1:List UInt8} {r:Int} (hf:p35 s0 substr1=some r):ZCalls F 35 [(.str s0),(.str substr1)] h fun v h'=>v=.int .i64 r∧St h none' [] h':=by
 refine w35 ?_
 unfold W35
 unfold p35 at hf
 have S:St h none' [] h:=St.refl _ _
 refine bP_intro (fun hc=>?_) (fun hc=>?_)
 ·rw [ifD hc] at hf
  obtain ⟨y103,hy103,hf⟩:=obind hf
  refine ⟨_,Fz.refl _,?_⟩
  refine (r49 (x0:=s0) hy103).mono fun v101 h102 T=>?_
  obtain ⟨rfl,T⟩:=T
  have S:St _ _ [] _:=S.comp T
  refine ⟨y103,rfl,?_⟩
  obtain rfl:=oi hf
  exact ⟨rfl,S.sel [] rfl⟩
 ·rw [ifE hc] at hf
  refine bP_intro (fun hc=>?_) (fun hc=>?_)
  ·rw [ifD hc] at hf
   obtain ⟨y104,hy104,hf⟩:=obind hf
   refine oP_intro (.int .u8 y104) (idxS_ev hy104) ⟨y104,rfl,?_⟩
   refine oP_intro (.int .i64 (cntB s0 y104)) rfl ⟨(cntB s0 y104),rfl,?_⟩
   obtain rfl:=oi hf
   exact ⟨rfl,S.sel [] rfl⟩
  ·rw [ifE hc] at hf
   obtain ⟨res120,hL,hf⟩:=obind hf
   obtain ⟨n121,hL⟩:=loopC_iff.1 hL
   refine loopm35_0 (R:=fun (s115:List UInt8) (substr116:List UInt8) (y117:Int) (n118:Int) (h119:Heap)=>St h none' [] h119∧y117=res120) ?_ (loop35_0 (I:=fun (m123:Nat) (s105:List UInt8) (substr106:List UInt8) (y107:Int) (n108:Int) (h109:Heap)=>substr1=substr106∧St h none' [] h109∧iter (p35_l0 substr1) m123 (s105,n108)=some res120) ?_ (m:=n121) ?_)
   ·rintro s115 substr116 y117 n118 h119 ⟨S,rfl⟩
    try dsimp only at hf
    obtain rfl:=oi hf
    exact ⟨rfl,S.sel [] rfl⟩
   ·rintro m1230 s105 substr106 y107 n108 h109 ⟨rfl,S,hit⟩
    obtain ⟨m123,q122,rfl,hf,hk⟩:=iter_some hit
    clear hit
    unfold B35_0
    unfold p35_l0 at hf
    try dsimp only at hf
    obtain ⟨y126,hy126,hf⟩:=obind hf
    refine ⟨_,Fz.refl _,?_⟩
    refine (r51 (s0:=s105) (substr1:=substr1) hy126).mono fun v124 h125 T=>?_
    obtain ⟨rfl,T⟩:=T
    have S:St _ _ [] _:=S.comp T
    refine ⟨y126,rfl,?_⟩
    refine bP_intro (fun hc=>?_) (fun hc=>?_)
    ·rw [ifD hc] at hf
     obtain rfl:=oi hf
     obtain rfl:=hk
     exact ⟨S,rfl⟩
    ·rw [ifE hc] at hf
     obtain ⟨y127,hy127,hf⟩:=obind hf
     refine oP_intro (.str y127) (sliceStr_ev10 hy127) ⟨y127,rfl,?_⟩
     obtain rfl:=oi hf
     exact ⟨m123,Nat.lt_succ_self _,rfl,S,hk⟩
   ·exact ⟨rfl,S,hL⟩
/-! 52: internal/bytealg.LastIndexByteString -/
noncomputable def p52_l0 (s0:List UInt8) (c1:Int) (i104:Int):Option (Int⊕(Int⊕Unit)):=if (0:Int)≤i104 then ((idxS s0 i104).bind fun y122=>if y122=c1 then (some (.inr (.inl i104))) else (some (.inl (IntKind.wrap .i64 (i104 - (1:Int)))))) else (some (.inr (.inr ())))
noncomputable def p52 (s0:List UInt8) (c1:Int):Option Int:=(loopC (p52_l0 s0 c1) (IntKind.wrap .i64 ((s0.length:Int) - (1:Int)))).bind fun res118=>(match res118 with | .inl y110=>some y110 | .inr _=>some ((-1):Int))
theorem r52 {h:Heap}  {s0:List UInt8} {c1:Int} {r:Int} (hf:p52 s0 c1=some r):ZCalls F 52 [(.str s0),(.int .u8 c1)] h fun v h'=>v=.int .i64 r∧St h none' [] h':=by
 refine w52 ?_
 unfold W52
 unfold p52 at hf
 have S:St h none' [] h:=St.refl _ _
 obtain ⟨res118,hL,hf⟩:=obind hf
 obtain ⟨n119,hL⟩:=loopC_iff.1 hL
 refine loopm52_0 (R:=fun (s108:List UInt8) (c109:Int) (y110:Int) (i111:Int) (h112:Heap)=>St h none' [] h112∧(.inl y110)=res118) (X0:=fun (s113:List UInt8) (c114:Int) (y115:Int) (i116:Int) (h117:Heap)=>St h none' [] h117∧(.inr ())=res118) ?_ ?_ (loop52_0 (I:=fun (m121:Nat) (s101:List UInt8) (c102:Int) (y103:Int) (i104:Int) (h105:Heap)=>s0=s101∧c1=c102∧St h none' [] h105∧iter (p52_l0 s0 c1) m121 i104=some res118) ?_ (m:=n119) ?_)
 ·rintro s108 c109 y110 i111 h112 ⟨S,rfl⟩
  try dsimp only at hf
  obtain rfl:=oi hf
  exact ⟨rfl,S.sel [] rfl⟩
 ·rintro s113 c114 y115 i116 h117 ⟨S,rfl⟩
  try dsimp only at hf
  obtain rfl:=oi hf
  exact ⟨rfl,S.sel [] rfl⟩
 ·rintro m1210 s101 c102 y103 i104 h105 ⟨rfl,rfl,S,hit⟩
  obtain ⟨m121,q120,rfl,hf,hk⟩:=iter_some hit
  clear hit
  unfold B52_0
  unfold p52_l0 at hf
  try dsimp only at hf
  refine bP_intro (fun hc=>?_) (fun hc=>?_)
  ·rw [ifD hc] at hf
   obtain ⟨y122,hy122,hf⟩:=obind hf
   refine oP_intro (.int .u8 y122) (idxS_ev hy122) ⟨y122,rfl,?_⟩
   refine bP_intro (fun hc=>?_) (fun hc=>?_)
   ·rw [ifD hc] at hf
    obtain rfl:=oi hf
    obtain rfl:=hk
    exact ⟨S,rfl⟩
   ·rw [ifE hc] at hf
    obtain rfl:=oi hf
    exact ⟨m121,Nat.lt_succ_self _,rfl,rfl,S,hk⟩
  ·rw [ifE hc] at hf
   obtain rfl:=oi hf
   obtain rfl:=hk
   exact ⟨S,rfl⟩
 ·exact ⟨rfl,rfl,S,hL⟩
/-! 36: strings.LastIndexByte -/
noncomputable def p36 (s0:List UInt8) (c1:Int):Option Int:=(p52 s0 c1).bind fun y103=>some y103
theorem r36 {h:Heap}  {s0:List UInt8} {c1:Int} {r:Int} (hf:p36 s0 c1=some r):ZCalls F 36 [(.str s0),(.int .u8 c1)] h fun v h'=>v=.int .i64 r∧St h none' [] h':=by
 refine w36 ?_
 unfold W36
 unfold p36 at hf
 have S:St h none' [] h:=St.refl _ _
 obtain ⟨y103,hy103,hf⟩:=obind hf
 refine ⟨_,Fz.refl _,?_⟩
 refine (r52 (s0:=s0) (c1:=c1) hy103).mono fun v101 h102 T=>?_
 obtain ⟨rfl,T⟩:=T
 have S:St _ _ [] _:=S.comp T
 refine ⟨y103,rfl,?_⟩
 obtain rfl:=oi hf
 exact ⟨rfl,S.sel [] rfl⟩
/-! 37: marblerun/lex.small -/
noncomputable def p37_j0 (b101:Bool):Option Bool:=some b101
noncomputable def p37 (c0:Int):Option Bool:=if (97:Int)≤c0 then (p37_j0 (decide (c0≤(122:Int)))) else (p37_j0 false)
theorem r37 {h:Heap}  {c0:Int} {r:Bool} (hf:p37 c0=some r):ZCalls F 37 [(.int .u8 c0)] h fun v h'=>v=.bool r∧St h none' [] h':=by
 refine w37 ?_
 unfold W37
 unfold p37 at hf
 have S:St h none' [] h:=St.refl _ _
 intro jjj0
 have hjj0:∀ (b101:Bool) (h102:Heap),p37_j0 b101=some r→h=h102→St h none' [] h→jjj0 b101 h102:=by
  rintro b101 h102 hf rfl S
  unfold p37_j0 at hf
  unfold jjj0
  obtain rfl:=oi hf
  exact ⟨rfl,S.sel [] rfl⟩
 refine bP_intro (fun hc=>?_) (fun hc=>?_)
 ·rw [ifD hc] at hf
  exact hjj0 _ _  hf rfl S
 ·rw [ifE hc] at hf
  exact hjj0 _ _  hf rfl S
/-! 38: marblerun/lex.digit -/
noncomputable def p38_j0 (b101:Bool):Option Bool:=some b101
noncomputable def p38 (c0:Int):Option Bool:=if (48:Int)≤c0 then (p38_j0 (decide (c0≤(57:Int)))) else (p38_j0 false)
theorem r38 {h:Heap}  {c0:Int} {r:Bool} (hf:p38 c0=some r):ZCalls F 38 [(.int .u8 c0)] h fun v h'=>v=.bool r∧St h none' [] h':=by
 refine w38 ?_
 unfold W38
 unfold p38 at hf
 have S:St h none' [] h:=St.refl _ _
 intro jjj0
 have hjj0:∀ (b101:Bool) (h102:Heap),p38_j0 b101=some r→h=h102→St h none' [] h→jjj0 b101 h102:=by
  rintro b101 h102 hf rfl S
  unfold p38_j0 at hf
  unfold jjj0
  obtain rfl:=oi hf
  exact ⟨rfl,S.sel [] rfl⟩
 refine bP_intro (fun hc=>?_) (fun hc=>?_)
 ·rw [ifD hc] at hf
  exact hjj0 _ _  hf rfl S
 ·rw [ifE hc] at hf
  exact hjj0 _ _  hf rfl S
/-! 31: marblerun/lex.blank -/
noncomputable def p31_l0 (p0:List Int) (at102:Int):Option (Int⊕(Int⊕Int)):=if at102 < (p0.length:Int) then ((idx p0 at102).bind fun e129=>(p48 ([32,9,13,10]:List UInt8) e129).bind fun y133=>if (0:Int)≤y133 then (some (.inl (IntKind.wrap .i64 (at102+(1:Int))))) else ((idx p0 at102).bind fun e134=>if e134=(35:Int) then ((slc p0 at102 (p0.length:Int)).bind fun y136=>(p48 (y136.map u8) (10:Int)).bind fun y139=>if y139 < (0:Int) then (some (.inr (.inl (p0.length:Int)))) else (some (.inl (IntKind.wrap .i64 (at102+y139))))) else (some (.inr (.inl at102))))) else (some (.inr (.inr at102)))
noncomputable def p31 (p0:List Int) (at1:Int):Option Int:=(loopC (p31_l0 p0) at1).bind fun res125=>(match res125 with | .inl y119=>some y119 | .inr at122=>some at122)
theorem r31 {h:Heap} {a0_0:AV} {p0:List Int} {at1:Int} (f0_0:SlR (rI .u8) (Snap h) a0_0 p0) {r:Int} (hf:p31 p0 at1=some r):ZCalls F 31 [a0_0,(.int .i64 at1)] h fun v h'=>v=.int .i64 r∧St h none' [] h':=by
 refine w31 ?_
 unfold W31
 unfold p31 at hf
 have S:St h none' [] h:=St.refl _ _
 obtain ⟨res125,hL,hf⟩:=obind hf
 obtain ⟨n126,hL⟩:=loopC_iff.1 hL
 refine loopm31_0 (R:=fun (p117:AV) (at118:Int) (y119:Int) (h120:Heap)=>St h none' [] h120∧(.inl y119)=res125) (X0:=fun (p121:AV) (at122:Int) (y123:Int) (h124:Heap)=>St h none' [] h124∧(.inr at122)=res125) ?_ ?_ (loop31_0 (I:=fun (m128:Nat) (p101:AV) (at102:Int) (y103:Int) (h104:Heap)=>a0_0=p101∧St h none' [] h104∧iter (p31_l0 p0) m128 at102=some res125) ?_ (m:=n126) ?_)
 ·rintro p117 at118 y119 h120 ⟨S,rfl⟩
  try dsimp only at hf
  obtain rfl:=oi hf
  exact ⟨rfl,S.sel [] rfl⟩
 ·rintro p121 at122 y123 h124 ⟨S,rfl⟩
  try dsimp only at hf
  obtain rfl:=oi hf
  exact ⟨rfl,S.sel [] rfl⟩
 ·rintro m1280 p101 at102 y103 h104 ⟨rfl,S,hit⟩
  obtain ⟨m128,q127,rfl,hf,hk⟩:=iter_some hit
  clear hit
  unfold B31_0
  unfold p31_l0 at hf
  try dsimp only at hf
  refine ifP_iff.2 ⟨(f0_0).is,?_⟩
  try rw [show (a0_0).slen=_ from (f0_0).slen]
  refine bP_intro (fun hc=>?_) (fun hc=>?_)
  ·rw [ifD hc] at hf
   obtain ⟨e129,he129,hf⟩:=obind hf
   refine ix_go f0_0 (snap_mono S.le) he129 fun pe129=>?_
   obtain ⟨_,cr130,Rr130,Nr130,Or130,Zr130⟩:=SlR.idx f0_0 (snap_mono S.le) he129
   obtain rfl:cr130=[(.int .u8 e129)]:=Rr130
   refine ⟨e129,Zr130 _ rfl,?_⟩
   obtain ⟨y133,hy133,hf⟩:=obind hf
   refine ⟨_,Fz.refl _,?_⟩
   refine (r48 (s0:=([32,9,13,10]:List UInt8)) (c1:=e129) hy133).mono fun v131 h132 T=>?_
   obtain ⟨rfl,T⟩:=T
   have S:St _ _ [] _:=S.comp T
   refine ⟨y133,rfl,?_⟩
   refine bP_intro (fun hc=>?_) (fun hc=>?_)
   ·rw [ifD hc] at hf
    obtain rfl:=oi hf
    exact ⟨m128,Nat.lt_succ_self _,rfl,S,hk⟩
   ·rw [ifE hc] at hf
    obtain ⟨e134,he134,hf⟩:=obind hf
    refine ix_go f0_0 (snap_mono S.le) he134 fun pe134=>?_
    obtain ⟨_,cr135,Rr135,Nr135,Or135,Zr135⟩:=SlR.idx f0_0 (snap_mono S.le) he134
    obtain rfl:cr135=[(.int .u8 e134)]:=Rr135
    refine ⟨e134,Zr135 _ rfl,?_⟩
    refine bP_intro (fun hc=>?_) (fun hc=>?_)
    ·rw [ifD hc] at hf
     obtain ⟨y136,hy136,hf⟩:=obind hf
     have ey136:=(sliceSl_ev10 (k:=.i64) f0_0 hy136)
     have fy136:SlR (rI .u8) (Snap h) (a0_0.sub 1 (at102:Int).toNat ((p0.length:Int):Int).toNat) y136:=slc_eq hy136▸SlR.sub f0_0 (slc_le hy136).1 (slc_le hy136).2
     refine oP_intro (a0_0.sub 1 (at102:Int).toNat ((p0.length:Int):Int).toNat) ey136 ?_
     refine ⟨_,bytes_ev (SlR.mono (snap_mono S.le) fy136),(y136.map u8),rfl,?_⟩
     obtain ⟨y139,hy139,hf⟩:=obind hf
     refine ⟨_,Fz.refl _,?_⟩
     refine (r48 (s0:=(y136.map u8)) (c1:=(10:Int)) hy139).mono fun v137 h138 T=>?_
     obtain ⟨rfl,T⟩:=T
     have S:St _ _ [] _:=S.comp T
     refine ⟨y139,rfl,?_⟩
     refine bP_intro (fun hc=>?_) (fun hc=>?_)
     ·rw [ifD hc] at hf
      refine ifP_iff.2 ⟨(f0_0).is,?_⟩
      try rw [show (a0_0).slen=_ from (f0_0).slen]
      obtain rfl:=oi hf
      obtain rfl:=hk
      exact ⟨S,rfl⟩
     ·rw [ifE hc] at hf
      obtain rfl:=oi hf
      exact ⟨m128,Nat.lt_succ_self _,rfl,S,hk⟩
    ·rw [ifE hc] at hf
     obtain rfl:=oi hf
     obtain rfl:=hk
     exact ⟨S,rfl⟩
  ·rw [ifE hc] at hf
   obtain rfl:=oi hf
   obtain rfl:=hk
   exact ⟨S,rfl⟩
 ·exact ⟨rfl,S,hL⟩
/-! 32: marblerun/lex.one -/
noncomputable def p32_j0 (x0:List Int) (x1:Int) (y440:Int) (c441:Int) (c442:Int):Option (TTokenlex×Int):=(slc x0 x1 y440).bind fun y443=>some ((TTokenlex.mk c441 (y443.map u8) c442 x1),(0:Int))
noncomputable def p32_j1 (y453:Int) (b585:Bool):Option (Int⊕Int):=if b585=true then (some (.inl (IntKind.wrap .i64 (y453+(1:Int))))) else (some (.inr y453))
noncomputable def p32_j2 (y453:Int) (b613:Bool):Option (Int⊕Int):=p32_j1 y453 b613
noncomputable def p32_j3 (x0:List Int) (y453:Int) (b603:Bool):Option (Int⊕Int):=if b603=true then (p32_j2 y453 true) else ((idx x0 y453).bind fun e622=>p32_j2 y453 (decide (e622=(46:Int))))
noncomputable def p32_l0 (x0:List Int) (y453:Int):Option (Int⊕Int):=if y453 < (x0.length:Int) then ((idx x0 y453).bind fun e593=>(p37 e593).bind fun y597=>if y597=true then (p32_j3 x0 y453 true) else ((idx x0 y453).bind fun e625=>(p38 e625).bind fun y629=>p32_j3 x0 y453 y629)) else (p32_j1 y453 false)
noncomputable def p32_j4 (x0:List Int) (y644:Int) (c671:Int) (b722:Bool):Option ((Int×Int)⊕(Unit⊕(Int×Int))):=if b722=true then ((idx x0 y644).bind fun e729=>if (1125899906842624:Int) < (IntKind.wrap .i64 ((IntKind.wrap .i64 ((10:Int) * c671))+(IntKind.wrap .i64 (IntKind.wrap .u8 (e729 - (48:Int)))))) then (some (.inr (.inl ()))) else (some (.inl ((IntKind.wrap .i64 (y644+(1:Int))),(IntKind.wrap .i64 ((IntKind.wrap .i64 ((10:Int) * c671))+(IntKind.wrap .i64 (IntKind.wrap .u8 (e729 - (48:Int)))))))))) else (some (.inr (.inr (y644,c671))))
noncomputable def p32_l1 (x0:List Int) (st:Int×Int):Option ((Int×Int)⊕(Unit⊕(Int×Int))):=match st with | (y644,c671)=>if y644 < (x0.length:Int) then ((idx x0 y644).bind fun e736=>(p38 e736).bind fun y740=>p32_j4 x0 y644 c671 y740) else (p32_j4 x0 y644 c671 false)
noncomputable def p32_j5 (x0:List Int) (x1:Int) (e107:Int) (b751:Bool):Option (TTokenlex×Int):=if b751=true then (p32_j0 x0 x1 (IntKind.wrap .i64 ((IntKind.wrap .i64 (x1+(1:Int)))+(1:Int))) (3:Int) (0:Int)) else ((p48 ([59,58,44,42,33,126,64,61]:List UInt8) e107).bind fun y763=>if (0:Int)≤y763 then (p32_j0 x0 x1 (IntKind.wrap .i64 (x1+(1:Int))) (3:Int) (0:Int)) else (some ((TTokenlex.mk (0:Int) ([]:List UInt8) (0:Int) (0:Int)),(6:Int))))
noncomputable def p32_j6 (x0:List Int) (x1:Int) (e107:Int) (b741:Bool):Option (TTokenlex×Int):=if b741=true then ((idx x0 (IntKind.wrap .i64 (x1+(1:Int)))).bind fun e769=>p32_j5 x0 x1 e107 (decide (e769=(62:Int)))) else (p32_j5 x0 x1 e107 false)
noncomputable def p32 (x0:List Int) (x1:Int):Option (TTokenlex×Int):=(idx x0 x1).bind fun e107=>(p37 e107).bind fun y111=>if y111=true then ((loopC (p32_l0 x0) (IntKind.wrap .i64 (x1+(1:Int)))).bind fun res544=>((fun (y542:Int)=>p32_j0 x0 x1 y542 (1:Int) (0:Int)) res544)) else ((p38 e107).bind fun y634=>if y634=true then ((loopC (p32_l1 x0) ((IntKind.wrap .i64 (x1+(1:Int))),(IntKind.wrap .i64 (IntKind.wrap .u8 (e107 - (48:Int)))))).bind fun res713=>(match res713 with | .inl _=>some ((TTokenlex.mk (0:Int) ([]:List UInt8) (0:Int) (0:Int)),(3:Int)) | .inr (y710,c712)=>p32_j0 x0 x1 y710 (2:Int) c712)) else (if e107=(45:Int) then (p32_j6 x0 x1 e107 (decide ((IntKind.wrap .i64 (x1+(1:Int))) < (x0.length:Int)))) else (p32_j6 x0 x1 e107 false)))
theorem r32 {h:Heap} {a0_0:AV} {x0:List Int} {x1:Int} (f0_0:SlR (rI .u8) (Snap h) a0_0 x0) {r:TTokenlex×Int} (hf:p32 x0 x1=some r):ZCalls F 32 [a0_0,(.int .i64 x1)] h fun v h'=>v=.tuple [.agg [.int .u8 r.1.Kind,.str r.1.Text,.int .i64 r.1.N,.int .i64 r.1.At],.int .i64 r.2]∧St h none' [] h':=by
 refine w32 ?_
 unfold W32
 unfold p32 at hf
 have S:St h none' [] h:=St.refl _ _
 intro h101
 have S:St _ _ [rowC h.n [(.int .u8 0),(.str ([]:List UInt8)),(.int .i64 0),(.int .i64 0)] 0] _:=S.pushRow [(.int .u8 0),(.str ([]:List UInt8)),(.int .i64 0),(.int .i64 0)]
 intro h103
 have S:St _ _ [rowC h101.n [(.int .u8 0),(.str ([]:List UInt8)),(.int .i64 0),(.int .i64 0)] 0,_] _:=S.pushRow [(.int .u8 0),(.str ([]:List UInt8)),(.int .i64 0),(.int .i64 0)]
 obtain ⟨h105,e106,S⟩:=S.store (off:=0) (n:=4) (x:=(.agg [(.int .u8 0),(.str ([]:List UInt8)),(.int .i64 0),(.int .i64 x1)])) (cs':=[(.int .u8 0),(.str ([]:List UInt8)),(.int .i64 0),(.int .i64 x1)]) (nl rfl) rfl rfl rfl
 refine ⟨h105,e106,?_⟩
 obtain ⟨e107,he107,hf⟩:=obind hf
 refine ix_go f0_0 (snap_mono S.le) he107 fun pe107=>?_
 obtain ⟨_,cr108,Rr108,Nr108,Or108,Zr108⟩:=SlR.idx f0_0 (snap_mono S.le) he107
 obtain rfl:cr108=[(.int .u8 e107)]:=Rr108
 refine ⟨e107,Zr108 _ rfl,?_⟩
 obtain ⟨y111,hy111,hf⟩:=obind hf
 refine ⟨_,Fz.refl _,?_⟩
 refine (r37 (c0:=e107) hy111).mono fun v109 h110 T=>?_
 obtain ⟨rfl,T⟩:=T
 have S:St _ _ [_,_] _:=S.comp T
 refine ⟨y111,rfl,?_⟩
 intro jjj0
 have hjj0:∀ (y436:AV) (y437:Int) (y438:AV) (y439:AV) (y440:Int) (h435:Heap) (c441:Int) (c442:Int),p32_j0 x0 x1 y440 c441 c442=some r→a0_0=y436→x1=y437→AV.ptr h.n 0 0=y438→AV.ptr h101.n 0 0=y439→St h none' [rowC h.n [(.int .u8 0),(.str ([]:List UInt8)),(.int .i64 0),(.int .i64 0)] 0,rowC h101.n [(.int .u8 c441),(.str ([]:List UInt8)),(.int .i64 c442),(.int .i64 x1)] 0] h435→jjj0 y436 y437 y438 y439 y440 h435:=by
  rintro y436 y437 y438 y439 y440 h435 c441 c442 hf rfl rfl rfl rfl S
  unfold p32_j0 at hf
  unfold jjj0
  obtain ⟨y443,hy443,hf⟩:=obind hf
  have ey443:=(sliceSl_ev11 (k:=.i64) (k':=.i64) f0_0 hy443)
  have fy443:SlR (rI .u8) (Snap h) (a0_0.sub 1 (x1:Int).toNat (y440:Int).toNat) y443:=slc_eq hy443▸SlR.sub f0_0 (slc_le hy443).1 (slc_le hy443).2
  refine oP_intro (a0_0.sub 1 (x1:Int).toNat (y440:Int).toNat) ey443 ?_
  refine ⟨_,bytes_ev (SlR.mono (snap_mono S.le) fy443),(y443.map u8),rfl,?_⟩
  refine ifP_iff.2 ⟨rfl,?_⟩
  have S:St _ _ [_,_] _:=S.sel [1,0] rfl
  obtain ⟨h444,e445,S⟩:=S.store (off:=1) (n:=1) (x:=(.str (y443.map u8))) (cs':=[(.int .u8 c441),(.str (y443.map u8)),(.int .i64 c442),(.int .i64 x1)]) (nl rfl) rfl rfl rfl
  refine ⟨h444,e445,?_⟩
  refine ⟨(.int .u8 c441),(.str (y443.map u8)),(.int .i64 c442),(.int .i64 x1),S.rdN m0 (nl rfl) rfl,?_⟩
  have S:St _ _ [_,_] _:=S.sel [1,0] rfl
  obtain ⟨h446,e447,S⟩:=S.store (off:=0) (n:=4) (x:=(.agg [(.int .u8 c441),(.str (y443.map u8)),(.int .i64 c442),(.int .i64 x1)])) (cs':=[(.int .u8 c441),(.str (y443.map u8)),(.int .i64 c442),(.int .i64 x1)]) (nl rfl) rfl rfl rfl
  refine ⟨h446,e447,?_⟩
  refine ⟨(.int .u8 c441),(.str (y443.map u8)),(.int .i64 c442),(.int .i64 x1),S.rdN m0 (nl rfl) rfl,?_⟩
  obtain rfl:=oi hf
  exact ⟨rfl,S.sel [] rfl⟩
 refine bP_intro (fun hc=>?_) (fun hc=>?_)
 ·rw [ifT hc] at hf
  obtain ⟨res544,hL,hf⟩:=obind hf
  obtain ⟨n545,hL⟩:=loopC_iff.1 hL
  have S:St _ _ [_,_] _:=S.sel [1,0] rfl
  refine loopm32_0 (X1:=fun (y538:AV) (y539:Int) (y540:AV) (y541:AV) (y542:Int) (h543:Heap)=>a0_0=y538∧x1=y539∧AV.ptr h.n 0 0=y540∧AV.ptr h101.n 0 0=y541∧St h none' [rowC h.n [(.int .u8 0),(.str ([]:List UInt8)),(.int .i64 0),(.int .i64 0)] 0,rowC h101.n [(.int .u8 0),(.str ([]:List UInt8)),(.int .i64 0),(.int .i64 x1)] 0] h543∧y542=res544) ?_ (loop32_0 (I:=fun (m547:Nat) (y449:AV) (y450:Int) (y451:AV) (y452:AV) (y453:Int) (h454:Heap)=>a0_0=y449∧x1=y450∧AV.ptr h.n 0 0=y451∧AV.ptr h101.n 0 0=y452∧St h none' [rowC h.n [(.int .u8 0),(.str ([]:List UInt8)),(.int .i64 0),(.int .i64 0)] 0,rowC h101.n [(.int .u8 0),(.str ([]:List UInt8)),(.int .i64 0),(.int .i64 x1)] 0] h454∧iter (p32_l0 x0) m547 y453=some res544) ?_ (m:=n545) ?_)
  ·rintro y538 y539 y540 y541 y542 h543 ⟨rfl,rfl,rfl,rfl,S,rfl⟩
   try dsimp only at hf
   refine ifP_iff.2 ⟨rfl,?_⟩
   have S:St _ _ [_,_] _:=S.sel [1,0] rfl
   obtain ⟨h630,e631,S⟩:=S.store (off:=0) (n:=1) (x:=(.int .u8 1)) (cs':=[(.int .u8 1),(.str ([]:List UInt8)),(.int .i64 0),(.int .i64 x1)]) (nl rfl) rfl rfl rfl
   refine ⟨h630,e631,?_⟩
   have S:St _ _ [_,_] _:=S.sel [1,0] rfl
   exact hjj0 _ _ _ _ _ _ (1:Int) (0:Int) hf rfl rfl rfl rfl S
  ·rintro m5470 y449 y450 y451 y452 y453 h454 ⟨rfl,rfl,rfl,rfl,S,hit⟩
   obtain ⟨m547,q546,rfl,hf,hk⟩:=iter_some hit
   clear hit
   unfold B32_0
   unfold p32_l0 at hf
   try dsimp only at hf
   refine ifP_iff.2 ⟨(f0_0).is,?_⟩
   try rw [show (a0_0).slen=_ from (f0_0).slen]
   intro jjj1
   have hjj1:∀ (b585:Bool) (h586:Heap),p32_j1 y453 b585=some q546→St h none' [rowC h.n [(.int .u8 0),(.str ([]:List UInt8)),(.int .i64 0),(.int .i64 0)] 0,rowC h101.n [(.int .u8 0),(.str ([]:List UInt8)),(.int .i64 0),(.int .i64 x1)] 0] h586→jjj1 b585 h586:=by
    rintro b585 h586 hf S
    unfold p32_j1 at hf
    unfold jjj1
    refine bP_intro (fun hc=>?_) (fun hc=>?_)
    ·rw [ifT hc] at hf
     obtain rfl:=oi hf
     exact ⟨m547,Nat.lt_succ_self _,rfl,rfl,rfl,rfl,S,hk⟩
    ·rw [ifF hc] at hf
     obtain rfl:=oi hf
     obtain rfl:=hk
     exact ⟨rfl,rfl,rfl,rfl,S,rfl⟩
   refine bP_intro (fun hc=>?_) (fun hc=>?_)
   ·rw [ifD hc] at hf
    obtain ⟨e593,he593,hf⟩:=obind hf
    refine ix_go f0_0 (snap_mono S.le) he593 fun pe593=>?_
    obtain ⟨_,cr594,Rr594,Nr594,Or594,Zr594⟩:=SlR.idx f0_0 (snap_mono S.le) he593
    obtain rfl:cr594=[(.int .u8 e593)]:=Rr594
    refine ⟨e593,Zr594 _ rfl,?_⟩
    obtain ⟨y597,hy597,hf⟩:=obind hf
    refine ⟨_,Fz.refl _,?_⟩
    refine (r37 (c0:=e593) hy597).mono fun v595 h596 T=>?_
    obtain ⟨rfl,T⟩:=T
    have S:St _ _ [_,_] _:=S.comp T
    refine ⟨y597,rfl,?_⟩
    intro jjj3
    have hjj3:∀ (b603:Bool) (h604:Heap),p32_j3 x0 y453 b603=some q546→St h none' [rowC h.n [(.int .u8 0),(.str ([]:List UInt8)),(.int .i64 0),(.int .i64 0)] 0,rowC h101.n [(.int .u8 0),(.str ([]:List UInt8)),(.int .i64 0),(.int .i64 x1)] 0] h604→jjj3 b603 h604:=by
     rintro b603 h604 hf S
     unfold p32_j3 at hf
     unfold jjj3
     intro jjj2
     have hjj2:∀ (b613:Bool) (h614:Heap),p32_j2 y453 b613=some q546→h604=h614→St h none' [rowC h.n [(.int .u8 0),(.str ([]:List UInt8)),(.int .i64 0),(.int .i64 0)] 0,rowC h101.n [(.int .u8 0),(.str ([]:List UInt8)),(.int .i64 0),(.int .i64 x1)] 0] h604→jjj2 b613 h614:=by
      rintro b613 h614 hf rfl S
      unfold p32_j2 at hf
      unfold jjj2
      exact hjj1 _ _  hf  S
     refine bP_intro (fun hc=>?_) (fun hc=>?_)
     ·rw [ifT hc] at hf
      exact hjj2 _ _  hf rfl S
     ·rw [ifF hc] at hf
      obtain ⟨e622,he622,hf⟩:=obind hf
      refine ix_go f0_0 (snap_mono S.le) he622 fun pe622=>?_
      obtain ⟨_,cr623,Rr623,Nr623,Or623,Zr623⟩:=SlR.idx f0_0 (snap_mono S.le) he622
      obtain rfl:cr623=[(.int .u8 e622)]:=Rr623
      refine ⟨e622,Zr623 _ rfl,?_⟩
      exact hjj2 _ _  hf rfl S
    refine bP_intro (fun hc=>?_) (fun hc=>?_)
    ·rw [ifT hc] at hf
     exact hjj3 _ _  hf  S
    ·rw [ifF hc] at hf
     obtain ⟨e625,he625,hf⟩:=obind hf
     refine ix_go f0_0 (snap_mono S.le) he625 fun pe625=>?_
     obtain ⟨_,cr626,Rr626,Nr626,Or626,Zr626⟩:=SlR.idx f0_0 (snap_mono S.le) he625
     obtain rfl:cr626=[(.int .u8 e625)]:=Rr626
     refine ⟨e625,Zr626 _ rfl,?_⟩
     obtain ⟨y629,hy629,hf⟩:=obind hf
     refine ⟨_,Fz.refl _,?_⟩
     refine (r38 (c0:=e625) hy629).mono fun v627 h628 T=>?_
     obtain ⟨rfl,T⟩:=T
     have S:St _ _ [_,_] _:=S.comp T
     refine ⟨y629,rfl,?_⟩
     exact hjj3 _ _  hf  S
   ·rw [ifE hc] at hf
    exact hjj1 _ _  hf  S
  ·exact ⟨rfl,rfl,rfl,rfl,S,hL⟩
 ·rw [ifF hc] at hf
  obtain ⟨y634,hy634,hf⟩:=obind hf
  refine ⟨_,Fz.refl _,?_⟩
  refine (r38 (c0:=e107) hy634).mono fun v632 h633 T=>?_
  obtain ⟨rfl,T⟩:=T
  have S:St _ _ [_,_] _:=S.comp T
  refine ⟨y634,rfl,?_⟩
  refine bP_intro (fun hc=>?_) (fun hc=>?_)
  ·rw [ifT hc] at hf
   obtain ⟨h635,e636,S⟩:=S.store (off:=0) (n:=1) (x:=(.int .u8 2)) (cs':=[(.int .u8 2),(.str ([]:List UInt8)),(.int .i64 0),(.int .i64 x1)]) (nl rfl) rfl rfl rfl
   refine ⟨h635,e636,?_⟩
   obtain ⟨h637,e638,S⟩:=S.store (off:=2) (n:=1) (x:=(.int .i64 (IntKind.wrap .i64 (IntKind.wrap .u8 (e107 - (48:Int)))))) (cs':=[(.int .u8 2),(.str ([]:List UInt8)),(.int .i64 (IntKind.wrap .i64 (IntKind.wrap .u8 (e107 - (48:Int))))),(.int .i64 x1)]) (nl rfl) rfl rfl rfl
   refine ⟨h637,e638,?_⟩
   obtain ⟨res713,hL,hf⟩:=obind hf
   obtain ⟨n714,hL⟩:=loopC_iff.1 hL
   have S:St _ _ [_,_] _:=S.sel [1,0] rfl
   refine loopm32_1 (R:=fun (y698:AV) (y699:Int) (y700:AV) (y701:Int) (y702:AV) (y703:Int) (h704:Heap)=>AV.ptr h.n 0 0=y700∧(3:Int)=y701∧St h none' [rowC h.n [(.int .u8 0),(.str ([]:List UInt8)),(.int .i64 0),(.int .i64 0)] 0] h704∧(.inl ())=res713) (X3:=fun (y705:AV) (y706:Int) (y707:AV) (y708:Int) (y709:AV) (y710:Int) (h711:Heap)=>∃ (c712:Int),a0_0=y705∧x1=y706∧AV.ptr h.n 0 0=y707∧AV.ptr h101.n 0 0=y709∧St h none' [rowC h.n [(.int .u8 0),(.str ([]:List UInt8)),(.int .i64 0),(.int .i64 0)] 0,rowC h101.n [(.int .u8 2),(.str ([]:List UInt8)),(.int .i64 c712),(.int .i64 x1)] 0] h711∧(.inr (y710,c712))=res713) ?_ ?_ (loop32_1 (I:=fun (m716:Nat) (y639:AV) (y640:Int) (y641:AV) (y642:Int) (y643:AV) (y644:Int) (h670:Heap)=>∃ (c671:Int),a0_0=y639∧x1=y640∧AV.ptr h.n 0 0=y641∧AV.ptr h101.n 0 0=y643∧St h none' [rowC h.n [(.int .u8 0),(.str ([]:List UInt8)),(.int .i64 0),(.int .i64 0)] 0,rowC h101.n [(.int .u8 2),(.str ([]:List UInt8)),(.int .i64 c671),(.int .i64 x1)] 0] h670∧iter (p32_l1 x0) m716 (y644,c671)=some res713) ?_ (m:=n714) ?_)
   ·rintro y698 y699 y700 y701 y702 y703 h704 ⟨rfl,rfl,S,rfl⟩
    try dsimp only at hf
    refine ⟨(.int .u8 0),(.str ([]:List UInt8)),(.int .i64 0),(.int .i64 0),S.rdN m0 (nl rfl) rfl,?_⟩
    obtain rfl:=oi hf
    exact ⟨rfl,S.sel [] rfl⟩
   ·rintro y705 y706 y707 y708 y709 y710 h711 ⟨c712,rfl,rfl,rfl,rfl,S,rfl⟩
    try dsimp only at hf
    exact hjj0 _ _ _ _ _ _ (2:Int) c712 hf rfl rfl rfl rfl S
   ·rintro m7160 y639 y640 y641 y642 y643 y644 h670 ⟨c671,rfl,rfl,rfl,rfl,S,hit⟩
    obtain ⟨m716,q715,rfl,hf,hk⟩:=iter_some hit
    clear hit
    unfold B32_1
    unfold p32_l1 at hf
    try dsimp only at hf
    refine ifP_iff.2 ⟨(f0_0).is,?_⟩
    try rw [show (a0_0).slen=_ from (f0_0).slen]
    intro jjj4
    have hjj4:∀ (b722:Bool) (h723:Heap),p32_j4 x0 y644 c671 b722=some q715→St h none' [rowC h.n [(.int .u8 0),(.str ([]:List UInt8)),(.int .i64 0),(.int .i64 0)] 0,rowC h101.n [(.int .u8 2),(.str ([]:List UInt8)),(.int .i64 c671),(.int .i64 x1)] 0] h723→jjj4 b722 h723:=by
     rintro b722 h723 hf S
     unfold p32_j4 at hf
     unfold jjj4
     refine bP_intro (fun hc=>?_) (fun hc=>?_)
     ·rw [ifT hc] at hf
      refine ifP_iff.2 ⟨rfl,?_⟩
      refine ⟨c671,S.rd1 m1 rfl,?_⟩
      obtain ⟨e729,he729,hf⟩:=obind hf
      refine ix_go f0_0 (snap_mono S.le) he729 fun pe729=>?_
      obtain ⟨_,cr730,Rr730,Nr730,Or730,Zr730⟩:=SlR.idx f0_0 (snap_mono S.le) he729
      obtain rfl:cr730=[(.int .u8 e729)]:=Rr730
      refine ⟨e729,Zr730 _ rfl,?_⟩
      refine ifP_iff.2 ⟨rfl,?_⟩
      have S:St _ _ [_,_] _:=S.sel [1,0] rfl
      obtain ⟨h731,e732,S⟩:=S.store (off:=2) (n:=1) (x:=(.int .i64 (IntKind.wrap .i64 ((IntKind.wrap .i64 ((10:Int) * c671))+(IntKind.wrap .i64 (IntKind.wrap .u8 (e729 - (48:Int)))))))) (cs':=[(.int .u8 2),(.str ([]:List UInt8)),(.int .i64 (IntKind.wrap .i64 ((IntKind.wrap .i64 ((10:Int) * c671))+(IntKind.wrap .i64 (IntKind.wrap .u8 (e729 - (48:Int))))))),(.int .i64 x1)]) (nl rfl) rfl rfl rfl
      refine ⟨h731,e732,?_⟩
      refine ifP_iff.2 ⟨rfl,?_⟩
      refine ⟨(IntKind.wrap .i64 ((IntKind.wrap .i64 ((10:Int) * c671))+(IntKind.wrap .i64 (IntKind.wrap .u8 (e729 - (48:Int)))))),S.rd1 m0 rfl,?_⟩
      refine bP_intro (fun hc=>?_) (fun hc=>?_)
      ·rw [ifD hc] at hf
       have S:St _ _ [_,_] _:=S.sel [1,0] rfl
       obtain ⟨h733,e734,S⟩:=S.store (off:=0) (n:=4) (x:=(.agg [(.int .u8 0),(.str ([]:List UInt8)),(.int .i64 0),(.int .i64 0)])) (cs':=[(.int .u8 0),(.str ([]:List UInt8)),(.int .i64 0),(.int .i64 0)]) (nl rfl) rfl rfl rfl
       refine ⟨h733,e734,?_⟩
       have S:St _ _ [_] _:=S.sel [0] rfl
       obtain rfl:=oi hf
       obtain rfl:=hk
       exact ⟨rfl,rfl,S,rfl⟩
      ·rw [ifE hc] at hf
       have S:St _ _ [_,_] _:=S.sel [1,0] rfl
       obtain rfl:=oi hf
       exact ⟨m716,Nat.lt_succ_self _,(IntKind.wrap .i64 ((IntKind.wrap .i64 ((10:Int) * c671))+(IntKind.wrap .i64 (IntKind.wrap .u8 (e729 - (48:Int)))))),rfl,rfl,rfl,rfl,S,hk⟩
     ·rw [ifF hc] at hf
      obtain rfl:=oi hf
      obtain rfl:=hk
      exact ⟨c671,rfl,rfl,rfl,rfl,S,rfl⟩
    refine bP_intro (fun hc=>?_) (fun hc=>?_)
    ·rw [ifD hc] at hf
     obtain ⟨e736,he736,hf⟩:=obind hf
     refine ix_go f0_0 (snap_mono S.le) he736 fun pe736=>?_
     obtain ⟨_,cr737,Rr737,Nr737,Or737,Zr737⟩:=SlR.idx f0_0 (snap_mono S.le) he736
     obtain rfl:cr737=[(.int .u8 e736)]:=Rr737
     refine ⟨e736,Zr737 _ rfl,?_⟩
     obtain ⟨y740,hy740,hf⟩:=obind hf
     refine ⟨_,Fz.refl _,?_⟩
     refine (r38 (c0:=e736) hy740).mono fun v738 h739 T=>?_
     obtain ⟨rfl,T⟩:=T
     have S:St _ _ [_,_] _:=S.comp T
     refine ⟨y740,rfl,?_⟩
     exact hjj4 _ _  hf  S
    ·rw [ifE hc] at hf
     exact hjj4 _ _  hf  S
   ·exact ⟨(IntKind.wrap .i64 (IntKind.wrap .u8 (e107 - (48:Int)))),rfl,rfl,rfl,rfl,S,hL⟩
  ·rw [ifF hc] at hf
   intro jjj6
   have hjj6:∀ (b741:Bool) (h742:Heap),p32_j6 x0 x1 e107 b741=some r→h633=h742→St h none' [rowC h.n [(.int .u8 0),(.str ([]:List UInt8)),(.int .i64 0),(.int .i64 0)] 0,rowC h101.n [(.int .u8 0),(.str ([]:List UInt8)),(.int .i64 0),(.int .i64 x1)] 0] h633→jjj6 b741 h742:=by
    rintro b741 h742 hf rfl S
    unfold p32_j6 at hf
    unfold jjj6
    intro jjj5
    have hjj5:∀ (b751:Bool) (h752:Heap),p32_j5 x0 x1 e107 b751=some r→h633=h752→St h none' [rowC h.n [(.int .u8 0),(.str ([]:List UInt8)),(.int .i64 0),(.int .i64 0)] 0,rowC h101.n [(.int .u8 0),(.str ([]:List UInt8)),(.int .i64 0),(.int .i64 x1)] 0] h633→jjj5 b751 h752:=by
     rintro b751 h752 hf rfl S
     unfold p32_j5 at hf
     unfold jjj5
     refine bP_intro (fun hc=>?_) (fun hc=>?_)
     ·rw [ifT hc] at hf
      refine ifP_iff.2 ⟨rfl,?_⟩
      have S:St _ _ [_,_] _:=S.sel [1,0] rfl
      obtain ⟨h759,e760,S⟩:=S.store (off:=0) (n:=1) (x:=(.int .u8 3)) (cs':=[(.int .u8 3),(.str ([]:List UInt8)),(.int .i64 0),(.int .i64 x1)]) (nl rfl) rfl rfl rfl
      refine ⟨h759,e760,?_⟩
      have S:St _ _ [_,_] _:=S.sel [1,0] rfl
      exact hjj0 _ _ _ _ _ _ (3:Int) (0:Int) hf rfl rfl rfl rfl S
     ·rw [ifF hc] at hf
      obtain ⟨y763,hy763,hf⟩:=obind hf
      refine ⟨_,Fz.refl _,?_⟩
      refine (r48 (s0:=([59,58,44,42,33,126,64,61]:List UInt8)) (c1:=e107) hy763).mono fun v761 h762 T=>?_
      obtain ⟨rfl,T⟩:=T
      have S:St _ _ [_,_] _:=S.comp T
      refine ⟨y763,rfl,?_⟩
      refine bP_intro (fun hc=>?_) (fun hc=>?_)
      ·rw [ifD hc] at hf
       refine ifP_iff.2 ⟨rfl,?_⟩
       have S:St _ _ [_,_] _:=S.sel [1,0] rfl
       obtain ⟨h764,e765,S⟩:=S.store (off:=0) (n:=1) (x:=(.int .u8 3)) (cs':=[(.int .u8 3),(.str ([]:List UInt8)),(.int .i64 0),(.int .i64 x1)]) (nl rfl) rfl rfl rfl
       refine ⟨h764,e765,?_⟩
       have S:St _ _ [_,_] _:=S.sel [1,0] rfl
       exact hjj0 _ _ _ _ _ _ (3:Int) (0:Int) hf rfl rfl rfl rfl S
      ·rw [ifE hc] at hf
       obtain ⟨h766,e767,S⟩:=S.store (off:=0) (n:=4) (x:=(.agg [(.int .u8 0),(.str ([]:List UInt8)),(.int .i64 0),(.int .i64 0)])) (cs':=[(.int .u8 0),(.str ([]:List UInt8)),(.int .i64 0),(.int .i64 0)]) (nl rfl) rfl rfl rfl
       refine ⟨h766,e767,?_⟩
       refine ⟨(.int .u8 0),(.str ([]:List UInt8)),(.int .i64 0),(.int .i64 0),S.rdN m0 (nl rfl) rfl,?_⟩
       obtain rfl:=oi hf
       exact ⟨rfl,S.sel [] rfl⟩
    refine bP_intro (fun hc=>?_) (fun hc=>?_)
    ·rw [ifT hc] at hf
     obtain ⟨e769,he769,hf⟩:=obind hf
     refine ix_go f0_0 (snap_mono S.le) he769 fun pe769=>?_
     obtain ⟨_,cr770,Rr770,Nr770,Or770,Zr770⟩:=SlR.idx f0_0 (snap_mono S.le) he769
     obtain rfl:cr770=[(.int .u8 e769)]:=Rr770
     refine ⟨e769,Zr770 _ rfl,?_⟩
     exact hjj5 _ _  hf rfl S
    ·rw [ifF hc] at hf
     exact hjj5 _ _  hf rfl S
   refine bP_intro (fun hc=>?_) (fun hc=>?_)
   ·rw [ifD hc] at hf
    refine ifP_iff.2 ⟨(f0_0).is,?_⟩
    try rw [show (a0_0).slen=_ from (f0_0).slen]
    have S:St _ _ [_,_] _:=S.sel [1,0] rfl
    exact hjj6 _ _  hf rfl S
   ·rw [ifE hc] at hf
    have S:St _ _ [_,_] _:=S.sel [1,0] rfl
    exact hjj6 _ _  hf rfl S
/-! 21: marblerun/lex.Place -/
noncomputable def p21 (p0:List Int) (at1:Int):Option (Int×Int):=(slc p0 (0:Int) (if (p0.length:Int) < (if at1 < (0:Int) then (0:Int) else at1) then (p0.length:Int) else (if at1 < (0:Int) then (0:Int) else at1))).bind fun y101=>(p35 (y101.map u8) ([10]:List UInt8)).bind fun y104=>(p36 (y101.map u8) (10:Int)).bind fun y107=>some ((IntKind.wrap .i64 (y104+(1:Int))),(IntKind.wrap .i64 ((if (p0.length:Int) < (if at1 < (0:Int) then (0:Int) else at1) then (p0.length:Int) else (if at1 < (0:Int) then (0:Int) else at1)) - y107)))
theorem r21 {h:Heap} {a0_0:AV} {p0:List Int} {at1:Int} (f0_0:SlR (rI .u8) (Snap h) a0_0 p0) {r:Int×Int} (hf:p21 p0 at1=some r):ZCalls F 21 [a0_0,(.int .i64 at1)] h fun v h'=>v=.tuple [.int .i64 r.1,.int .i64 r.2]∧St h none' [] h':=by
 refine w21 ?_
 unfold W21
 unfold p21 at hf
 have S:St h none' [] h:=St.refl _ _
 refine ifP_iff.2 ⟨(f0_0).is,?_⟩
 try rw [show (a0_0).slen=_ from (f0_0).slen]
 obtain ⟨y101,hy101,hf⟩:=obind hf
 have ey101:=(sliceSl_ev01 (k:=.i64) f0_0 hy101)
 have fy101:SlR (rI .u8) (Snap h) (a0_0.sub 1 ((0:Int):Int).toNat ((if (p0.length:Int) < (if at1 < (0:Int) then (0:Int) else at1) then (p0.length:Int) else (if at1 < (0:Int) then (0:Int) else at1)):Int).toNat) y101:=slc_eq hy101▸SlR.sub f0_0 (slc_le hy101).1 (slc_le hy101).2
 refine oP_intro (a0_0.sub 1 ((0:Int):Int).toNat ((if (p0.length:Int) < (if at1 < (0:Int) then (0:Int) else at1) then (p0.length:Int) else (if at1 < (0:Int) then (0:Int) else at1)):Int).toNat) ey101 ?_
 refine ⟨_,bytes_ev (SlR.mono (snap_mono S.le) fy101),(y101.map u8),rfl,?_⟩
 obtain ⟨y104,hy104,hf⟩:=obind hf
 refine ⟨_,Fz.refl _,?_⟩
 refine (r35 (s0:=(y101.map u8)) (substr1:=([10]:List UInt8)) hy104).mono fun v102 h103 T=>?_
 obtain ⟨rfl,T⟩:=T
 have S:St _ _ [] _:=S.comp T
 refine ⟨y104,rfl,?_⟩
 obtain ⟨y107,hy107,hf⟩:=obind hf
 refine ⟨_,Fz.refl _,?_⟩
 refine (r36 (s0:=(y101.map u8)) (c1:=(10:Int)) hy107).mono fun v105 h106 T=>?_
 obtain ⟨rfl,T⟩:=T
 have S:St _ _ [] _:=S.comp T
 refine ⟨y107,rfl,?_⟩
 obtain rfl:=oi hf
 exact ⟨rfl,S.sel [] rfl⟩
/-! 22: marblerun/lex.Fault -/
noncomputable def p22 (p0:List Int) (e1:Int) (at2:Int):Option TFault:=(p21 p0 at2).bind fun u105=>some (TFault.mk e1 at2 u105.1 u105.2)
theorem r22 {h:Heap} {a0_0:AV} {p0:List Int} {e1:Int} {at2:Int} (f0_0:SlR (rI .u8) (Snap h) a0_0 p0) {r:TFault} (hf:p22 p0 e1 at2=some r):ZCalls F 22 [a0_0,(.int .i64 e1),(.int .i64 at2)] h fun v h'=>v=.agg [.int .i64 r.Err,.int .i64 r.At,.int .i64 r.Line,.int .i64 r.Col]∧St h none' [] h':=by
 refine w22 ?_
 unfold W22
 unfold p22 at hf
 have S:St h none' [] h:=St.refl _ _
 intro h101
 have S:St _ _ [rowC h.n [(.int .i64 0),(.int .i64 0),(.int .i64 0),(.int .i64 0)] 0] _:=S.pushRow [(.int .i64 0),(.int .i64 0),(.int .i64 0),(.int .i64 0)]
 obtain ⟨u105,hu105,hf⟩:=obind hf
 refine ⟨_,Fz.refl _,?_⟩
 refine (r21 (p0:=p0) (at1:=at2) (f0_0:=(SlR.mono (snap_mono S.le) f0_0)) hu105).mono fun v103 h104 T=>?_
 obtain ⟨rfl,T⟩:=T
 have S:St _ _ [_] _:=S.comp T
 refine oP_intro (.int .i64 u105.1) rfl ⟨u105.1,rfl,?_⟩
 refine oP_intro (.int .i64 u105.2) rfl ⟨u105.2,rfl,?_⟩
 obtain ⟨h106,e107,S⟩:=S.store (off:=0) (n:=4) (x:=(.agg [(.int .i64 e1),(.int .i64 at2),(.int .i64 u105.1),(.int .i64 u105.2)])) (cs':=[(.int .i64 e1),(.int .i64 at2),(.int .i64 u105.1),(.int .i64 u105.2)]) (nl rfl) rfl rfl rfl
 refine ⟨h106,e107,?_⟩
 refine ⟨(.int .i64 e1),(.int .i64 at2),(.int .i64 u105.1),(.int .i64 u105.2),S.rdN m0 (nl rfl) rfl,?_⟩
 obtain rfl:=oi hf
 exact ⟨rfl,S.sel [] rfl⟩
/-! 18: marblerun/lex.Tokens -/
noncomputable def p18_l0 (p0:List Int) (st:Int×(List TTokenlex)):Option ((Int×(List TTokenlex))⊕((List TTokenlex)×Int×Int×Int×Int)):=match st with | (at107,l110)=>(p31 p0 at107).bind fun y161=>if y161=(p0.length:Int) then ((app 40 l110 [(TTokenlex.mk (0:Int) ([]:List UInt8) (0:Int) y161)]).bind fun l166=>some (.inr (l166,(0:Int),(0:Int),(0:Int),(0:Int)))) else ((p32 p0 y161).bind fun u173=>if (!decide (u173.2=(0:Int)))=true then ((p22 p0 u173.2 y161).bind fun y180=>some (.inr ([],y180.Err,y180.At,y180.Line,y180.Col))) else ((app 40 l110 [u173.1]).bind fun l188=>some (.inl ((IntKind.wrap .i64 (y161+(u173.1.Text.length:Int))),l188))))
noncomputable def p18 (p0:List Int):Option ((List TTokenlex)×TFault):=(loopC (p18_l0 p0) ((0:Int),[])).bind fun res155=>(match res155 with | (y150,c151,c152,c153,c154)=>some (y150,(TFault.mk c151 c152 c153 c154)))
theorem r18 {h:Heap} {a0_0:AV} {p0:List Int} (f0_0:SlR (rI .u8) (Snap h) a0_0 p0) {r:(List TTokenlex)×TFault} (hf:p18 p0=some r):ZCalls F 18 [a0_0] h fun v h'=>∃ w0,v=.tuple [w0,.agg [.int .i64 r.2.Err,.int .i64 r.2.At,.int .i64 r.2.Line,.int .i64 r.2.Col]]∧St h none' [own (oSl (fz rTokenlex)) [w0] r.1] h':=by
 refine w18 ?_
 unfold W18
 unfold p18 at hf
 have S:St h none' [] h:=St.refl _ _
 intro h101
 have S:St _ _ [rowC h.n [(.int .i64 0),(.int .i64 0),(.int .i64 0),(.int .i64 0)] 0] _:=S.pushRow [(.int .i64 0),(.int .i64 0),(.int .i64 0),(.int .i64 0)]
 obtain ⟨res155,hL,hf⟩:=obind hf
 obtain ⟨n156,hL⟩:=loopC_iff.1 hL
 have S:St _ _ [own (oSl (fz rTokenlex)) [.nilSlice] [],_] _:=S.addE (oSl_nil _ _)
 have S:St _ _ [_,_] _:=S.sel [1,0] rfl
 refine loopm18_0 (R:=fun (p144:AV) (y145:AV) (y146:AV) (l147:AV) (at148:Int) (h149:Heap)=>∃ (y150:List TTokenlex),∃ (c151:Int),∃ (c152:Int),∃ (c153:Int),∃ (c154:Int),AV.ptr h.n 0 0=y146∧St h none' [own (oSl (fz rTokenlex)) [y145] y150,rowC h.n [(.int .i64 c151),(.int .i64 c152),(.int .i64 c153),(.int .i64 c154)] 0] h149∧(y150,c151,c152,c153,c154)=res155) ?_ (loop18_0 (I:=fun (m158:Nat) (p103:AV) (y104:AV) (y105:AV) (l106:AV) (at107:Int) (h108:Heap)=>∃ (l110:List TTokenlex),a0_0=p103∧AV.ptr h.n 0 0=y105∧St h none' [rowC h.n [(.int .i64 0),(.int .i64 0),(.int .i64 0),(.int .i64 0)] 0,own (oSl (fz rTokenlex)) [l106] l110] h108∧iter (p18_l0 p0) m158 (at107,l110)=some res155) ?_ (m:=n156) ?_)
 ·rintro p144 y145 y146 l147 at148 h149 ⟨y150,c151,c152,c153,c154,rfl,S,rfl⟩
  try dsimp only at hf
  refine ⟨(.int .i64 c151),(.int .i64 c152),(.int .i64 c153),(.int .i64 c154),S.rdN m1 (nl rfl) rfl,?_⟩
  obtain rfl:=oi hf
  exact ⟨y145,rfl,S.sel [0] rfl⟩
 ·rintro m1580 p103 y104 y105 l106 at107 h108 ⟨l110,rfl,rfl,S,hit⟩
  obtain ⟨m158,q157,rfl,hf,hk⟩:=iter_some hit
  clear hit
  unfold B18_0
  unfold p18_l0 at hf
  try dsimp only at hf
  obtain ⟨y161,hy161,hf⟩:=obind hf
  refine ⟨_,Fz.refl _,?_⟩
  refine (r31 (p0:=p0) (at1:=at107) (f0_0:=(SlR.mono (snap_mono S.le) f0_0)) hy161).mono fun v159 h160 T=>?_
  obtain ⟨rfl,T⟩:=T
  have S:St _ _ [_,_] _:=S.comp T
  refine ⟨y161,rfl,?_⟩
  refine ifP_iff.2 ⟨(f0_0).is,?_⟩
  try rw [show (a0_0).slen=_ from (f0_0).slen]
  refine bP_intro (fun hc=>?_) (fun hc=>?_)
  ·rw [ifD hc] at hf
   intro h162
   have S:St _ _ [rowC h160.n [(.int .u8 0),(.str ([]:List UInt8)),(.int .i64 0),(.int .i64 y161)] 0,_,_] _:=S.pushRow [(.int .u8 0),(.str ([]:List UInt8)),(.int .i64 0),(.int .i64 y161)]
   obtain ⟨l166,hl166,hf⟩:=obind hf
   have S:St _ _ [own (fz rTokenlex) [(.int .u8 0),(.str ([]:List UInt8)),(.int .i64 0),(.int .i64 y161)] (TTokenlex.mk (0:Int) ([]:List UInt8) (0:Int) y161),_,_,_] _:=S.add (r:=rTokenlex) (x:=(TTokenlex.mk (0:Int) ([]:List UInt8) (0:Int) y161)) (rTokenlex_mk (x:=(TTokenlex.mk (0:Int) ([]:List UInt8) (0:Int) y161)))
   have S:St _ _ [_,_,_,_] _:=S.sel [3,0,1,2] rfl
   have ml166:=app_some hl166
   obtain ⟨v165,h164,e167,S⟩:=St.app1R (r:=(fz rTokenlex)) (b:=40) S ml166.1
   have S:St _ _ [own (oSl (fz rTokenlex)) [v165] l166,_] _:=S.cast1 (by rw [← ml166.2]<;>rfl)
   refine ⟨v165,h164,e167,?_⟩
   have S:St _ _ [_,_] _:=S.sel [1,0] rfl
   obtain ⟨h169,e170,S⟩:=S.store (off:=0) (n:=4) (x:=(.agg [(.int .i64 0),(.int .i64 0),(.int .i64 0),(.int .i64 0)])) (cs':=[(.int .i64 0),(.int .i64 0),(.int .i64 0),(.int .i64 0)]) (nl rfl) rfl rfl rfl
   refine ⟨h169,e170,?_⟩
   have S:St _ _ [_,_] _:=S.sel [1,0] rfl
   obtain rfl:=oi hf
   obtain rfl:=hk
   exact ⟨l166,(0:Int),(0:Int),(0:Int),(0:Int),rfl,S,rfl⟩
  ·rw [ifE hc] at hf
   obtain ⟨u173,hu173,hf⟩:=obind hf
   refine ⟨_,Fz.refl _,?_⟩
   refine (r32 (x0:=p0) (x1:=y161) (f0_0:=(SlR.mono (snap_mono S.le) f0_0)) hu173).mono fun v171 h172 T=>?_
   obtain ⟨rfl,T⟩:=T
   have S:St _ _ [_,_] _:=S.comp T
   refine oP_intro (.agg [(.int .u8 u173.1.Kind),(.str u173.1.Text),(.int .i64 u173.1.N),(.int .i64 u173.1.At)]) rfl ?_
   refine oP_intro (.int .i64 u173.2) rfl ⟨u173.2,rfl,?_⟩
   intro h174
   have S:St _ _ [rowC h172.n [(.int .u8 0),(.str ([]:List UInt8)),(.int .i64 0),(.int .i64 0)] 0,_,_] _:=S.pushRow [(.int .u8 0),(.str ([]:List UInt8)),(.int .i64 0),(.int .i64 0)]
   obtain ⟨h176,e177,S⟩:=S.store (off:=0) (n:=4) (x:=(.agg [(.int .u8 u173.1.Kind),(.str u173.1.Text),(.int .i64 u173.1.N),(.int .i64 u173.1.At)])) (cs':=[(.int .u8 u173.1.Kind),(.str u173.1.Text),(.int .i64 u173.1.N),(.int .i64 u173.1.At)]) (nl rfl) rfl rfl rfl
   refine ⟨h176,e177,?_⟩
   refine bP_intro (fun hc=>?_) (fun hc=>?_)
   ·rw [ifT hc] at hf
    obtain ⟨y180,hy180,hf⟩:=obind hf
    refine ⟨_,Fz.refl _,?_⟩
    refine (r22 (p0:=p0) (e1:=u173.2) (at2:=y161) (f0_0:=(SlR.mono (snap_mono S.le) f0_0)) hy180).mono fun v178 h179 T=>?_
    obtain ⟨rfl,T⟩:=T
    have S:St _ _ [_,_,_] _:=S.comp T
    have S:St _ _ [_,_,_] _:=S.sel [1,0,2] rfl
    obtain ⟨h181,e182,S⟩:=S.store (off:=0) (n:=4) (x:=(.agg [(.int .i64 y180.Err),(.int .i64 y180.At),(.int .i64 y180.Line),(.int .i64 y180.Col)])) (cs':=[(.int .i64 y180.Err),(.int .i64 y180.At),(.int .i64 y180.Line),(.int .i64 y180.Col)]) (nl rfl) rfl rfl rfl
    refine ⟨h181,e182,?_⟩
    have S:St _ _ [own (oSl (fz rTokenlex)) [.nilSlice] [],_,_,_] _:=S.addE (oSl_nil _ _)
    have S:St _ _ [_,_] _:=S.sel [0,1] rfl
    obtain rfl:=oi hf
    obtain rfl:=hk
    exact ⟨[],y180.Err,y180.At,y180.Line,y180.Col,rfl,S,rfl⟩
   ·rw [ifF hc] at hf
    refine ⟨(.int .u8 u173.1.Kind),(.str u173.1.Text),(.int .i64 u173.1.N),(.int .i64 u173.1.At),S.rdN m0 (nl rfl) rfl,?_⟩
    intro h184
    have S:St _ _ [rowC h176.n [(.int .u8 u173.1.Kind),(.str u173.1.Text),(.int .i64 u173.1.N),(.int .i64 u173.1.At)] 0,_,_,_] _:=S.pushRow [(.int .u8 u173.1.Kind),(.str u173.1.Text),(.int .i64 u173.1.N),(.int .i64 u173.1.At)]
    obtain ⟨l188,hl188,hf⟩:=obind hf
    have S:St _ _ [own (fz rTokenlex) [(.int .u8 u173.1.Kind),(.str u173.1.Text),(.int .i64 u173.1.N),(.int .i64 u173.1.At)] u173.1,_,_,_,_] _:=S.add (r:=rTokenlex) (x:=u173.1) (rTokenlex_mk (x:=u173.1))
    have S:St _ _ [_,_,_,_,_] _:=S.sel [4,0,1,2,3] rfl
    have ml188:=app_some hl188
    obtain ⟨v187,h186,e189,S⟩:=St.app1R (r:=(fz rTokenlex)) (b:=40) S ml188.1
    have S:St _ _ [own (oSl (fz rTokenlex)) [v187] l188,_,_] _:=S.cast1 (by rw [← ml188.2]<;>rfl)
    refine ⟨v187,h186,e189,?_⟩
    refine ⟨u173.1.Text,S.rd1 m1 rfl,?_⟩
    have S:St _ _ [_,_] _:=S.sel [2,0] rfl
    obtain rfl:=oi hf
    exact ⟨m158,Nat.lt_succ_self _,l188,rfl,rfl,S,hk⟩
 ·exact ⟨[],rfl,rfl,S,hL⟩
/-! 33: marblerun/marblerunref04.small -/
noncomputable def p33_j0 (b101:Bool):Option Bool:=some b101
noncomputable def p33 (c0:Int):Option Bool:=if (97:Int)≤c0 then (p33_j0 (decide (c0≤(122:Int)))) else (p33_j0 false)
theorem r33 {h:Heap}  {c0:Int} {r:Bool} (hf:p33 c0=some r):ZCalls F 33 [(.int .u8 c0)] h fun v h'=>v=.bool r∧St h none' [] h':=by
 refine w33 ?_
 unfold W33
 unfold p33 at hf
 have S:St h none' [] h:=St.refl _ _
 intro jjj0
 have hjj0:∀ (b101:Bool) (h102:Heap),p33_j0 b101=some r→h=h102→St h none' [] h→jjj0 b101 h102:=by
  rintro b101 h102 hf rfl S
  unfold p33_j0 at hf
  unfold jjj0
  obtain rfl:=oi hf
  exact ⟨rfl,S.sel [] rfl⟩
 refine bP_intro (fun hc=>?_) (fun hc=>?_)
 ·rw [ifD hc] at hf
  exact hjj0 _ _  hf rfl S
 ·rw [ifE hc] at hf
  exact hjj0 _ _  hf rfl S
/-! 34: marblerun/marblerunref04.digit -/
noncomputable def p34_j0 (b101:Bool):Option Bool:=some b101
noncomputable def p34 (c0:Int):Option Bool:=if (48:Int)≤c0 then (p34_j0 (decide (c0≤(57:Int)))) else (p34_j0 false)
theorem r34 {h:Heap}  {c0:Int} {r:Bool} (hf:p34 c0=some r):ZCalls F 34 [(.int .u8 c0)] h fun v h'=>v=.bool r∧St h none' [] h':=by
 refine w34 ?_
 unfold W34
 unfold p34 at hf
 have S:St h none' [] h:=St.refl _ _
 intro jjj0
 have hjj0:∀ (b101:Bool) (h102:Heap),p34_j0 b101=some r→h=h102→St h none' [] h→jjj0 b101 h102:=by
  rintro b101 h102 hf rfl S
  unfold p34_j0 at hf
  unfold jjj0
  obtain rfl:=oi hf
  exact ⟨rfl,S.sel [] rfl⟩
 refine bP_intro (fun hc=>?_) (fun hc=>?_)
 ·rw [ifD hc] at hf
  exact hjj0 _ _  hf rfl S
 ·rw [ifE hc] at hf
  exact hjj0 _ _  hf rfl S
/-! 20: marblerun/marblerunref04.Place -/
noncomputable def p20_j0 (i105:Int) (line147:Int) (col148:Int):Option ((Int×Int×Int)⊕(Int×Int)):=some (.inl (line147,col148,(IntKind.wrap .i64 (i105+(1:Int)))))
noncomputable def p20_j1 (p0:List Int) (line103:Int) (col104:Int) (i105:Int) (b135:Bool):Option ((Int×Int×Int)⊕(Int×Int)):=if b135=true then ((idx p0 i105).bind fun e142=>if e142=(10:Int) then (p20_j0 i105 (IntKind.wrap .i64 (line103+(1:Int))) (1:Int)) else (p20_j0 i105 line103 (IntKind.wrap .i64 (col104+(1:Int))))) else (some (.inr (line103,col104)))
noncomputable def p20_l0 (p0:List Int) (at1:Int) (st:Int×Int×Int):Option ((Int×Int×Int)⊕(Int×Int)):=match st with | (line103,col104,i105)=>if i105 < at1 then (p20_j1 p0 line103 col104 i105 (decide (i105 < (p0.length:Int)))) else (p20_j1 p0 line103 col104 i105 false)
noncomputable def p20 (p0:List Int) (at1:Int):Option (Int×Int):=(loopC (p20_l0 p0 at1) ((1:Int),(1:Int),(0:Int))).bind fun res131=>(match res131 with | (line127,col128)=>some (line127,col128))
theorem r20 {h:Heap} {a0_0:AV} {p0:List Int} {at1:Int} (f0_0:SlR (rI .u8) (Snap h) a0_0 p0) {r:Int×Int} (hf:p20 p0 at1=some r):ZCalls F 20 [a0_0,(.int .i64 at1)] h fun v h'=>v=.tuple [.int .i64 r.1,.int .i64 r.2]∧St h none' [] h':=by
 refine w20 ?_
 unfold W20
 unfold p20 at hf
 have S:St h none' [] h:=St.refl _ _
 obtain ⟨res131,hL,hf⟩:=obind hf
 obtain ⟨n132,hL⟩:=loopC_iff.1 hL
 refine loopm20_0 (X0:=fun (p125:AV) (at126:Int) (line127:Int) (col128:Int) (i129:Int) (h130:Heap)=>St h none' [] h130∧(line127,col128)=res131) ?_ (loop20_0 (I:=fun (m134:Nat) (p101:AV) (at102:Int) (line103:Int) (col104:Int) (i105:Int) (h106:Heap)=>a0_0=p101∧at1=at102∧St h none' [] h106∧iter (p20_l0 p0 at1) m134 (line103,col104,i105)=some res131) ?_ (m:=n132) ?_)
 ·rintro p125 at126 line127 col128 i129 h130 ⟨S,rfl⟩
  try dsimp only at hf
  obtain rfl:=oi hf
  exact ⟨rfl,S.sel [] rfl⟩
 ·rintro m1340 p101 at102 line103 col104 i105 h106 ⟨rfl,rfl,S,hit⟩
  obtain ⟨m134,q133,rfl,hf,hk⟩:=iter_some hit
  clear hit
  unfold B20_0
  unfold p20_l0 at hf
  try dsimp only at hf
  intro jjj1
  have hjj1:∀ (b135:Bool) (h136:Heap),p20_j1 p0 line103 col104 i105 b135=some q133→h106=h136→St h none' [] h106→jjj1 b135 h136:=by
   rintro b135 h136 hf rfl S
   unfold p20_j1 at hf
   unfold jjj1
   refine bP_intro (fun hc=>?_) (fun hc=>?_)
   ·rw [ifT hc] at hf
    obtain ⟨e142,he142,hf⟩:=obind hf
    refine ix_go f0_0 (snap_mono S.le) he142 fun pe142=>?_
    obtain ⟨_,cr143,Rr143,Nr143,Or143,Zr143⟩:=SlR.idx f0_0 (snap_mono S.le) he142
    obtain rfl:cr143=[(.int .u8 e142)]:=Rr143
    refine ⟨e142,Zr143 _ rfl,?_⟩
    intro jjj0
    have hjj0:∀ (line147:Int) (col148:Int) (h144:Heap),p20_j0 i105 line147 col148=some q133→St h none' [] h144→jjj0 line147 col148 h144:=by
     rintro line147 col148 h144 hf S
     unfold p20_j0 at hf
     unfold jjj0
     obtain rfl:=oi hf
     exact ⟨m134,Nat.lt_succ_self _,rfl,rfl,S,hk⟩
    refine bP_intro (fun hc=>?_) (fun hc=>?_)
    ·rw [ifD hc] at hf
     exact hjj0 _ _ _  hf  S
    ·rw [ifE hc] at hf
     exact hjj0 _ _ _  hf  S
   ·rw [ifF hc] at hf
    obtain rfl:=oi hf
    obtain rfl:=hk
    exact ⟨S,rfl⟩
  refine bP_intro (fun hc=>?_) (fun hc=>?_)
  ·rw [ifD hc] at hf
   refine ifP_iff.2 ⟨(f0_0).is,?_⟩
   try rw [show (a0_0).slen=_ from (f0_0).slen]
   exact hjj1 _ _  hf rfl S
  ·rw [ifE hc] at hf
   exact hjj1 _ _  hf rfl S
 ·exact ⟨rfl,rfl,S,hL⟩
/-! 19: marblerun/marblerunref04.Tokens -/
noncomputable def p19_j0 (y1184:Int) (b1213:Bool):Option (Int⊕Int):=if b1213=true then (some (.inl (IntKind.wrap .i64 (y1184+(1:Int))))) else (some (.inr y1184))
noncomputable def p19_l0 (x0:List Int) (y1184:Int):Option (Int⊕Int):=if y1184 < (x0.length:Int) then ((idx x0 y1184).bind fun e1222=>p19_j0 y1184 (!decide (e1222=(10:Int)))) else (p19_j0 y1184 false)
noncomputable def p19_j1 (x0:List Int) (y106:Int) (y110:List TToken) (y111:List TToken) (y1689:Int) (y1690:Int) (y1693:Int) (c1695:Int) (c1696:Int):Option ((Int×Int×Int×(List TToken)×(List TToken))⊕((Int×Int)⊕(List TToken))):=(slc x0 y106 y1693).bind fun y1697=>(app 40 y111 [(TToken.mk c1695 (y1697.map u8) c1696 y106)]).bind fun y1704=>some (.inl (y1689,y1690,y1693,y110,y1704))
noncomputable def p19_j2 (y1716:Int) (b1873:Bool):Option (Int⊕Int):=if b1873=true then (some (.inl (IntKind.wrap .i64 (y1716+(1:Int))))) else (some (.inr y1716))
noncomputable def p19_j3 (y1716:Int) (b1907:Bool):Option (Int⊕Int):=p19_j2 y1716 b1907
noncomputable def p19_j4 (x0:List Int) (y1716:Int) (b1894:Bool):Option (Int⊕Int):=if b1894=true then (p19_j3 y1716 true) else ((idx x0 y1716).bind fun e1919=>p19_j3 y1716 (decide (e1919=(46:Int))))
noncomputable def p19_l1 (x0:List Int) (y1716:Int):Option (Int⊕Int):=if y1716 < (x0.length:Int) then ((idx x0 y1716).bind fun e1884=>(p33 e1884).bind fun y1888=>if y1888=true then (p19_j4 x0 y1716 true) else ((idx x0 y1716).bind fun e1922=>(p34 e1922).bind fun y1926=>p19_j4 x0 y1716 y1926)) else (p19_j2 y1716 false)
noncomputable def p19_j5 (y1938:Int) (b1981:Bool):Option (Int⊕Int):=if b1981=true then (some (.inl (IntKind.wrap .i64 (y1938+(1:Int))))) else (some (.inr y1938))
noncomputable def p19_l2 (x0:List Int) (y1938:Int):Option (Int⊕Int):=if y1938 < (x0.length:Int) then ((idx x0 y1938).bind fun e1992=>(p34 e1992).bind fun y1996=>p19_j5 y1938 y1996) else (p19_j5 y1938 false)
noncomputable def p19_l3 (x0:List Int) (y1969:Int) (st:Int×Int×Int×Int):Option ((Int×Int×Int×Int)⊕(Unit⊕(Int×Int×Int))):=match st with | (y1999,y2000,y2005,c2012)=>if y2005 < y1969 then ((idx x0 y2005).bind fun e2044=>if (1125899906842624:Int) < (IntKind.wrap .i64 ((IntKind.wrap .i64 (c2012 * (10:Int)))+(IntKind.wrap .i64 (IntKind.wrap .u8 (e2044 - (48:Int)))))) then (some (.inr (.inl ()))) else (some (.inl (y1999,y2000,(IntKind.wrap .i64 (y2005+(1:Int))),(IntKind.wrap .i64 ((IntKind.wrap .i64 (c2012 * (10:Int)))+(IntKind.wrap .i64 (IntKind.wrap .u8 (e2044 - (48:Int)))))))))) else (some (.inr (.inr (y1999,y2000,c2012))))
noncomputable def p19_j6 (y2083:Int) (c2155:Int):Option ((Int×Int)⊕Int):=some (.inl ((IntKind.wrap .i64 (y2083+(1:Int))),c2155))
noncomputable def p19_l4 (e1150:Int) (st:Int×Int):Option ((Int×Int)⊕Int):=match st with | (y2083,c2104)=>if y2083 < (8:Int) then ((idxS ([59,58,44,42,33,126,64,61]:List UInt8) y2083).bind fun y2141=>if y2141=e1150 then (p19_j6 y2083 (3:Int)) else (p19_j6 y2083 c2104)) else (some (.inr c2104))
noncomputable def p19_j7 (x0:List Int) (y103:Int) (y104:Int) (y106:Int) (y110:List TToken) (y111:List TToken) (e1150:Int) (b2061:Bool):Option ((Int×Int×Int×(List TToken)×(List TToken))⊕((Int×Int)⊕(List TToken))):=if b2061=true then (p19_j1 x0 y106 y110 y111 y103 y104 (IntKind.wrap .i64 ((IntKind.wrap .i64 (y106+(1:Int)))+(1:Int))) (3:Int) (0:Int)) else ((loopC (p19_l4 e1150) ((0:Int),(0:Int))).bind fun res2137=>((fun (c2136:Int)=>if c2136=(0:Int) then (some (.inr (.inl ((6:Int),y106)))) else (p19_j1 x0 y106 y110 y111 y103 y104 (IntKind.wrap .i64 (y106+(1:Int))) c2136 (0:Int))) res2137))
noncomputable def p19_j8 (x0:List Int) (y103:Int) (y104:Int) (y106:Int) (y110:List TToken) (y111:List TToken) (e1150:Int) (b2048:Bool):Option ((Int×Int×Int×(List TToken)×(List TToken))⊕((Int×Int)⊕(List TToken))):=if b2048=true then ((idx x0 (IntKind.wrap .i64 (y106+(1:Int)))).bind fun e2160=>p19_j7 x0 y103 y104 y106 y110 y111 e1150 (decide (e2160=(62:Int)))) else (p19_j7 x0 y103 y104 y106 y110 y111 e1150 false)
noncomputable def p19_j9 (x0:List Int) (y103:Int) (y104:Int) (y106:Int) (y110:List TToken) (y111:List TToken) (e1150:Int) (b1170:Bool):Option ((Int×Int×Int×(List TToken)×(List TToken))⊕((Int×Int)⊕(List TToken))):=if b1170=true then (some (.inl (y103,y104,(IntKind.wrap .i64 (y106+(1:Int))),y110,y111))) else (if e1150=(35:Int) then ((loopC (p19_l0 x0) y106).bind fun res1207=>((fun (y1205:Int)=>some (.inl (y103,y104,y1205,y110,y111))) res1207)) else ((p33 e1150).bind fun y1230=>if y1230=true then ((loopC (p19_l1 x0) (IntKind.wrap .i64 (y106+(1:Int)))).bind fun res1826=>((fun (y1823:Int)=>p19_j1 x0 y106 y110 y111 y103 y104 y1823 (1:Int) (0:Int)) res1826)) else ((p34 e1150).bind fun y1929=>if y1929=true then ((loopC (p19_l2 x0) (IntKind.wrap .i64 (y106+(1:Int)))).bind fun res1972=>((fun (y1969:Int)=>(loopC (p19_l3 x0 y1969) (y103,y104,y106,(0:Int))).bind fun res2040=>(match res2040 with | .inl _=>some (.inr (.inl ((3:Int),y106))) | .inr (y2031,y2032,c2039)=>p19_j1 x0 y106 y110 y111 y2031 y2032 y1969 (2:Int) c2039)) res1972)) else (if e1150=(45:Int) then (p19_j8 x0 y103 y104 y106 y110 y111 e1150 (decide ((IntKind.wrap .i64 (y106+(1:Int))) < (x0.length:Int)))) else (p19_j8 x0 y103 y104 y106 y110 y111 e1150 false)))))
noncomputable def p19_j10 (x0:List Int) (y103:Int) (y104:Int) (y106:Int) (y110:List TToken) (y111:List TToken) (e1150:Int) (b1161:Bool):Option ((Int×Int×Int×(List TToken)×(List TToken))⊕((Int×Int)⊕(List TToken))):=if b1161=true then (p19_j9 x0 y103 y104 y106 y110 y111 e1150 true) else (p19_j9 x0 y103 y104 y106 y110 y111 e1150 (decide (e1150=(13:Int))))
noncomputable def p19_j11 (x0:List Int) (y103:Int) (y104:Int) (y106:Int) (y110:List TToken) (y111:List TToken) (e1150:Int) (b1152:Bool):Option ((Int×Int×Int×(List TToken)×(List TToken))⊕((Int×Int)⊕(List TToken))):=if b1152=true then (p19_j10 x0 y103 y104 y106 y110 y111 e1150 true) else (p19_j10 x0 y103 y104 y106 y110 y111 e1150 (decide (e1150=(10:Int))))
noncomputable def p19_l5 (x0:List Int) (st:Int×Int×Int×(List TToken)×(List TToken)):Option ((Int×Int×Int×(List TToken)×(List TToken))⊕((Int×Int)⊕(List TToken))):=match st with | (y103,y104,y106,y110,y111)=>if y106 < (x0.length:Int) then ((idx x0 y106).bind fun e1150=>if e1150=(32:Int) then (p19_j11 x0 y103 y104 y106 y110 y111 e1150 true) else (p19_j11 x0 y103 y104 y106 y110 y111 e1150 (decide (e1150=(9:Int))))) else (some (.inr (.inr y111)))
noncomputable def p19 (x0:List Int):Option ((List TToken)×Int×Int):=(loopC (p19_l5 x0) ((0:Int),(0:Int),(0:Int),[],[])).bind fun res1146=>(match res1146 with | .inl (y1133,y1134)=>some ([],y1133,y1134) | .inr y1145=>(app 40 y1145 [(TToken.mk (0:Int) ([]:List UInt8) (0:Int) (x0.length:Int))]).bind fun y2173=>some (y2173,(0:Int),(0:Int)))
theorem r19 {h:Heap} {a0_0:AV} {x0:List Int} (f0_0:SlR (rI .u8) (Snap h) a0_0 x0) {r:(List TToken)×Int×Int} (hf:p19 x0=some r):ZCalls F 19 [a0_0] h fun v h'=>∃ w0,v=.tuple [w0,.int .i64 r.2.1,.int .i64 r.2.2]∧St h none' [own (oSl (fz rToken)) [w0] r.1] h':=by
 refine w19 ?_
 unfold W19
 unfold p19 at hf
 have S:St h none' [] h:=St.refl _ _
 obtain ⟨res1146,hL,hf⟩:=obind hf
 obtain ⟨n1147,hL⟩:=loopC_iff.1 hL
 have S:St _ _ [own (oSl (fz rToken)) [.nilSlice] []] _:=S.addE (oSl_nil _ _)
 have S:St _ _ [own (oSl (fz rToken)) [.nilSlice] [],_] _:=S.addE (oSl_nil _ _)
 have S:St _ _ [_,_] _:=S.sel [1,0] rfl
 refine loopm19_5 (R:=fun (y1131:AV) (y1132:AV) (y1133:Int) (y1134:Int) (y1135:AV) (y1136:Int) (h1137:Heap)=>AV.nilSlice=y1132∧St h none' [] h1137∧(.inl (y1133,y1134))=res1146) (X0:=fun (y1138:AV) (y1139:AV) (y1140:Int) (y1141:Int) (y1142:AV) (y1143:Int) (h1144:Heap)=>∃ (y1145:List TToken),a0_0=y1138∧St h none' [own (oSl (fz rToken)) [y1142] y1145] h1144∧(.inr y1145)=res1146) ?_ ?_ (loop19_5 (I:=fun (m1149:Nat) (y101:AV) (y102:AV) (y103:Int) (y104:Int) (y105:AV) (y106:Int) (h107:Heap)=>∃ (y110:List TToken),∃ (y111:List TToken),a0_0=y101∧St h none' [own (oSl (fz rToken)) [y102] y110,own (oSl (fz rToken)) [y105] y111] h107∧iter (p19_l5 x0) m1149 (y103,y104,y106,y110,y111)=some res1146) ?_ (m:=n1147) ?_)
 ·rintro y1131 y1132 y1133 y1134 y1135 y1136 h1137 ⟨rfl,S,rfl⟩
  try dsimp only at hf
  have S:St _ _ [own (oSl (fz rToken)) [.nilSlice] []] _:=S.addE (oSl_nil _ _)
  obtain rfl:=oi hf
  exact ⟨.nilSlice,rfl,S.sel [0] rfl⟩
 ·rintro y1138 y1139 y1140 y1141 y1142 y1143 h1144 ⟨y1145,rfl,S,rfl⟩
  try dsimp only at hf
  refine ifP_iff.2 ⟨(f0_0).is,?_⟩
  try rw [show (a0_0).slen=_ from (f0_0).slen]
  intro h2169
  have S:St _ _ [rowC h1144.n [(.int .u8 0),(.str ([]:List UInt8)),(.int .i64 0),(.int .i64 (x0.length:Int))] 0,_] _:=S.pushRow [(.int .u8 0),(.str ([]:List UInt8)),(.int .i64 0),(.int .i64 (x0.length:Int))]
  obtain ⟨y2173,hy2173,hf⟩:=obind hf
  have S:St _ _ [own (fz rToken) [(.int .u8 0),(.str ([]:List UInt8)),(.int .i64 0),(.int .i64 (x0.length:Int))] (TToken.mk (0:Int) ([]:List UInt8) (0:Int) (x0.length:Int)),_,_] _:=S.add (r:=rToken) (x:=(TToken.mk (0:Int) ([]:List UInt8) (0:Int) (x0.length:Int))) (rToken_mk (x:=(TToken.mk (0:Int) ([]:List UInt8) (0:Int) (x0.length:Int))))
  have S:St _ _ [_,_,_] _:=S.sel [2,0,1] rfl
  have my2173:=app_some hy2173
  obtain ⟨v2172,h2171,e2174,S⟩:=St.app1R (r:=(fz rToken)) (b:=40) S my2173.1
  have S:St _ _ [own (oSl (fz rToken)) [v2172] y2173] _:=S.cast1 (by rw [← my2173.2]<;>rfl)
  refine ⟨v2172,h2171,e2174,?_⟩
  obtain rfl:=oi hf
  exact ⟨v2172,rfl,S.sel [0] rfl⟩
 ·rintro m11490 y101 y102 y103 y104 y105 y106 h107 ⟨y110,y111,rfl,S,hit⟩
  obtain ⟨m1149,q1148,rfl,hf,hk⟩:=iter_some hit
  clear hit
  unfold B19_5
  unfold p19_l5 at hf
  try dsimp only at hf
  refine ifP_iff.2 ⟨(f0_0).is,?_⟩
  try rw [show (a0_0).slen=_ from (f0_0).slen]
  refine bP_intro (fun hc=>?_) (fun hc=>?_)
  ·rw [ifD hc] at hf
   obtain ⟨e1150,he1150,hf⟩:=obind hf
   refine ix_go f0_0 (snap_mono S.le) he1150 fun pe1150=>?_
   obtain ⟨_,cr1151,Rr1151,Nr1151,Or1151,Zr1151⟩:=SlR.idx f0_0 (snap_mono S.le) he1150
   obtain rfl:cr1151=[(.int .u8 e1150)]:=Rr1151
   refine ⟨e1150,Zr1151 _ rfl,?_⟩
   intro jjj11
   have hjj11:∀ (b1152:Bool) (h1153:Heap),p19_j11 x0 y103 y104 y106 y110 y111 e1150 b1152=some q1148→h107=h1153→St h none' [own (oSl (fz rToken)) [y102] y110,own (oSl (fz rToken)) [y105] y111] h107→jjj11 b1152 h1153:=by
    rintro b1152 h1153 hf rfl S
    unfold p19_j11 at hf
    unfold jjj11
    intro jjj10
    have hjj10:∀ (b1161:Bool) (h1162:Heap),p19_j10 x0 y103 y104 y106 y110 y111 e1150 b1161=some q1148→h107=h1162→St h none' [own (oSl (fz rToken)) [y102] y110,own (oSl (fz rToken)) [y105] y111] h107→jjj10 b1161 h1162:=by
     rintro b1161 h1162 hf rfl S
     unfold p19_j10 at hf
     unfold jjj10
     intro jjj9
     have hjj9:∀ (b1170:Bool) (h1171:Heap),p19_j9 x0 y103 y104 y106 y110 y111 e1150 b1170=some q1148→h107=h1171→St h none' [own (oSl (fz rToken)) [y102] y110,own (oSl (fz rToken)) [y105] y111] h107→jjj9 b1170 h1171:=by
      rintro b1170 h1171 hf rfl S
      unfold p19_j9 at hf
      unfold jjj9
      refine bP_intro (fun hc=>?_) (fun hc=>?_)
      ·rw [ifT hc] at hf
       obtain rfl:=oi hf
       exact ⟨m1149,Nat.lt_succ_self _,y110,y111,rfl,S,hk⟩
      ·rw [ifF hc] at hf
       refine bP_intro (fun hc=>?_) (fun hc=>?_)
       ·rw [ifD hc] at hf
        obtain ⟨res1207,hL,hf⟩:=obind hf
        obtain ⟨n1208,hL⟩:=loopC_iff.1 hL
        refine loopm19_0 (X2:=fun (y1200:AV) (y1201:AV) (y1202:Int) (y1203:Int) (y1204:AV) (y1205:Int) (h1206:Heap)=>a0_0=y1200∧y102=y1201∧y103=y1202∧y104=y1203∧y105=y1204∧St h none' [own (oSl (fz rToken)) [y102] y110,own (oSl (fz rToken)) [y105] y111] h1206∧y1205=res1207) ?_ (loop19_0 (I:=fun (m1210:Nat) (y1179:AV) (y1180:AV) (y1181:Int) (y1182:Int) (y1183:AV) (y1184:Int) (h1185:Heap)=>a0_0=y1179∧y102=y1180∧y103=y1181∧y104=y1182∧y105=y1183∧St h none' [own (oSl (fz rToken)) [y102] y110,own (oSl (fz rToken)) [y105] y111] h1185∧iter (p19_l0 x0) m1210 y1184=some res1207) ?_ (m:=n1208) ?_)
        ·rintro y1200 y1201 y1202 y1203 y1204 y1205 h1206 ⟨rfl,rfl,rfl,rfl,rfl,S,rfl⟩
         try dsimp only at hf
         obtain rfl:=oi hf
         exact ⟨m1149,Nat.lt_succ_self _,y110,y111,rfl,S,hk⟩
        ·rintro m12100 y1179 y1180 y1181 y1182 y1183 y1184 h1185 ⟨rfl,rfl,rfl,rfl,rfl,S,hit⟩
         obtain ⟨m1210,q1209,rfl,hf,hk⟩:=iter_some hit
         clear hit
         unfold B19_0
         unfold p19_l0 at hf
         try dsimp only at hf
         refine ifP_iff.2 ⟨(f0_0).is,?_⟩
         try rw [show (a0_0).slen=_ from (f0_0).slen]
         intro jjj0
         have hjj0:∀ (b1213:Bool) (h1214:Heap),p19_j0 y1184 b1213=some q1209→h1185=h1214→St h none' [own (oSl (fz rToken)) [y102] y110,own (oSl (fz rToken)) [y105] y111] h1185→jjj0 b1213 h1214:=by
          rintro b1213 h1214 hf rfl S
          unfold p19_j0 at hf
          unfold jjj0
          refine bP_intro (fun hc=>?_) (fun hc=>?_)
          ·rw [ifT hc] at hf
           obtain rfl:=oi hf
           exact ⟨m1210,Nat.lt_succ_self _,rfl,rfl,rfl,rfl,rfl,S,hk⟩
          ·rw [ifF hc] at hf
           obtain rfl:=oi hf
           obtain rfl:=hk
           exact ⟨rfl,rfl,rfl,rfl,rfl,S,rfl⟩
         refine bP_intro (fun hc=>?_) (fun hc=>?_)
         ·rw [ifD hc] at hf
          obtain ⟨e1222,he1222,hf⟩:=obind hf
          refine ix_go f0_0 (snap_mono S.le) he1222 fun pe1222=>?_
          obtain ⟨_,cr1223,Rr1223,Nr1223,Or1223,Zr1223⟩:=SlR.idx f0_0 (snap_mono S.le) he1222
          obtain rfl:cr1223=[(.int .u8 e1222)]:=Rr1223
          refine ⟨e1222,Zr1223 _ rfl,?_⟩
          exact hjj0 _ _  hf rfl S
         ·rw [ifE hc] at hf
          exact hjj0 _ _  hf rfl S
        ·exact ⟨rfl,rfl,rfl,rfl,rfl,S,hL⟩
       ·rw [ifE hc] at hf
        intro h1224
        have S:St _ _ [rowC h107.n [(.int .u8 0),(.str ([]:List UInt8)),(.int .i64 0),(.int .i64 0)] 0,_,_] _:=S.pushRow [(.int .u8 0),(.str ([]:List UInt8)),(.int .i64 0),(.int .i64 0)]
        obtain ⟨h1226,e1227,S⟩:=S.store (off:=0) (n:=4) (x:=(.agg [(.int .u8 0),(.str ([]:List UInt8)),(.int .i64 0),(.int .i64 y106)])) (cs':=[(.int .u8 0),(.str ([]:List UInt8)),(.int .i64 0),(.int .i64 y106)]) (nl rfl) rfl rfl rfl
        refine ⟨h1226,e1227,?_⟩
        obtain ⟨y1230,hy1230,hf⟩:=obind hf
        refine ⟨_,Fz.refl _,?_⟩
        refine (r33 (c0:=e1150) hy1230).mono fun v1228 h1229 T=>?_
        obtain ⟨rfl,T⟩:=T
        have S:St _ _ [_,_,_] _:=S.comp T
        refine ⟨y1230,rfl,?_⟩
        intro jjj1
        have hjj1:∀ (y1687:AV) (y1688:AV) (y1689:Int) (y1690:Int) (y1691:AV) (y1692:Int) (y1693:Int) (y1694:AV) (h1686:Heap) (c1695:Int) (c1696:Int),p19_j1 x0 y106 y110 y111 y1689 y1690 y1693 c1695 c1696=some q1148→a0_0=y1687→y105=y1691→y106=y1692→AV.ptr h107.n 0 0=y1694→St h none' [own (oSl (fz rToken)) [y1688] y110,own (oSl (fz rToken)) [y105] y111,rowC h107.n [(.int .u8 c1695),(.str ([]:List UInt8)),(.int .i64 c1696),(.int .i64 y106)] 0] h1686→jjj1 y1687 y1688 y1689 y1690 y1691 y1692 y1693 y1694 h1686:=by
         rintro y1687 y1688 y1689 y1690 y1691 y1692 y1693 y1694 h1686 c1695 c1696 hf rfl rfl rfl rfl S
         unfold p19_j1 at hf
         unfold jjj1
         obtain ⟨y1697,hy1697,hf⟩:=obind hf
         have ey1697:=(sliceSl_ev11 (k:=.i64) (k':=.i64) f0_0 hy1697)
         have fy1697:SlR (rI .u8) (Snap h) (a0_0.sub 1 (y106:Int).toNat (y1693:Int).toNat) y1697:=slc_eq hy1697▸SlR.sub f0_0 (slc_le hy1697).1 (slc_le hy1697).2
         refine oP_intro (a0_0.sub 1 (y106:Int).toNat (y1693:Int).toNat) ey1697 ?_
         refine ⟨_,bytes_ev (SlR.mono (snap_mono S.le) fy1697),(y1697.map u8),rfl,?_⟩
         refine ifP_iff.2 ⟨rfl,?_⟩
         have S:St _ _ [_,_,_] _:=S.sel [2,0,1] rfl
         obtain ⟨h1698,e1699,S⟩:=S.store (off:=1) (n:=1) (x:=(.str (y1697.map u8))) (cs':=[(.int .u8 c1695),(.str (y1697.map u8)),(.int .i64 c1696),(.int .i64 y106)]) (nl rfl) rfl rfl rfl
         refine ⟨h1698,e1699,?_⟩
         refine ⟨(.int .u8 c1695),(.str (y1697.map u8)),(.int .i64 c1696),(.int .i64 y106),S.rdN m0 (nl rfl) rfl,?_⟩
         intro h1700
         have S:St _ _ [rowC h1698.n [(.int .u8 c1695),(.str (y1697.map u8)),(.int .i64 c1696),(.int .i64 y106)] 0,_,_,_] _:=S.pushRow [(.int .u8 c1695),(.str (y1697.map u8)),(.int .i64 c1696),(.int .i64 y106)]
         obtain ⟨y1704,hy1704,hf⟩:=obind hf
         have S:St _ _ [own (fz rToken) [(.int .u8 c1695),(.str (y1697.map u8)),(.int .i64 c1696),(.int .i64 y106)] (TToken.mk c1695 (y1697.map u8) c1696 y106),_,_,_,_] _:=S.add (r:=rToken) (x:=(TToken.mk c1695 (y1697.map u8) c1696 y106)) (rToken_mk (x:=(TToken.mk c1695 (y1697.map u8) c1696 y106)))
         have S:St _ _ [_,_,_,_,_] _:=S.sel [4,0,1,2,3] rfl
         have my1704:=app_some hy1704
         obtain ⟨v1703,h1702,e1705,S⟩:=St.app1R (r:=(fz rToken)) (b:=40) S my1704.1
         have S:St _ _ [own (oSl (fz rToken)) [v1703] y1704,_,_] _:=S.cast1 (by rw [← my1704.2]<;>rfl)
         refine ⟨v1703,h1702,e1705,?_⟩
         have S:St _ _ [_,_] _:=S.sel [2,0] rfl
         obtain rfl:=oi hf
         exact ⟨m1149,Nat.lt_succ_self _,y110,y1704,rfl,S,hk⟩
        refine bP_intro (fun hc=>?_) (fun hc=>?_)
        ·rw [ifT hc] at hf
         obtain ⟨h1708,e1709,S⟩:=S.store (off:=0) (n:=1) (x:=(.int .u8 1)) (cs':=[(.int .u8 1),(.str ([]:List UInt8)),(.int .i64 0),(.int .i64 y106)]) (nl rfl) rfl rfl rfl
         refine ⟨h1708,e1709,?_⟩
         obtain ⟨res1826,hL,hf⟩:=obind hf
         obtain ⟨n1827,hL⟩:=loopC_iff.1 hL
         have S:St _ _ [_,_,_] _:=S.sel [1,2,0] rfl
         refine loopm19_1 (X4:=fun (y1817:AV) (y1818:AV) (y1819:Int) (y1820:Int) (y1821:AV) (y1822:Int) (y1823:Int) (y1824:AV) (h1825:Heap)=>a0_0=y1817∧y102=y1818∧y103=y1819∧y104=y1820∧y105=y1821∧y106=y1822∧AV.ptr h107.n 0 0=y1824∧St h none' [own (oSl (fz rToken)) [y102] y110,own (oSl (fz rToken)) [y105] y111,rowC h107.n [(.int .u8 1),(.str ([]:List UInt8)),(.int .i64 0),(.int .i64 y106)] 0] h1825∧y1823=res1826) ?_ (loop19_1 (I:=fun (m1829:Nat) (y1710:AV) (y1711:AV) (y1712:Int) (y1713:Int) (y1714:AV) (y1715:Int) (y1716:Int) (y1717:AV) (h1718:Heap)=>a0_0=y1710∧y102=y1711∧y103=y1712∧y104=y1713∧y105=y1714∧y106=y1715∧AV.ptr h107.n 0 0=y1717∧St h none' [own (oSl (fz rToken)) [y102] y110,own (oSl (fz rToken)) [y105] y111,rowC h107.n [(.int .u8 1),(.str ([]:List UInt8)),(.int .i64 0),(.int .i64 y106)] 0] h1718∧iter (p19_l1 x0) m1829 y1716=some res1826) ?_ (m:=n1827) ?_)
         ·rintro y1817 y1818 y1819 y1820 y1821 y1822 y1823 y1824 h1825 ⟨rfl,rfl,rfl,rfl,rfl,rfl,rfl,S,rfl⟩
          try dsimp only at hf
          exact hjj1 _ _ _ _ _ _ _ _ _ (1:Int) (0:Int) hf rfl rfl rfl rfl S
         ·rintro m18290 y1710 y1711 y1712 y1713 y1714 y1715 y1716 y1717 h1718 ⟨rfl,rfl,rfl,rfl,rfl,rfl,rfl,S,hit⟩
          obtain ⟨m1829,q1828,rfl,hf,hk⟩:=iter_some hit
          clear hit
          unfold B19_1
          unfold p19_l1 at hf
          try dsimp only at hf
          refine ifP_iff.2 ⟨(f0_0).is,?_⟩
          try rw [show (a0_0).slen=_ from (f0_0).slen]
          intro jjj2
          have hjj2:∀ (b1873:Bool) (h1874:Heap),p19_j2 y1716 b1873=some q1828→St h none' [own (oSl (fz rToken)) [y102] y110,own (oSl (fz rToken)) [y105] y111,rowC h107.n [(.int .u8 1),(.str ([]:List UInt8)),(.int .i64 0),(.int .i64 y106)] 0] h1874→jjj2 b1873 h1874:=by
           rintro b1873 h1874 hf S
           unfold p19_j2 at hf
           unfold jjj2
           refine bP_intro (fun hc=>?_) (fun hc=>?_)
           ·rw [ifT hc] at hf
            obtain rfl:=oi hf
            exact ⟨m1829,Nat.lt_succ_self _,rfl,rfl,rfl,rfl,rfl,rfl,rfl,S,hk⟩
           ·rw [ifF hc] at hf
            obtain rfl:=oi hf
            obtain rfl:=hk
            exact ⟨rfl,rfl,rfl,rfl,rfl,rfl,rfl,S,rfl⟩
          refine bP_intro (fun hc=>?_) (fun hc=>?_)
          ·rw [ifD hc] at hf
           obtain ⟨e1884,he1884,hf⟩:=obind hf
           refine ix_go f0_0 (snap_mono S.le) he1884 fun pe1884=>?_
           obtain ⟨_,cr1885,Rr1885,Nr1885,Or1885,Zr1885⟩:=SlR.idx f0_0 (snap_mono S.le) he1884
           obtain rfl:cr1885=[(.int .u8 e1884)]:=Rr1885
           refine ⟨e1884,Zr1885 _ rfl,?_⟩
           obtain ⟨y1888,hy1888,hf⟩:=obind hf
           refine ⟨_,Fz.refl _,?_⟩
           refine (r33 (c0:=e1884) hy1888).mono fun v1886 h1887 T=>?_
           obtain ⟨rfl,T⟩:=T
           have S:St _ _ [_,_,_] _:=S.comp T
           refine ⟨y1888,rfl,?_⟩
           intro jjj4
           have hjj4:∀ (b1894:Bool) (h1895:Heap),p19_j4 x0 y1716 b1894=some q1828→St h none' [own (oSl (fz rToken)) [y102] y110,own (oSl (fz rToken)) [y105] y111,rowC h107.n [(.int .u8 1),(.str ([]:List UInt8)),(.int .i64 0),(.int .i64 y106)] 0] h1895→jjj4 b1894 h1895:=by
            rintro b1894 h1895 hf S
            unfold p19_j4 at hf
            unfold jjj4
            intro jjj3
            have hjj3:∀ (b1907:Bool) (h1908:Heap),p19_j3 y1716 b1907=some q1828→h1895=h1908→St h none' [own (oSl (fz rToken)) [y102] y110,own (oSl (fz rToken)) [y105] y111,rowC h107.n [(.int .u8 1),(.str ([]:List UInt8)),(.int .i64 0),(.int .i64 y106)] 0] h1895→jjj3 b1907 h1908:=by
             rintro b1907 h1908 hf rfl S
             unfold p19_j3 at hf
             unfold jjj3
             exact hjj2 _ _  hf  S
            refine bP_intro (fun hc=>?_) (fun hc=>?_)
            ·rw [ifT hc] at hf
             exact hjj3 _ _  hf rfl S
            ·rw [ifF hc] at hf
             obtain ⟨e1919,he1919,hf⟩:=obind hf
             refine ix_go f0_0 (snap_mono S.le) he1919 fun pe1919=>?_
             obtain ⟨_,cr1920,Rr1920,Nr1920,Or1920,Zr1920⟩:=SlR.idx f0_0 (snap_mono S.le) he1919
             obtain rfl:cr1920=[(.int .u8 e1919)]:=Rr1920
             refine ⟨e1919,Zr1920 _ rfl,?_⟩
             exact hjj3 _ _  hf rfl S
           refine bP_intro (fun hc=>?_) (fun hc=>?_)
           ·rw [ifT hc] at hf
            exact hjj4 _ _  hf  S
           ·rw [ifF hc] at hf
            obtain ⟨e1922,he1922,hf⟩:=obind hf
            refine ix_go f0_0 (snap_mono S.le) he1922 fun pe1922=>?_
            obtain ⟨_,cr1923,Rr1923,Nr1923,Or1923,Zr1923⟩:=SlR.idx f0_0 (snap_mono S.le) he1922
            obtain rfl:cr1923=[(.int .u8 e1922)]:=Rr1923
            refine ⟨e1922,Zr1923 _ rfl,?_⟩
            obtain ⟨y1926,hy1926,hf⟩:=obind hf
            refine ⟨_,Fz.refl _,?_⟩
            refine (r34 (c0:=e1922) hy1926).mono fun v1924 h1925 T=>?_
            obtain ⟨rfl,T⟩:=T
            have S:St _ _ [_,_,_] _:=S.comp T
            refine ⟨y1926,rfl,?_⟩
            exact hjj4 _ _  hf  S
          ·rw [ifE hc] at hf
           exact hjj2 _ _  hf  S
         ·exact ⟨rfl,rfl,rfl,rfl,rfl,rfl,rfl,S,hL⟩
        ·rw [ifF hc] at hf
         obtain ⟨y1929,hy1929,hf⟩:=obind hf
         refine ⟨_,Fz.refl _,?_⟩
         refine (r34 (c0:=e1150) hy1929).mono fun v1927 h1928 T=>?_
         obtain ⟨rfl,T⟩:=T
         have S:St _ _ [_,_,_] _:=S.comp T
         refine ⟨y1929,rfl,?_⟩
         refine bP_intro (fun hc=>?_) (fun hc=>?_)
         ·rw [ifT hc] at hf
          obtain ⟨h1930,e1931,S⟩:=S.store (off:=0) (n:=1) (x:=(.int .u8 2)) (cs':=[(.int .u8 2),(.str ([]:List UInt8)),(.int .i64 0),(.int .i64 y106)]) (nl rfl) rfl rfl rfl
          refine ⟨h1930,e1931,?_⟩
          obtain ⟨res1972,hL,hf⟩:=obind hf
          obtain ⟨n1973,hL⟩:=loopC_iff.1 hL
          have S:St _ _ [_,_,_] _:=S.sel [1,2,0] rfl
          refine loopm19_2 (X6:=fun (y1963:AV) (y1964:AV) (y1965:Int) (y1966:Int) (y1967:AV) (y1968:Int) (y1969:Int) (y1970:AV) (h1971:Heap)=>a0_0=y1963∧y102=y1964∧y103=y1965∧y104=y1966∧y105=y1967∧y106=y1968∧AV.ptr h107.n 0 0=y1970∧St h none' [own (oSl (fz rToken)) [y102] y110,own (oSl (fz rToken)) [y105] y111,rowC h107.n [(.int .u8 2),(.str ([]:List UInt8)),(.int .i64 0),(.int .i64 y106)] 0] h1971∧y1969=res1972) ?_ (loop19_2 (I:=fun (m1975:Nat) (y1932:AV) (y1933:AV) (y1934:Int) (y1935:Int) (y1936:AV) (y1937:Int) (y1938:Int) (y1939:AV) (h1940:Heap)=>a0_0=y1932∧y102=y1933∧y103=y1934∧y104=y1935∧y105=y1936∧y106=y1937∧AV.ptr h107.n 0 0=y1939∧St h none' [own (oSl (fz rToken)) [y102] y110,own (oSl (fz rToken)) [y105] y111,rowC h107.n [(.int .u8 2),(.str ([]:List UInt8)),(.int .i64 0),(.int .i64 y106)] 0] h1940∧iter (p19_l2 x0) m1975 y1938=some res1972) ?_ (m:=n1973) ?_)
          ·rintro y1963 y1964 y1965 y1966 y1967 y1968 y1969 y1970 h1971 ⟨rfl,rfl,rfl,rfl,rfl,rfl,rfl,S,rfl⟩
           try dsimp only at hf
           obtain ⟨res2040,hL,hf⟩:=obind hf
           obtain ⟨n2041,hL⟩:=loopC_iff.1 hL
           refine loopm19_3 (R:=fun (y2019:AV) (y2020:AV) (y2021:Int) (y2022:Int) (y2023:AV) (y2024:Int) (y2025:Int) (y2026:AV) (y2027:Int) (h2028:Heap)=>AV.nilSlice=y2020∧(3:Int)=y2021∧y106=y2022∧St h none' [] h2028∧(.inl ())=res2040) (X8:=fun (y2029:AV) (y2030:AV) (y2031:Int) (y2032:Int) (y2033:AV) (y2034:Int) (y2035:Int) (y2036:AV) (y2037:Int) (h2038:Heap)=>∃ (c2039:Int),a0_0=y2029∧y105=y2033∧y106=y2034∧y1969=y2035∧AV.ptr h107.n 0 0=y2036∧St h none' [own (oSl (fz rToken)) [y2030] y110,own (oSl (fz rToken)) [y105] y111,rowC h107.n [(.int .u8 2),(.str ([]:List UInt8)),(.int .i64 c2039),(.int .i64 y106)] 0] h2038∧(.inr (y2031,y2032,c2039))=res2040) ?_ ?_ (loop19_3 (I:=fun (m2043:Nat) (y1997:AV) (y1998:AV) (y1999:Int) (y2000:Int) (y2001:AV) (y2002:Int) (y2003:Int) (y2004:AV) (y2005:Int) (h2011:Heap)=>∃ (c2012:Int),a0_0=y1997∧y105=y2001∧y106=y2002∧y1969=y2003∧AV.ptr h107.n 0 0=y2004∧St h none' [own (oSl (fz rToken)) [y1998] y110,own (oSl (fz rToken)) [y105] y111,rowC h107.n [(.int .u8 2),(.str ([]:List UInt8)),(.int .i64 c2012),(.int .i64 y106)] 0] h2011∧iter (p19_l3 x0 y1969) m2043 (y1999,y2000,y2005,c2012)=some res2040) ?_ (m:=n2041) ?_)
           ·rintro y2019 y2020 y2021 y2022 y2023 y2024 y2025 y2026 y2027 h2028 ⟨rfl,rfl,rfl,S,rfl⟩
            try dsimp only at hf
            obtain rfl:=oi hf
            obtain rfl:=hk
            exact ⟨rfl,S,rfl⟩
           ·rintro y2029 y2030 y2031 y2032 y2033 y2034 y2035 y2036 y2037 h2038 ⟨c2039,rfl,rfl,rfl,rfl,rfl,S,rfl⟩
            try dsimp only at hf
            exact hjj1 _ _ _ _ _ _ _ _ _ (2:Int) c2039 hf rfl rfl rfl rfl S
           ·rintro m20430 y1997 y1998 y1999 y2000 y2001 y2002 y2003 y2004 y2005 h2011 ⟨c2012,rfl,rfl,rfl,rfl,rfl,S,hit⟩
            obtain ⟨m2043,q2042,rfl,hf,hk⟩:=iter_some hit
            clear hit
            unfold B19_3
            unfold p19_l3 at hf
            try dsimp only at hf
            refine bP_intro (fun hc=>?_) (fun hc=>?_)
            ·rw [ifD hc] at hf
             refine ifP_iff.2 ⟨rfl,?_⟩
             refine ⟨c2012,S.rd1 m2 rfl,?_⟩
             obtain ⟨e2044,he2044,hf⟩:=obind hf
             refine ix_go f0_0 (snap_mono S.le) he2044 fun pe2044=>?_
             obtain ⟨_,cr2045,Rr2045,Nr2045,Or2045,Zr2045⟩:=SlR.idx f0_0 (snap_mono S.le) he2044
             obtain rfl:cr2045=[(.int .u8 e2044)]:=Rr2045
             refine ⟨e2044,Zr2045 _ rfl,?_⟩
             refine ifP_iff.2 ⟨rfl,?_⟩
             have S:St _ _ [_,_,_] _:=S.sel [2,0,1] rfl
             obtain ⟨h2046,e2047,S⟩:=S.store (off:=2) (n:=1) (x:=(.int .i64 (IntKind.wrap .i64 ((IntKind.wrap .i64 (c2012 * (10:Int)))+(IntKind.wrap .i64 (IntKind.wrap .u8 (e2044 - (48:Int)))))))) (cs':=[(.int .u8 2),(.str ([]:List UInt8)),(.int .i64 (IntKind.wrap .i64 ((IntKind.wrap .i64 (c2012 * (10:Int)))+(IntKind.wrap .i64 (IntKind.wrap .u8 (e2044 - (48:Int))))))),(.int .i64 y106)]) (nl rfl) rfl rfl rfl
             refine ⟨h2046,e2047,?_⟩
             refine ifP_iff.2 ⟨rfl,?_⟩
             refine ⟨(IntKind.wrap .i64 ((IntKind.wrap .i64 (c2012 * (10:Int)))+(IntKind.wrap .i64 (IntKind.wrap .u8 (e2044 - (48:Int)))))),S.rd1 m0 rfl,?_⟩
             refine bP_intro (fun hc=>?_) (fun hc=>?_)
             ·rw [ifD hc] at hf
              have S:St _ _ [] _:=S.sel [] rfl
              obtain rfl:=oi hf
              obtain rfl:=hk
              exact ⟨rfl,rfl,rfl,S,rfl⟩
             ·rw [ifE hc] at hf
              have S:St _ _ [_,_,_] _:=S.sel [1,2,0] rfl
              obtain rfl:=oi hf
              exact ⟨m2043,Nat.lt_succ_self _,(IntKind.wrap .i64 ((IntKind.wrap .i64 (c2012 * (10:Int)))+(IntKind.wrap .i64 (IntKind.wrap .u8 (e2044 - (48:Int)))))),rfl,rfl,rfl,rfl,rfl,S,hk⟩
            ·rw [ifE hc] at hf
             obtain rfl:=oi hf
             obtain rfl:=hk
             exact ⟨c2012,rfl,rfl,rfl,rfl,rfl,S,rfl⟩
           ·exact ⟨(0:Int),rfl,rfl,rfl,rfl,rfl,S,hL⟩
          ·rintro m19750 y1932 y1933 y1934 y1935 y1936 y1937 y1938 y1939 h1940 ⟨rfl,rfl,rfl,rfl,rfl,rfl,rfl,S,hit⟩
           obtain ⟨m1975,q1974,rfl,hf,hk⟩:=iter_some hit
           clear hit
           unfold B19_2
           unfold p19_l2 at hf
           try dsimp only at hf
           refine ifP_iff.2 ⟨(f0_0).is,?_⟩
           try rw [show (a0_0).slen=_ from (f0_0).slen]
           intro jjj5
           have hjj5:∀ (b1981:Bool) (h1982:Heap),p19_j5 y1938 b1981=some q1974→St h none' [own (oSl (fz rToken)) [y102] y110,own (oSl (fz rToken)) [y105] y111,rowC h107.n [(.int .u8 2),(.str ([]:List UInt8)),(.int .i64 0),(.int .i64 y106)] 0] h1982→jjj5 b1981 h1982:=by
            rintro b1981 h1982 hf S
            unfold p19_j5 at hf
            unfold jjj5
            refine bP_intro (fun hc=>?_) (fun hc=>?_)
            ·rw [ifT hc] at hf
             obtain rfl:=oi hf
             exact ⟨m1975,Nat.lt_succ_self _,rfl,rfl,rfl,rfl,rfl,rfl,rfl,S,hk⟩
            ·rw [ifF hc] at hf
             obtain rfl:=oi hf
             obtain rfl:=hk
             exact ⟨rfl,rfl,rfl,rfl,rfl,rfl,rfl,S,rfl⟩
           refine bP_intro (fun hc=>?_) (fun hc=>?_)
           ·rw [ifD hc] at hf
            obtain ⟨e1992,he1992,hf⟩:=obind hf
            refine ix_go f0_0 (snap_mono S.le) he1992 fun pe1992=>?_
            obtain ⟨_,cr1993,Rr1993,Nr1993,Or1993,Zr1993⟩:=SlR.idx f0_0 (snap_mono S.le) he1992
            obtain rfl:cr1993=[(.int .u8 e1992)]:=Rr1993
            refine ⟨e1992,Zr1993 _ rfl,?_⟩
            obtain ⟨y1996,hy1996,hf⟩:=obind hf
            refine ⟨_,Fz.refl _,?_⟩
            refine (r34 (c0:=e1992) hy1996).mono fun v1994 h1995 T=>?_
            obtain ⟨rfl,T⟩:=T
            have S:St _ _ [_,_,_] _:=S.comp T
            refine ⟨y1996,rfl,?_⟩
            exact hjj5 _ _  hf  S
           ·rw [ifE hc] at hf
            exact hjj5 _ _  hf  S
          ·exact ⟨rfl,rfl,rfl,rfl,rfl,rfl,rfl,S,hL⟩
         ·rw [ifF hc] at hf
          intro jjj8
          have hjj8:∀ (b2048:Bool) (h2049:Heap),p19_j8 x0 y103 y104 y106 y110 y111 e1150 b2048=some q1148→h1928=h2049→St h none' [own (oSl (fz rToken)) [y102] y110,own (oSl (fz rToken)) [y105] y111,rowC h107.n [(.int .u8 0),(.str ([]:List UInt8)),(.int .i64 0),(.int .i64 y106)] 0] h1928→jjj8 b2048 h2049:=by
           rintro b2048 h2049 hf rfl S
           unfold p19_j8 at hf
           unfold jjj8
           intro jjj7
           have hjj7:∀ (b2061:Bool) (h2062:Heap),p19_j7 x0 y103 y104 y106 y110 y111 e1150 b2061=some q1148→h1928=h2062→St h none' [own (oSl (fz rToken)) [y102] y110,own (oSl (fz rToken)) [y105] y111,rowC h107.n [(.int .u8 0),(.str ([]:List UInt8)),(.int .i64 0),(.int .i64 y106)] 0] h1928→jjj7 b2061 h2062:=by
            rintro b2061 h2062 hf rfl S
            unfold p19_j7 at hf
            unfold jjj7
            refine bP_intro (fun hc=>?_) (fun hc=>?_)
            ·rw [ifT hc] at hf
             refine ifP_iff.2 ⟨rfl,?_⟩
             have S:St _ _ [_,_,_] _:=S.sel [2,0,1] rfl
             obtain ⟨h2072,e2073,S⟩:=S.store (off:=0) (n:=1) (x:=(.int .u8 3)) (cs':=[(.int .u8 3),(.str ([]:List UInt8)),(.int .i64 0),(.int .i64 y106)]) (nl rfl) rfl rfl rfl
             refine ⟨h2072,e2073,?_⟩
             have S:St _ _ [_,_,_] _:=S.sel [1,2,0] rfl
             exact hjj1 _ _ _ _ _ _ _ _ _ (3:Int) (0:Int) hf rfl rfl rfl rfl S
            ·rw [ifF hc] at hf
             obtain ⟨res2137,hL,hf⟩:=obind hf
             obtain ⟨n2138,hL⟩:=loopC_iff.1 hL
             refine loopm19_4 (X10:=fun (y2125:AV) (y2126:AV) (y2127:Int) (y2128:Int) (y2129:AV) (y2130:Int) (y2131:Int) (y2132:Int) (y2133:AV) (y2134:Int) (h2135:Heap)=>∃ (c2136:Int),a0_0=y2125∧y102=y2126∧y103=y2127∧y104=y2128∧y105=y2129∧y106=y2130∧(IntKind.wrap .i64 (y106+(1:Int)))=y2132∧AV.ptr h107.n 0 0=y2133∧St h none' [own (oSl (fz rToken)) [y102] y110,own (oSl (fz rToken)) [y105] y111,rowC h107.n [(.int .u8 c2136),(.str ([]:List UInt8)),(.int .i64 0),(.int .i64 y106)] 0] h2135∧c2136=res2137) ?_ (loop19_4 (I:=fun (m2140:Nat) (y2074:AV) (y2075:AV) (y2076:Int) (y2077:Int) (y2078:AV) (y2079:Int) (y2080:Int) (y2081:Int) (y2082:AV) (y2083:Int) (h2103:Heap)=>∃ (c2104:Int),a0_0=y2074∧y102=y2075∧y103=y2076∧y104=y2077∧y105=y2078∧y106=y2079∧e1150=y2080∧(IntKind.wrap .i64 (y106+(1:Int)))=y2081∧AV.ptr h107.n 0 0=y2082∧St h none' [own (oSl (fz rToken)) [y102] y110,own (oSl (fz rToken)) [y105] y111,rowC h107.n [(.int .u8 c2104),(.str ([]:List UInt8)),(.int .i64 0),(.int .i64 y106)] 0] h2103∧iter (p19_l4 e1150) m2140 (y2083,c2104)=some res2137) ?_ (m:=n2138) ?_)
             ·rintro y2125 y2126 y2127 y2128 y2129 y2130 y2131 y2132 y2133 y2134 h2135 ⟨c2136,rfl,rfl,rfl,rfl,rfl,rfl,rfl,rfl,S,rfl⟩
              try dsimp only at hf
              refine ifP_iff.2 ⟨rfl,?_⟩
              refine ⟨c2136,S.rd1 m2 rfl,?_⟩
              refine bP_intro (fun hc=>?_) (fun hc=>?_)
              ·rw [ifD hc] at hf
               have S:St _ _ [] _:=S.sel [] rfl
               obtain rfl:=oi hf
               obtain rfl:=hk
               exact ⟨rfl,S,rfl⟩
              ·rw [ifE hc] at hf
               exact hjj1 _ _ _ _ _ _ _ _ _ c2136 (0:Int) hf rfl rfl rfl rfl S
             ·rintro m21400 y2074 y2075 y2076 y2077 y2078 y2079 y2080 y2081 y2082 y2083 h2103 ⟨c2104,rfl,rfl,rfl,rfl,rfl,rfl,rfl,rfl,rfl,S,hit⟩
              obtain ⟨m2140,q2139,rfl,hf,hk⟩:=iter_some hit
              clear hit
              unfold B19_4
              unfold p19_l4 at hf
              try dsimp only at hf
              refine bP_intro (fun hc=>?_) (fun hc=>?_)
              ·rw [ifD hc] at hf
               obtain ⟨y2141,hy2141,hf⟩:=obind hf
               refine oP_intro (.int .u8 y2141) (idxS_ev hy2141) ⟨y2141,rfl,?_⟩
               intro jjj6
               have hjj6:∀  (h2144:Heap) (c2155:Int),p19_j6 y2083 c2155=some q2139→St h none' [own (oSl (fz rToken)) [y102] y110,own (oSl (fz rToken)) [y105] y111,rowC h107.n [(.int .u8 c2155),(.str ([]:List UInt8)),(.int .i64 0),(.int .i64 y106)] 0] h2144→jjj6 h2144:=by
                rintro h2144 c2155 hf S
                unfold p19_j6 at hf
                unfold jjj6
                obtain rfl:=oi hf
                exact ⟨m2140,Nat.lt_succ_self _,c2155,rfl,rfl,rfl,rfl,rfl,rfl,rfl,rfl,rfl,S,hk⟩
               refine bP_intro (fun hc=>?_) (fun hc=>?_)
               ·rw [ifD hc] at hf
                refine ifP_iff.2 ⟨rfl,?_⟩
                have S:St _ _ [_,_,_] _:=S.sel [2,0,1] rfl
                obtain ⟨h2157,e2158,S⟩:=S.store (off:=0) (n:=1) (x:=(.int .u8 3)) (cs':=[(.int .u8 3),(.str ([]:List UInt8)),(.int .i64 0),(.int .i64 y106)]) (nl rfl) rfl rfl rfl
                refine ⟨h2157,e2158,?_⟩
                have S:St _ _ [_,_,_] _:=S.sel [1,2,0] rfl
                exact hjj6  _ (3:Int) hf  S
               ·rw [ifE hc] at hf
                exact hjj6  _ c2104 hf  S
              ·rw [ifE hc] at hf
               obtain rfl:=oi hf
               obtain rfl:=hk
               exact ⟨c2104,rfl,rfl,rfl,rfl,rfl,rfl,rfl,rfl,S,rfl⟩
             ·exact ⟨(0:Int),rfl,rfl,rfl,rfl,rfl,rfl,rfl,rfl,rfl,S,hL⟩
           refine bP_intro (fun hc=>?_) (fun hc=>?_)
           ·rw [ifT hc] at hf
            obtain ⟨e2160,he2160,hf⟩:=obind hf
            refine ix_go f0_0 (snap_mono S.le) he2160 fun pe2160=>?_
            obtain ⟨_,cr2161,Rr2161,Nr2161,Or2161,Zr2161⟩:=SlR.idx f0_0 (snap_mono S.le) he2160
            obtain rfl:cr2161=[(.int .u8 e2160)]:=Rr2161
            refine ⟨e2160,Zr2161 _ rfl,?_⟩
            exact hjj7 _ _  hf rfl S
           ·rw [ifF hc] at hf
            exact hjj7 _ _  hf rfl S
          refine bP_intro (fun hc=>?_) (fun hc=>?_)
          ·rw [ifD hc] at hf
           refine ifP_iff.2 ⟨(f0_0).is,?_⟩
           try rw [show (a0_0).slen=_ from (f0_0).slen]
           have S:St _ _ [_,_,_] _:=S.sel [1,2,0] rfl
           exact hjj8 _ _  hf rfl S
          ·rw [ifE hc] at hf
           have S:St _ _ [_,_,_] _:=S.sel [1,2,0] rfl
           exact hjj8 _ _  hf rfl S
     refine bP_intro (fun hc=>?_) (fun hc=>?_)
     ·rw [ifT hc] at hf
      exact hjj9 _ _  hf rfl S
     ·rw [ifF hc] at hf
      exact hjj9 _ _  hf rfl S
    refine bP_intro (fun hc=>?_) (fun hc=>?_)
    ·rw [ifT hc] at hf
     exact hjj10 _ _  hf rfl S
    ·rw [ifF hc] at hf
     exact hjj10 _ _  hf rfl S
   refine bP_intro (fun hc=>?_) (fun hc=>?_)
   ·rw [ifD hc] at hf
    exact hjj11 _ _  hf rfl S
   ·rw [ifE hc] at hf
    exact hjj11 _ _  hf rfl S
  ·rw [ifE hc] at hf
   have S:St _ _ [_] _:=S.sel [1] rfl
   obtain rfl:=oi hf
   obtain rfl:=hk
   exact ⟨y111,rfl,S,rfl⟩
 ·exact ⟨[],[],rfl,S,hL⟩
/-! 23: marblerun/lex.Name -/
noncomputable def p23_j0 (s0:List UInt8) (pos249:Nat) (b474:Bool):Option (Nat⊕(Unit⊕Unit)):=if b474=true then (some (.inr (.inl ()))) else (some (.inl (nextAt s0 pos249)))
noncomputable def p23_j1 (s0:List UInt8) (pos249:Nat) (b511:Bool):Option (Nat⊕(Unit⊕Unit)):=p23_j0 s0 pos249 b511
noncomputable def p23_j2 (s0:List UInt8) (pos249:Nat) (b528:Bool):Option (Nat⊕(Unit⊕Unit)):=p23_j1 s0 pos249 b528
noncomputable def p23_j3 (s0:List UInt8) (pos249:Nat) (b538:Bool):Option (Nat⊕(Unit⊕Unit)):=p23_j2 s0 pos249 b538
noncomputable def p23_l0 (s0:List UInt8) (pos249:Nat):Option (Nat⊕(Unit⊕Unit)):=if pos249 < s0.length then (if (122:Int) < (runeAt s0 pos249) then (p23_j0 s0 pos249 true) else ((p37 (IntKind.wrap .u8 (runeAt s0 pos249))).bind fun y481=>if (!y481)=true then (if (pos249:Int)=(0:Int) then (p23_j2 s0 pos249 true) else ((p38 (IntKind.wrap .u8 (runeAt s0 pos249))).bind fun y537=>if (!y537)=true then (p23_j3 s0 pos249 (!decide ((runeAt s0 pos249)=(46:Int)))) else (p23_j3 s0 pos249 false))) else (p23_j1 s0 pos249 false))) else (some (.inr (.inr ())))
noncomputable def p23_j4 (b546:Bool):Option Bool:=some b546
noncomputable def p23 (s0:List UInt8):Option Bool:=(loopC (p23_l0 s0) 0).bind fun res401=>(match res401 with | .inl _=>some false | .inr _=>if (!(s0==([]:List UInt8)))=true then (p23_j4 (decide ((s0.length:Int)≤(12:Int)))) else (p23_j4 false))
theorem r23 {h:Heap}  {s0:List UInt8} {r:Bool} (hf:p23 s0=some r):ZCalls F 23 [(.str s0)] h fun v h'=>v=.bool r∧St h none' [] h':=by
 refine w23 ?_
 unfold W23
 unfold p23 at hf
 have S:St h none' [] h:=St.refl _ _
 refine oP_intro _ rfl ?_
 intro h101
 have S:St _ _ [itC h.n s0 0] _:=S.pushIt s0
 obtain ⟨res401,hL,hf⟩:=obind hf
 obtain ⟨n402,hL⟩:=loopC_iff.1 hL
 refine loopm23_0 (R:=fun (s393:List UInt8) (y394:Bool) (y395:AV) (h396:Heap)=>false=y394∧St h none' [] h396∧(.inl ())=res401) (X0:=fun (s397:List UInt8) (y398:Bool) (y399:AV) (h400:Heap)=>s0=s397∧St h none' [] h400∧(.inr ())=res401) ?_ ?_ (loop23_0 (I:=fun (m404:Nat) (s103:List UInt8) (y104:Bool) (y105:AV) (h248:Heap)=>∃ (pos249:Nat),s0=s103∧AV.iter h.n=y105∧St h none' [itC h.n s0 pos249] h248∧iter (p23_l0 s0) m404 pos249=some res401) ?_ (m:=n402) ?_)
 ·rintro s393 y394 y395 h396 ⟨rfl,S,rfl⟩
  try dsimp only at hf
  obtain rfl:=oi hf
  exact ⟨rfl,S.sel [] rfl⟩
 ·rintro s397 y398 y399 h400 ⟨rfl,S,rfl⟩
  try dsimp only at hf
  intro jjj4
  have hjj4:∀ (b546:Bool) (h547:Heap),p23_j4 b546=some r→h400=h547→St h none' [] h400→jjj4 b546 h547:=by
   rintro b546 h547 hf rfl S
   unfold p23_j4 at hf
   unfold jjj4
   obtain rfl:=oi hf
   exact ⟨rfl,S.sel [] rfl⟩
  refine bP_intro (fun hc=>?_) (fun hc=>?_)
  ·rw [ifT hc] at hf
   exact hjj4 _ _  hf rfl S
  ·rw [ifF hc] at hf
   exact hjj4 _ _  hf rfl S
 ·rintro m4040 s103 y104 y105 h248 ⟨pos249,rfl,rfl,S,hit⟩
  obtain ⟨m404,q403,rfl,hf,hk⟩:=iter_some hit
  clear hit
  unfold B23_0
  unfold p23_l0 at hf
  try dsimp only at hf
  by_cases hc:pos249 < s0.length
  ·rw [if_pos hc] at hf
   obtain ⟨h405,e406,S⟩:=St.next S hc
   refine ⟨_,h405,e406,?_⟩
   refine oP_intro (.bool true) rfl ⟨true,rfl,?_⟩
   refine bP_intro (fun _=>?_) (fun hc=>absurd hc (by decide))
   refine oP_intro (.int .i64 (pos249:Int)) rfl ⟨(pos249:Int),rfl,?_⟩
   refine oP_intro (.int .i32 (runeAt s0 pos249)) rfl ⟨(runeAt s0 pos249),rfl,?_⟩
   intro jjj0
   have hjj0:∀ (b474:Bool) (h475:Heap),p23_j0 s0 pos249 b474=some q403→St h none' [itC h.n s0 (nextAt s0 pos249)] h475→jjj0 b474 h475:=by
    rintro b474 h475 hf S
    unfold p23_j0 at hf
    unfold jjj0
    refine bP_intro (fun hc=>?_) (fun hc=>?_)
    ·rw [ifT hc] at hf
     have S:St _ _ [] _:=S.sel [] rfl
     obtain rfl:=oi hf
     obtain rfl:=hk
     exact ⟨rfl,S,rfl⟩
    ·rw [ifF hc] at hf
     obtain rfl:=oi hf
     exact ⟨m404,Nat.lt_succ_self _,(nextAt s0 pos249),rfl,rfl,S,hk⟩
   refine bP_intro (fun hc=>?_) (fun hc=>?_)
   ·rw [ifD hc] at hf
    exact hjj0 _ _  hf  S
   ·rw [ifE hc] at hf
    obtain ⟨y481,hy481,hf⟩:=obind hf
    refine ⟨_,Fz.refl _,?_⟩
    refine (r37 (c0:=(IntKind.wrap .u8 (runeAt s0 pos249))) hy481).mono fun v479 h480 T=>?_
    obtain ⟨rfl,T⟩:=T
    have S:St _ _ [itC h.n s0 (nextAt s0 pos249)] _:=S.comp T
    refine ⟨y481,rfl,?_⟩
    intro jjj1
    have hjj1:∀ (b511:Bool) (h512:Heap),p23_j1 s0 pos249 b511=some q403→St h none' [itC h.n s0 (nextAt s0 pos249)] h512→jjj1 b511 h512:=by
     rintro b511 h512 hf S
     unfold p23_j1 at hf
     unfold jjj1
     exact hjj0 _ _  hf  S
    refine bP_intro (fun hc=>?_) (fun hc=>?_)
    ·rw [ifT hc] at hf
     intro jjj2
     have hjj2:∀ (b528:Bool) (h529:Heap),p23_j2 s0 pos249 b528=some q403→St h none' [itC h.n s0 (nextAt s0 pos249)] h529→jjj2 b528 h529:=by
      rintro b528 h529 hf S
      unfold p23_j2 at hf
      unfold jjj2
      exact hjj1 _ _  hf  S
     refine bP_intro (fun hc=>?_) (fun hc=>?_)
     ·rw [ifD hc] at hf
      exact hjj2 _ _  hf  S
     ·rw [ifE hc] at hf
      obtain ⟨y537,hy537,hf⟩:=obind hf
      refine ⟨_,Fz.refl _,?_⟩
      refine (r38 (c0:=(IntKind.wrap .u8 (runeAt s0 pos249))) hy537).mono fun v535 h536 T=>?_
      obtain ⟨rfl,T⟩:=T
      have S:St _ _ [_] _:=S.comp T
      refine ⟨y537,rfl,?_⟩
      intro jjj3
      have hjj3:∀ (b538:Bool) (h539:Heap),p23_j3 s0 pos249 b538=some q403→h536=h539→St h none' [itC h.n s0 (nextAt s0 pos249)] h536→jjj3 b538 h539:=by
       rintro b538 h539 hf rfl S
       unfold p23_j3 at hf
       unfold jjj3
       exact hjj2 _ _  hf  S
      refine bP_intro (fun hc=>?_) (fun hc=>?_)
      ·rw [ifT hc] at hf
       exact hjj3 _ _  hf rfl S
      ·rw [ifF hc] at hf
       exact hjj3 _ _  hf rfl S
    ·rw [ifF hc] at hf
     exact hjj1 _ _  hf  S
  ·rw [if_neg hc] at hf
   refine ⟨_,_,St.nextEnd S hc,?_⟩
   refine oP_intro (.bool false) rfl ⟨false,rfl,?_⟩
   refine bP_intro (fun hc=>absurd hc (by decide)) (fun _=>?_)
   have S:St _ _ [] _:=S.sel [] rfl
   obtain rfl:=oi hf
   obtain rfl:=hk
   exact ⟨rfl,S,rfl⟩
 ·exact ⟨0,rfl,rfl,S,hL⟩
/-! 60: slices.Clone[[]marblerun/api.Place,marblerun/api.Place] -/
noncomputable def p60 (s0:List TPlace):Option (List TPlace):=(app 24 [] s0).bind fun l107=>some l107
theorem r60 {h:Heap} {a0_0:AV} {s0:List TPlace} (f0_0:SlR rPlace (Snap h) a0_0 s0) {r:(List TPlace)} (hf:p60 s0=some r):ZCalls F 60 [a0_0] h fun v h'=>St h none' [own (oSl (fz rPlace)) [v] r] h':=by
 refine w60 ?_
 unfold W60
 unfold p60 at hf
 have S:St h none' [] h:=St.refl _ _
 rcases sl_cases f0_0 with ⟨e101,e2⟩ | e101
 ·have hf:some []=some r:=by rw [e2] at hf; simp [app] at hf; simp [hf]
  refine oP_intro (.bool true) (by rw [e101]; rfl) ⟨_,rfl,?_⟩
  refine bP_intro (fun _=>?_) (fun hc=>absurd hc (by decide))
  have S:St _ _ [own (oSl (fz rPlace)) [.nilSlice] []] _:=S.addE (oSl_nil _ _)
  obtain rfl:=oi hf
  exact S.sel [0] rfl
 ·refine oP_intro (.bool false) (sl_nil e101) ⟨_,rfl,?_⟩
  refine bP_intro (fun hc=>absurd hc (by decide)) (fun _=>?_)
  intro h103
  have S:St _ _ [rowC h.n [] 0] _:=S.pushRow []
  obtain ⟨l107,hl107,hf⟩:=obind hf
  have S:St _ _ [own (oSl (fz rPlace)) [(.slice h.n 0 0 0 2)] []] _:=St.lit (r:=rPlace) (els:=[]) (l:=[]) (n:=0) S rfl (.nil) rfl
  have Fl107:=(SlR.mono (snap_mono S.le) f0_0)
  have ml107:=app_some hl107
  obtain ⟨v106,h105,e108,S⟩:=St.appF (r:=rPlace) (b:=24) S (Hp.le_refl _) Fl107 (.inl flat_Place) ml107.1
  have S:St _ _ [own (oSl (fz rPlace)) [v106] l107] _:=S.cast1 (by rw [← ml107.2]<;>rfl)
  refine ⟨v106,h105,e108,?_⟩
  obtain rfl:=oi hf
  exact S.sel [0] rfl
/-! 61: slices.Clone[[]marblerun/api.Trans,marblerun/api.Trans] -/
noncomputable def p61 (s0:List TTrans):Option (List TTrans):=(app 104 [] s0).bind fun l108=>some l108
theorem r61 {h:Heap} {a0_0:AV} {s0:List TTrans} (f0_0:SlR rTrans (Frz h) a0_0 s0) {r:(List TTrans)} (hf:p61 s0=some r):ZCalls F 61 [a0_0] h fun v h'=>St h none' [own (oSl (fz rTrans)) [v] r] h':=by
 refine w61 ?_
 unfold W61
 unfold p61 at hf
 have S:St h none' [] h:=St.refl _ _
 have S:=S.add (rSl_mk f0_0)
 rcases sl_cases (S.slz (r:=rTrans) m0) with ⟨e102,e2⟩ | e102
 ·have hf:some []=some r:=by rw [e2] at hf; simp [app] at hf; simp [hf]
  refine oP_intro (.bool true) (by rw [e102]; rfl) ⟨_,rfl,?_⟩
  refine bP_intro (fun _=>?_) (fun hc=>absurd hc (by decide))
  have S:St _ _ [own (oSl (fz rTrans)) [.nilSlice] [],own (fz (rSl rTrans)) [a0_0] s0] _:=S.addE (oSl_nil _ _)
  obtain rfl:=oi hf
  exact S.sel [0] rfl
 ·refine oP_intro (.bool false) (sl_nil e102) ⟨_,rfl,?_⟩
  refine bP_intro (fun hc=>absurd hc (by decide)) (fun _=>?_)
  intro h104
  have S:St _ _ [rowC h.n [] 0,own (fz (rSl rTrans)) [a0_0] s0] _:=S.pushRow []
  obtain ⟨l108,hl108,hf⟩:=obind hf
  have S:St _ _ [own (oSl (fz rTrans)) [(.slice h.n 0 0 0 6)] [],_] _:=St.lit (r:=rTrans) (els:=[]) (l:=[]) (n:=0) S rfl (.nil) rfl
  have Fl108:=(S.slz (r:=rTrans) m1)
  have ml108:=app_some hl108
  obtain ⟨v107,h106,e109,S⟩:=St.appF (r:=rTrans) (b:=104) S (frz_snap _) Fl108 (.inr (Hp.le_refl _)) ml108.1
  have S:St _ _ [own (oSl (fz rTrans)) [v107] l108,_] _:=S.cast1 (by rw [← ml108.2]<;>rfl)
  refine ⟨v107,h106,e109,?_⟩
  obtain rfl:=oi hf
  exact S.sel [0] rfl
/-! 62: slices.Clone[[]marblerun/api.Arc,marblerun/api.Arc] -/
noncomputable def p62 (s0:List TArc):Option (List TArc):=(app 16 [] s0).bind fun l107=>some l107
theorem r62 {h:Heap} {a0_0:AV} {s0:List TArc} (f0_0:SlR rArc (Snap h) a0_0 s0) {r:(List TArc)} (hf:p62 s0=some r):ZCalls F 62 [a0_0] h fun v h'=>St h none' [own (oSl (fz rArc)) [v] r] h':=by
 refine w62 ?_
 unfold W62
 unfold p62 at hf
 have S:St h none' [] h:=St.refl _ _
 rcases sl_cases f0_0 with ⟨e101,e2⟩ | e101
 ·have hf:some []=some r:=by rw [e2] at hf; simp [app] at hf; simp [hf]
  refine oP_intro (.bool true) (by rw [e101]; rfl) ⟨_,rfl,?_⟩
  refine bP_intro (fun _=>?_) (fun hc=>absurd hc (by decide))
  have S:St _ _ [own (oSl (fz rArc)) [.nilSlice] []] _:=S.addE (oSl_nil _ _)
  obtain rfl:=oi hf
  exact S.sel [0] rfl
 ·refine oP_intro (.bool false) (sl_nil e101) ⟨_,rfl,?_⟩
  refine bP_intro (fun hc=>absurd hc (by decide)) (fun _=>?_)
  intro h103
  have S:St _ _ [rowC h.n [] 0] _:=S.pushRow []
  obtain ⟨l107,hl107,hf⟩:=obind hf
  have S:St _ _ [own (oSl (fz rArc)) [(.slice h.n 0 0 0 2)] []] _:=St.lit (r:=rArc) (els:=[]) (l:=[]) (n:=0) S rfl (.nil) rfl
  have Fl107:=(SlR.mono (snap_mono S.le) f0_0)
  have ml107:=app_some hl107
  obtain ⟨v106,h105,e108,S⟩:=St.appF (r:=rArc) (b:=16) S (Hp.le_refl _) Fl107 (.inl flat_Arc) ml107.1
  have S:St _ _ [own (oSl (fz rArc)) [v106] l107] _:=S.cast1 (by rw [← ml107.2]<;>rfl)
  refine ⟨v106,h105,e108,?_⟩
  obtain rfl:=oi hf
  exact S.sel [0] rfl
/-! 41: marblerun/net.Copy -/
noncomputable def p41_l0 (y114:(List TTrans)) (st:Int×(List TTrans)):Option ((Int×(List TTrans))⊕(List TTrans)):=match st with | (y121,c161)=>if y121 < (y114.length:Int) then ((idx c161 y121).bind fun e211=>(p62 e211.In).bind fun y216=>(p62 e211.Not).bind fun y224=>(p62 e211.Out).bind fun y232=>(some (c161.set (y121:Int).toNat (TTrans.mk e211.Name e211.Delay e211.Prio y216 e211.Not e211.Out))).bind fun c238=>(some (c238.set (y121:Int).toNat (TTrans.mk e211.Name e211.Delay e211.Prio y216 y224 e211.Out))).bind fun c241=>(some (c241.set (y121:Int).toNat (TTrans.mk e211.Name e211.Delay e211.Prio y216 y224 y232))).bind fun c244=>some (.inl ((IntKind.wrap .i64 (y121+(1:Int))),c244))) else (some (.inr c161))
noncomputable def p41 (n0:TNet):Option TNet:=(p60 n0.Places).bind fun y110=>(p61 n0.Trans).bind fun y114=>(loopC (p41_l0 y114) ((0:Int),y114)).bind fun res207=>((fun (c206:List TTrans)=>some (TNet.mk y110 c206)) res207)
theorem r41 {h:Heap} {a0_0:AV} {a0_1:AV} {n0:TNet} (f0_0:SlR rPlace (Snap h) a0_0 n0.Places) (f0_1:SlR rTrans (Frz h) a0_1 n0.Trans) {r:TNet} (hf:p41 n0=some r):ZCalls F 41 [(.agg [a0_0,a0_1])] h fun v h'=>∃ cs,v=.agg cs∧St h none' [own (fz rNet) cs r] h':=by
 refine ZCalls.frz (K:=fun v h'=>∃ c0 c1,v=.agg [c0,c1]∧St h none' [own (oSl (fz rPlace)) [c0] r.Places,own (oSl (fz rTrans)) [c1] r.Trans] h') ?_ (fun v h' hq=>?_)
 ·refine w41 ?_
  unfold W41
  unfold p41 at hf
  have S:St h none' [] h:=St.refl _ _
  have S:=S.add (rSl_mk f0_1)
  intro h102
  have S:St _ _ [rowC h.n [a0_0,a0_1] 0,own (fz (rSl rTrans)) [a0_1] n0.Trans] _:=S.pushRow [a0_0,a0_1]
  intro h104
  have S:St _ _ [rowC h102.n [.nilSlice,.nilSlice] 0,_,_] _:=S.pushRow [.nilSlice,.nilSlice]
  have S_2:=S
  intro h106
  have S:St _ _ [rowC h104.n [.nilSlice,.nilSlice] 0,_,_,_] _:=S.pushRow [.nilSlice,.nilSlice]
  refine ⟨a0_0,S.rd1 m2 rfl,?_⟩
  have S_4:=S
  obtain ⟨y110,hy110,hf⟩:=obind hf
  refine (r60 (s0:=n0.Places) (f0_0:=(SlR.mono (snap_mono S.le) f0_0)) hy110).mono fun v108 h109 T=>?_
  have S:St _ _ [own (oSl (fz rPlace)) [v108] y110,_,_,_,_] _:=S.comp T
  have S_5:=S
  refine ⟨a0_1,S.rd1 m3 rfl,?_⟩
  have S_6:=S
  obtain ⟨y114,hy114,hf⟩:=obind hf
  refine (r61 (s0:=n0.Trans) (f0_0:=S.slz (r:=rTrans) m4) hy114).mono fun v112 h113 T=>?_
  have S:St _ _ [own (oSl (fz rTrans)) [v112] y114,_,_,_,_,_] _:=S.comp T
  have S_7:=S
  refine oP_intro (.agg [v108,v112]) (by simp only [POp.ev,place,sl_cells ((S.sl (r:=(fz rPlace)) m1)).is,sl_tup ((S.sl (r:=(fz rPlace)) m1)).is,sl_cells ((S.sl (r:=(fz rTrans)) m0)).is,sl_tup ((S.sl (r:=(fz rTrans)) m0)).is]<;>first | rfl | (simp [AV.cells,AV.isTup,splice]; done) | (simp [AV.cells,AV.isTup,splice]; rfl)) ?_
  have S:St _ _ [_,_,_,_,_,_] _:=S.sel [2,0,1,3,4,5] rfl
  obtain ⟨h116,e117,S⟩:=S.store (off:=0) (n:=2) (x:=(.agg [v108,v112])) (cs':=[v108,v112]) (nl rfl) rfl rfl rfl
  refine ⟨h116,e117,?_⟩
  refine ⟨sameRow_of S_4 m0 S_5 m1,?_⟩
  refine ⟨⟨a0_1,rd1_ev (S_5.rd1 m3 rfl),rd1_ev (S_4.rd1 m2 rfl),rd1_ev (S_5.rd1 m3 rfl)⟩,?_⟩
  refine ⟨sameRow_of S_6 m1 S_7 m2,?_⟩
  refine ⟨v112,S.rd1 m0 rfl,?_⟩
  refine ifP_iff.2 ⟨((S.sl (r:=(fz rTrans)) m1)).is,?_⟩
  try rw [show (v112).slen=_ from ((S.sl (r:=(fz rTrans)) m1)).slen]
  obtain ⟨res207,hL,hf⟩:=obind hf
  obtain ⟨n208,hL⟩:=loopC_iff.1 hL
  have S:St _ _ [_,_,_,_] _:=S.sel [3,0,2,1] rfl
  refine loopm41_0 (X0:=fun (y201:AV) (out202:AV) (y203:Int) (y204:Int) (h205:Heap)=>∃ (c206:List TTrans),AV.ptr h102.n 0 0=y201∧AV.ptr h104.n 0 0=out202∧St h none' [rowC h102.n [.nilSlice,.nilSlice] 0,rowC h104.n [v108,v112] 0,own (oSl (fz rPlace)) [v108] y110,own (oSl (fz rTrans)) [v112] c206] h205∧c206=res207) ?_ (loop41_0 (I:=fun (m210:Nat) (y118:AV) (out119:AV) (y120:Int) (y121:Int) (h160:Heap)=>∃ (c161:List TTrans),AV.ptr h102.n 0 0=y118∧AV.ptr h104.n 0 0=out119∧(y114.length:Int)=y120∧St h none' [rowC h102.n [.nilSlice,.nilSlice] 0,rowC h104.n [v108,v112] 0,own (oSl (fz rPlace)) [v108] y110,own (oSl (fz rTrans)) [v112] c161] h160∧iter (p41_l0 y114) m210 (y121,c161)=some res207) ?_ (m:=n208) ?_)
  ·rintro y201 out202 y203 y204 h205 ⟨c206,rfl,rfl,S,rfl⟩
   try dsimp only at hf
   refine ⟨v108,v112,S.rdN m1 (nl rfl) rfl,?_⟩
   obtain ⟨h248,e249,S⟩:=S.store (off:=0) (n:=2) (x:=(.agg [v108,v112])) (cs':=[v108,v112]) (nl rfl) rfl rfl rfl
   refine ⟨h248,e249,?_⟩
   refine ⟨v108,v112,S.rdN m0 (nl rfl) rfl,?_⟩
   obtain rfl:=oi hf
   exact ⟨v108,v112,rfl,S.sel [2,3] rfl⟩
  ·rintro m2100 y118 out119 y120 y121 h160 ⟨c161,rfl,rfl,rfl,S,hit⟩
   obtain ⟨m210,q209,rfl,hf,hk⟩:=iter_some hit
   clear hit
   unfold B41_0
   unfold p41_l0 at hf
   try dsimp only at hf
   refine bP_intro (fun hc=>?_) (fun hc=>?_)
   ·rw [ifD hc] at hf
    refine ifP_iff.2 ⟨rfl,?_⟩
    refine ⟨v112,S.rd1 m1 rfl,?_⟩
    obtain ⟨e211,he211,hf⟩:=obind hf
    refine ix_go (S.sl (r:=(fz rTrans)) m3) (Hp.le_refl _) he211 fun pe211=>?_
    have K_0:=Hp.le_refl (Snap h160)
    have K_1:=Hp.le_refl (Snap h160)
    have K_2:=Hp.le_refl (Snap h160)
    have K_3:=Hp.le_refl (Snap h160)
    refine oP_intro _ (nil_ev pe211) ?_
    have K_4:=Hp.le_refl (Snap h160)
    refine ifP_iff.2 ⟨pe211,?_⟩
    have K_5:=Hp.le_refl (Snap h160)
    obtain ⟨_,cr212,Rr212,Nr212,Or212,Zr212⟩:=St.idxO (r:=rTrans) S m3 he211
    obtain ⟨cr212_3,cr212_4,cr212_5,rfl,Fr212_3,Fr212_4,Fr212_5⟩:=rTrans_open Rr212
    have S:St _ _ [own (fz (rSl rArc)) [cr212_3] e211.In,_,_,_,_] _:=S.add (rSl_mk Fr212_3)
    have RD_6:(h160).rd1 (AV.padd 3 (v112.at ((y121:Int).toNat * 6)))=some cr212_3:=Or212 3 _ rfl
    refine ⟨cr212_3,RD_6,?_⟩
    have K_6:=Hp.le_refl (Snap h160)
    have S_7:=S
    obtain ⟨y216,hy216,hf⟩:=obind hf
    refine (r62 (s0:=e211.In) (f0_0:=(SlR.mono (frz_snap _) (S.slz (r:=rArc) m0))) hy216).frz fun v214 h215 T=>?_
    have K_7:=snap_mono T.le
    have S:St _ _ [own (oSl (fz rArc)) [v214] y216,_,_,_,_,_] _:=S.comp T
    obtain ⟨h219,z218,S⟩:=St.freeze S
    refine ⟨h219,z218,?_⟩
    have K_7:=Hp.le_trans K_7 (fz_snap z218)
    have S_8:=S
    have K_8:=Hp.le_refl (Snap h219)
    refine oP_intro _ (nil_ev pe211) ?_
    have K_9:=Hp.le_refl (Snap h219)
    refine ifP_iff.2 ⟨pe211,?_⟩
    have K_10:=Hp.le_refl (Snap h219)
    have S_11:=S
    obtain ⟨_,cr220,Rr220,Nr220,Or220,Zr220⟩:=St.idxO (r:=rTrans) S m5 he211
    obtain ⟨cr220_3,cr220_4,cr220_5,rfl,Fr220_3,Fr220_4,Fr220_5⟩:=rTrans_open Rr220
    have S:St _ _ [own (fz (rSl rArc)) [cr220_4] e211.Not,_,_,_,_,_,_] _:=S.add (rSl_mk Fr220_4)
    have RD_11:(h219).rd1 (AV.padd 4 (v112.at ((y121:Int).toNat * 6)))=some cr220_4:=Or220 4 _ rfl
    refine ⟨cr220_4,RD_11,?_⟩
    have K_11:=Hp.le_refl (Snap h219)
    have S_12:=S
    obtain ⟨y224,hy224,hf⟩:=obind hf
    refine (r62 (s0:=e211.Not) (f0_0:=(SlR.mono (frz_snap _) (S.slz (r:=rArc) m0))) hy224).frz fun v222 h223 T=>?_
    have K_12:=snap_mono T.le
    have S:St _ _ [own (oSl (fz rArc)) [v222] y224,_,_,_,_,_,_,_] _:=S.comp T
    obtain ⟨h227,z226,S⟩:=St.freeze S
    refine ⟨h227,z226,?_⟩
    have K_12:=Hp.le_trans K_12 (fz_snap z226)
    have S_13:=S
    have K_13:=Hp.le_refl (Snap h227)
    refine oP_intro _ (nil_ev pe211) ?_
    have K_14:=Hp.le_refl (Snap h227)
    refine ifP_iff.2 ⟨pe211,?_⟩
    have K_15:=Hp.le_refl (Snap h227)
    have S_16:=S
    obtain ⟨_,cr228,Rr228,Nr228,Or228,Zr228⟩:=St.idxO (r:=rTrans) S m7 he211
    obtain ⟨cr228_3,cr228_4,cr228_5,rfl,Fr228_3,Fr228_4,Fr228_5⟩:=rTrans_open Rr228
    have S:St _ _ [own (fz (rSl rArc)) [cr228_5] e211.Out,_,_,_,_,_,_,_,_] _:=S.add (rSl_mk Fr228_5)
    have RD_16:(h227).rd1 (AV.padd 5 (v112.at ((y121:Int).toNat * 6)))=some cr228_5:=Or228 5 _ rfl
    refine ⟨cr228_5,RD_16,?_⟩
    have K_16:=Hp.le_refl (Snap h227)
    obtain ⟨y232,hy232,hf⟩:=obind hf
    refine (r62 (s0:=e211.Out) (f0_0:=(SlR.mono (frz_snap _) (S.slz (r:=rArc) m0))) hy232).frz fun v230 h231 T=>?_
    have K_17:=snap_mono T.le
    have S:St _ _ [own (oSl (fz rArc)) [v230] y232,_,_,_,_,_,_,_,_,_] _:=S.comp T
    obtain ⟨h235,z234,S⟩:=St.freeze S
    refine ⟨h235,z234,?_⟩
    have K_17:=Hp.le_trans K_17 (fz_snap z234)
    refine oP_intro _ (nil_ev pe211) ?_
    have K_18:=Hp.le_refl (Snap h235)
    refine ifP_iff.2 ⟨pe211,?_⟩
    have K_19:=Hp.le_refl (Snap h235)
    obtain ⟨c238,hc238,hf⟩:=obind hf
    have fe237:=(S.slz (r:=rArc) m4)
    have S:St _ _ [_,_,_,_,_,_,_,_,_,_] _:=S.sel [9,0,1,2,3,4,5,6,7,8] rfl
    obtain ⟨h236,e237,S⟩:=St.setE (r:=rTrans) (x':=(TTrans.mk e211.Name e211.Delay e211.Prio y216 e211.Not e211.Out)) (k:=3) (n:=1) (y:=v214) S he211 (by rw [sl_cells fe237.is]; rfl) (sl_tup fe237.is) (nl rfl) (by rintro _ h; obtain ⟨c3,c4,c5,rfl,F3,F4,F5⟩:=rTrans_open h; rw [sl_cells fe237.is]; exact rTrans_mk (x:=(TTrans.mk e211.Name e211.Delay e211.Prio y216 e211.Not e211.Out)) fe237 F4 F5)
    have S:St _ _ [own (oSl (fz rTrans)) [v112] c238,_,_,_,_,_,_,_,_,_] _:=S.cast1 (by rw [← oi hc238]<;>rfl)
    have hqc238:idx c238 y121=some (TTrans.mk e211.Name e211.Delay e211.Prio y216 e211.Not e211.Out):=oi hc238▸idx_set he211
    refine ⟨h236,e237,?_⟩
    refine oP_intro _ (nil_ev pe211) ?_
    have K_21:=Hp.le_refl (Snap h236)
    refine ifP_iff.2 ⟨pe211,?_⟩
    have K_22:=Hp.le_refl (Snap h236)
    obtain ⟨c241,hc241,hf⟩:=obind hf
    have fe240:=(S.slz (r:=rArc) m3)
    obtain ⟨h239,e240,S⟩:=St.setE (r:=rTrans) (x':=(TTrans.mk e211.Name e211.Delay e211.Prio y216 y224 e211.Out)) (k:=4) (n:=1) (y:=v222) S hqc238 (by rw [sl_cells fe240.is]; rfl) (sl_tup fe240.is) (nl rfl) (by rintro _ h; obtain ⟨c3,c4,c5,rfl,F3,F4,F5⟩:=rTrans_open h; rw [sl_cells fe240.is]; exact rTrans_mk (x:=(TTrans.mk e211.Name e211.Delay e211.Prio y216 y224 e211.Out)) F3 fe240 F5)
    have S:St _ _ [own (oSl (fz rTrans)) [v112] c241,_,_,_,_,_,_,_,_,_] _:=S.cast1 (by rw [← oi hc241]<;>rfl)
    have hqc241:idx c241 y121=some (TTrans.mk e211.Name e211.Delay e211.Prio y216 y224 e211.Out):=oi hc241▸idx_set hqc238
    refine ⟨h239,e240,?_⟩
    refine oP_intro _ (nil_ev pe211) ?_
    have K_24:=Hp.le_refl (Snap h239)
    refine ifP_iff.2 ⟨pe211,?_⟩
    have K_25:=Hp.le_refl (Snap h239)
    obtain ⟨c244,hc244,hf⟩:=obind hf
    have fe243:=(S.slz (r:=rArc) m1)
    obtain ⟨h242,e243,S⟩:=St.setE (r:=rTrans) (x':=(TTrans.mk e211.Name e211.Delay e211.Prio y216 y224 y232)) (k:=5) (n:=1) (y:=v230) S hqc241 (by rw [sl_cells fe243.is]; rfl) (sl_tup fe243.is) (nl rfl) (by rintro _ h; obtain ⟨c3,c4,c5,rfl,F3,F4,F5⟩:=rTrans_open h; rw [sl_cells fe243.is]; exact rTrans_mk (x:=(TTrans.mk e211.Name e211.Delay e211.Prio y216 y224 y232)) F3 F4 fe243)
    have S:St _ _ [own (oSl (fz rTrans)) [v112] c244,_,_,_,_,_,_,_,_,_] _:=S.cast1 (by rw [← oi hc244]<;>rfl)
    have hqc244:idx c244 y121=some (TTrans.mk e211.Name e211.Delay e211.Prio y216 y224 y232):=oi hc244▸idx_set hqc241
    refine ⟨h242,e243,?_⟩
    obtain ⟨_,cr245,Rr245,Nr245,Or245,Zr245⟩:=St.idxO (r:=rTrans) S_7 m4 he211
    obtain ⟨cr245_3,cr245_4,cr245_5,rfl,Fr245_3,Fr245_4,Fr245_5⟩:=rTrans_open Rr245
    have RXr245:(h160).rd1 (AV.padd 4 (v112.at ((y121:Int).toNat * 6)))=some cr245_4:=Or245 4 _ rfl
    have eXr245:=Option.some.inj ((rd_keep (Hp.le_trans (Hp.le_trans (Hp.le_trans K_7 K_8) K_9) K_10) RXr245).symm.trans RD_11)
    rw [eXr245] at RXr245
    refine ⟨⟨cr220_4,rd1_ev RD_11,rd1_ev RXr245,rd1_ev (rd_keep K_7 RXr245)⟩,?_⟩
    obtain ⟨_,cr246,Rr246,Nr246,Or246,Zr246⟩:=St.idxO (r:=rTrans) S_7 m4 he211
    obtain ⟨cr246_3,cr246_4,cr246_5,rfl,Fr246_3,Fr246_4,Fr246_5⟩:=rTrans_open Rr246
    have RXr246:(h160).rd1 (AV.padd 5 (v112.at ((y121:Int).toNat * 6)))=some cr246_5:=Or246 5 _ rfl
    have eXr246:=Option.some.inj ((rd_keep (Hp.le_trans (Hp.le_trans (Hp.le_trans (Hp.le_trans (Hp.le_trans (Hp.le_trans (Hp.le_trans (Hp.le_trans K_7 K_8) K_9) K_10) K_11) K_12) K_13) K_14) K_15) RXr246).symm.trans RD_16)
    rw [eXr246] at RXr246
    refine ⟨⟨cr228_5,rd1_ev RD_16,rd1_ev RXr246,rd1_ev (rd_keep K_7 RXr246)⟩,?_⟩
    obtain ⟨_,cr247,Rr247,Nr247,Or247,Zr247⟩:=St.idxO (r:=rTrans) S_12 m6 he211
    obtain ⟨cr247_3,cr247_4,cr247_5,rfl,Fr247_3,Fr247_4,Fr247_5⟩:=rTrans_open Rr247
    have RXr247:(h219).rd1 (AV.padd 5 (v112.at ((y121:Int).toNat * 6)))=some cr247_5:=Or247 5 _ rfl
    have eXr247:=Option.some.inj ((rd_keep (Hp.le_trans (Hp.le_trans (Hp.le_trans K_12 K_13) K_14) K_15) RXr247).symm.trans RD_16)
    rw [eXr247] at RXr247
    refine ⟨⟨cr228_5,rd1_ev RD_16,rd1_ev RXr247,rd1_ev (rd_keep K_12 RXr247)⟩,?_⟩
    have S:St _ _ [_,_,_,_] _:=S.sel [7,8,9,0] rfl
    obtain rfl:=oi hf
    exact ⟨m210,Nat.lt_succ_self _,c244,rfl,rfl,rfl,S,hk⟩
   ·rw [ifE hc] at hf
    obtain rfl:=oi hf
    obtain rfl:=hk
    exact ⟨c161,rfl,rfl,S,rfl⟩
  ·exact ⟨y114,rfl,rfl,rfl,S,hL⟩
 ·obtain ⟨c0,c1,rfl,S⟩:=hq
  have Z0:=Fz.refl h'
  obtain ⟨h0,z0,S⟩:=St.freeze S
  have Z0:=Z0.trans z0
  have S:=S.sel [1,0] rfl
  obtain ⟨h1,z1,S⟩:=St.freeze S
  have Z0:=Z0.trans z1
  have S:=S.sel [1,0] rfl
  refine ⟨_,Z0,_,rfl,(S.add (r:=rNet) (x:=r) (rNet_mk (x:=r) (S.slz (r:=rPlace) m0) (S.slz (r:=rTrans) m1))).sel [0] rfl⟩
/-! 39: marblerun/parse.word -/
noncomputable def p39_j0 (b103:Bool):Option Bool:=some b103
noncomputable def p39 (t0:TTokenlex) (s1:List UInt8):Option Bool:=if t0.Kind=(1:Int) then (p39_j0 (t0.Text==s1)) else (p39_j0 false)
theorem r39 {h:Heap}  {t0:TTokenlex} {s1:List UInt8} {r:Bool} (hf:p39 t0 s1=some r):ZCalls F 39 [(.agg [(.int .u8 t0.Kind),(.str t0.Text),(.int .i64 t0.N),(.int .i64 t0.At)]),(.str s1)] h fun v h'=>v=.bool r∧St h none' [] h':=by
 refine w39 ?_
 unfold W39
 unfold p39 at hf
 have S:St h none' [] h:=St.refl _ _
 intro h101
 have S:St _ _ [rowC h.n [(.int .u8 t0.Kind),(.str t0.Text),(.int .i64 t0.N),(.int .i64 t0.At)] 0] _:=S.pushRow [(.int .u8 t0.Kind),(.str t0.Text),(.int .i64 t0.N),(.int .i64 t0.At)]
 refine ⟨t0.Kind,S.rd1 m0 rfl,?_⟩
 intro jjj0
 have hjj0:∀ (b103:Bool) (h104:Heap),p39_j0 b103=some r→h101=h104→St h none' [] h101→jjj0 b103 h104:=by
  rintro b103 h104 hf rfl S
  unfold p39_j0 at hf
  unfold jjj0
  obtain rfl:=oi hf
  exact ⟨rfl,S.sel [] rfl⟩
 refine bP_intro (fun hc=>?_) (fun hc=>?_)
 ·rw [ifD hc] at hf
  refine ⟨t0.Text,S.rd1 m0 rfl,?_⟩
  have S:St _ _ [] _:=S.sel [] rfl
  exact hjj0 _ _  hf rfl S
 ·rw [ifE hc] at hf
  have S:St _ _ [] _:=S.sel [] rfl
  exact hjj0 _ _  hf rfl S
/-! 54: (*marblerun/parse.parser).fail -/
noncomputable def p54 (r0:Option Tparser) (e1:Int) (t2:TTokenlex):Option (Option Tparser):=r0.bind fun b104=>if b104.f.Err=(0:Int) then ((p22 b104.p e1 t2.At).bind fun y116=>some (some (Tparser.mk b104.p b104.l y116 b104.n b104.places b104.told))) else (some (some b104))
theorem r54 {h:Heap} {a0_0:AV} {M:Nat→Prop} {r0:Option Tparser} {e1:Int} {t2:TTokenlex} (S:St h M [own (oPtr oparser) [a0_0] r0] h) {r:(Option Tparser)} (hf:p54 r0 e1 t2=some r):ZCalls F 54 [a0_0,(.int .i64 e1),(.agg [(.int .u8 t2.Kind),(.str t2.Text),(.int .i64 t2.N),(.int .i64 t2.At)])] h fun v h'=>v=.tuple []∧St h M [own (oPtr oparser) [a0_0] r] h':=by
 refine w54 ?_
 unfold W54
 unfold p54 at hf
 intro h102
 have S:St _ _ [rowC h.n [(.int .u8 t2.Kind),(.str t2.Text),(.int .i64 t2.N),(.int .i64 t2.At)] 0,own (oPtr oparser) [a0_0] r0] _:=S.pushRow [(.int .u8 t2.Kind),(.str t2.Text),(.int .i64 t2.N),(.int .i64 t2.At)]
 obtain ⟨b104,hb104,hf⟩:=obind hf
 have S:St _ _ [_,_] _:=S.sel [1,0] rfl
 obtain ⟨o105,v106,b104c_0,b104c_1,b104c_6,b104c_7,b104c_8,b104c_9,eP,S2⟩:=oparser_deref hb104 S
 subst eP
 have S:=S2
 refine oP_intro _ rfl ?_
 refine ifP_iff.2 ⟨rfl,?_⟩
 refine ifP_iff.2 ⟨rfl,?_⟩
 refine ⟨b104.f.Err,S.rd1 m6 rfl,?_⟩
 refine bP_intro (fun hc=>?_) (fun hc=>?_)
 ·rw [ifD hc] at hf
  refine oP_intro (.ptr o105 v106 0) rfl ?_
  refine ifP_iff.2 ⟨rfl,?_⟩
  refine ⟨b104c_0,S.rd1 m6 rfl,?_⟩
  refine ⟨t2.At,S.rd1 m7 rfl,?_⟩
  obtain ⟨y116,hy116,hf⟩:=obind hf
  refine ⟨_,Fz.refl _,?_⟩
  refine (r22 (p0:=b104.p) (e1:=e1) (at2:=t2.At) (f0_0:=(SlR.mono (frz_snap _) (S.slz (r:=(rI .u8)) m0))) hy116).mono fun v114 h115 T=>?_
  obtain ⟨rfl,T⟩:=T
  have S:St _ _ [_,_,_,_,_,_,_,_] _:=S.comp T
  refine oP_intro (.ptr o105 v106 0) rfl ?_
  refine ifP_iff.2 ⟨rfl,?_⟩
  have S:St _ _ [_,_,_,_,_,_,_,_] _:=S.sel [6,0,1,2,3,4,5,7] rfl
  obtain ⟨h117,e118,S⟩:=S.store (off:=2) (n:=4) (x:=(.agg [(.int .i64 y116.Err),(.int .i64 y116.At),(.int .i64 y116.Line),(.int .i64 y116.Col)])) (cs':=[b104c_0,b104c_1,(.int .i64 y116.Err),(.int .i64 y116.At),(.int .i64 y116.Line),(.int .i64 y116.Col),b104c_6,b104c_7,b104c_8,b104c_9]) (nl rfl) rfl rfl rfl
  refine ⟨h117,e118,?_⟩
  have S:St _ _ [own (fz (rSl (rI .u8))) [b104c_0] b104.p,_,_,_,_,_,_,_,_] _:=S.add (rSl_mk (S.slz (r:=(rI .u8)) m1))
  have S:St _ _ [_,_,_,_,_,_,_,_,_] _:=S.sel [0,3,4,5,6,7,1,2,8] rfl
  have S:St _ _ [own (oPtr oparser) [(.ptr o105 v106 0)] (some (Tparser.mk b104.p b104.l y116 b104.n b104.places b104.told)),_,_] _:=oparser_shut (x:=(Tparser.mk b104.p b104.l y116 b104.n b104.places b104.told)) S
  obtain rfl:=oi hf
  exact ⟨rfl,S.sel [0] rfl⟩
 ·rw [ifE hc] at hf
  have S:St _ _ [own (fz (rSl (rI .u8))) [b104c_0] b104.p,_,_,_,_,_,_,_,_] _:=S.add (rSl_mk (S.slz (r:=(rI .u8)) m0))
  have S:St _ _ [_,_,_,_,_,_,_,_,_] _:=S.sel [0,2,3,4,5,6,7,1,8] rfl
  have S:St _ _ [own (oPtr oparser) [(.ptr o105 v106 0)] (some b104),_,_] _:=oparser_shut (x:=b104) S
  obtain rfl:=oi hf
  exact ⟨rfl,S.sel [0] rfl⟩
/-! 53: (*marblerun/parse.parser).next -/
noncomputable def p53_j0 (b104:Tparser) (e114:TTokenlex) (c132:List TTokenlex):Option (TTokenlex×(Option Tparser)):=some (e114,(some (Tparser.mk b104.p c132 b104.f b104.n b104.places b104.told)))
noncomputable def p53_j1 (b104:Tparser) (e114:TTokenlex) (b120:Bool):Option (TTokenlex×(Option Tparser)):=if b120=true then ((slc b104.l (1:Int) (b104.l.length:Int)).bind fun y137=>p53_j0 b104 e114 y137) else (p53_j0 b104 e114 b104.l)
noncomputable def p53 (r0:Option Tparser):Option (TTokenlex×(Option Tparser)):=r0.bind fun b104=>(idx b104.l (0:Int)).bind fun e114=>if b104.f.Err=(0:Int) then (p53_j1 b104 e114 (decide ((1:Int) < (b104.l.length:Int)))) else (p53_j1 b104 e114 false)
theorem r53 {h:Heap} {a0_0:AV} {M:Nat→Prop} {r0:Option Tparser} (S:St h M [own (oPtr oparser) [a0_0] r0] h) {r:TTokenlex×(Option Tparser)} (hf:p53 r0=some r):ZCalls F 53 [a0_0] h fun v h'=>v=.agg [.int .u8 r.1.Kind,.str r.1.Text,.int .i64 r.1.N,.int .i64 r.1.At]∧St h M [own (oPtr oparser) [a0_0] r.2] h':=by
 refine w53 ?_
 unfold W53
 unfold p53 at hf
 intro h102
 have S:St _ _ [rowC h.n [(.int .u8 0),(.str ([]:List UInt8)),(.int .i64 0),(.int .i64 0)] 0,own (oPtr oparser) [a0_0] r0] _:=S.pushRow [(.int .u8 0),(.str ([]:List UInt8)),(.int .i64 0),(.int .i64 0)]
 obtain ⟨b104,hb104,hf⟩:=obind hf
 have S:St _ _ [_,_] _:=S.sel [1,0] rfl
 obtain ⟨o105,v106,b104c_0,b104c_1,b104c_6,b104c_7,b104c_8,b104c_9,eP,S2⟩:=oparser_deref hb104 S
 subst eP
 have S:=S2
 refine oP_intro _ rfl ?_
 refine ifP_iff.2 ⟨rfl,?_⟩
 refine ⟨b104c_1,S.rd1 m6 rfl,?_⟩
 obtain ⟨e114,he114,hf⟩:=obind hf
 refine ix_go (S.sl (r:=(fz rTokenlex)) m1) (Hp.le_refl _) he114 fun pe114=>?_
 obtain ⟨_,cr115,Rr115,Nr115,Or115,Zr115⟩:=St.idxO (r:=rTokenlex) S m1 he114
 obtain rfl:=rTokenlex_open Rr115
 refine ⟨(.int .u8 e114.Kind),(.str e114.Text),(.int .i64 e114.N),(.int .i64 e114.At),Nr115,?_⟩
 intro h116
 have S:St _ _ [rowC h102.n [(.int .u8 0),(.str ([]:List UInt8)),(.int .i64 0),(.int .i64 0)] 0,_,_,_,_,_,_,_,_] _:=S.pushRow [(.int .u8 0),(.str ([]:List UInt8)),(.int .i64 0),(.int .i64 0)]
 obtain ⟨h118,e119,S⟩:=S.store (off:=0) (n:=4) (x:=(.agg [(.int .u8 e114.Kind),(.str e114.Text),(.int .i64 e114.N),(.int .i64 e114.At)])) (cs':=[(.int .u8 e114.Kind),(.str e114.Text),(.int .i64 e114.N),(.int .i64 e114.At)]) (nl rfl) rfl rfl rfl
 refine ⟨h118,e119,?_⟩
 refine oP_intro (.ptr o105 v106 0) rfl ?_
 refine ifP_iff.2 ⟨rfl,?_⟩
 refine ifP_iff.2 ⟨rfl,?_⟩
 refine ⟨b104.f.Err,S.rd1 m7 rfl,?_⟩
 intro jjj1
 have hjj1:∀ (b120:Bool) (h121:Heap),p53_j1 b104 e114 b120=some r→h118=h121→St h M [rowC o105 [b104c_0,b104c_1,(.int .i64 b104.f.Err),(.int .i64 b104.f.At),(.int .i64 b104.f.Line),(.int .i64 b104.f.Col),b104c_6,b104c_7,b104c_8,b104c_9] v106,rowC h.n [(.int .u8 0),(.str ([]:List UInt8)),(.int .i64 0),(.int .i64 0)] 0,rowC h102.n [(.int .u8 e114.Kind),(.str e114.Text),(.int .i64 e114.N),(.int .i64 e114.At)] 0,own (fz (rSl (rI .u8))) [b104c_0] b104.p,own (oSl (fz rTokenlex)) [b104c_1] b104.l,own (oSl (fz rPlace)) [b104c_6] b104.n.Places,own (oSl oTrans) [b104c_7] b104.n.Trans,own (oMap keS (AV.int .i64)) [b104c_8] b104.places,own (oMap keS AV.bool) [b104c_9] b104.told] h118→jjj1 b120 h121:=by
  rintro b120 h121 hf rfl S
  unfold p53_j1 at hf
  unfold jjj1
  intro jjj0
  have hjj0:∀  (h128:Heap) (c131:AV) (c132:List TTokenlex),p53_j0 b104 e114 c132=some r→St h M [rowC h.n [(.int .u8 0),(.str ([]:List UInt8)),(.int .i64 0),(.int .i64 0)] 0,rowC h102.n [(.int .u8 e114.Kind),(.str e114.Text),(.int .i64 e114.N),(.int .i64 e114.At)] 0,rowC o105 [b104c_0,c131,(.int .i64 b104.f.Err),(.int .i64 b104.f.At),(.int .i64 b104.f.Line),(.int .i64 b104.f.Col),b104c_6,b104c_7,b104c_8,b104c_9] v106,own (fz (rSl (rI .u8))) [b104c_0] b104.p,own (oSl (fz rTokenlex)) [c131] c132,own (oSl (fz rPlace)) [b104c_6] b104.n.Places,own (oSl oTrans) [b104c_7] b104.n.Trans,own (oMap keS (AV.int .i64)) [b104c_8] b104.places,own (oMap keS AV.bool) [b104c_9] b104.told] h128→jjj0 h128:=by
   rintro h128 c131 c132 hf S
   unfold p53_j0 at hf
   unfold jjj0
   refine ⟨(.int .u8 e114.Kind),(.str e114.Text),(.int .i64 e114.N),(.int .i64 e114.At),S.rdN m1 (nl rfl) rfl,?_⟩
   obtain ⟨h133,e134,S⟩:=S.store (off:=0) (n:=4) (x:=(.agg [(.int .u8 e114.Kind),(.str e114.Text),(.int .i64 e114.N),(.int .i64 e114.At)])) (cs':=[(.int .u8 e114.Kind),(.str e114.Text),(.int .i64 e114.N),(.int .i64 e114.At)]) (nl rfl) rfl rfl rfl
   refine ⟨h133,e134,?_⟩
   refine ⟨(.int .u8 e114.Kind),(.str e114.Text),(.int .i64 e114.N),(.int .i64 e114.At),S.rdN m0 (nl rfl) rfl,?_⟩
   have S:St _ _ [own (fz (rSl (rI .u8))) [b104c_0] b104.p,_,_,_,_,_,_,_,_,_] _:=S.add (rSl_mk (S.slz (r:=(rI .u8)) m3))
   have S:St _ _ [_,_,_,_,_,_,_,_,_,_] _:=S.sel [0,5,6,7,8,9,3,1,2,4] rfl
   have S:St _ _ [own (oPtr oparser) [(.ptr o105 v106 0)] (some (Tparser.mk b104.p c132 b104.f b104.n b104.places b104.told)),_,_,_] _:=oparser_shut (x:=(Tparser.mk b104.p c132 b104.f b104.n b104.places b104.told)) S
   obtain rfl:=oi hf
   exact ⟨rfl,S.sel [0] rfl⟩
  refine bP_intro (fun hc=>?_) (fun hc=>?_)
  ·rw [ifT hc] at hf
   refine oP_intro (.ptr o105 v106 0) rfl ?_
   refine ifP_iff.2 ⟨rfl,?_⟩
   refine ⟨b104c_1,S.rd1 m0 rfl,?_⟩
   obtain ⟨y137,hy137,hf⟩:=obind hf
   have ey137:=(sliceSl_ev10 (k:=.i64) (S.sl (r:=(fz rTokenlex)) m4) hy137)
   have S:St _ _ [_,_,_,_,_,_,_,_,_] _:=S.sel [4,0,1,2,3,5,6,7,8] rfl
   have S:St _ _ [own (oSl (fz rTokenlex)) [(b104c_1.sub 4 ((1:Int):Int).toNat ((b104.l.length:Int):Int).toNat)] y137,_,_,_,_,_,_,_,_] _:=(S.sub (slc_le hy137).1 (slc_le hy137).2).cast1 (by rw [← slc_eq hy137]<;>rfl)
   refine oP_intro (b104c_1.sub 4 ((1:Int):Int).toNat ((b104.l.length:Int):Int).toNat) ey137 ?_
   refine oP_intro (.ptr o105 v106 0) rfl ?_
   refine ifP_iff.2 ⟨rfl,?_⟩
   have S:St _ _ [_,_,_,_,_,_,_,_,_] _:=S.sel [1,0,2,3,4,5,6,7,8] rfl
   obtain ⟨h138,e139,S⟩:=S.storeS (off:=1) (x:=(b104c_1.sub 4 ((1:Int):Int).toNat ((b104.l.length:Int):Int).toNat)) (cs':=[b104c_0,(b104c_1.sub 4 ((1:Int):Int).toNat ((b104.l.length:Int):Int).toNat),(.int .i64 b104.f.Err),(.int .i64 b104.f.At),(.int .i64 b104.f.Line),(.int .i64 b104.f.Col),b104c_6,b104c_7,b104c_8,b104c_9]) (nl rfl) ((S.sl (r:=(fz rTokenlex)) m1)).is rfl
   refine ⟨h138,e139,?_⟩
   have S:St _ _ [_,_,_,_,_,_,_,_,_] _:=S.sel [2,3,0,4,1,5,6,7,8] rfl
   exact hjj0  _ (b104c_1.sub 4 ((1:Int):Int).toNat ((b104.l.length:Int):Int).toNat) y137 hf  S
  ·rw [ifF hc] at hf
   have S:St _ _ [_,_,_,_,_,_,_,_,_] _:=S.sel [1,2,0,3,4,5,6,7,8] rfl
   exact hjj0  _ b104c_1 b104.l hf  S
 refine bP_intro (fun hc=>?_) (fun hc=>?_)
 ·rw [ifD hc] at hf
  refine oP_intro (.ptr o105 v106 0) rfl ?_
  refine ifP_iff.2 ⟨rfl,?_⟩
  refine ⟨b104c_1,S.rd1 m7 rfl,?_⟩
  refine ifP_iff.2 ⟨((S.sl (r:=(fz rTokenlex)) m2)).is,?_⟩
  try rw [show (b104c_1).slen=_ from ((S.sl (r:=(fz rTokenlex)) m2)).slen]
  have S:St _ _ [_,_,_,_,_,_,_,_,_] _:=S.sel [7,8,0,1,2,3,4,5,6] rfl
  exact hjj1 _ _  hf rfl S
 ·rw [ifE hc] at hf
  have S:St _ _ [_,_,_,_,_,_,_,_,_] _:=S.sel [7,8,0,1,2,3,4,5,6] rfl
  exact hjj1 _ _  hf rfl S
/-! 56: (*marblerun/parse.parser).sign -/
noncomputable def p56_j0 (b102:Tparser) (b120:Bool):Option (Bool×(Option Tparser)):=if b120=true then (some (false,(some b102))) else ((p53 (some b102)).bind fun u127=>some (true,u127.2))
noncomputable def p56_j1 (s1:List UInt8) (b102:Tparser) (b114:Bool):Option (Bool×(Option Tparser)):=if b114=true then (p56_j0 b102 true) else ((idx b102.l (0:Int)).bind fun e129=>p56_j0 b102 (!(e129.Text==s1)))
noncomputable def p56 (r0:Option Tparser) (s1:List UInt8):Option (Bool×(Option Tparser)):=r0.bind fun b102=>if (!decide (b102.f.Err=(0:Int)))=true then (p56_j1 s1 b102 true) else ((idx b102.l (0:Int)).bind fun e132=>p56_j1 s1 b102 (!decide (e132.Kind=(3:Int))))
theorem r56 {h:Heap} {a0_0:AV} {M:Nat→Prop} {r0:Option Tparser} {s1:List UInt8} (S:St h M [own (oPtr oparser) [a0_0] r0] h) {r:Bool×(Option Tparser)} (hf:p56 r0 s1=some r):ZCalls F 56 [a0_0,(.str s1)] h fun v h'=>v=.bool r.1∧St h M [own (oPtr oparser) [a0_0] r.2] h':=by
 refine w56 ?_
 unfold W56
 unfold p56 at hf
 obtain ⟨b102,hb102,hf⟩:=obind hf
 obtain ⟨o103,v104,b102c_0,b102c_1,b102c_6,b102c_7,b102c_8,b102c_9,eP,S2⟩:=oparser_deref hb102 S
 subst eP
 have S:=S2
 refine oP_intro _ rfl ?_
 refine ifP_iff.2 ⟨rfl,?_⟩
 refine ifP_iff.2 ⟨rfl,?_⟩
 refine ⟨b102.f.Err,S.rd1 m6 rfl,?_⟩
 intro jjj1
 have hjj1:∀ (b114:Bool) (h115:Heap),p56_j1 s1 b102 b114=some r→h=h115→St h M [rowC o103 [b102c_0,b102c_1,(.int .i64 b102.f.Err),(.int .i64 b102.f.At),(.int .i64 b102.f.Line),(.int .i64 b102.f.Col),b102c_6,b102c_7,b102c_8,b102c_9] v104,own (fz (rSl (rI .u8))) [b102c_0] b102.p,own (oSl (fz rTokenlex)) [b102c_1] b102.l,own (oSl (fz rPlace)) [b102c_6] b102.n.Places,own (oSl oTrans) [b102c_7] b102.n.Trans,own (oMap keS (AV.int .i64)) [b102c_8] b102.places,own (oMap keS AV.bool) [b102c_9] b102.told] h→jjj1 b114 h115:=by
  rintro b114 h115 hf rfl S
  unfold p56_j1 at hf
  unfold jjj1
  intro jjj0
  have hjj0:∀ (b120:Bool) (h121:Heap),p56_j0 b102 b120=some r→h=h121→St h M [rowC o103 [b102c_0,b102c_1,(.int .i64 b102.f.Err),(.int .i64 b102.f.At),(.int .i64 b102.f.Line),(.int .i64 b102.f.Col),b102c_6,b102c_7,b102c_8,b102c_9] v104,own (fz (rSl (rI .u8))) [b102c_0] b102.p,own (oSl (fz rTokenlex)) [b102c_1] b102.l,own (oSl (fz rPlace)) [b102c_6] b102.n.Places,own (oSl oTrans) [b102c_7] b102.n.Trans,own (oMap keS (AV.int .i64)) [b102c_8] b102.places,own (oMap keS AV.bool) [b102c_9] b102.told] h→jjj0 b120 h121:=by
   rintro b120 h121 hf rfl S
   unfold p56_j0 at hf
   unfold jjj0
   refine bP_intro (fun hc=>?_) (fun hc=>?_)
   ·rw [ifT hc] at hf
    have S:St _ _ [own (fz (rSl (rI .u8))) [b102c_0] b102.p,_,_,_,_,_,_,_] _:=S.add (rSl_mk (S.slz (r:=(rI .u8)) m1))
    have S:St _ _ [_,_,_,_,_,_,_,_] _:=S.sel [0,3,4,5,6,7,1,2] rfl
    have S:St _ _ [own (oPtr oparser) [(.ptr o103 v104 0)] (some b102),_] _:=oparser_shut (x:=b102) S
    obtain rfl:=oi hf
    exact ⟨rfl,S.sel [0] rfl⟩
   ·rw [ifF hc] at hf
    obtain ⟨u127,hu127,hf⟩:=obind hf
    have S:St _ _ [own (fz (rSl (rI .u8))) [b102c_0] b102.p,_,_,_,_,_,_,_] _:=S.add (rSl_mk (S.slz (r:=(rI .u8)) m1))
    have S:St _ _ [_,_,_,_,_,_,_,_] _:=S.sel [0,3,4,5,6,7,1,2] rfl
    have S:St _ _ [own (oPtr oparser) [(.ptr o103 v104 0)] (some b102),_] _:=oparser_shut (x:=b102) S
    refine ⟨_,Fz.refl _,?_⟩
    obtain ⟨fpu127,S1u127,backu127⟩:=St.lend [_] S
    refine (r53 (r0:=(some b102)) (S:=S1u127) hu127).mono fun v125 h126 T=>?_
    obtain ⟨rfl,T⟩:=T
    have S:St _ _ [own (oPtr oparser) [(.ptr o103 v104 0)] u127.2,_] _:=backu127 _ _ T
    obtain rfl:=oi hf
    exact ⟨rfl,S.sel [0] rfl⟩
  refine bP_intro (fun hc=>?_) (fun hc=>?_)
  ·rw [ifT hc] at hf
   exact hjj0 _ _  hf rfl S
  ·rw [ifF hc] at hf
   refine oP_intro (.ptr o103 v104 0) rfl ?_
   refine ifP_iff.2 ⟨rfl,?_⟩
   refine ⟨b102c_1,S.rd1 m0 rfl,?_⟩
   obtain ⟨e129,he129,hf⟩:=obind hf
   refine ix_go (S.sl (r:=(fz rTokenlex)) m2) (Hp.le_refl _) he129 fun pe129=>?_
   refine ifP_iff.2 ⟨pe129,?_⟩
   obtain ⟨_,cr130,Rr130,Nr130,Or130,Zr130⟩:=St.idxO (r:=rTokenlex) S m2 he129
   obtain rfl:=rTokenlex_open Rr130
   refine ⟨e129.Text,Or130 1 _ rfl,?_⟩
   exact hjj0 _ _  hf rfl S
 refine bP_intro (fun hc=>?_) (fun hc=>?_)
 ·rw [ifT hc] at hf
  have S:St _ _ [_,_,_,_,_,_,_] _:=S.sel [6,0,1,2,3,4,5] rfl
  exact hjj1 _ _  hf rfl S
 ·rw [ifF hc] at hf
  refine oP_intro (.ptr o103 v104 0) rfl ?_
  refine ifP_iff.2 ⟨rfl,?_⟩
  refine ⟨b102c_1,S.rd1 m6 rfl,?_⟩
  obtain ⟨e132,he132,hf⟩:=obind hf
  refine ix_go (S.sl (r:=(fz rTokenlex)) m1) (Hp.le_refl _) he132 fun pe132=>?_
  refine ifP_iff.2 ⟨pe132,?_⟩
  obtain ⟨_,cr133,Rr133,Nr133,Or133,Zr133⟩:=St.idxO (r:=rTokenlex) S m1 he132
  obtain rfl:=rTokenlex_open Rr133
  refine ⟨e132.Kind,Or133 0 _ rfl,?_⟩
  have S:St _ _ [_,_,_,_,_,_,_] _:=S.sel [6,0,1,2,3,4,5] rfl
  exact hjj1 _ _  hf rfl S
/-! 59: (*marblerun/parse.parser).want -/
noncomputable def p59 (r0:Option Tparser) (s1:List UInt8):Option (Option Tparser):=(p56 r0 s1).bind fun u104=>if (!u104.1)=true then (u104.2.bind fun b105=>(idx b105.l (0:Int)).bind fun e115=>(p54 (some b105) (6:Int) e115).bind fun u120=>some u120) else (some u104.2)
theorem r59 {h:Heap} {a0_0:AV} {M:Nat→Prop} {r0:Option Tparser} {s1:List UInt8} (S:St h M [own (oPtr oparser) [a0_0] r0] h) {r:(Option Tparser)} (hf:p59 r0 s1=some r):ZCalls F 59 [a0_0,(.str s1)] h fun v h'=>v=.tuple []∧St h M [own (oPtr oparser) [a0_0] r] h':=by
 refine w59 ?_
 unfold W59
 unfold p59 at hf
 obtain ⟨u104,hu104,hf⟩:=obind hf
 refine ⟨_,Fz.refl _,?_⟩
 obtain ⟨fpu104,S1u104,backu104⟩:=St.lend [_] S
 refine (r56 (r0:=r0) (s1:=s1) (S:=S1u104) hu104).mono fun v102 h103 T=>?_
 obtain ⟨rfl,T⟩:=T
 have S:St _ _ [own (oPtr oparser) [a0_0] u104.2] _:=backu104 _ _ T
 refine ⟨u104.1,rfl,?_⟩
 refine bP_intro (fun hc=>?_) (fun hc=>?_)
 ·rw [ifT hc] at hf
  obtain ⟨b105,hb105,hf⟩:=obind hf
  obtain ⟨o106,v107,b105c_0,b105c_1,b105c_6,b105c_7,b105c_8,b105c_9,eP,S2⟩:=oparser_deref hb105 S
  subst eP
  have S:=S2
  refine oP_intro _ rfl ?_
  refine ifP_iff.2 ⟨rfl,?_⟩
  refine ⟨b105c_1,S.rd1 m6 rfl,?_⟩
  obtain ⟨e115,he115,hf⟩:=obind hf
  refine ix_go (S.sl (r:=(fz rTokenlex)) m1) (Hp.le_refl _) he115 fun pe115=>?_
  obtain ⟨_,cr116,Rr116,Nr116,Or116,Zr116⟩:=St.idxO (r:=rTokenlex) S m1 he115
  obtain rfl:=rTokenlex_open Rr116
  refine ⟨(.int .u8 e115.Kind),(.str e115.Text),(.int .i64 e115.N),(.int .i64 e115.At),Nr116,?_⟩
  obtain ⟨u120,hu120,hf⟩:=obind hf
  have S:St _ _ [own (fz (rSl (rI .u8))) [b105c_0] b105.p,_,_,_,_,_,_,_] _:=S.add (rSl_mk (S.slz (r:=(rI .u8)) m0))
  have S:St _ _ [_,_,_,_,_,_,_,_] _:=S.sel [0,2,3,4,5,6,7,1] rfl
  have S:St _ _ [own (oPtr oparser) [(.ptr o106 v107 0)] (some b105),_] _:=oparser_shut (x:=b105) S
  refine ⟨_,Fz.refl _,?_⟩
  obtain ⟨fpu120,S1u120,backu120⟩:=St.lend [_] S
  refine (r54 (r0:=(some b105)) (e1:=(6:Int)) (t2:=e115) (S:=S1u120) hu120).mono fun v118 h119 T=>?_
  obtain ⟨rfl,T⟩:=T
  have S:St _ _ [own (oPtr oparser) [(.ptr o106 v107 0)] u120,_] _:=backu120 _ _ T
  obtain rfl:=oi hf
  exact ⟨rfl,S.sel [0] rfl⟩
 ·rw [ifF hc] at hf
  obtain rfl:=oi hf
  exact ⟨rfl,S.sel [0] rfl⟩
/-! 57: (*marblerun/parse.parser).number -/
noncomputable def p57_j0 (b102:Tparser) (e112:TTokenlex) (b122:Bool):Option (Int×(Option Tparser)):=if b122=true then ((p54 (some b102) (3:Int) e112).bind fun u129=>some ((0:Int),u129)) else ((p53 (some b102)).bind fun u133=>some (u133.1.N,u133.2))
noncomputable def p57 (r0:Option Tparser) (least1:Int):Option (Int×(Option Tparser)):=r0.bind fun b102=>(idx b102.l (0:Int)).bind fun e112=>if (!decide (e112.Kind=(2:Int)))=true then ((p54 (some b102) (6:Int) e112).bind fun u121=>some ((0:Int),u121)) else (if e112.N < least1 then (p57_j0 b102 e112 true) else (p57_j0 b102 e112 (decide ((1000000:Int) < e112.N))))
theorem r57 {h:Heap} {a0_0:AV} {M:Nat→Prop} {r0:Option Tparser} {least1:Int} (S:St h M [own (oPtr oparser) [a0_0] r0] h) {r:Int×(Option Tparser)} (hf:p57 r0 least1=some r):ZCalls F 57 [a0_0,(.int .i64 least1)] h fun v h'=>v=.int .i64 r.1∧St h M [own (oPtr oparser) [a0_0] r.2] h':=by
 refine w57 ?_
 unfold W57
 unfold p57 at hf
 obtain ⟨b102,hb102,hf⟩:=obind hf
 obtain ⟨o103,v104,b102c_0,b102c_1,b102c_6,b102c_7,b102c_8,b102c_9,eP,S2⟩:=oparser_deref hb102 S
 subst eP
 have S:=S2
 refine oP_intro _ rfl ?_
 refine ifP_iff.2 ⟨rfl,?_⟩
 refine ⟨b102c_1,S.rd1 m6 rfl,?_⟩
 obtain ⟨e112,he112,hf⟩:=obind hf
 refine ix_go (S.sl (r:=(fz rTokenlex)) m1) (Hp.le_refl _) he112 fun pe112=>?_
 obtain ⟨_,cr113,Rr113,Nr113,Or113,Zr113⟩:=St.idxO (r:=rTokenlex) S m1 he112
 obtain rfl:=rTokenlex_open Rr113
 refine ⟨(.int .u8 e112.Kind),(.str e112.Text),(.int .i64 e112.N),(.int .i64 e112.At),Nr113,?_⟩
 intro h114
 have S:St _ _ [rowC h.n [(.int .u8 0),(.str ([]:List UInt8)),(.int .i64 0),(.int .i64 0)] 0,_,_,_,_,_,_,_] _:=S.pushRow [(.int .u8 0),(.str ([]:List UInt8)),(.int .i64 0),(.int .i64 0)]
 obtain ⟨h116,e117,S⟩:=S.store (off:=0) (n:=4) (x:=(.agg [(.int .u8 e112.Kind),(.str e112.Text),(.int .i64 e112.N),(.int .i64 e112.At)])) (cs':=[(.int .u8 e112.Kind),(.str e112.Text),(.int .i64 e112.N),(.int .i64 e112.At)]) (nl rfl) rfl rfl rfl
 refine ⟨h116,e117,?_⟩
 refine ⟨e112.Kind,S.rd1 m0 rfl,?_⟩
 refine bP_intro (fun hc=>?_) (fun hc=>?_)
 ·rw [ifT hc] at hf
  refine ⟨(.int .u8 e112.Kind),(.str e112.Text),(.int .i64 e112.N),(.int .i64 e112.At),S.rdN m0 (nl rfl) rfl,?_⟩
  obtain ⟨u121,hu121,hf⟩:=obind hf
  have S:St _ _ [own (fz (rSl (rI .u8))) [b102c_0] b102.p,_,_,_,_,_,_,_,_] _:=S.add (rSl_mk (S.slz (r:=(rI .u8)) m1))
  have S:St _ _ [_,_,_,_,_,_,_,_,_] _:=S.sel [0,3,4,5,6,7,8,1,2] rfl
  have S:St _ _ [own (oPtr oparser) [(.ptr o103 v104 0)] (some b102),_,_] _:=oparser_shut (x:=b102) S
  refine ⟨_,Fz.refl _,?_⟩
  obtain ⟨fpu121,S1u121,backu121⟩:=St.lend [_] S
  refine (r54 (r0:=(some b102)) (e1:=(6:Int)) (t2:=e112) (S:=S1u121) hu121).mono fun v119 h120 T=>?_
  obtain ⟨rfl,T⟩:=T
  have S:St _ _ [own (oPtr oparser) [(.ptr o103 v104 0)] u121,_,_] _:=backu121 _ _ T
  obtain rfl:=oi hf
  exact ⟨rfl,S.sel [0] rfl⟩
 ·rw [ifF hc] at hf
  refine ⟨e112.N,S.rd1 m0 rfl,?_⟩
  intro jjj0
  have hjj0:∀ (b122:Bool) (h123:Heap),p57_j0 b102 e112 b122=some r→h116=h123→St h M [rowC o103 [b102c_0,b102c_1,(.int .i64 b102.f.Err),(.int .i64 b102.f.At),(.int .i64 b102.f.Line),(.int .i64 b102.f.Col),b102c_6,b102c_7,b102c_8,b102c_9] v104,rowC h.n [(.int .u8 e112.Kind),(.str e112.Text),(.int .i64 e112.N),(.int .i64 e112.At)] 0,own (fz (rSl (rI .u8))) [b102c_0] b102.p,own (oSl (fz rTokenlex)) [b102c_1] b102.l,own (oSl (fz rPlace)) [b102c_6] b102.n.Places,own (oSl oTrans) [b102c_7] b102.n.Trans,own (oMap keS (AV.int .i64)) [b102c_8] b102.places,own (oMap keS AV.bool) [b102c_9] b102.told] h116→jjj0 b122 h123:=by
   rintro b122 h123 hf rfl S
   unfold p57_j0 at hf
   unfold jjj0
   refine bP_intro (fun hc=>?_) (fun hc=>?_)
   ·rw [ifT hc] at hf
    refine ⟨(.int .u8 e112.Kind),(.str e112.Text),(.int .i64 e112.N),(.int .i64 e112.At),S.rdN m1 (nl rfl) rfl,?_⟩
    obtain ⟨u129,hu129,hf⟩:=obind hf
    have S:St _ _ [own (fz (rSl (rI .u8))) [b102c_0] b102.p,_,_,_,_,_,_,_,_] _:=S.add (rSl_mk (S.slz (r:=(rI .u8)) m2))
    have S:St _ _ [_,_,_,_,_,_,_,_,_] _:=S.sel [0,4,5,6,7,8,1,2,3] rfl
    have S:St _ _ [own (oPtr oparser) [(.ptr o103 v104 0)] (some b102),_,_] _:=oparser_shut (x:=b102) S
    refine ⟨_,Fz.refl _,?_⟩
    obtain ⟨fpu129,S1u129,backu129⟩:=St.lend [_] S
    refine (r54 (r0:=(some b102)) (e1:=(3:Int)) (t2:=e112) (S:=S1u129) hu129).mono fun v127 h128 T=>?_
    obtain ⟨rfl,T⟩:=T
    have S:St _ _ [own (oPtr oparser) [(.ptr o103 v104 0)] u129,_,_] _:=backu129 _ _ T
    obtain rfl:=oi hf
    exact ⟨rfl,S.sel [0] rfl⟩
   ·rw [ifF hc] at hf
    obtain ⟨u133,hu133,hf⟩:=obind hf
    have S:St _ _ [own (fz (rSl (rI .u8))) [b102c_0] b102.p,_,_,_,_,_,_,_,_] _:=S.add (rSl_mk (S.slz (r:=(rI .u8)) m2))
    have S:St _ _ [_,_,_,_,_,_,_,_,_] _:=S.sel [0,4,5,6,7,8,1,2,3] rfl
    have S:St _ _ [own (oPtr oparser) [(.ptr o103 v104 0)] (some b102),_,_] _:=oparser_shut (x:=b102) S
    refine ⟨_,Fz.refl _,?_⟩
    obtain ⟨fpu133,S1u133,backu133⟩:=St.lend [_] S
    refine (r53 (r0:=(some b102)) (S:=S1u133) hu133).mono fun v131 h132 T=>?_
    obtain ⟨rfl,T⟩:=T
    have S:St _ _ [own (oPtr oparser) [(.ptr o103 v104 0)] u133.2,_,_] _:=backu133 _ _ T
    refine oP_intro (.int .i64 u133.1.N) rfl ⟨u133.1.N,rfl,?_⟩
    obtain rfl:=oi hf
    exact ⟨rfl,S.sel [0] rfl⟩
  refine bP_intro (fun hc=>?_) (fun hc=>?_)
  ·rw [ifD hc] at hf
   have S:St _ _ [_,_,_,_,_,_,_,_] _:=S.sel [7,0,1,2,3,4,5,6] rfl
   exact hjj0 _ _  hf rfl S
  ·rw [ifE hc] at hf
   refine ⟨e112.N,S.rd1 m0 rfl,?_⟩
   have S:St _ _ [_,_,_,_,_,_,_,_] _:=S.sel [7,0,1,2,3,4,5,6] rfl
   exact hjj0 _ _  hf rfl S
/-! 55: (*marblerun/parse.parser).name -/
noncomputable def p55_j0 (b102:Tparser) (e112:TTokenlex) (b125:Bool):Option ((List UInt8)×(Option Tparser)):=if b125=true then ((p54 (some b102) (7:Int) e112).bind fun u132=>some (([]:List UInt8),u132)) else ((p53 (some (Tparser.mk b102.p b102.l b102.f b102.n b102.places (mput keS b102.told e112.Text true)))).bind fun u138=>some (u138.1.Text,u138.2))
noncomputable def p55 (r0:Option Tparser):Option ((List UInt8)×(Option Tparser)):=r0.bind fun b102=>(idx b102.l (0:Int)).bind fun e112=>if (!decide (e112.Kind=(1:Int)))=true then ((p54 (some b102) (6:Int) e112).bind fun u121=>some (([]:List UInt8),u121)) else ((p23 e112.Text).bind fun y124=>if (!y124)=true then (p55_j0 b102 e112 true) else (p55_j0 b102 e112 ((mget keS b102.told e112.Text).getD false)))
theorem r55 {h:Heap} {a0_0:AV} {M:Nat→Prop} {r0:Option Tparser} (S:St h M [own (oPtr oparser) [a0_0] r0] h) {r:(List UInt8)×(Option Tparser)} (hf:p55 r0=some r):ZCalls F 55 [a0_0] h fun v h'=>v=.str r.1∧St h M [own (oPtr oparser) [a0_0] r.2] h':=by
 refine w55 ?_
 unfold W55
 unfold p55 at hf
 obtain ⟨b102,hb102,hf⟩:=obind hf
 obtain ⟨o103,v104,b102c_0,b102c_1,b102c_6,b102c_7,b102c_8,b102c_9,eP,S2⟩:=oparser_deref hb102 S
 subst eP
 have S:=S2
 refine oP_intro _ rfl ?_
 refine ifP_iff.2 ⟨rfl,?_⟩
 refine ⟨b102c_1,S.rd1 m6 rfl,?_⟩
 obtain ⟨e112,he112,hf⟩:=obind hf
 refine ix_go (S.sl (r:=(fz rTokenlex)) m1) (Hp.le_refl _) he112 fun pe112=>?_
 obtain ⟨_,cr113,Rr113,Nr113,Or113,Zr113⟩:=St.idxO (r:=rTokenlex) S m1 he112
 obtain rfl:=rTokenlex_open Rr113
 refine ⟨(.int .u8 e112.Kind),(.str e112.Text),(.int .i64 e112.N),(.int .i64 e112.At),Nr113,?_⟩
 intro h114
 have S:St _ _ [rowC h.n [(.int .u8 0),(.str ([]:List UInt8)),(.int .i64 0),(.int .i64 0)] 0,_,_,_,_,_,_,_] _:=S.pushRow [(.int .u8 0),(.str ([]:List UInt8)),(.int .i64 0),(.int .i64 0)]
 obtain ⟨h116,e117,S⟩:=S.store (off:=0) (n:=4) (x:=(.agg [(.int .u8 e112.Kind),(.str e112.Text),(.int .i64 e112.N),(.int .i64 e112.At)])) (cs':=[(.int .u8 e112.Kind),(.str e112.Text),(.int .i64 e112.N),(.int .i64 e112.At)]) (nl rfl) rfl rfl rfl
 refine ⟨h116,e117,?_⟩
 refine ⟨e112.Kind,S.rd1 m0 rfl,?_⟩
 refine bP_intro (fun hc=>?_) (fun hc=>?_)
 ·rw [ifT hc] at hf
  refine ⟨(.int .u8 e112.Kind),(.str e112.Text),(.int .i64 e112.N),(.int .i64 e112.At),S.rdN m0 (nl rfl) rfl,?_⟩
  obtain ⟨u121,hu121,hf⟩:=obind hf
  have S:St _ _ [own (fz (rSl (rI .u8))) [b102c_0] b102.p,_,_,_,_,_,_,_,_] _:=S.add (rSl_mk (S.slz (r:=(rI .u8)) m1))
  have S:St _ _ [_,_,_,_,_,_,_,_,_] _:=S.sel [0,3,4,5,6,7,8,1,2] rfl
  have S:St _ _ [own (oPtr oparser) [(.ptr o103 v104 0)] (some b102),_,_] _:=oparser_shut (x:=b102) S
  refine ⟨_,Fz.refl _,?_⟩
  obtain ⟨fpu121,S1u121,backu121⟩:=St.lend [_] S
  refine (r54 (r0:=(some b102)) (e1:=(6:Int)) (t2:=e112) (S:=S1u121) hu121).mono fun v119 h120 T=>?_
  obtain ⟨rfl,T⟩:=T
  have S:St _ _ [own (oPtr oparser) [(.ptr o103 v104 0)] u121,_,_] _:=backu121 _ _ T
  obtain rfl:=oi hf
  exact ⟨rfl,S.sel [0] rfl⟩
 ·rw [ifF hc] at hf
  refine ⟨e112.Text,S.rd1 m0 rfl,?_⟩
  obtain ⟨y124,hy124,hf⟩:=obind hf
  refine ⟨_,Fz.refl _,?_⟩
  refine (r23 (s0:=e112.Text) hy124).mono fun v122 h123 T=>?_
  obtain ⟨rfl,T⟩:=T
  have S:St _ _ [_,_,_,_,_,_,_,_] _:=S.comp T
  refine ⟨y124,rfl,?_⟩
  intro jjj0
  have hjj0:∀ (b125:Bool) (h126:Heap),p55_j0 b102 e112 b125=some r→h123=h126→St h M [rowC o103 [b102c_0,b102c_1,(.int .i64 b102.f.Err),(.int .i64 b102.f.At),(.int .i64 b102.f.Line),(.int .i64 b102.f.Col),b102c_6,b102c_7,b102c_8,b102c_9] v104,rowC h.n [(.int .u8 e112.Kind),(.str e112.Text),(.int .i64 e112.N),(.int .i64 e112.At)] 0,own (fz (rSl (rI .u8))) [b102c_0] b102.p,own (oSl (fz rTokenlex)) [b102c_1] b102.l,own (oSl (fz rPlace)) [b102c_6] b102.n.Places,own (oSl oTrans) [b102c_7] b102.n.Trans,own (oMap keS (AV.int .i64)) [b102c_8] b102.places,own (oMap keS AV.bool) [b102c_9] b102.told] h123→jjj0 b125 h126:=by
   rintro b125 h126 hf rfl S
   unfold p55_j0 at hf
   unfold jjj0
   refine bP_intro (fun hc=>?_) (fun hc=>?_)
   ·rw [ifT hc] at hf
    refine ⟨(.int .u8 e112.Kind),(.str e112.Text),(.int .i64 e112.N),(.int .i64 e112.At),S.rdN m1 (nl rfl) rfl,?_⟩
    obtain ⟨u132,hu132,hf⟩:=obind hf
    have S:St _ _ [own (fz (rSl (rI .u8))) [b102c_0] b102.p,_,_,_,_,_,_,_,_] _:=S.add (rSl_mk (S.slz (r:=(rI .u8)) m2))
    have S:St _ _ [_,_,_,_,_,_,_,_,_] _:=S.sel [0,4,5,6,7,8,1,2,3] rfl
    have S:St _ _ [own (oPtr oparser) [(.ptr o103 v104 0)] (some b102),_,_] _:=oparser_shut (x:=b102) S
    refine ⟨_,Fz.refl _,?_⟩
    obtain ⟨fpu132,S1u132,backu132⟩:=St.lend [_] S
    refine (r54 (r0:=(some b102)) (e1:=(7:Int)) (t2:=e112) (S:=S1u132) hu132).mono fun v130 h131 T=>?_
    obtain ⟨rfl,T⟩:=T
    have S:St _ _ [own (oPtr oparser) [(.ptr o103 v104 0)] u132,_,_] _:=backu132 _ _ T
    obtain rfl:=oi hf
    exact ⟨rfl,S.sel [0] rfl⟩
   ·rw [ifF hc] at hf
    refine oP_intro (.ptr o103 v104 0) rfl ?_
    refine ifP_iff.2 ⟨rfl,?_⟩
    refine ⟨b102c_9,S.rd1 m0 rfl,?_⟩
    refine ifP_iff.2 ⟨rfl,?_⟩
    refine ⟨e112.Text,S.rd1 m1 rfl,?_⟩
    have S:St _ _ [_,_,_,_,_,_,_,_] _:=S.sel [7,0,1,2,3,4,5,6] rfl
    obtain ⟨h133,e134,S⟩:=S.setM e112.Text true
    refine ⟨_,h133,e134,?_⟩
    obtain ⟨u138,hu138,hf⟩:=obind hf
    have S:St _ _ [own (fz (rSl (rI .u8))) [b102c_0] b102.p,_,_,_,_,_,_,_,_] _:=S.add (rSl_mk (S.slz (r:=(rI .u8)) m3))
    have S:St _ _ [_,_,_,_,_,_,_,_,_] _:=S.sel [0,5,6,7,8,1,2,3,4] rfl
    have S:St _ _ [own (oPtr oparser) [(.ptr o103 v104 0)] (some (Tparser.mk b102.p b102.l b102.f b102.n b102.places (mput keS b102.told e112.Text true))),_,_] _:=oparser_shut (x:=(Tparser.mk b102.p b102.l b102.f b102.n b102.places (mput keS b102.told e112.Text true))) S
    refine ⟨_,Fz.refl _,?_⟩
    obtain ⟨fpu138,S1u138,backu138⟩:=St.lend [_] S
    refine (r53 (r0:=(some (Tparser.mk b102.p b102.l b102.f b102.n b102.places (mput keS b102.told e112.Text true)))) (S:=S1u138) hu138).mono fun v136 h137 T=>?_
    obtain ⟨rfl,T⟩:=T
    have S:St _ _ [own (oPtr oparser) [(.ptr o103 v104 0)] u138.2,_,_] _:=backu138 _ _ T
    refine oP_intro (.str u138.1.Text) rfl ⟨u138.1.Text,rfl,?_⟩
    obtain rfl:=oi hf
    exact ⟨rfl,S.sel [0] rfl⟩
  refine bP_intro (fun hc=>?_) (fun hc=>?_)
  ·rw [ifT hc] at hf
   have S:St _ _ [_,_,_,_,_,_,_,_] _:=S.sel [7,0,1,2,3,4,5,6] rfl
   exact hjj0 _ _  hf rfl S
  ·rw [ifF hc] at hf
   refine oP_intro (.ptr o103 v104 0) rfl ?_
   refine ifP_iff.2 ⟨rfl,?_⟩
   refine ⟨b102c_9,S.rd1 m7 rfl,?_⟩
   refine ⟨e112.Text,S.rd1 m0 rfl,?_⟩
   refine ⟨_,S.look1 (e:=keS) (ve:=AV.bool) m6 e112.Text false,_,rfl,?_⟩
   have S:St _ _ [_,_,_,_,_,_,_,_] _:=S.sel [7,0,1,2,3,4,5,6] rfl
   exact hjj0 _ _  hf rfl S
/-! 76: (*marblerun/parse.parser).arc -/
noncomputable def p76_j0 (y130:Int) (b169:Bool):Option ((Bool×Int)⊕Bool):=some (.inl (b169,(IntKind.wrap .i64 (y130+(1:Int)))))
noncomputable def p76_l0 (x1:List TArc) (b103:Tparser) (e113:TTokenlex) (st:Bool×Int):Option ((Bool×Int)⊕Bool):=match st with | (y127,y130)=>if y130 < (x1.length:Int) then ((idx x1 y130).bind fun e163=>if y127=true then (p76_j0 y130 (!decide (e163.Place=((mget keS b103.places e113.Text).getD (0:Int))))) else (p76_j0 y130 false)) else (some (.inr y127))
noncomputable def p76_j1 (x1:List TArc) (b103:Tparser) (e113:TTokenlex) (y205:Int) (l206:Option Tparser):Option ((List TArc)×(Option Tparser)):=(app 16 x1 [(TArc.mk ((mget keS b103.places e113.Text).getD (0:Int)) y205)]).bind fun x211=>some (x211,l206)
noncomputable def p76_j2 (x1:List TArc) (b103:Tparser) (e113:TTokenlex) (l192:Option Tparser):Option ((List TArc)×(Option Tparser)):=(p53 l192).bind fun u195=>(p56 u195.2 ([42]:List UInt8)).bind fun u198=>if u198.1=true then ((p57 u198.2 (1:Int)).bind fun u217=>p76_j1 x1 b103 e113 u217.1 u217.2) else (p76_j1 x1 b103 e113 (1:Int) u198.2)
noncomputable def p76 (x0:Option Tparser) (x1:List TArc):Option ((List TArc)×(Option Tparser)):=x0.bind fun b103=>(idx b103.l (0:Int)).bind fun e113=>if (!decide (e113.Kind=(1:Int)))=true then ((p54 (some b103) (6:Int) e113).bind fun u122=>some (x1,u122)) else ((loopC (p76_l0 x1 b103 e113) ((mget keS b103.places e113.Text).isSome,(0:Int))).bind fun res159=>((fun (y154:Bool)=>if (!y154)=true then ((p54 (some b103) (7:Int) e113).bind fun u222=>p76_j2 x1 b103 e113 u222) else (if (x1.length:Int)=(8:Int) then ((p54 (some b103) (5:Int) e113).bind fun u226=>p76_j2 x1 b103 e113 u226) else (p76_j2 x1 b103 e113 (some b103)))) res159))
theorem r76 {h:Heap} {a0_0:AV} {a1_0:AV} {M:Nat→Prop} {x0:Option Tparser} {x1:List TArc} (S:St h M [own (oPtr oparser) [a0_0] x0,own (oSl (fz rArc)) [a1_0] x1] h) {r:(List TArc)×(Option Tparser)} (hf:p76 x0 x1=some r):ZCalls F 76 [a0_0,a1_0] h fun v h'=>St h M [own (oSl (fz rArc)) [v] r.1,own (oPtr oparser) [a0_0] r.2] h':=by
 refine w76 ?_
 unfold W76
 unfold p76 at hf
 obtain ⟨b103,hb103,hf⟩:=obind hf
 obtain ⟨o104,v105,b103c_0,b103c_1,b103c_6,b103c_7,b103c_8,b103c_9,eP,S2⟩:=oparser_deref hb103 S
 subst eP
 have S:=S2
 refine oP_intro _ rfl ?_
 refine ifP_iff.2 ⟨rfl,?_⟩
 refine ⟨b103c_1,S.rd1 m6 rfl,?_⟩
 obtain ⟨e113,he113,hf⟩:=obind hf
 refine ix_go (S.sl (r:=(fz rTokenlex)) m1) (Hp.le_refl _) he113 fun pe113=>?_
 obtain ⟨_,cr114,Rr114,Nr114,Or114,Zr114⟩:=St.idxO (r:=rTokenlex) S m1 he113
 obtain rfl:=rTokenlex_open Rr114
 refine ⟨(.int .u8 e113.Kind),(.str e113.Text),(.int .i64 e113.N),(.int .i64 e113.At),Nr114,?_⟩
 intro h115
 have S:St _ _ [rowC h.n [(.int .u8 0),(.str ([]:List UInt8)),(.int .i64 0),(.int .i64 0)] 0,_,_,_,_,_,_,_,_] _:=S.pushRow [(.int .u8 0),(.str ([]:List UInt8)),(.int .i64 0),(.int .i64 0)]
 obtain ⟨h117,e118,S⟩:=S.store (off:=0) (n:=4) (x:=(.agg [(.int .u8 e113.Kind),(.str e113.Text),(.int .i64 e113.N),(.int .i64 e113.At)])) (cs':=[(.int .u8 e113.Kind),(.str e113.Text),(.int .i64 e113.N),(.int .i64 e113.At)]) (nl rfl) rfl rfl rfl
 refine ⟨h117,e118,?_⟩
 refine ⟨e113.Kind,S.rd1 m0 rfl,?_⟩
 refine bP_intro (fun hc=>?_) (fun hc=>?_)
 ·rw [ifT hc] at hf
  refine ⟨(.int .u8 e113.Kind),(.str e113.Text),(.int .i64 e113.N),(.int .i64 e113.At),S.rdN m0 (nl rfl) rfl,?_⟩
  obtain ⟨u122,hu122,hf⟩:=obind hf
  have S:St _ _ [own (fz (rSl (rI .u8))) [b103c_0] b103.p,_,_,_,_,_,_,_,_,_] _:=S.add (rSl_mk (S.slz (r:=(rI .u8)) m1))
  have S:St _ _ [_,_,_,_,_,_,_,_,_,_] _:=S.sel [0,3,4,5,6,7,8,1,2,9] rfl
  have S:St _ _ [own (oPtr oparser) [(.ptr o104 v105 0)] (some b103),_,_,_] _:=oparser_shut (x:=b103) S
  refine ⟨_,Fz.refl _,?_⟩
  obtain ⟨fpu122,S1u122,backu122⟩:=St.lend [_] S
  refine (r54 (r0:=(some b103)) (e1:=(6:Int)) (t2:=e113) (S:=S1u122) hu122).mono fun v120 h121 T=>?_
  obtain ⟨rfl,T⟩:=T
  have S:St _ _ [own (oPtr oparser) [(.ptr o104 v105 0)] u122,_,_,_] _:=backu122 _ _ T
  obtain rfl:=oi hf
  exact S.sel [3,0] rfl
 ·rw [ifF hc] at hf
  refine oP_intro (.ptr o104 v105 0) rfl ?_
  refine ifP_iff.2 ⟨rfl,?_⟩
  refine ⟨b103c_8,S.rd1 m7 rfl,?_⟩
  refine ⟨e113.Text,S.rd1 m0 rfl,?_⟩
  refine ⟨_,S.look2 (e:=keS) (ve:=(AV.int .i64)) m5 e113.Text (0:Int),?_⟩
  refine oP_intro (.int .i64 ((mget keS b103.places e113.Text).getD (0:Int))) rfl ⟨((mget keS b103.places e113.Text).getD (0:Int)),rfl,?_⟩
  refine oP_intro (.bool (mget keS b103.places e113.Text).isSome) rfl ⟨(mget keS b103.places e113.Text).isSome,rfl,?_⟩
  refine ifP_iff.2 ⟨((S.sl (r:=(fz rArc)) m8)).is,?_⟩
  try rw [show (a1_0).slen=_ from ((S.sl (r:=(fz rArc)) m8)).slen]
  obtain ⟨res159,hL,hf⟩:=obind hf
  obtain ⟨n160,hL⟩:=loopC_iff.1 hL
  have S:St _ _ [_,_,_,_,_,_,_,_,_] _:=S.sel [7,8,0,1,2,3,4,5,6] rfl
  refine loopm76_0 (X0:=fun (y150:AV) (y151:AV) (y152:AV) (y153:Int) (y154:Bool) (y155:AV) (y156:Int) (y157:Int) (h158:Heap)=>AV.ptr o104 v105 0=y150∧a1_0=y151∧AV.ptr h.n 0 0=y152∧((mget keS b103.places e113.Text).getD (0:Int))=y153∧St h M [rowC o104 [b103c_0,b103c_1,(.int .i64 b103.f.Err),(.int .i64 b103.f.At),(.int .i64 b103.f.Line),(.int .i64 b103.f.Col),b103c_6,b103c_7,b103c_8,b103c_9] v105,own (oSl (fz rArc)) [a1_0] x1,rowC h.n [(.int .u8 e113.Kind),(.str e113.Text),(.int .i64 e113.N),(.int .i64 e113.At)] 0,own (fz (rSl (rI .u8))) [b103c_0] b103.p,own (oSl (fz rTokenlex)) [b103c_1] b103.l,own (oSl (fz rPlace)) [b103c_6] b103.n.Places,own (oSl oTrans) [b103c_7] b103.n.Trans,own (oMap keS (AV.int .i64)) [b103c_8] b103.places,own (oMap keS AV.bool) [b103c_9] b103.told] h158∧y154=res159) ?_ (loop76_0 (I:=fun (m162:Nat) (y123:AV) (y124:AV) (y125:AV) (y126:Int) (y127:Bool) (y128:AV) (y129:Int) (y130:Int) (h131:Heap)=>AV.ptr o104 v105 0=y123∧a1_0=y124∧AV.ptr h.n 0 0=y125∧((mget keS b103.places e113.Text).getD (0:Int))=y126∧a1_0=y128∧(x1.length:Int)=y129∧St h M [rowC o104 [b103c_0,b103c_1,(.int .i64 b103.f.Err),(.int .i64 b103.f.At),(.int .i64 b103.f.Line),(.int .i64 b103.f.Col),b103c_6,b103c_7,b103c_8,b103c_9] v105,own (oSl (fz rArc)) [a1_0] x1,rowC h.n [(.int .u8 e113.Kind),(.str e113.Text),(.int .i64 e113.N),(.int .i64 e113.At)] 0,own (fz (rSl (rI .u8))) [b103c_0] b103.p,own (oSl (fz rTokenlex)) [b103c_1] b103.l,own (oSl (fz rPlace)) [b103c_6] b103.n.Places,own (oSl oTrans) [b103c_7] b103.n.Trans,own (oMap keS (AV.int .i64)) [b103c_8] b103.places,own (oMap keS AV.bool) [b103c_9] b103.told] h131∧iter (p76_l0 x1 b103 e113) m162 (y127,y130)=some res159) ?_ (m:=n160) ?_)
  ·rintro y150 y151 y152 y153 y154 y155 y156 y157 h158 ⟨rfl,rfl,rfl,rfl,S,rfl⟩
   try dsimp only at hf
   intro jjj2
   have hjj2:∀  (h188:Heap) (l192:Option Tparser),p76_j2 x1 b103 e113 l192=some r→St h M [own (oPtr oparser) [(.ptr o104 v105 0)] l192,own (oSl (fz rArc)) [a1_0] x1] h188→jjj2 h188:=by
    rintro h188 l192 hf S
    unfold p76_j2 at hf
    unfold jjj2
    obtain ⟨u195,hu195,hf⟩:=obind hf
    refine ⟨_,Fz.refl _,?_⟩
    obtain ⟨fpu195,S1u195,backu195⟩:=St.lend [_] S
    refine (r53 (r0:=l192) (S:=S1u195) hu195).mono fun v193 h194 T=>?_
    obtain ⟨rfl,T⟩:=T
    have S:St _ _ [own (oPtr oparser) [(.ptr o104 v105 0)] u195.2,_] _:=backu195 _ _ T
    obtain ⟨u198,hu198,hf⟩:=obind hf
    refine ⟨_,Fz.refl _,?_⟩
    obtain ⟨fpu198,S1u198,backu198⟩:=St.lend [_] S
    refine (r56 (r0:=u195.2) (s1:=([42]:List UInt8)) (S:=S1u198) hu198).mono fun v196 h197 T=>?_
    obtain ⟨rfl,T⟩:=T
    have S:St _ _ [own (oPtr oparser) [(.ptr o104 v105 0)] u198.2,_] _:=backu198 _ _ T
    refine ⟨u198.1,rfl,?_⟩
    intro jjj1
    have hjj1:∀ (y205:Int) (h202:Heap) (l206:Option Tparser),p76_j1 x1 b103 e113 y205 l206=some r→St h M [own (oSl (fz rArc)) [a1_0] x1,own (oPtr oparser) [(.ptr o104 v105 0)] l206] h202→jjj1 y205 h202:=by
     rintro y205 h202 l206 hf S
     unfold p76_j1 at hf
     unfold jjj1
     intro h207
     have S:St _ _ [rowC h202.n [(.int .i64 ((mget keS b103.places e113.Text).getD (0:Int))),(.int .i64 y205)] 0,_,_] _:=S.pushRow [(.int .i64 ((mget keS b103.places e113.Text).getD (0:Int))),(.int .i64 y205)]
     obtain ⟨x211,hx211,hf⟩:=obind hf
     have S:St _ _ [own (fz rArc) [(.int .i64 ((mget keS b103.places e113.Text).getD (0:Int))),(.int .i64 y205)] (TArc.mk ((mget keS b103.places e113.Text).getD (0:Int)) y205),_,_,_] _:=S.add (r:=rArc) (x:=(TArc.mk ((mget keS b103.places e113.Text).getD (0:Int)) y205)) (rArc_mk (x:=(TArc.mk ((mget keS b103.places e113.Text).getD (0:Int)) y205)))
     have S:St _ _ [_,_,_,_] _:=S.sel [2,0,1,3] rfl
     have mx211:=app_some hx211
     obtain ⟨v210,h209,e212,S⟩:=St.app1R (r:=(fz rArc)) (b:=16) S mx211.1
     have S:St _ _ [own (oSl (fz rArc)) [v210] x211,_] _:=S.cast1 (by rw [← mx211.2]<;>rfl)
     refine ⟨v210,h209,e212,?_⟩
     obtain rfl:=oi hf
     exact S.sel [0,1] rfl
    refine bP_intro (fun hc=>?_) (fun hc=>?_)
    ·rw [ifT hc] at hf
     obtain ⟨u217,hu217,hf⟩:=obind hf
     refine ⟨_,Fz.refl _,?_⟩
     obtain ⟨fpu217,S1u217,backu217⟩:=St.lend [_] S
     refine (r57 (r0:=u198.2) (least1:=(1:Int)) (S:=S1u217) hu217).mono fun v215 h216 T=>?_
     obtain ⟨rfl,T⟩:=T
     have S:St _ _ [own (oPtr oparser) [(.ptr o104 v105 0)] u217.2,_] _:=backu217 _ _ T
     refine ⟨u217.1,rfl,?_⟩
     have S:St _ _ [_,_] _:=S.sel [1,0] rfl
     exact hjj1 _ _ u217.2 hf  S
    ·rw [ifF hc] at hf
     have S:St _ _ [_,_] _:=S.sel [1,0] rfl
     exact hjj1 _ _ u198.2 hf  S
   refine bP_intro (fun hc=>?_) (fun hc=>?_)
   ·rw [ifT hc] at hf
    refine ⟨(.int .u8 e113.Kind),(.str e113.Text),(.int .i64 e113.N),(.int .i64 e113.At),S.rdN m2 (nl rfl) rfl,?_⟩
    obtain ⟨u222,hu222,hf⟩:=obind hf
    have S:St _ _ [own (fz (rSl (rI .u8))) [b103c_0] b103.p,_,_,_,_,_,_,_,_,_] _:=S.add (rSl_mk (S.slz (r:=(rI .u8)) m3))
    have S:St _ _ [_,_,_,_,_,_,_,_,_,_] _:=S.sel [0,5,6,7,8,9,1,2,3,4] rfl
    have S:St _ _ [own (oPtr oparser) [(.ptr o104 v105 0)] (some b103),_,_,_] _:=oparser_shut (x:=b103) S
    refine ⟨_,Fz.refl _,?_⟩
    obtain ⟨fpu222,S1u222,backu222⟩:=St.lend [_] S
    refine (r54 (r0:=(some b103)) (e1:=(7:Int)) (t2:=e113) (S:=S1u222) hu222).mono fun v220 h221 T=>?_
    obtain ⟨rfl,T⟩:=T
    have S:St _ _ [own (oPtr oparser) [(.ptr o104 v105 0)] u222,_,_,_] _:=backu222 _ _ T
    have S:St _ _ [_,_] _:=S.sel [0,1] rfl
    exact hjj2  _ u222 hf  S
   ·rw [ifF hc] at hf
    refine ifP_iff.2 ⟨((S.sl (r:=(fz rArc)) m1)).is,?_⟩
    try rw [show (a1_0).slen=_ from ((S.sl (r:=(fz rArc)) m1)).slen]
    refine bP_intro (fun hc=>?_) (fun hc=>?_)
    ·rw [ifD hc] at hf
     refine ⟨(.int .u8 e113.Kind),(.str e113.Text),(.int .i64 e113.N),(.int .i64 e113.At),S.rdN m2 (nl rfl) rfl,?_⟩
     obtain ⟨u226,hu226,hf⟩:=obind hf
     have S:St _ _ [own (fz (rSl (rI .u8))) [b103c_0] b103.p,_,_,_,_,_,_,_,_,_] _:=S.add (rSl_mk (S.slz (r:=(rI .u8)) m3))
     have S:St _ _ [_,_,_,_,_,_,_,_,_,_] _:=S.sel [0,5,6,7,8,9,1,2,3,4] rfl
     have S:St _ _ [own (oPtr oparser) [(.ptr o104 v105 0)] (some b103),_,_,_] _:=oparser_shut (x:=b103) S
     refine ⟨_,Fz.refl _,?_⟩
     obtain ⟨fpu226,S1u226,backu226⟩:=St.lend [_] S
     refine (r54 (r0:=(some b103)) (e1:=(5:Int)) (t2:=e113) (S:=S1u226) hu226).mono fun v224 h225 T=>?_
     obtain ⟨rfl,T⟩:=T
     have S:St _ _ [own (oPtr oparser) [(.ptr o104 v105 0)] u226,_,_,_] _:=backu226 _ _ T
     have S:St _ _ [_,_] _:=S.sel [0,1] rfl
     exact hjj2  _ u226 hf  S
    ·rw [ifE hc] at hf
     have S:St _ _ [own (fz (rSl (rI .u8))) [b103c_0] b103.p,_,_,_,_,_,_,_,_,_] _:=S.add (rSl_mk (S.slz (r:=(rI .u8)) m3))
     have S:St _ _ [_,_,_,_,_,_,_,_,_,_] _:=S.sel [0,5,6,7,8,9,1,2,3,4] rfl
     have S:St _ _ [own (oPtr oparser) [(.ptr o104 v105 0)] (some b103),_,_,_] _:=oparser_shut (x:=b103) S
     have S:St _ _ [_,_] _:=S.sel [0,1] rfl
     exact hjj2  _ (some b103) hf  S
  ·rintro m1620 y123 y124 y125 y126 y127 y128 y129 y130 h131 ⟨rfl,rfl,rfl,rfl,rfl,rfl,S,hit⟩
   obtain ⟨m162,q161,rfl,hf,hk⟩:=iter_some hit
   clear hit
   unfold B76_0
   unfold p76_l0 at hf
   try dsimp only at hf
   refine bP_intro (fun hc=>?_) (fun hc=>?_)
   ·rw [ifD hc] at hf
    obtain ⟨e163,he163,hf⟩:=obind hf
    refine ix_go (S.sl (r:=(fz rArc)) m1) (Hp.le_refl _) he163 fun pe163=>?_
    obtain ⟨_,cr164,Rr164,Nr164,Or164,Zr164⟩:=St.idxO (r:=rArc) S m1 he163
    obtain rfl:=rArc_open Rr164
    refine ⟨(.int .i64 e163.Place),(.int .i64 e163.N),Nr164,?_⟩
    intro h165
    have S:St _ _ [rowC h131.n [(.int .i64 0),(.int .i64 0)] 0,_,_,_,_,_,_,_,_,_] _:=S.pushRow [(.int .i64 0),(.int .i64 0)]
    obtain ⟨h167,e168,S⟩:=S.store (off:=0) (n:=2) (x:=(.agg [(.int .i64 e163.Place),(.int .i64 e163.N)])) (cs':=[(.int .i64 e163.Place),(.int .i64 e163.N)]) (nl rfl) rfl rfl rfl
    refine ⟨h167,e168,?_⟩
    intro jjj0
    have hjj0:∀ (b169:Bool) (h170:Heap),p76_j0 y130 b169=some q161→h167=h170→St h M [rowC o104 [b103c_0,b103c_1,(.int .i64 b103.f.Err),(.int .i64 b103.f.At),(.int .i64 b103.f.Line),(.int .i64 b103.f.Col),b103c_6,b103c_7,b103c_8,b103c_9] v105,own (oSl (fz rArc)) [a1_0] x1,rowC h.n [(.int .u8 e113.Kind),(.str e113.Text),(.int .i64 e113.N),(.int .i64 e113.At)] 0,own (fz (rSl (rI .u8))) [b103c_0] b103.p,own (oSl (fz rTokenlex)) [b103c_1] b103.l,own (oSl (fz rPlace)) [b103c_6] b103.n.Places,own (oSl oTrans) [b103c_7] b103.n.Trans,own (oMap keS (AV.int .i64)) [b103c_8] b103.places,own (oMap keS AV.bool) [b103c_9] b103.told] h167→jjj0 b169 h170:=by
     rintro b169 h170 hf rfl S
     unfold p76_j0 at hf
     unfold jjj0
     obtain rfl:=oi hf
     exact ⟨m162,Nat.lt_succ_self _,rfl,rfl,rfl,rfl,rfl,rfl,S,hk⟩
    refine bP_intro (fun hc=>?_) (fun hc=>?_)
    ·rw [ifT hc] at hf
     refine ⟨e163.Place,S.rd1 m0 rfl,?_⟩
     have S:St _ _ [_,_,_,_,_,_,_,_,_] _:=S.sel [1,2,3,4,5,6,7,8,9] rfl
     exact hjj0 _ _  hf rfl S
    ·rw [ifF hc] at hf
     have S:St _ _ [_,_,_,_,_,_,_,_,_] _:=S.sel [1,2,3,4,5,6,7,8,9] rfl
     exact hjj0 _ _  hf rfl S
   ·rw [ifE hc] at hf
    obtain rfl:=oi hf
    obtain rfl:=hk
    exact ⟨rfl,rfl,rfl,rfl,S,rfl⟩
  ·exact ⟨rfl,rfl,rfl,rfl,rfl,rfl,S,hL⟩
/-! 58: (*marblerun/parse.parser).trans -/
noncomputable def p58_j0 (c200:List TArc) (c201:List TArc) (l299:Option Tparser):Option ((Bool×(Option Tparser)×(List TArc)×(List TArc))⊕((Option Tparser)×(List TArc)×(List TArc))):=(p56 l299 ([126]:List UInt8)).bind fun u302=>if u302.1=true then ((p76 u302.2 c201).bind fun u305=>some (.inl (false,u305.2,c200,u305.1))) else ((p76 u302.2 c200).bind fun u311=>some (.inl (false,u311.2,u311.1,c201)))
noncomputable def p58_j1 (y140:Bool) (c200:List TArc) (c201:List TArc) (b287:Bool) (l292:Option Tparser):Option ((Bool×(Option Tparser)×(List TArc)×(List TArc))⊕((Option Tparser)×(List TArc)×(List TArc))):=if b287=true then (if (!y140)=true then ((p59 l292 ([44]:List UInt8)).bind fun u318=>p58_j0 c200 c201 u318) else (p58_j0 c200 c201 l292)) else (some (.inr (l292,c200,c201)))
noncomputable def p58_l0 (st:Bool×(Option Tparser)×(List TArc)×(List TArc)):Option ((Bool×(Option Tparser)×(List TArc)×(List TArc))⊕((Option Tparser)×(List TArc)×(List TArc))):=match st with | (y140,l197,c200,c201)=>l197.bind fun b273=>if b273.f.Err=(0:Int) then ((p56 (some b273) ([45,62]:List UInt8)).bind fun u323=>p58_j1 y140 c200 c201 (!u323.1) u323.2) else (p58_j1 y140 c200 c201 false (some b273))
noncomputable def p58_j2 (c397:List TArc) (l510:Option Tparser):Option ((Bool×(Option Tparser)×(List TArc))⊕((Option Tparser)×(List TArc))):=(p76 l510 c397).bind fun u513=>some (.inl (false,u513.2,u513.1))
noncomputable def p58_j3 (y329:Bool) (c397:List TArc) (b475:Tparser) (b498:Bool):Option ((Bool×(Option Tparser)×(List TArc))⊕((Option Tparser)×(List TArc))):=if b498=true then (if (!y329)=true then ((p59 (some b475) ([44]:List UInt8)).bind fun u521=>p58_j2 c397 u521) else (p58_j2 c397 (some b475))) else (some (.inr ((some b475),c397)))
noncomputable def p58_j4 (y329:Bool) (c397:List TArc) (b475:Tparser) (b529:Bool):Option ((Bool×(Option Tparser)×(List TArc))⊕((Option Tparser)×(List TArc))):=p58_j3 y329 c397 b475 b529
noncomputable def p58_l1 (st:Bool×(Option Tparser)×(List TArc)):Option ((Bool×(Option Tparser)×(List TArc))⊕((Option Tparser)×(List TArc))):=match st with | (y329,l395,c397)=>l395.bind fun b475=>if b475.f.Err=(0:Int) then ((idx b475.l (0:Int)).bind fun e525=>if (!decide (e525.Kind=(3:Int)))=true then (p58_j4 y329 c397 b475 true) else ((idx b475.l (0:Int)).bind fun e536=>p58_j4 y329 c397 b475 (!(e536.Text==([59]:List UInt8))))) else (p58_j3 y329 c397 b475 false)
noncomputable def p58_j5 (u104:(List UInt8)×(Option Tparser)) (c121:Int) (l133:Option Tparser) (c134:Int):Option (Option Tparser):=(p59 l133 ([58]:List UInt8)).bind fun u137=>(loopC p58_l0 (true,u137,[],[])).bind fun res269=>(match res269 with | (l264,c267,c268)=>(loopC p58_l1 (true,l264,[])).bind fun res471=>(match res471 with | (l468,c470)=>l468.bind fun b539=>(app 104 b539.n.Trans [(TTrans.mk u104.1 c121 c134 c267 c268 c470)]).bind fun b553=>some (some (Tparser.mk b539.p b539.l b539.f (TNet.mk b539.n.Places b553) b539.places b539.told))))
noncomputable def p58_j6 (u104:(List UInt8)×(Option Tparser)) (l120:Option Tparser) (c121:Int):Option (Option Tparser):=(p56 l120 ([33]:List UInt8)).bind fun u124=>if u124.1=true then ((p57 u124.2 (0:Int)).bind fun u562=>p58_j5 u104 c121 u562.2 u562.1) else (p58_j5 u104 c121 u124.2 (0:Int))
noncomputable def p58 (x0:Option Tparser):Option (Option Tparser):=(p55 x0).bind fun u104=>(p56 u104.2 ([64]:List UInt8)).bind fun u111=>if u111.1=true then ((p57 u111.2 (0:Int)).bind fun u568=>p58_j6 u104 u568.2 u568.1) else (p58_j6 u104 u111.2 (0:Int))
theorem r58 {h:Heap} {a0_0:AV} {M:Nat→Prop} {x0:Option Tparser} (S:St h M [own (oPtr oparser) [a0_0] x0] h) {r:(Option Tparser)} (hf:p58 x0=some r):ZCalls F 58 [a0_0] h fun v h'=>v=.tuple []∧St h M [own (oPtr oparser) [a0_0] r] h':=by
 refine w58 ?_
 unfold W58
 unfold p58 at hf
 obtain ⟨u104,hu104,hf⟩:=obind hf
 refine ⟨_,Fz.refl _,?_⟩
 obtain ⟨fpu104,S1u104,backu104⟩:=St.lend [_] S
 refine (r55 (r0:=x0) (S:=S1u104) hu104).mono fun v102 h103 T=>?_
 obtain ⟨rfl,T⟩:=T
 have S:St _ _ [own (oPtr oparser) [a0_0] u104.2] _:=backu104 _ _ T
 refine ⟨u104.1,rfl,?_⟩
 intro h105
 have S:St _ _ [rowC h103.n [(.str ([]:List UInt8)),(.int .i64 0),(.int .i64 0),.nilSlice,.nilSlice,.nilSlice] 0,_] _:=S.pushRow [(.str ([]:List UInt8)),(.int .i64 0),(.int .i64 0),.nilSlice,.nilSlice,.nilSlice]
 obtain ⟨h107,e108,S⟩:=S.store (off:=0) (n:=6) (x:=(.agg [(.str u104.1),(.int .i64 0),(.int .i64 0),.nilSlice,.nilSlice,.nilSlice])) (cs':=[(.str u104.1),(.int .i64 0),(.int .i64 0),.nilSlice,.nilSlice,.nilSlice]) (nl rfl) rfl rfl rfl
 refine ⟨h107,e108,?_⟩
 obtain ⟨u111,hu111,hf⟩:=obind hf
 refine ⟨_,Fz.refl _,?_⟩
 have S:St _ _ [_,_] _:=S.sel [1,0] rfl
 obtain ⟨fpu111,S1u111,backu111⟩:=St.lend [_] S
 refine (r56 (r0:=u104.2) (s1:=([64]:List UInt8)) (S:=S1u111) hu111).mono fun v109 h110 T=>?_
 obtain ⟨rfl,T⟩:=T
 have S:St _ _ [own (oPtr oparser) [a0_0] u111.2,_] _:=backu111 _ _ T
 refine ⟨u111.1,rfl,?_⟩
 intro jjj6
 have hjj6:∀  (h117:Heap) (l120:Option Tparser) (c121:Int),p58_j6 u104 l120 c121=some r→St h M [own (oPtr oparser) [a0_0] l120,rowC h103.n [(.str u104.1),(.int .i64 c121),(.int .i64 0),.nilSlice,.nilSlice,.nilSlice] 0] h117→jjj6 h117:=by
  rintro h117 l120 c121 hf S
  unfold p58_j6 at hf
  unfold jjj6
  obtain ⟨u124,hu124,hf⟩:=obind hf
  refine ⟨_,Fz.refl _,?_⟩
  obtain ⟨fpu124,S1u124,backu124⟩:=St.lend [_] S
  refine (r56 (r0:=l120) (s1:=([33]:List UInt8)) (S:=S1u124) hu124).mono fun v122 h123 T=>?_
  obtain ⟨rfl,T⟩:=T
  have S:St _ _ [own (oPtr oparser) [a0_0] u124.2,_] _:=backu124 _ _ T
  refine ⟨u124.1,rfl,?_⟩
  intro jjj5
  have hjj5:∀  (h130:Heap) (l133:Option Tparser) (c134:Int),p58_j5 u104 c121 l133 c134=some r→St h M [own (oPtr oparser) [a0_0] l133,rowC h103.n [(.str u104.1),(.int .i64 c121),(.int .i64 c134),.nilSlice,.nilSlice,.nilSlice] 0] h130→jjj5 h130:=by
   rintro h130 l133 c134 hf S
   unfold p58_j5 at hf
   unfold jjj5
   obtain ⟨u137,hu137,hf⟩:=obind hf
   refine ⟨_,Fz.refl _,?_⟩
   obtain ⟨fpu137,S1u137,backu137⟩:=St.lend [_] S
   refine (r59 (r0:=l133) (s1:=([58]:List UInt8)) (S:=S1u137) hu137).mono fun v135 h136 T=>?_
   obtain ⟨rfl,T⟩:=T
   have S:St _ _ [own (oPtr oparser) [a0_0] u137,_] _:=backu137 _ _ T
   obtain ⟨res269,hL,hf⟩:=obind hf
   obtain ⟨n270,hL⟩:=loopC_iff.1 hL
   have S:St _ _ [own (oSl (fz rArc)) [.nilSlice] [],_,_] _:=S.addE (oSl_nil _ _)
   have S:St _ _ [own (oSl (fz rArc)) [.nilSlice] [],_,_,_] _:=S.addE (oSl_nil _ _)
   have S:St _ _ [_,_,_,_] _:=S.sel [2,3,1,0] rfl
   refine loopm58_0 (X0:=fun (y260:AV) (y261:AV) (y262:Bool) (h263:Heap)=>∃ (l264:Option Tparser),∃ (c265:AV),∃ (c266:AV),∃ (c267:List TArc),∃ (c268:List TArc),a0_0=y260∧AV.ptr h103.n 0 0=y261∧St h M [own (oPtr oparser) [a0_0] l264,rowC h103.n [(.str u104.1),(.int .i64 c121),(.int .i64 c134),c265,c266,.nilSlice] 0,own (oSl (fz rArc)) [c265] c267,own (oSl (fz rArc)) [c266] c268] h263∧(l264,c267,c268)=res269) ?_ (loop58_0 (I:=fun (m272:Nat) (y138:AV) (y139:AV) (y140:Bool) (h196:Heap)=>∃ (l197:Option Tparser),∃ (c198:AV),∃ (c199:AV),∃ (c200:List TArc),∃ (c201:List TArc),a0_0=y138∧AV.ptr h103.n 0 0=y139∧St h M [own (oPtr oparser) [a0_0] l197,rowC h103.n [(.str u104.1),(.int .i64 c121),(.int .i64 c134),c198,c199,.nilSlice] 0,own (oSl (fz rArc)) [c198] c200,own (oSl (fz rArc)) [c199] c201] h196∧iter p58_l0 m272 (y140,l197,c200,c201)=some res269) ?_ (m:=n270) ?_)
   ·rintro y260 y261 y262 h263 ⟨l264,c265,c266,c267,c268,rfl,rfl,S,rfl⟩
    try dsimp only at hf
    obtain ⟨res471,hL,hf⟩:=obind hf
    obtain ⟨n472,hL⟩:=loopC_iff.1 hL
    have S:St _ _ [own (oSl (fz rArc)) [.nilSlice] [],_,_,_,_] _:=S.addE (oSl_nil _ _)
    have S:St _ _ [_,_,_,_,_] _:=S.sel [1,2,3,4,0] rfl
    refine loopm58_1 (X2:=fun (y464:AV) (y465:AV) (y466:Bool) (h467:Heap)=>∃ (l468:Option Tparser),∃ (c469:AV),∃ (c470:List TArc),a0_0=y464∧AV.ptr h103.n 0 0=y465∧St h M [own (oPtr oparser) [a0_0] l468,rowC h103.n [(.str u104.1),(.int .i64 c121),(.int .i64 c134),c265,c266,c469] 0,own (oSl (fz rArc)) [c265] c267,own (oSl (fz rArc)) [c266] c268,own (oSl (fz rArc)) [c469] c470] h467∧(l468,c470)=res471) ?_ (loop58_1 (I:=fun (m474:Nat) (y327:AV) (y328:AV) (y329:Bool) (h394:Heap)=>∃ (l395:Option Tparser),∃ (c396:AV),∃ (c397:List TArc),a0_0=y327∧AV.ptr h103.n 0 0=y328∧St h M [own (oPtr oparser) [a0_0] l395,rowC h103.n [(.str u104.1),(.int .i64 c121),(.int .i64 c134),c265,c266,c396] 0,own (oSl (fz rArc)) [c265] c267,own (oSl (fz rArc)) [c266] c268,own (oSl (fz rArc)) [c396] c397] h394∧iter p58_l1 m474 (y329,l395,c397)=some res471) ?_ (m:=n472) ?_)
    ·rintro y464 y465 y466 h467 ⟨l468,c469,c470,rfl,rfl,S,rfl⟩
     try dsimp only at hf
     obtain ⟨b539,hb539,hf⟩:=obind hf
     obtain ⟨o540,v541,b539c_0,b539c_1,b539c_6,b539c_7,b539c_8,b539c_9,eP,S2⟩:=oparser_deref hb539 S
     subst eP
     have S:=S2
     refine oP_intro _ rfl ?_
     refine ifP_iff.2 ⟨rfl,?_⟩
     refine ifP_iff.2 ⟨rfl,?_⟩
     refine ⟨b539c_7,S.rd1 m6 rfl,?_⟩
     refine ⟨(.str u104.1),(.int .i64 c121),(.int .i64 c134),c265,c266,c469,S.rdN m7 (nl rfl) rfl,?_⟩
     intro h549
     have S:St _ _ [rowC h467.n [(.str u104.1),(.int .i64 c121),(.int .i64 c134),c265,c266,c469] 0,_,_,_,_,_,_,_,_,_,_,_] _:=S.pushRow [(.str u104.1),(.int .i64 c121),(.int .i64 c134),c265,c266,c469]
     obtain ⟨b553,hb553,hf⟩:=obind hf
     have S:St _ _ [_,_,_,_,_,_,_,_,_,_,_,_] _:=S.sel [9,10,11,0,1,2,3,4,5,6,7,8] rfl
     have S:St _ _ [own oTrans [(.str u104.1),(.int .i64 c121),(.int .i64 c134),c265,c266,c469] (TTrans.mk u104.1 c121 c134 c267 c268 c470),_,_,_,_,_,_,_,_,_] _:=oTrans_close (x:=(TTrans.mk u104.1 c121 c134 c267 c268 c470)) S
     have S:St _ _ [_,_,_,_,_,_,_,_,_,_] _:=S.sel [5,0,1,2,3,4,6,7,8,9] rfl
     have mb553:=app_some hb553
     obtain ⟨v552,h551,e554,S⟩:=St.app1R (r:=oTrans) (b:=104) S mb553.1
     have S:St _ _ [own (oSl oTrans) [v552] b553,_,_,_,_,_,_,_] _:=S.cast1 (by rw [← mb553.2]<;>rfl)
     refine ⟨v552,h551,e554,?_⟩
     refine oP_intro (.ptr o540 v541 0) rfl ?_
     refine ifP_iff.2 ⟨rfl,?_⟩
     refine ifP_iff.2 ⟨rfl,?_⟩
     have S:St _ _ [_,_,_,_,_,_,_,_] _:=S.sel [6,0,1,2,3,4,5,7] rfl
     obtain ⟨h556,e557,S⟩:=S.storeS (off:=7) (x:=v552) (cs':=[b539c_0,b539c_1,(.int .i64 b539.f.Err),(.int .i64 b539.f.At),(.int .i64 b539.f.Line),(.int .i64 b539.f.Col),b539c_6,v552,b539c_8,b539c_9]) (nl rfl) ((S.sl (r:=oTrans) m1)).is rfl
     refine ⟨h556,e557,?_⟩
     have S:St _ _ [own (fz (rSl (rI .u8))) [b539c_0] b539.p,_,_,_,_,_,_,_,_] _:=S.add (rSl_mk (S.slz (r:=(rI .u8)) m2))
     have S:St _ _ [_,_,_,_,_,_,_,_,_] _:=S.sel [0,4,5,2,6,7,1,3,8] rfl
     have S:St _ _ [own (oPtr oparser) [(.ptr o540 v541 0)] (some (Tparser.mk b539.p b539.l b539.f (TNet.mk b539.n.Places b553) b539.places b539.told)),_,_] _:=oparser_shut (x:=(Tparser.mk b539.p b539.l b539.f (TNet.mk b539.n.Places b553) b539.places b539.told)) S
     obtain rfl:=oi hf
     exact ⟨rfl,S.sel [0] rfl⟩
    ·rintro m4740 y327 y328 y329 h394 ⟨l395,c396,c397,rfl,rfl,S,hit⟩
     obtain ⟨m474,q473,rfl,hf,hk⟩:=iter_some hit
     clear hit
     unfold B58_1
     unfold p58_l1 at hf
     try dsimp only at hf
     obtain ⟨b475,hb475,hf⟩:=obind hf
     obtain ⟨o476,v477,b475c_0,b475c_1,b475c_6,b475c_7,b475c_8,b475c_9,eP,S2⟩:=oparser_deref hb475 S
     subst eP
     have S:=S2
     refine oP_intro _ rfl ?_
     refine ifP_iff.2 ⟨rfl,?_⟩
     refine ifP_iff.2 ⟨rfl,?_⟩
     refine ⟨b475.f.Err,S.rd1 m6 rfl,?_⟩
     intro jjj3
     have hjj3:∀ (b498:Bool) (h499:Heap),p58_j3 y329 c397 b475 b498=some q473→h394=h499→St h M [rowC o476 [b475c_0,b475c_1,(.int .i64 b475.f.Err),(.int .i64 b475.f.At),(.int .i64 b475.f.Line),(.int .i64 b475.f.Col),b475c_6,b475c_7,b475c_8,b475c_9] v477,rowC h103.n [(.str u104.1),(.int .i64 c121),(.int .i64 c134),c265,c266,c396] 0,own (fz (rSl (rI .u8))) [b475c_0] b475.p,own (oSl (fz rTokenlex)) [b475c_1] b475.l,own (oSl (fz rPlace)) [b475c_6] b475.n.Places,own (oSl oTrans) [b475c_7] b475.n.Trans,own (oMap keS (AV.int .i64)) [b475c_8] b475.places,own (oMap keS AV.bool) [b475c_9] b475.told,own (oSl (fz rArc)) [c265] c267,own (oSl (fz rArc)) [c266] c268,own (oSl (fz rArc)) [c396] c397] h394→jjj3 b498 h499:=by
      rintro b498 h499 hf rfl S
      unfold p58_j3 at hf
      unfold jjj3
      refine bP_intro (fun hc=>?_) (fun hc=>?_)
      ·rw [ifT hc] at hf
       intro jjj2
       have hjj2:∀  (h507:Heap) (l510:Option Tparser),p58_j2 c397 l510=some q473→St h M [own (oPtr oparser) [(.ptr o476 v477 0)] l510,rowC h103.n [(.str u104.1),(.int .i64 c121),(.int .i64 c134),c265,c266,c396] 0,own (oSl (fz rArc)) [c265] c267,own (oSl (fz rArc)) [c266] c268,own (oSl (fz rArc)) [c396] c397] h507→jjj2 h507:=by
        rintro h507 l510 hf S
        unfold p58_j2 at hf
        unfold jjj2
        refine ifP_iff.2 ⟨rfl,?_⟩
        refine ⟨c396,S.rd1 m1 rfl,?_⟩
        obtain ⟨u513,hu513,hf⟩:=obind hf
        refine ⟨_,Fz.refl _,?_⟩
        have S:St _ _ [_,_,_,_,_] _:=S.sel [0,4,1,2,3] rfl
        obtain ⟨fpu513,S1u513,backu513⟩:=St.lend [_,_] S
        refine (r76 (x0:=l510) (x1:=c397) (S:=S1u513) hu513).mono fun v511 h512 T=>?_
        have S:St _ _ [own (oSl (fz rArc)) [v511] u513.1,own (oPtr oparser) [(.ptr o476 v477 0)] u513.2,_,_,_] _:=backu513 _ _ T
        refine ifP_iff.2 ⟨rfl,?_⟩
        have S:St _ _ [_,_,_,_,_] _:=S.sel [2,0,1,3,4] rfl
        obtain ⟨h515,e516,S⟩:=S.storeS (off:=5) (x:=v511) (cs':=[(.str u104.1),(.int .i64 c121),(.int .i64 c134),c265,c266,v511]) (nl rfl) ((S.sl (r:=(fz rArc)) m1)).is rfl
        refine ⟨h515,e516,?_⟩
        have S:St _ _ [_,_,_,_,_] _:=S.sel [2,0,3,4,1] rfl
        obtain rfl:=oi hf
        exact ⟨m474,Nat.lt_succ_self _,u513.2,v511,u513.1,rfl,rfl,S,hk⟩
       refine bP_intro (fun hc=>?_) (fun hc=>?_)
       ·rw [ifT hc] at hf
        obtain ⟨u521,hu521,hf⟩:=obind hf
        have S:St _ _ [own (fz (rSl (rI .u8))) [b475c_0] b475.p,_,_,_,_,_,_,_,_,_,_,_] _:=S.add (rSl_mk (S.slz (r:=(rI .u8)) m2))
        have S:St _ _ [_,_,_,_,_,_,_,_,_,_,_,_] _:=S.sel [0,4,5,6,7,8,1,2,3,9,10,11] rfl
        have S:St _ _ [own (oPtr oparser) [(.ptr o476 v477 0)] (some b475),_,_,_,_,_] _:=oparser_shut (x:=b475) S
        refine ⟨_,Fz.refl _,?_⟩
        obtain ⟨fpu521,S1u521,backu521⟩:=St.lend [_] S
        refine (r59 (r0:=(some b475)) (s1:=([44]:List UInt8)) (S:=S1u521) hu521).mono fun v519 h520 T=>?_
        obtain ⟨rfl,T⟩:=T
        have S:St _ _ [own (oPtr oparser) [(.ptr o476 v477 0)] u521,_,_,_,_,_] _:=backu521 _ _ T
        have S:St _ _ [_,_,_,_,_] _:=S.sel [0,1,3,4,5] rfl
        exact hjj2  _ u521 hf  S
       ·rw [ifF hc] at hf
        have S:St _ _ [own (fz (rSl (rI .u8))) [b475c_0] b475.p,_,_,_,_,_,_,_,_,_,_,_] _:=S.add (rSl_mk (S.slz (r:=(rI .u8)) m2))
        have S:St _ _ [_,_,_,_,_,_,_,_,_,_,_,_] _:=S.sel [0,4,5,6,7,8,1,2,3,9,10,11] rfl
        have S:St _ _ [own (oPtr oparser) [(.ptr o476 v477 0)] (some b475),_,_,_,_,_] _:=oparser_shut (x:=b475) S
        have S:St _ _ [_,_,_,_,_] _:=S.sel [0,1,3,4,5] rfl
        exact hjj2  _ (some b475) hf  S
      ·rw [ifF hc] at hf
       have S:St _ _ [own (fz (rSl (rI .u8))) [b475c_0] b475.p,_,_,_,_,_,_,_,_,_,_,_] _:=S.add (rSl_mk (S.slz (r:=(rI .u8)) m2))
       have S:St _ _ [_,_,_,_,_,_,_,_,_,_,_,_] _:=S.sel [0,4,5,6,7,8,1,2,3,9,10,11] rfl
       have S:St _ _ [own (oPtr oparser) [(.ptr o476 v477 0)] (some b475),_,_,_,_,_] _:=oparser_shut (x:=b475) S
       have S:St _ _ [_,_,_,_,_] _:=S.sel [0,1,3,4,5] rfl
       obtain rfl:=oi hf
       obtain rfl:=hk
       exact ⟨(some b475),c396,c397,rfl,rfl,S,rfl⟩
     refine bP_intro (fun hc=>?_) (fun hc=>?_)
     ·rw [ifD hc] at hf
      refine oP_intro (.ptr o476 v477 0) rfl ?_
      refine ifP_iff.2 ⟨rfl,?_⟩
      refine ⟨b475c_1,S.rd1 m6 rfl,?_⟩
      obtain ⟨e525,he525,hf⟩:=obind hf
      refine ix_go (S.sl (r:=(fz rTokenlex)) m1) (Hp.le_refl _) he525 fun pe525=>?_
      refine ifP_iff.2 ⟨pe525,?_⟩
      obtain ⟨_,cr526,Rr526,Nr526,Or526,Zr526⟩:=St.idxO (r:=rTokenlex) S m1 he525
      obtain rfl:=rTokenlex_open Rr526
      refine ⟨e525.Kind,Or526 0 _ rfl,?_⟩
      intro jjj4
      have hjj4:∀ (b529:Bool) (h530:Heap),p58_j4 y329 c397 b475 b529=some q473→h394=h530→St h M [rowC o476 [b475c_0,b475c_1,(.int .i64 b475.f.Err),(.int .i64 b475.f.At),(.int .i64 b475.f.Line),(.int .i64 b475.f.Col),b475c_6,b475c_7,b475c_8,b475c_9] v477,rowC h103.n [(.str u104.1),(.int .i64 c121),(.int .i64 c134),c265,c266,c396] 0,own (fz (rSl (rI .u8))) [b475c_0] b475.p,own (oSl (fz rTokenlex)) [b475c_1] b475.l,own (oSl (fz rPlace)) [b475c_6] b475.n.Places,own (oSl oTrans) [b475c_7] b475.n.Trans,own (oMap keS (AV.int .i64)) [b475c_8] b475.places,own (oMap keS AV.bool) [b475c_9] b475.told,own (oSl (fz rArc)) [c265] c267,own (oSl (fz rArc)) [c266] c268,own (oSl (fz rArc)) [c396] c397] h394→jjj4 b529 h530:=by
       rintro b529 h530 hf rfl S
       unfold p58_j4 at hf
       unfold jjj4
       exact hjj3 _ _  hf rfl S
      refine bP_intro (fun hc=>?_) (fun hc=>?_)
      ·rw [ifT hc] at hf
       have S:St _ _ [_,_,_,_,_,_,_,_,_,_,_] _:=S.sel [6,7,0,1,2,3,4,5,8,9,10] rfl
       exact hjj4 _ _  hf rfl S
      ·rw [ifF hc] at hf
       refine oP_intro (.ptr o476 v477 0) rfl ?_
       refine ifP_iff.2 ⟨rfl,?_⟩
       refine ⟨b475c_1,S.rd1 m6 rfl,?_⟩
       obtain ⟨e536,he536,hf⟩:=obind hf
       refine ix_go (S.sl (r:=(fz rTokenlex)) m1) (Hp.le_refl _) he536 fun pe536=>?_
       refine ifP_iff.2 ⟨pe536,?_⟩
       obtain ⟨_,cr537,Rr537,Nr537,Or537,Zr537⟩:=St.idxO (r:=rTokenlex) S m1 he536
       obtain rfl:=rTokenlex_open Rr537
       refine ⟨e536.Text,Or537 1 _ rfl,?_⟩
       have S:St _ _ [_,_,_,_,_,_,_,_,_,_,_] _:=S.sel [6,7,0,1,2,3,4,5,8,9,10] rfl
       exact hjj4 _ _  hf rfl S
     ·rw [ifE hc] at hf
      have S:St _ _ [_,_,_,_,_,_,_,_,_,_,_] _:=S.sel [6,7,0,1,2,3,4,5,8,9,10] rfl
      exact hjj3 _ _  hf rfl S
    ·exact ⟨l264,.nilSlice,[],rfl,rfl,S,hL⟩
   ·rintro m2720 y138 y139 y140 h196 ⟨l197,c198,c199,c200,c201,rfl,rfl,S,hit⟩
    obtain ⟨m272,q271,rfl,hf,hk⟩:=iter_some hit
    clear hit
    unfold B58_0
    unfold p58_l0 at hf
    try dsimp only at hf
    obtain ⟨b273,hb273,hf⟩:=obind hf
    obtain ⟨o274,v275,b273c_0,b273c_1,b273c_6,b273c_7,b273c_8,b273c_9,eP,S2⟩:=oparser_deref hb273 S
    subst eP
    have S:=S2
    refine oP_intro _ rfl ?_
    refine ifP_iff.2 ⟨rfl,?_⟩
    refine ifP_iff.2 ⟨rfl,?_⟩
    refine ⟨b273.f.Err,S.rd1 m6 rfl,?_⟩
    intro jjj1
    have hjj1:∀ (b287:Bool) (h288:Heap) (l292:Option Tparser),p58_j1 y140 c200 c201 b287 l292=some q271→St h M [own (oPtr oparser) [(.ptr o274 v275 0)] l292,rowC h103.n [(.str u104.1),(.int .i64 c121),(.int .i64 c134),c198,c199,.nilSlice] 0,own (oSl (fz rArc)) [c198] c200,own (oSl (fz rArc)) [c199] c201] h288→jjj1 b287 h288:=by
     rintro b287 h288 l292 hf S
     unfold p58_j1 at hf
     unfold jjj1
     refine bP_intro (fun hc=>?_) (fun hc=>?_)
     ·rw [ifT hc] at hf
      intro jjj0
      have hjj0:∀  (h296:Heap) (l299:Option Tparser),p58_j0 c200 c201 l299=some q271→St h M [own (oPtr oparser) [(.ptr o274 v275 0)] l299,rowC h103.n [(.str u104.1),(.int .i64 c121),(.int .i64 c134),c198,c199,.nilSlice] 0,own (oSl (fz rArc)) [c198] c200,own (oSl (fz rArc)) [c199] c201] h296→jjj0 h296:=by
       rintro h296 l299 hf S
       unfold p58_j0 at hf
       unfold jjj0
       obtain ⟨u302,hu302,hf⟩:=obind hf
       refine ⟨_,Fz.refl _,?_⟩
       obtain ⟨fpu302,S1u302,backu302⟩:=St.lend [_] S
       refine (r56 (r0:=l299) (s1:=([126]:List UInt8)) (S:=S1u302) hu302).mono fun v300 h301 T=>?_
       obtain ⟨rfl,T⟩:=T
       have S:St _ _ [own (oPtr oparser) [(.ptr o274 v275 0)] u302.2,_,_,_] _:=backu302 _ _ T
       refine ⟨u302.1,rfl,?_⟩
       refine bP_intro (fun hc=>?_) (fun hc=>?_)
       ·rw [ifT hc] at hf
        refine ifP_iff.2 ⟨rfl,?_⟩
        refine ⟨c199,S.rd1 m1 rfl,?_⟩
        obtain ⟨u305,hu305,hf⟩:=obind hf
        refine ⟨_,Fz.refl _,?_⟩
        have S:St _ _ [_,_,_,_] _:=S.sel [0,3,1,2] rfl
        obtain ⟨fpu305,S1u305,backu305⟩:=St.lend [_,_] S
        refine (r76 (x0:=u302.2) (x1:=c201) (S:=S1u305) hu305).mono fun v303 h304 T=>?_
        have S:St _ _ [own (oSl (fz rArc)) [v303] u305.1,own (oPtr oparser) [(.ptr o274 v275 0)] u305.2,_,_] _:=backu305 _ _ T
        refine ifP_iff.2 ⟨rfl,?_⟩
        have S:St _ _ [_,_,_,_] _:=S.sel [2,0,1,3] rfl
        obtain ⟨h307,e308,S⟩:=S.storeS (off:=4) (x:=v303) (cs':=[(.str u104.1),(.int .i64 c121),(.int .i64 c134),c198,v303,.nilSlice]) (nl rfl) ((S.sl (r:=(fz rArc)) m1)).is rfl
        refine ⟨h307,e308,?_⟩
        have S:St _ _ [_,_,_,_] _:=S.sel [2,0,3,1] rfl
        obtain rfl:=oi hf
        exact ⟨m272,Nat.lt_succ_self _,u305.2,c198,v303,c200,u305.1,rfl,rfl,S,hk⟩
       ·rw [ifF hc] at hf
        refine ifP_iff.2 ⟨rfl,?_⟩
        refine ⟨c198,S.rd1 m1 rfl,?_⟩
        obtain ⟨u311,hu311,hf⟩:=obind hf
        refine ⟨_,Fz.refl _,?_⟩
        have S:St _ _ [_,_,_,_] _:=S.sel [0,2,1,3] rfl
        obtain ⟨fpu311,S1u311,backu311⟩:=St.lend [_,_] S
        refine (r76 (x0:=u302.2) (x1:=c200) (S:=S1u311) hu311).mono fun v309 h310 T=>?_
        have S:St _ _ [own (oSl (fz rArc)) [v309] u311.1,own (oPtr oparser) [(.ptr o274 v275 0)] u311.2,_,_] _:=backu311 _ _ T
        refine ifP_iff.2 ⟨rfl,?_⟩
        have S:St _ _ [_,_,_,_] _:=S.sel [2,0,1,3] rfl
        obtain ⟨h313,e314,S⟩:=S.storeS (off:=3) (x:=v309) (cs':=[(.str u104.1),(.int .i64 c121),(.int .i64 c134),v309,c199,.nilSlice]) (nl rfl) ((S.sl (r:=(fz rArc)) m1)).is rfl
        refine ⟨h313,e314,?_⟩
        have S:St _ _ [_,_,_,_] _:=S.sel [2,0,1,3] rfl
        obtain rfl:=oi hf
        exact ⟨m272,Nat.lt_succ_self _,u311.2,v309,c199,u311.1,c201,rfl,rfl,S,hk⟩
      refine bP_intro (fun hc=>?_) (fun hc=>?_)
      ·rw [ifT hc] at hf
       obtain ⟨u318,hu318,hf⟩:=obind hf
       refine ⟨_,Fz.refl _,?_⟩
       obtain ⟨fpu318,S1u318,backu318⟩:=St.lend [_] S
       refine (r59 (r0:=l292) (s1:=([44]:List UInt8)) (S:=S1u318) hu318).mono fun v316 h317 T=>?_
       obtain ⟨rfl,T⟩:=T
       have S:St _ _ [own (oPtr oparser) [(.ptr o274 v275 0)] u318,_,_,_] _:=backu318 _ _ T
       exact hjj0  _ u318 hf  S
      ·rw [ifF hc] at hf
       exact hjj0  _ l292 hf  S
     ·rw [ifF hc] at hf
      obtain rfl:=oi hf
      obtain rfl:=hk
      exact ⟨l292,c198,c199,c200,c201,rfl,rfl,S,rfl⟩
    refine bP_intro (fun hc=>?_) (fun hc=>?_)
    ·rw [ifD hc] at hf
     obtain ⟨u323,hu323,hf⟩:=obind hf
     have S:St _ _ [own (fz (rSl (rI .u8))) [b273c_0] b273.p,_,_,_,_,_,_,_,_,_,_] _:=S.add (rSl_mk (S.slz (r:=(rI .u8)) m0))
     have S:St _ _ [_,_,_,_,_,_,_,_,_,_,_] _:=S.sel [0,2,3,4,5,6,7,1,8,9,10] rfl
     have S:St _ _ [own (oPtr oparser) [(.ptr o274 v275 0)] (some b273),_,_,_,_] _:=oparser_shut (x:=b273) S
     refine ⟨_,Fz.refl _,?_⟩
     obtain ⟨fpu323,S1u323,backu323⟩:=St.lend [_] S
     refine (r56 (r0:=(some b273)) (s1:=([45,62]:List UInt8)) (S:=S1u323) hu323).mono fun v321 h322 T=>?_
     obtain ⟨rfl,T⟩:=T
     have S:St _ _ [own (oPtr oparser) [(.ptr o274 v275 0)] u323.2,_,_,_,_] _:=backu323 _ _ T
     refine ⟨u323.1,rfl,?_⟩
     have S:St _ _ [_,_,_,_] _:=S.sel [0,2,3,4] rfl
     exact hjj1 _ _ u323.2 hf  S
    ·rw [ifE hc] at hf
     have S:St _ _ [own (fz (rSl (rI .u8))) [b273c_0] b273.p,_,_,_,_,_,_,_,_,_,_] _:=S.add (rSl_mk (S.slz (r:=(rI .u8)) m0))
     have S:St _ _ [_,_,_,_,_,_,_,_,_,_,_] _:=S.sel [0,2,3,4,5,6,7,1,8,9,10] rfl
     have S:St _ _ [own (oPtr oparser) [(.ptr o274 v275 0)] (some b273),_,_,_,_] _:=oparser_shut (x:=b273) S
     have S:St _ _ [_,_,_,_] _:=S.sel [0,2,3,4] rfl
     exact hjj1 _ _ (some b273) hf  S
   ·exact ⟨u137,.nilSlice,.nilSlice,[],[],rfl,rfl,S,hL⟩
  refine bP_intro (fun hc=>?_) (fun hc=>?_)
  ·rw [ifT hc] at hf
   obtain ⟨u562,hu562,hf⟩:=obind hf
   refine ⟨_,Fz.refl _,?_⟩
   obtain ⟨fpu562,S1u562,backu562⟩:=St.lend [_] S
   refine (r57 (r0:=u124.2) (least1:=(0:Int)) (S:=S1u562) hu562).mono fun v560 h561 T=>?_
   obtain ⟨rfl,T⟩:=T
   have S:St _ _ [own (oPtr oparser) [a0_0] u562.2,_] _:=backu562 _ _ T
   refine ⟨u562.1,rfl,?_⟩
   refine ifP_iff.2 ⟨rfl,?_⟩
   have S:St _ _ [_,_] _:=S.sel [1,0] rfl
   obtain ⟨h563,e564,S⟩:=S.store (off:=2) (n:=1) (x:=(.int .i64 u562.1)) (cs':=[(.str u104.1),(.int .i64 c121),(.int .i64 u562.1),.nilSlice,.nilSlice,.nilSlice]) (nl rfl) rfl rfl rfl
   refine ⟨h563,e564,?_⟩
   have S:St _ _ [_,_] _:=S.sel [1,0] rfl
   exact hjj5  _ u562.2 u562.1 hf  S
  ·rw [ifF hc] at hf
   exact hjj5  _ u124.2 (0:Int) hf  S
 refine bP_intro (fun hc=>?_) (fun hc=>?_)
 ·rw [ifT hc] at hf
  obtain ⟨u568,hu568,hf⟩:=obind hf
  refine ⟨_,Fz.refl _,?_⟩
  obtain ⟨fpu568,S1u568,backu568⟩:=St.lend [_] S
  refine (r57 (r0:=u111.2) (least1:=(0:Int)) (S:=S1u568) hu568).mono fun v566 h567 T=>?_
  obtain ⟨rfl,T⟩:=T
  have S:St _ _ [own (oPtr oparser) [a0_0] u568.2,_] _:=backu568 _ _ T
  refine ⟨u568.1,rfl,?_⟩
  have S:St _ _ [_,_] _:=S.sel [1,0] rfl
  obtain ⟨h569,e570,S⟩:=S.store (off:=1) (n:=1) (x:=(.int .i64 u568.1)) (cs':=[(.str u104.1),(.int .i64 u568.1),(.int .i64 0),.nilSlice,.nilSlice,.nilSlice]) (nl rfl) rfl rfl rfl
  refine ⟨h569,e570,?_⟩
  have S:St _ _ [_,_] _:=S.sel [1,0] rfl
  exact hjj6  _ u568.2 u568.1 hf  S
 ·rw [ifF hc] at hf
  exact hjj6  _ u111.2 (0:Int) hf  S
/-! 40: (*marblerun/parse.parser).item -/
noncomputable def p40_j0 (l211:Option Tparser):Option (Option Tparser):=(p59 l211 ([59]:List UInt8)).bind fun u214=>some u214
noncomputable def p40_j1 (u225:(List UInt8)×(Option Tparser)) (l241:Option Tparser) (c242:Int):Option (Option Tparser):=l241.bind fun b243=>(app 24 b243.n.Places [(TPlace.mk u225.1 c242)]).bind fun b257=>p40_j0 (some (Tparser.mk b243.p b243.l b243.f (TNet.mk b257 b243.n.Trans) b243.places b243.told))
noncomputable def p40_j2 (l222:Option Tparser):Option (Option Tparser):=(p55 l222).bind fun u225=>(p56 u225.2 ([61]:List UInt8)).bind fun u232=>if u232.1=true then ((p57 u232.2 (0:Int)).bind fun u266=>p40_j1 u225 u266.2 u266.1) else (p40_j1 u225 u232.2 (0:Int))
noncomputable def p40_j3 (l284:Option Tparser):Option (Option Tparser):=(p58 l284).bind fun u287=>p40_j0 u287
noncomputable def p40 (x0:Option Tparser):Option (Option Tparser):=(p53 x0).bind fun u104=>u104.2.bind fun b109=>(idx b109.l (0:Int)).bind fun e119=>(p39 u104.1 ([112,108,97,99,101]:List UInt8)).bind fun y127=>if y127=true then (if (b109.n.Places.length:Int)=(32:Int) then ((p54 (some b109) (5:Int) e119).bind fun u273=>p40_j2 u273) else (p40_j2 (some b109))) else ((p39 u104.1 ([116,114,97,110,115]:List UInt8)).bind fun y277=>if y277=true then (if (b109.n.Trans.length:Int)=(32:Int) then ((p54 (some b109) (5:Int) e119).bind fun u292=>p40_j3 u292) else (p40_j3 (some b109))) else ((p54 (some b109) (6:Int) u104.1).bind fun u297=>p40_j0 u297))
theorem r40 {h:Heap} {a0_0:AV} {M:Nat→Prop} {x0:Option Tparser} (S:St h M [own (oPtr oparser) [a0_0] x0] h) {r:(Option Tparser)} (hf:p40 x0=some r):ZCalls F 40 [a0_0] h fun v h'=>v=.tuple []∧St h M [own (oPtr oparser) [a0_0] r] h':=by
 refine w40 ?_
 unfold W40
 unfold p40 at hf
 obtain ⟨u104,hu104,hf⟩:=obind hf
 refine ⟨_,Fz.refl _,?_⟩
 obtain ⟨fpu104,S1u104,backu104⟩:=St.lend [_] S
 refine (r53 (r0:=x0) (S:=S1u104) hu104).mono fun v102 h103 T=>?_
 obtain ⟨rfl,T⟩:=T
 have S:St _ _ [own (oPtr oparser) [a0_0] u104.2] _:=backu104 _ _ T
 intro h105
 have S:St _ _ [rowC h103.n [(.int .u8 0),(.str ([]:List UInt8)),(.int .i64 0),(.int .i64 0)] 0,_] _:=S.pushRow [(.int .u8 0),(.str ([]:List UInt8)),(.int .i64 0),(.int .i64 0)]
 obtain ⟨h107,e108,S⟩:=S.store (off:=0) (n:=4) (x:=(.agg [(.int .u8 u104.1.Kind),(.str u104.1.Text),(.int .i64 u104.1.N),(.int .i64 u104.1.At)])) (cs':=[(.int .u8 u104.1.Kind),(.str u104.1.Text),(.int .i64 u104.1.N),(.int .i64 u104.1.At)]) (nl rfl) rfl rfl rfl
 refine ⟨h107,e108,?_⟩
 obtain ⟨b109,hb109,hf⟩:=obind hf
 have S:St _ _ [_,_] _:=S.sel [1,0] rfl
 obtain ⟨o110,v111,b109c_0,b109c_1,b109c_6,b109c_7,b109c_8,b109c_9,eP,S2⟩:=oparser_deref hb109 S
 subst eP
 have S:=S2
 refine oP_intro _ rfl ?_
 refine ifP_iff.2 ⟨rfl,?_⟩
 refine ⟨b109c_1,S.rd1 m6 rfl,?_⟩
 obtain ⟨e119,he119,hf⟩:=obind hf
 refine ix_go (S.sl (r:=(fz rTokenlex)) m1) (Hp.le_refl _) he119 fun pe119=>?_
 obtain ⟨_,cr120,Rr120,Nr120,Or120,Zr120⟩:=St.idxO (r:=rTokenlex) S m1 he119
 obtain rfl:=rTokenlex_open Rr120
 refine ⟨(.int .u8 e119.Kind),(.str e119.Text),(.int .i64 e119.N),(.int .i64 e119.At),Nr120,?_⟩
 intro h121
 have S:St _ _ [rowC h107.n [(.int .u8 0),(.str ([]:List UInt8)),(.int .i64 0),(.int .i64 0)] 0,_,_,_,_,_,_,_,_] _:=S.pushRow [(.int .u8 0),(.str ([]:List UInt8)),(.int .i64 0),(.int .i64 0)]
 obtain ⟨h123,e124,S⟩:=S.store (off:=0) (n:=4) (x:=(.agg [(.int .u8 e119.Kind),(.str e119.Text),(.int .i64 e119.N),(.int .i64 e119.At)])) (cs':=[(.int .u8 e119.Kind),(.str e119.Text),(.int .i64 e119.N),(.int .i64 e119.At)]) (nl rfl) rfl rfl rfl
 refine ⟨h123,e124,?_⟩
 refine ⟨(.int .u8 u104.1.Kind),(.str u104.1.Text),(.int .i64 u104.1.N),(.int .i64 u104.1.At),S.rdN m8 (nl rfl) rfl,?_⟩
 obtain ⟨y127,hy127,hf⟩:=obind hf
 refine ⟨_,Fz.refl _,?_⟩
 refine (r39 (t0:=u104.1) (s1:=([112,108,97,99,101]:List UInt8)) hy127).mono fun v125 h126 T=>?_
 obtain ⟨rfl,T⟩:=T
 have S:St _ _ [_,_,_,_,_,_,_,_,_] _:=S.comp T
 refine ⟨y127,rfl,?_⟩
 intro jjj0
 have hjj0:∀  (h209:Heap) (l211:Option Tparser),p40_j0 l211=some r→St h M [own (oPtr oparser) [(.ptr o110 v111 0)] l211] h209→jjj0 h209:=by
  rintro h209 l211 hf S
  unfold p40_j0 at hf
  unfold jjj0
  obtain ⟨u214,hu214,hf⟩:=obind hf
  refine ⟨_,Fz.refl _,?_⟩
  obtain ⟨fpu214,S1u214,backu214⟩:=St.lend [_] S
  refine (r59 (r0:=l211) (s1:=([59]:List UInt8)) (S:=S1u214) hu214).mono fun v212 h213 T=>?_
  obtain ⟨rfl,T⟩:=T
  have S:St _ _ [own (oPtr oparser) [(.ptr o110 v111 0)] u214] _:=backu214 _ _ T
  obtain rfl:=oi hf
  exact ⟨rfl,S.sel [0] rfl⟩
 refine bP_intro (fun hc=>?_) (fun hc=>?_)
 ·rw [ifT hc] at hf
  refine oP_intro (.ptr o110 v111 0) rfl ?_
  refine ifP_iff.2 ⟨rfl,?_⟩
  refine ifP_iff.2 ⟨rfl,?_⟩
  refine ⟨b109c_6,S.rd1 m7 rfl,?_⟩
  refine ifP_iff.2 ⟨((S.sl (r:=(fz rPlace)) m3)).is,?_⟩
  try rw [show (b109c_6).slen=_ from ((S.sl (r:=(fz rPlace)) m3)).slen]
  intro jjj2
  have hjj2:∀  (h220:Heap) (l222:Option Tparser),p40_j2 l222=some r→St h M [own (oPtr oparser) [(.ptr o110 v111 0)] l222] h220→jjj2 h220:=by
   rintro h220 l222 hf S
   unfold p40_j2 at hf
   unfold jjj2
   obtain ⟨u225,hu225,hf⟩:=obind hf
   refine ⟨_,Fz.refl _,?_⟩
   obtain ⟨fpu225,S1u225,backu225⟩:=St.lend [_] S
   refine (r55 (r0:=l222) (S:=S1u225) hu225).mono fun v223 h224 T=>?_
   obtain ⟨rfl,T⟩:=T
   have S:St _ _ [own (oPtr oparser) [(.ptr o110 v111 0)] u225.2] _:=backu225 _ _ T
   refine ⟨u225.1,rfl,?_⟩
   intro h226
   have S:St _ _ [rowC h224.n [(.str ([]:List UInt8)),(.int .i64 0)] 0,_] _:=S.pushRow [(.str ([]:List UInt8)),(.int .i64 0)]
   obtain ⟨h228,e229,S⟩:=S.store (off:=0) (n:=2) (x:=(.agg [(.str u225.1),(.int .i64 0)])) (cs':=[(.str u225.1),(.int .i64 0)]) (nl rfl) rfl rfl rfl
   refine ⟨h228,e229,?_⟩
   obtain ⟨u232,hu232,hf⟩:=obind hf
   refine ⟨_,Fz.refl _,?_⟩
   have S:St _ _ [_,_] _:=S.sel [1,0] rfl
   obtain ⟨fpu232,S1u232,backu232⟩:=St.lend [_] S
   refine (r56 (r0:=u225.2) (s1:=([61]:List UInt8)) (S:=S1u232) hu232).mono fun v230 h231 T=>?_
   obtain ⟨rfl,T⟩:=T
   have S:St _ _ [own (oPtr oparser) [(.ptr o110 v111 0)] u232.2,_] _:=backu232 _ _ T
   refine ⟨u232.1,rfl,?_⟩
   intro jjj1
   have hjj1:∀  (h238:Heap) (l241:Option Tparser) (c242:Int),p40_j1 u225 l241 c242=some r→St h M [own (oPtr oparser) [(.ptr o110 v111 0)] l241,rowC h224.n [(.str u225.1),(.int .i64 c242)] 0] h238→jjj1 h238:=by
    rintro h238 l241 c242 hf S
    unfold p40_j1 at hf
    unfold jjj1
    obtain ⟨b243,hb243,hf⟩:=obind hf
    obtain ⟨b243c_0,b243c_1,b243c_6,b243c_7,b243c_8,b243c_9,S⟩:=oparser_derefAt hb243 S
    refine oP_intro _ rfl ?_
    refine ifP_iff.2 ⟨rfl,?_⟩
    refine ifP_iff.2 ⟨rfl,?_⟩
    refine ⟨b243c_6,S.rd1 m6 rfl,?_⟩
    refine ⟨(.str u225.1),(.int .i64 c242),S.rdN m7 (nl rfl) rfl,?_⟩
    intro h253
    have S:St _ _ [rowC h238.n [(.str u225.1),(.int .i64 c242)] 0,_,_,_,_,_,_,_,_] _:=S.pushRow [(.str u225.1),(.int .i64 c242)]
    obtain ⟨b257,hb257,hf⟩:=obind hf
    have S:St _ _ [own (fz rPlace) [(.str u225.1),(.int .i64 c242)] (TPlace.mk u225.1 c242),_,_,_,_,_,_,_,_,_] _:=S.add (r:=rPlace) (x:=(TPlace.mk u225.1 c242)) (rPlace_mk (x:=(TPlace.mk u225.1 c242)))
    have S:St _ _ [_,_,_,_,_,_,_,_,_,_] _:=S.sel [4,0,1,2,3,5,6,7,8,9] rfl
    have mb257:=app_some hb257
    obtain ⟨v256,h255,e258,S⟩:=St.app1R (r:=(fz rPlace)) (b:=24) S mb257.1
    have S:St _ _ [own (oSl (fz rPlace)) [v256] b257,_,_,_,_,_,_,_] _:=S.cast1 (by rw [← mb257.2]<;>rfl)
    refine ⟨v256,h255,e258,?_⟩
    refine oP_intro (.ptr o110 v111 0) rfl ?_
    refine ifP_iff.2 ⟨rfl,?_⟩
    refine ifP_iff.2 ⟨rfl,?_⟩
    have S:St _ _ [_,_,_,_,_,_,_,_] _:=S.sel [6,0,1,2,3,4,5,7] rfl
    obtain ⟨h260,e261,S⟩:=S.storeS (off:=6) (x:=v256) (cs':=[b243c_0,b243c_1,(.int .i64 b243.f.Err),(.int .i64 b243.f.At),(.int .i64 b243.f.Line),(.int .i64 b243.f.Col),v256,b243c_7,b243c_8,b243c_9]) (nl rfl) ((S.sl (r:=(fz rPlace)) m1)).is rfl
    refine ⟨h260,e261,?_⟩
    have S:St _ _ [own (fz (rSl (rI .u8))) [b243c_0] b243.p,_,_,_,_,_,_,_,_] _:=S.add (rSl_mk (S.slz (r:=(rI .u8)) m2))
    have S:St _ _ [_,_,_,_,_,_,_,_,_] _:=S.sel [0,4,2,5,6,7,1,3,8] rfl
    have S:St _ _ [own (oPtr oparser) [(.ptr o110 v111 0)] (some (Tparser.mk b243.p b243.l b243.f (TNet.mk b257 b243.n.Trans) b243.places b243.told)),_,_] _:=oparser_shut (x:=(Tparser.mk b243.p b243.l b243.f (TNet.mk b257 b243.n.Trans) b243.places b243.told)) S
    have S:St _ _ [_] _:=S.sel [0] rfl
    exact hjj0  _ (some (Tparser.mk b243.p b243.l b243.f (TNet.mk b257 b243.n.Trans) b243.places b243.told)) hf  S
   refine bP_intro (fun hc=>?_) (fun hc=>?_)
   ·rw [ifT hc] at hf
    obtain ⟨u266,hu266,hf⟩:=obind hf
    refine ⟨_,Fz.refl _,?_⟩
    obtain ⟨fpu266,S1u266,backu266⟩:=St.lend [_] S
    refine (r57 (r0:=u232.2) (least1:=(0:Int)) (S:=S1u266) hu266).mono fun v264 h265 T=>?_
    obtain ⟨rfl,T⟩:=T
    have S:St _ _ [own (oPtr oparser) [(.ptr o110 v111 0)] u266.2,_] _:=backu266 _ _ T
    refine ⟨u266.1,rfl,?_⟩
    have S:St _ _ [_,_] _:=S.sel [1,0] rfl
    obtain ⟨h267,e268,S⟩:=S.store (off:=1) (n:=1) (x:=(.int .i64 u266.1)) (cs':=[(.str u225.1),(.int .i64 u266.1)]) (nl rfl) rfl rfl rfl
    refine ⟨h267,e268,?_⟩
    have S:St _ _ [_,_] _:=S.sel [1,0] rfl
    exact hjj1  _ u266.2 u266.1 hf  S
   ·rw [ifF hc] at hf
    exact hjj1  _ u232.2 (0:Int) hf  S
  refine bP_intro (fun hc=>?_) (fun hc=>?_)
  ·rw [ifD hc] at hf
   refine ⟨(.int .u8 e119.Kind),(.str e119.Text),(.int .i64 e119.N),(.int .i64 e119.At),S.rdN m0 (nl rfl) rfl,?_⟩
   obtain ⟨u273,hu273,hf⟩:=obind hf
   have S:St _ _ [own (fz (rSl (rI .u8))) [b109c_0] b109.p,_,_,_,_,_,_,_,_,_] _:=S.add (rSl_mk (S.slz (r:=(rI .u8)) m1))
   have S:St _ _ [_,_,_,_,_,_,_,_,_,_] _:=S.sel [0,3,4,5,6,7,8,1,2,9] rfl
   have S:St _ _ [own (oPtr oparser) [(.ptr o110 v111 0)] (some b109),_,_,_] _:=oparser_shut (x:=b109) S
   refine ⟨_,Fz.refl _,?_⟩
   obtain ⟨fpu273,S1u273,backu273⟩:=St.lend [_] S
   refine (r54 (r0:=(some b109)) (e1:=(5:Int)) (t2:=e119) (S:=S1u273) hu273).mono fun v271 h272 T=>?_
   obtain ⟨rfl,T⟩:=T
   have S:St _ _ [own (oPtr oparser) [(.ptr o110 v111 0)] u273,_,_,_] _:=backu273 _ _ T
   have S:St _ _ [_] _:=S.sel [0] rfl
   exact hjj2  _ u273 hf  S
  ·rw [ifE hc] at hf
   have S:St _ _ [own (fz (rSl (rI .u8))) [b109c_0] b109.p,_,_,_,_,_,_,_,_,_] _:=S.add (rSl_mk (S.slz (r:=(rI .u8)) m1))
   have S:St _ _ [_,_,_,_,_,_,_,_,_,_] _:=S.sel [0,3,4,5,6,7,8,1,2,9] rfl
   have S:St _ _ [own (oPtr oparser) [(.ptr o110 v111 0)] (some b109),_,_,_] _:=oparser_shut (x:=b109) S
   have S:St _ _ [_] _:=S.sel [0] rfl
   exact hjj2  _ (some b109) hf  S
 ·rw [ifF hc] at hf
  refine ⟨(.int .u8 u104.1.Kind),(.str u104.1.Text),(.int .i64 u104.1.N),(.int .i64 u104.1.At),S.rdN m8 (nl rfl) rfl,?_⟩
  obtain ⟨y277,hy277,hf⟩:=obind hf
  refine ⟨_,Fz.refl _,?_⟩
  refine (r39 (t0:=u104.1) (s1:=([116,114,97,110,115]:List UInt8)) hy277).mono fun v275 h276 T=>?_
  obtain ⟨rfl,T⟩:=T
  have S:St _ _ [_,_,_,_,_,_,_,_,_] _:=S.comp T
  refine ⟨y277,rfl,?_⟩
  refine bP_intro (fun hc=>?_) (fun hc=>?_)
  ·rw [ifT hc] at hf
   refine oP_intro (.ptr o110 v111 0) rfl ?_
   refine ifP_iff.2 ⟨rfl,?_⟩
   refine ifP_iff.2 ⟨rfl,?_⟩
   refine ⟨b109c_7,S.rd1 m7 rfl,?_⟩
   refine ifP_iff.2 ⟨((S.sl (r:=oTrans) m4)).is,?_⟩
   try rw [show (b109c_7).slen=_ from ((S.sl (r:=oTrans) m4)).slen]
   intro jjj3
   have hjj3:∀  (h282:Heap) (l284:Option Tparser),p40_j3 l284=some r→St h M [own (oPtr oparser) [(.ptr o110 v111 0)] l284] h282→jjj3 h282:=by
    rintro h282 l284 hf S
    unfold p40_j3 at hf
    unfold jjj3
    obtain ⟨u287,hu287,hf⟩:=obind hf
    refine ⟨_,Fz.refl _,?_⟩
    obtain ⟨fpu287,S1u287,backu287⟩:=St.lend [_] S
    refine (r58 (x0:=l284) (S:=S1u287) hu287).mono fun v285 h286 T=>?_
    obtain ⟨rfl,T⟩:=T
    have S:St _ _ [own (oPtr oparser) [(.ptr o110 v111 0)] u287] _:=backu287 _ _ T
    exact hjj0  _ u287 hf  S
   refine bP_intro (fun hc=>?_) (fun hc=>?_)
   ·rw [ifD hc] at hf
    refine ⟨(.int .u8 e119.Kind),(.str e119.Text),(.int .i64 e119.N),(.int .i64 e119.At),S.rdN m0 (nl rfl) rfl,?_⟩
    obtain ⟨u292,hu292,hf⟩:=obind hf
    have S:St _ _ [own (fz (rSl (rI .u8))) [b109c_0] b109.p,_,_,_,_,_,_,_,_,_] _:=S.add (rSl_mk (S.slz (r:=(rI .u8)) m1))
    have S:St _ _ [_,_,_,_,_,_,_,_,_,_] _:=S.sel [0,3,4,5,6,7,8,1,2,9] rfl
    have S:St _ _ [own (oPtr oparser) [(.ptr o110 v111 0)] (some b109),_,_,_] _:=oparser_shut (x:=b109) S
    refine ⟨_,Fz.refl _,?_⟩
    obtain ⟨fpu292,S1u292,backu292⟩:=St.lend [_] S
    refine (r54 (r0:=(some b109)) (e1:=(5:Int)) (t2:=e119) (S:=S1u292) hu292).mono fun v290 h291 T=>?_
    obtain ⟨rfl,T⟩:=T
    have S:St _ _ [own (oPtr oparser) [(.ptr o110 v111 0)] u292,_,_,_] _:=backu292 _ _ T
    have S:St _ _ [_] _:=S.sel [0] rfl
    exact hjj3  _ u292 hf  S
   ·rw [ifE hc] at hf
    have S:St _ _ [own (fz (rSl (rI .u8))) [b109c_0] b109.p,_,_,_,_,_,_,_,_,_] _:=S.add (rSl_mk (S.slz (r:=(rI .u8)) m1))
    have S:St _ _ [_,_,_,_,_,_,_,_,_,_] _:=S.sel [0,3,4,5,6,7,8,1,2,9] rfl
    have S:St _ _ [own (oPtr oparser) [(.ptr o110 v111 0)] (some b109),_,_,_] _:=oparser_shut (x:=b109) S
    have S:St _ _ [_] _:=S.sel [0] rfl
    exact hjj3  _ (some b109) hf  S
  ·rw [ifF hc] at hf
   refine ⟨(.int .u8 u104.1.Kind),(.str u104.1.Text),(.int .i64 u104.1.N),(.int .i64 u104.1.At),S.rdN m8 (nl rfl) rfl,?_⟩
   obtain ⟨u297,hu297,hf⟩:=obind hf
   have S:St _ _ [own (fz (rSl (rI .u8))) [b109c_0] b109.p,_,_,_,_,_,_,_,_,_] _:=S.add (rSl_mk (S.slz (r:=(rI .u8)) m1))
   have S:St _ _ [_,_,_,_,_,_,_,_,_,_] _:=S.sel [0,3,4,5,6,7,8,1,2,9] rfl
   have S:St _ _ [own (oPtr oparser) [(.ptr o110 v111 0)] (some b109),_,_,_] _:=oparser_shut (x:=b109) S
   refine ⟨_,Fz.refl _,?_⟩
   obtain ⟨fpu297,S1u297,backu297⟩:=St.lend [_] S
   refine (r54 (r0:=(some b109)) (e1:=(6:Int)) (t2:=u104.1) (S:=S1u297) hu297).mono fun v295 h296 T=>?_
   obtain ⟨rfl,T⟩:=T
   have S:St _ _ [own (oPtr oparser) [(.ptr o110 v111 0)] u297,_,_,_] _:=backu297 _ _ T
   have S:St _ _ [_] _:=S.sel [0] rfl
   exact hjj0  _ u297 hf  S
/-! 26: marblerun/parse.Net -/
noncomputable def p26_j0 (y134:Int) (l286:List (List UInt8×Int)):Option ((Int×(List (List UInt8×Int)))⊕(List (List UInt8×Int))):=some (.inl ((IntKind.wrap .i64 (y134+(1:Int))),l286))
noncomputable def p26_j1 (u108:(List TTokenlex)×TFault) (y134:Int) (l185:List (List UInt8×Int)) (b262:Bool):Option ((Int×(List (List UInt8×Int)))⊕(List (List UInt8×Int))):=if b262=true then ((idx u108.1 (IntKind.wrap .i64 (y134+(1:Int)))).bind fun e288=>if (!(mget keS l185 e288.Text).isSome)=true then ((idx u108.1 (IntKind.wrap .i64 (y134+(1:Int)))).bind fun e290=>p26_j0 y134 (mput keS l185 e290.Text (l185.length:Int))) else (p26_j0 y134 l185)) else (p26_j0 y134 l185)
noncomputable def p26_l0 (u108:(List TTokenlex)×TFault) (y126:List TTokenlex) (st:Int×(List (List UInt8×Int))):Option ((Int×(List (List UInt8×Int)))⊕(List (List UInt8×Int))):=match st with | (y134,l185)=>if y134 < (y126.length:Int) then ((idx y126 y134).bind fun e249=>(p39 e249 ([112,108,97,99,101]:List UInt8)).bind fun y259=>if y259=true then ((idx u108.1 (IntKind.wrap .i64 (y134+(1:Int)))).bind fun e295=>p26_j1 u108 y134 l185 (decide (e295.Kind=(1:Int)))) else (p26_j1 u108 y134 l185 false)) else (some (.inr l185))
noncomputable def p26_j2 (b355:Tparser) (b367:Bool):Option ((Option Tparser)⊕(Option Tparser)):=if b367=true then ((p40 (some b355)).bind fun u375=>some (.inl u375)) else (some (.inr (some b355)))
noncomputable def p26_l1 (l319:Option Tparser):Option ((Option Tparser)⊕(Option Tparser)):=l319.bind fun b355=>if b355.f.Err=(0:Int) then ((idx b355.l (0:Int)).bind fun e378=>p26_j2 b355 (!decide (e378.Kind=(0:Int)))) else (p26_j2 b355 false)
noncomputable def p26 (x0:List Int):Option (TNet×TFault):=(p18 x0).bind fun u108=>if (!decide (u108.2.Err=(0:Int)))=true then (some ((TNet.mk [] []),u108.2)) else ((slc u108.1 (0:Int) (IntKind.wrap .i64 ((u108.1.length:Int) - (1:Int)))).bind fun y126=>(loopC (p26_l0 u108 y126) ((0:Int),[])).bind fun res245=>((fun (l244:List (List UInt8×Int))=>(loopC p26_l1 (some (Tparser.mk x0 u108.1 (TFault.mk (0:Int) (0:Int) (0:Int) (0:Int)) (TNet.mk [] []) l244 []))).bind fun res351=>((fun (l350:Option Tparser)=>l350.bind fun b383=>if (!decide (b383.f.Err=(0:Int)))=true then (some ((TNet.mk [] []),b383.f)) else ((p41 b383.n).bind fun y402=>some (y402,(TFault.mk (0:Int) (0:Int) (0:Int) (0:Int))))) res351)) res245))
theorem r26 {h:Heap} {a0_0:AV} {x0:List Int} (f0_0:SlR (rI .u8) (Frz h) a0_0 x0) {r:TNet×TFault} (hf:p26 x0=some r):ZCalls F 26 [a0_0] h fun v h'=>∃ cs0,v=.tuple [.agg cs0,.agg [.int .i64 r.2.Err,.int .i64 r.2.At,.int .i64 r.2.Line,.int .i64 r.2.Col]]∧St h none' [own (fz rNet) cs0 r.1] h':=by
 refine w26 ?_
 unfold W26
 unfold p26 at hf
 have S:St h none' [] h:=St.refl _ _
 have S:=S.add (rSl_mk f0_0)
 intro h102
 have S:St _ _ [rowC h.n [.nilSlice,.nilSlice] 0,own (fz (rSl (rI .u8))) [a0_0] x0] _:=S.pushRow [.nilSlice,.nilSlice]
 intro h104
 have S:St _ _ [rowC h102.n [(.int .i64 0),(.int .i64 0),(.int .i64 0),(.int .i64 0)] 0,_,_] _:=S.pushRow [(.int .i64 0),(.int .i64 0),(.int .i64 0),(.int .i64 0)]
 obtain ⟨u108,hu108,hf⟩:=obind hf
 refine ⟨_,Fz.refl _,?_⟩
 refine (r18 (p0:=x0) (f0_0:=(SlR.mono (frz_snap _) (S.slz (r:=(rI .u8)) m2))) hu108).mono fun v106 h107 T=>?_
 obtain ⟨w109,rfl,T⟩:=T
 have S:St _ _ [own (oSl (fz rTokenlex)) [w109] u108.1,_,_,_] _:=S.comp T
 refine oP_intro w109 rfl ?_
 refine oP_intro (.agg [(.int .i64 u108.2.Err),(.int .i64 u108.2.At),(.int .i64 u108.2.Line),(.int .i64 u108.2.Col)]) rfl ?_
 intro h111
 have S:St _ _ [rowC h107.n [(.int .i64 0),(.int .i64 0),(.int .i64 0),(.int .i64 0)] 0,_,_,_,_] _:=S.pushRow [(.int .i64 0),(.int .i64 0),(.int .i64 0),(.int .i64 0)]
 obtain ⟨h113,e114,S⟩:=S.store (off:=0) (n:=4) (x:=(.agg [(.int .i64 u108.2.Err),(.int .i64 u108.2.At),(.int .i64 u108.2.Line),(.int .i64 u108.2.Col)])) (cs':=[(.int .i64 u108.2.Err),(.int .i64 u108.2.At),(.int .i64 u108.2.Line),(.int .i64 u108.2.Col)]) (nl rfl) rfl rfl rfl
 refine ⟨h113,e114,?_⟩
 refine ⟨u108.2.Err,S.rd1 m0 rfl,?_⟩
 refine bP_intro (fun hc=>?_) (fun hc=>?_)
 ·rw [ifT hc] at hf
  have S_1:=S
  refine ⟨(.int .i64 u108.2.Err),(.int .i64 u108.2.At),(.int .i64 u108.2.Line),(.int .i64 u108.2.Col),S.rdN m0 (nl rfl) rfl,?_⟩
  have S_2:=S
  have S:St _ _ [_,_,_,_,_] _:=S.sel [3,0,1,2,4] rfl
  obtain ⟨h115,e116,S⟩:=S.store (off:=0) (n:=2) (x:=(.agg [.nilSlice,.nilSlice])) (cs':=[.nilSlice,.nilSlice]) (nl rfl) rfl rfl rfl
  refine ⟨h115,e116,?_⟩
  have S_3:=S
  have S:St _ _ [_,_,_,_,_] _:=S.sel [3,0,1,2,4] rfl
  obtain ⟨h117,e118,S⟩:=S.store (off:=0) (n:=4) (x:=(.agg [(.int .i64 u108.2.Err),(.int .i64 u108.2.At),(.int .i64 u108.2.Line),(.int .i64 u108.2.Col)])) (cs':=[(.int .i64 u108.2.Err),(.int .i64 u108.2.At),(.int .i64 u108.2.Line),(.int .i64 u108.2.Col)]) (nl rfl) rfl rfl rfl
  refine ⟨h117,e118,?_⟩
  refine ⟨⟨(.agg [(.int .i64 u108.2.Err),(.int .i64 u108.2.At),(.int .i64 u108.2.Line),(.int .i64 u108.2.Col)]),rdN_ev (S_1.rdN m0 (nl rfl) rfl),rdN_ev (S_2.rdN m0 (nl rfl) rfl),rdN_ev (S_3.rdN m1 (nl rfl) rfl)⟩,?_⟩
  refine ⟨.nilSlice,.nilSlice,S.rdN m1 (nl rfl) rfl,?_⟩
  refine ⟨(.int .i64 u108.2.Err),(.int .i64 u108.2.At),(.int .i64 u108.2.Line),(.int .i64 u108.2.Col),S.rdN m0 (nl rfl) rfl,?_⟩
  have S:St _ _ [own (fz rNet) [.nilSlice,.nilSlice] (TNet.mk [] []),_,_,_,_,_] _:=S.add (r:=rNet) (x:=(TNet.mk [] [])) (rNet_mk (x:=(TNet.mk [] [])) (SlR.nil _ _) (SlR.nil _ _))
  obtain rfl:=oi hf
  exact ⟨_,rfl,S.sel [0] rfl⟩
 ·rw [ifF hc] at hf
  refine oP_intro _ rfl ?_
  intro h120
  have S:St _ _ [own (oMap keS (AV.int .i64)) [(.map h113.n)] [],_,_,_,_,_] _:=S.pushM keS (AV.int .i64)
  refine oP_intro _ rfl ?_
  intro h122
  have S:St _ _ [own (oMap keS AV.bool) [(.map h120.n)] [],_,_,_,_,_,_] _:=S.pushM keS AV.bool
  refine oP_intro (.agg [a0_0,w109,(.int .i64 0),(.int .i64 0),(.int .i64 0),(.int .i64 0),.nilSlice,.nilSlice,(.map h113.n),(.map h120.n)]) (by simp only [POp.ev,place,sl_cells ((S.slz (r:=(rI .u8)) m6)).is,sl_tup ((S.slz (r:=(rI .u8)) m6)).is,sl_cells ((S.sl (r:=(fz rTokenlex)) m3)).is,sl_tup ((S.sl (r:=(fz rTokenlex)) m3)).is]<;>first | rfl | (simp [AV.cells,AV.isTup,splice]; done) | (simp [AV.cells,AV.isTup,splice]; rfl)) ?_
  refine ifP_iff.2 ⟨rfl,?_⟩
  intro h124
  have S:St _ _ [rowC h122.n [a0_0,w109,(.int .i64 0),(.int .i64 0),(.int .i64 0),(.int .i64 0),.nilSlice,.nilSlice,(.map h113.n),(.map h120.n)] 0,_,_,_,_,_,_,_] _:=S.pushRow [a0_0,w109,(.int .i64 0),(.int .i64 0),(.int .i64 0),(.int .i64 0),.nilSlice,.nilSlice,(.map h113.n),(.map h120.n)]
  refine ifP_iff.2 ⟨((S.sl (r:=(fz rTokenlex)) m4)).is,?_⟩
  try rw [show (w109).slen=_ from ((S.sl (r:=(fz rTokenlex)) m4)).slen]
  obtain ⟨y126,hy126,hf⟩:=obind hf
  have ey126:=(sliceSl_ev01 (k:=.i64) (S.sl (r:=(fz rTokenlex)) m4) hy126)
  refine oP_intro (w109.sub 4 ((0:Int):Int).toNat ((IntKind.wrap .i64 ((u108.1.length:Int) - (1:Int))):Int).toNat) ey126 ?_
  have V127:SlR rTokenlex (Snap h124) (w109.sub 4 ((0:Int):Int).toNat ((IntKind.wrap .i64 ((u108.1.length:Int) - (1:Int))):Int).toNat) y126:=slc_eq hy126▸SlR.sub (S.sl (r:=(fz rTokenlex)) m4) (slc_le hy126).1 (slc_le hy126).2
  refine ifP_iff.2 ⟨(V127).is,?_⟩
  try rw [show ((w109.sub 4 ((0:Int):Int).toNat ((IntKind.wrap .i64 ((u108.1.length:Int) - (1:Int))):Int).toNat)).slen=_ from (V127).slen]
  obtain ⟨res245,hL,hf⟩:=obind hf
  obtain ⟨n246,hL⟩:=loopC_iff.1 hL
  have S:St _ _ [_,_,_,_,_,_,_] _:=S.sel [6,5,4,0,7,2,1] rfl
  refine loopm26_0 (X0:=fun (y236:AV) (y237:AV) (y238:AV) (y239:AV) (y240:AV) (y241:Int) (y242:Int) (h243:Heap)=>∃ (l244:List (List UInt8×Int)),AV.ptr h.n 0 0=y236∧AV.ptr h102.n 0 0=y237∧AV.ptr h122.n 0 0=y239∧St h none' [rowC h.n [.nilSlice,.nilSlice] 0,rowC h102.n [(.int .i64 0),(.int .i64 0),(.int .i64 0),(.int .i64 0)] 0,rowC h122.n [a0_0,w109,(.int .i64 0),(.int .i64 0),(.int .i64 0),(.int .i64 0),.nilSlice,.nilSlice,(.map h113.n),(.map h120.n)] 0,own (fz (rSl (rI .u8))) [a0_0] x0,own (oSl (fz rTokenlex)) [w109] u108.1,own (oMap keS (AV.int .i64)) [(.map h113.n)] l244,own (oMap keS AV.bool) [(.map h120.n)] []] h243∧l244=res245) ?_ (loop26_0 (I:=fun (m248:Nat) (y128:AV) (y129:AV) (y130:AV) (y131:AV) (y132:AV) (y133:Int) (y134:Int) (h184:Heap)=>∃ (l185:List (List UInt8×Int)),AV.ptr h.n 0 0=y128∧AV.ptr h102.n 0 0=y129∧w109=y130∧AV.ptr h122.n 0 0=y131∧(w109.sub 4 ((0:Int):Int).toNat ((IntKind.wrap .i64 ((u108.1.length:Int) - (1:Int))):Int).toNat)=y132∧(y126.length:Int)=y133∧St h none' [rowC h.n [.nilSlice,.nilSlice] 0,rowC h102.n [(.int .i64 0),(.int .i64 0),(.int .i64 0),(.int .i64 0)] 0,own (oSl (fz rTokenlex)) [w109] u108.1,rowC h122.n [a0_0,w109,(.int .i64 0),(.int .i64 0),(.int .i64 0),(.int .i64 0),.nilSlice,.nilSlice,(.map h113.n),(.map h120.n)] 0,own (fz (rSl (rI .u8))) [a0_0] x0,own (oMap keS (AV.int .i64)) [(.map h113.n)] l185,own (oMap keS AV.bool) [(.map h120.n)] []] h184∧iter (p26_l0 u108 y126) m248 (y134,l185)=some res245) ?_ (m:=n246) ?_)
  ·rintro y236 y237 y238 y239 y240 y241 y242 h243 ⟨l244,rfl,rfl,rfl,S,rfl⟩
   try dsimp only at hf
   obtain ⟨res351,hL,hf⟩:=obind hf
   obtain ⟨n352,hL⟩:=loopC_iff.1 hL
   have S:St _ _ [own (fz (rSl (rI .u8))) [a0_0] x0,_,_,_,_,_,_,_] _:=S.add (rSl_mk (S.slz (r:=(rI .u8)) m3))
   have S:St _ _ [own (oSl (fz rPlace)) [.nilSlice] [],_,_,_,_,_,_,_,_] _:=S.addE (oSl_nil _ _)
   have S:St _ _ [own (oSl oTrans) [.nilSlice] [],_,_,_,_,_,_,_,_,_] _:=S.addE (oSl_nil _ _)
   have S:St _ _ [_,_,_,_,_,_,_,_,_,_] _:=S.sel [2,7,1,0,8,9,5,3,4,6] rfl
   have S:St _ _ [own (oPtr oparser) [(.ptr h122.n 0 0)] (some (Tparser.mk x0 u108.1 (TFault.mk (0:Int) (0:Int) (0:Int) (0:Int)) (TNet.mk [] []) l244 [])),_,_,_] _:=oparser_shut (x:=(Tparser.mk x0 u108.1 (TFault.mk (0:Int) (0:Int) (0:Int) (0:Int)) (TNet.mk [] []) l244 [])) S
   have S:St _ _ [_,_,_] _:=S.sel [1,2,0] rfl
   refine loopm26_1 (X2:=fun (y346:AV) (y347:AV) (y348:AV) (h349:Heap)=>∃ (l350:Option Tparser),AV.ptr h.n 0 0=y346∧AV.ptr h102.n 0 0=y347∧(AV.ptr h122.n 0 0)=y348∧St h none' [rowC h.n [.nilSlice,.nilSlice] 0,rowC h102.n [(.int .i64 0),(.int .i64 0),(.int .i64 0),(.int .i64 0)] 0,own (oPtr oparser) [(.ptr h122.n 0 0)] l350] h349∧l350=res351) ?_ (loop26_1 (I:=fun (m354:Nat) (y297:AV) (y298:AV) (y299:AV) (h318:Heap)=>∃ (l319:Option Tparser),AV.ptr h.n 0 0=y297∧AV.ptr h102.n 0 0=y298∧(AV.ptr h122.n 0 0)=y299∧St h none' [rowC h.n [.nilSlice,.nilSlice] 0,rowC h102.n [(.int .i64 0),(.int .i64 0),(.int .i64 0),(.int .i64 0)] 0,own (oPtr oparser) [(.ptr h122.n 0 0)] l319] h318∧iter p26_l1 m354 l319=some res351) ?_ (m:=n352) ?_)
   ·rintro y346 y347 y348 h349 ⟨l350,rfl,rfl,rfl,S,rfl⟩
    try dsimp only at hf
    obtain ⟨b383,hb383,hf⟩:=obind hf
    have S:St _ _ [_,_,_] _:=S.sel [2,0,1] rfl
    obtain ⟨b383c_0,b383c_1,b383c_6,b383c_7,b383c_8,b383c_9,S⟩:=oparser_derefAt hb383 S
    refine oP_intro _ rfl ?_
    refine ifP_iff.2 ⟨rfl,?_⟩
    refine ifP_iff.2 ⟨rfl,?_⟩
    refine ⟨b383.f.Err,S.rd1 m6 rfl,?_⟩
    refine bP_intro (fun hc=>?_) (fun hc=>?_)
    ·rw [ifT hc] at hf
     refine oP_intro (.ptr h122.n 0 0) rfl ?_
     refine ifP_iff.2 ⟨rfl,?_⟩
     have S_4:=S
     refine ⟨(.int .i64 b383.f.Err),(.int .i64 b383.f.At),(.int .i64 b383.f.Line),(.int .i64 b383.f.Col),S.rdN m6 (nl rfl) rfl,?_⟩
     have S_5:=S
     have S:St _ _ [_,_,_,_,_,_,_,_,_] _:=S.sel [7,0,1,2,3,4,5,6,8] rfl
     obtain ⟨h393,e394,S⟩:=S.store (off:=0) (n:=2) (x:=(.agg [.nilSlice,.nilSlice])) (cs':=[.nilSlice,.nilSlice]) (nl rfl) rfl rfl rfl
     refine ⟨h393,e394,?_⟩
     have S_6:=S
     have S:St _ _ [_,_,_,_,_,_,_,_,_] _:=S.sel [8,0,1,2,3,4,5,6,7] rfl
     obtain ⟨h395,e396,S⟩:=S.store (off:=0) (n:=4) (x:=(.agg [(.int .i64 b383.f.Err),(.int .i64 b383.f.At),(.int .i64 b383.f.Line),(.int .i64 b383.f.Col)])) (cs':=[(.int .i64 b383.f.Err),(.int .i64 b383.f.At),(.int .i64 b383.f.Line),(.int .i64 b383.f.Col)]) (nl rfl) rfl rfl rfl
     refine ⟨h395,e396,?_⟩
     refine ⟨⟨(.agg [(.int .i64 b383.f.Err),(.int .i64 b383.f.At),(.int .i64 b383.f.Line),(.int .i64 b383.f.Col)]),rdN_ev (S_4.rdN m6 (nl rfl) rfl),rdN_ev (S_5.rdN m6 (nl rfl) rfl),rdN_ev (S_6.rdN m7 (nl rfl) rfl)⟩,?_⟩
     refine ⟨.nilSlice,.nilSlice,S.rdN m1 (nl rfl) rfl,?_⟩
     refine ⟨(.int .i64 b383.f.Err),(.int .i64 b383.f.At),(.int .i64 b383.f.Line),(.int .i64 b383.f.Col),S.rdN m0 (nl rfl) rfl,?_⟩
     have S:St _ _ [own (fz rNet) [.nilSlice,.nilSlice] (TNet.mk [] []),_,_,_,_,_,_,_,_,_] _:=S.add (r:=rNet) (x:=(TNet.mk [] [])) (rNet_mk (x:=(TNet.mk [] [])) (SlR.nil _ _) (SlR.nil _ _))
     obtain rfl:=oi hf
     exact ⟨_,rfl,S.sel [0] rfl⟩
    ·rw [ifF hc] at hf
     refine oP_intro (.ptr h122.n 0 0) rfl ?_
     refine ifP_iff.2 ⟨rfl,?_⟩
     refine ⟨b383c_6,b383c_7,S.rdN m6 (nl rfl) rfl,?_⟩
     obtain ⟨y402,hy402,hf⟩:=obind hf
     have S:St _ _ [_,_,_,_,_,_,_,_,_] _:=S.sel [3,0,1,2,4,5,6,7,8] rfl
     obtain ⟨h399,z398,S⟩:=St.freeze S
     refine ⟨_,z398,?_⟩
     refine (r41 (n0:=b383.n) (f0_0:=(S.sl (r:=(fz rPlace)) m3)) (f0_1:=S.slz (r:=rTrans) m0) hy402).mono fun v400 h401 T=>?_
     obtain ⟨c403,rfl,T⟩:=T
     have S:=S.comp T
     obtain ⟨ay402_0,ay402_1,rfl,Fay402_0,Fay402_1⟩:=rNet_open (S.fzr (.head _))
     have S:=S.drop
     have S:St _ _ [own (fz (rSl rPlace)) [ay402_0] y402.Places,_,_,_,_,_,_,_,_,_] _:=S.add (rSl_mk Fay402_0)
     have S:St _ _ [own (fz (rSl rTrans)) [ay402_1] y402.Trans,_,_,_,_,_,_,_,_,_,_] _:=S.add (rSl_mk Fay402_1)
     have S:St _ _ [_,_,_,_,_,_,_,_,_,_,_] _:=S.sel [9,0,1,2,3,4,5,6,7,8,10] rfl
     obtain ⟨h407,e408,S⟩:=S.store (off:=0) (n:=2) (x:=(.agg [ay402_0,ay402_1])) (cs':=[ay402_0,ay402_1]) (nl rfl) rfl rfl rfl
     refine ⟨h407,e408,?_⟩
     have S:St _ _ [_,_,_,_,_,_,_,_,_,_,_] _:=S.sel [10,0,1,2,3,4,5,6,7,8,9] rfl
     obtain ⟨h409,e410,S⟩:=S.store (off:=0) (n:=4) (x:=(.agg [(.int .i64 0),(.int .i64 0),(.int .i64 0),(.int .i64 0)])) (cs':=[(.int .i64 0),(.int .i64 0),(.int .i64 0),(.int .i64 0)]) (nl rfl) rfl rfl rfl
     refine ⟨h409,e410,?_⟩
     refine ⟨ay402_0,ay402_1,S.rdN m1 (nl rfl) rfl,?_⟩
     refine ⟨(.int .i64 0),(.int .i64 0),(.int .i64 0),(.int .i64 0),S.rdN m0 (nl rfl) rfl,?_⟩
     have S:St _ _ [own (fz rNet) [ay402_0,ay402_1] y402,_,_,_,_,_,_,_,_,_,_,_] _:=S.add (r:=rNet) (x:=y402) (rNet_mk (x:=y402) (S.slz (r:=rPlace) m3) (S.slz (r:=rTrans) m2))
     obtain rfl:=oi hf
     exact ⟨_,rfl,S.sel [0] rfl⟩
   ·rintro m3540 y297 y298 y299 h318 ⟨l319,rfl,rfl,rfl,S,hit⟩
    obtain ⟨m354,q353,rfl,hf,hk⟩:=iter_some hit
    clear hit
    unfold B26_1
    unfold p26_l1 at hf
    try dsimp only at hf
    obtain ⟨b355,hb355,hf⟩:=obind hf
    have S:St _ _ [_,_,_] _:=S.sel [2,0,1] rfl
    obtain ⟨b355c_0,b355c_1,b355c_6,b355c_7,b355c_8,b355c_9,S⟩:=oparser_derefAt hb355 S
    refine oP_intro _ rfl ?_
    refine ifP_iff.2 ⟨rfl,?_⟩
    refine ifP_iff.2 ⟨rfl,?_⟩
    refine ⟨b355.f.Err,S.rd1 m6 rfl,?_⟩
    intro jjj2
    have hjj2:∀ (b367:Bool) (h368:Heap),p26_j2 b355 b367=some q353→h318=h368→St h none' [rowC h.n [.nilSlice,.nilSlice] 0,rowC h102.n [(.int .i64 0),(.int .i64 0),(.int .i64 0),(.int .i64 0)] 0,rowC h122.n [b355c_0,b355c_1,(.int .i64 b355.f.Err),(.int .i64 b355.f.At),(.int .i64 b355.f.Line),(.int .i64 b355.f.Col),b355c_6,b355c_7,b355c_8,b355c_9] 0,own (fz (rSl (rI .u8))) [b355c_0] b355.p,own (oSl (fz rTokenlex)) [b355c_1] b355.l,own (oSl (fz rPlace)) [b355c_6] b355.n.Places,own (oSl oTrans) [b355c_7] b355.n.Trans,own (oMap keS (AV.int .i64)) [b355c_8] b355.places,own (oMap keS AV.bool) [b355c_9] b355.told] h318→jjj2 b367 h368:=by
     rintro b367 h368 hf rfl S
     unfold p26_j2 at hf
     unfold jjj2
     refine bP_intro (fun hc=>?_) (fun hc=>?_)
     ·rw [ifT hc] at hf
      obtain ⟨u375,hu375,hf⟩:=obind hf
      have S:St _ _ [own (fz (rSl (rI .u8))) [b355c_0] b355.p,_,_,_,_,_,_,_,_,_] _:=S.add (rSl_mk (S.slz (r:=(rI .u8)) m3))
      have S:St _ _ [_,_,_,_,_,_,_,_,_,_] _:=S.sel [0,5,6,7,8,9,3,1,2,4] rfl
      have S:St _ _ [own (oPtr oparser) [(.ptr h122.n 0 0)] (some b355),_,_,_] _:=oparser_shut (x:=b355) S
      refine ⟨_,Fz.refl _,?_⟩
      obtain ⟨fpu375,S1u375,backu375⟩:=St.lend [_] S
      refine (r40 (x0:=(some b355)) (S:=S1u375) hu375).mono fun v373 h374 T=>?_
      obtain ⟨rfl,T⟩:=T
      have S:St _ _ [own (oPtr oparser) [(.ptr h122.n 0 0)] u375,_,_,_] _:=backu375 _ _ T
      have S:St _ _ [_,_,_] _:=S.sel [1,2,0] rfl
      obtain rfl:=oi hf
      exact ⟨m354,Nat.lt_succ_self _,u375,rfl,rfl,rfl,S,hk⟩
     ·rw [ifF hc] at hf
      have S:St _ _ [own (fz (rSl (rI .u8))) [b355c_0] b355.p,_,_,_,_,_,_,_,_,_] _:=S.add (rSl_mk (S.slz (r:=(rI .u8)) m3))
      have S:St _ _ [_,_,_,_,_,_,_,_,_,_] _:=S.sel [0,5,6,7,8,9,3,1,2,4] rfl
      have S:St _ _ [own (oPtr oparser) [(.ptr h122.n 0 0)] (some b355),_,_,_] _:=oparser_shut (x:=b355) S
      have S:St _ _ [_,_,_] _:=S.sel [1,2,0] rfl
      obtain rfl:=oi hf
      obtain rfl:=hk
      exact ⟨(some b355),rfl,rfl,rfl,S,rfl⟩
    refine bP_intro (fun hc=>?_) (fun hc=>?_)
    ·rw [ifD hc] at hf
     refine oP_intro (.ptr h122.n 0 0) rfl ?_
     refine ifP_iff.2 ⟨rfl,?_⟩
     refine ⟨b355c_1,S.rd1 m6 rfl,?_⟩
     obtain ⟨e378,he378,hf⟩:=obind hf
     refine ix_go (S.sl (r:=(fz rTokenlex)) m1) (Hp.le_refl _) he378 fun pe378=>?_
     refine ifP_iff.2 ⟨pe378,?_⟩
     obtain ⟨_,cr379,Rr379,Nr379,Or379,Zr379⟩:=St.idxO (r:=rTokenlex) S m1 he378
     obtain rfl:=rTokenlex_open Rr379
     refine ⟨e378.Kind,Or379 0 _ rfl,?_⟩
     have S:St _ _ [_,_,_,_,_,_,_,_,_] _:=S.sel [7,8,6,0,1,2,3,4,5] rfl
     exact hjj2 _ _  hf rfl S
    ·rw [ifE hc] at hf
     have S:St _ _ [_,_,_,_,_,_,_,_,_] _:=S.sel [7,8,6,0,1,2,3,4,5] rfl
     exact hjj2 _ _  hf rfl S
   ·exact ⟨(some (Tparser.mk x0 u108.1 (TFault.mk (0:Int) (0:Int) (0:Int) (0:Int)) (TNet.mk [] []) l244 [])),rfl,rfl,rfl,S,hL⟩
  ·rintro m2480 y128 y129 y130 y131 y132 y133 y134 h184 ⟨l185,rfl,rfl,rfl,rfl,rfl,rfl,S,hit⟩
   obtain ⟨m248,q247,rfl,hf,hk⟩:=iter_some hit
   clear hit
   unfold B26_0
   unfold p26_l0 at hf
   try dsimp only at hf
   refine bP_intro (fun hc=>?_) (fun hc=>?_)
   ·rw [ifD hc] at hf
    obtain ⟨e249,he249,hf⟩:=obind hf
    have V250:SlR rTokenlex (Snap h184) (w109.sub 4 ((0:Int):Int).toNat ((IntKind.wrap .i64 ((u108.1.length:Int) - (1:Int))):Int).toNat) y126:=slc_eq hy126▸SlR.sub (S.sl (r:=(fz rTokenlex)) m2) (slc_le hy126).1 (slc_le hy126).2
    refine ix_go V250 (Hp.le_refl _) he249 fun pe249=>?_
    have V252:SlR rTokenlex (Snap h184) (w109.sub 4 ((0:Int):Int).toNat ((IntKind.wrap .i64 ((u108.1.length:Int) - (1:Int))):Int).toNat) y126:=slc_eq hy126▸SlR.sub (S.sl (r:=(fz rTokenlex)) m2) (slc_le hy126).1 (slc_le hy126).2
    obtain ⟨_,cr251,Rr251,Nr251,Or251,Zr251⟩:=SlR.idx V252 (Hp.le_refl _) he249
    obtain rfl:=rTokenlex_open Rr251
    refine ⟨(.int .u8 e249.Kind),(.str e249.Text),(.int .i64 e249.N),(.int .i64 e249.At),Nr251,?_⟩
    intro h253
    have S:St _ _ [rowC h184.n [(.int .u8 0),(.str ([]:List UInt8)),(.int .i64 0),(.int .i64 0)] 0,_,_,_,_,_,_,_] _:=S.pushRow [(.int .u8 0),(.str ([]:List UInt8)),(.int .i64 0),(.int .i64 0)]
    obtain ⟨h255,e256,S⟩:=S.store (off:=0) (n:=4) (x:=(.agg [(.int .u8 e249.Kind),(.str e249.Text),(.int .i64 e249.N),(.int .i64 e249.At)])) (cs':=[(.int .u8 e249.Kind),(.str e249.Text),(.int .i64 e249.N),(.int .i64 e249.At)]) (nl rfl) rfl rfl rfl
    refine ⟨h255,e256,?_⟩
    refine ⟨(.int .u8 e249.Kind),(.str e249.Text),(.int .i64 e249.N),(.int .i64 e249.At),S.rdN m0 (nl rfl) rfl,?_⟩
    obtain ⟨y259,hy259,hf⟩:=obind hf
    refine ⟨_,Fz.refl _,?_⟩
    refine (r39 (t0:=e249) (s1:=([112,108,97,99,101]:List UInt8)) hy259).mono fun v257 h258 T=>?_
    obtain ⟨rfl,T⟩:=T
    have S:St _ _ [_,_,_,_,_,_,_,_] _:=S.comp T
    refine ⟨y259,rfl,?_⟩
    intro jjj1
    have hjj1:∀ (b262:Bool) (h263:Heap),p26_j1 u108 y134 l185 b262=some q247→h258=h263→St h none' [rowC h.n [.nilSlice,.nilSlice] 0,rowC h102.n [(.int .i64 0),(.int .i64 0),(.int .i64 0),(.int .i64 0)] 0,own (oSl (fz rTokenlex)) [w109] u108.1,rowC h122.n [a0_0,w109,(.int .i64 0),(.int .i64 0),(.int .i64 0),(.int .i64 0),.nilSlice,.nilSlice,(.map h113.n),(.map h120.n)] 0,own (fz (rSl (rI .u8))) [a0_0] x0,own (oMap keS (AV.int .i64)) [(.map h113.n)] l185,own (oMap keS AV.bool) [(.map h120.n)] []] h258→jjj1 b262 h263:=by
     rintro b262 h263 hf rfl S
     unfold p26_j1 at hf
     unfold jjj1
     intro jjj0
     have hjj0:∀  (h278:Heap) (l286:List (List UInt8×Int)),p26_j0 y134 l286=some q247→St h none' [rowC h.n [.nilSlice,.nilSlice] 0,rowC h102.n [(.int .i64 0),(.int .i64 0),(.int .i64 0),(.int .i64 0)] 0,own (oSl (fz rTokenlex)) [w109] u108.1,rowC h122.n [a0_0,w109,(.int .i64 0),(.int .i64 0),(.int .i64 0),(.int .i64 0),.nilSlice,.nilSlice,(.map h113.n),(.map h120.n)] 0,own (fz (rSl (rI .u8))) [a0_0] x0,own (oMap keS (AV.int .i64)) [(.map h113.n)] l286,own (oMap keS AV.bool) [(.map h120.n)] []] h278→jjj0 h278:=by
      rintro h278 l286 hf S
      unfold p26_j0 at hf
      unfold jjj0
      obtain rfl:=oi hf
      exact ⟨m248,Nat.lt_succ_self _,l286,rfl,rfl,rfl,rfl,rfl,rfl,S,hk⟩
     refine bP_intro (fun hc=>?_) (fun hc=>?_)
     ·rw [ifT hc] at hf
      refine oP_intro (.ptr h122.n 0 0) rfl ?_
      refine ifP_iff.2 ⟨rfl,?_⟩
      refine ⟨(.map h113.n),S.rd1 m3 rfl,?_⟩
      obtain ⟨e288,he288,hf⟩:=obind hf
      refine ix_go (S.sl (r:=(fz rTokenlex)) m2) (Hp.le_refl _) he288 fun pe288=>?_
      refine ifP_iff.2 ⟨pe288,?_⟩
      obtain ⟨_,cr289,Rr289,Nr289,Or289,Zr289⟩:=St.idxO (r:=rTokenlex) S m2 he288
      obtain rfl:=rTokenlex_open Rr289
      refine ⟨e288.Text,Or289 1 _ rfl,?_⟩
      refine ⟨_,S.look2 (e:=keS) (ve:=(AV.int .i64)) m5 e288.Text (0:Int),?_⟩
      refine oP_intro (.int .i64 ((mget keS l185 e288.Text).getD (0:Int))) rfl ⟨((mget keS l185 e288.Text).getD (0:Int)),rfl,?_⟩
      refine oP_intro (.bool (mget keS l185 e288.Text).isSome) rfl ⟨(mget keS l185 e288.Text).isSome,rfl,?_⟩
      refine bP_intro (fun hc=>?_) (fun hc=>?_)
      ·rw [ifT hc] at hf
       refine oP_intro (.ptr h122.n 0 0) rfl ?_
       refine ifP_iff.2 ⟨rfl,?_⟩
       refine ⟨(.map h113.n),S.rd1 m3 rfl,?_⟩
       obtain ⟨e290,he290,hf⟩:=obind hf
       refine ix_go (S.sl (r:=(fz rTokenlex)) m2) (Hp.le_refl _) he290 fun pe290=>?_
       refine ifP_iff.2 ⟨pe290,?_⟩
       obtain ⟨_,cr291,Rr291,Nr291,Or291,Zr291⟩:=St.idxO (r:=rTokenlex) S m2 he290
       obtain rfl:=rTokenlex_open Rr291
       refine ⟨e290.Text,Or291 1 _ rfl,?_⟩
       refine oP_intro (.ptr h122.n 0 0) rfl ?_
       refine ifP_iff.2 ⟨rfl,?_⟩
       refine ⟨(.map h113.n),S.rd1 m3 rfl,?_⟩
       refine ⟨_,S.lenM (e:=keS) (ve:=(AV.int .i64)) m5,_,rfl,?_⟩
       have S:St _ _ [_,_,_,_,_,_,_] _:=S.sel [5,0,1,2,3,4,6] rfl
       obtain ⟨h292,e293,S⟩:=S.setM e290.Text (l185.length:Int)
       refine ⟨_,h292,e293,?_⟩
       have S:St _ _ [_,_,_,_,_,_,_] _:=S.sel [1,2,3,4,5,0,6] rfl
       exact hjj0  _ (mput keS l185 e290.Text (l185.length:Int)) hf  S
      ·rw [ifF hc] at hf
       exact hjj0  _ l185 hf  S
     ·rw [ifF hc] at hf
      exact hjj0  _ l185 hf  S
    refine bP_intro (fun hc=>?_) (fun hc=>?_)
    ·rw [ifT hc] at hf
     obtain ⟨e295,he295,hf⟩:=obind hf
     refine ix_go (S.sl (r:=(fz rTokenlex)) m3) (Hp.le_refl _) he295 fun pe295=>?_
     refine ifP_iff.2 ⟨pe295,?_⟩
     obtain ⟨_,cr296,Rr296,Nr296,Or296,Zr296⟩:=St.idxO (r:=rTokenlex) S m3 he295
     obtain rfl:=rTokenlex_open Rr296
     refine ⟨e295.Kind,Or296 0 _ rfl,?_⟩
     have S:St _ _ [_,_,_,_,_,_,_] _:=S.sel [1,2,3,4,5,6,7] rfl
     exact hjj1 _ _  hf rfl S
    ·rw [ifF hc] at hf
     have S:St _ _ [_,_,_,_,_,_,_] _:=S.sel [1,2,3,4,5,6,7] rfl
     exact hjj1 _ _  hf rfl S
   ·rw [ifE hc] at hf
    have S:St _ _ [_,_,_,_,_,_,_] _:=S.sel [0,1,3,4,2,5,6] rfl
    obtain rfl:=oi hf
    obtain rfl:=hk
    exact ⟨l185,rfl,rfl,rfl,S,rfl⟩
  ·exact ⟨[],rfl,rfl,rfl,rfl,rfl,rfl,S,hL⟩
/-! 45: marblerun/marblerunref05.sameArcs -/
noncomputable def p45_l0 (a0:List TArc) (b1:List TArc) (i104:Int):Option (Int⊕(Unit⊕Unit)):=if i104 < (a0.length:Int) then ((idx a0 i104).bind fun e125=>(idx b1 i104).bind fun e127=>if (!((decide (e125.Place=e127.Place))&&((decide (e125.N=e127.N))&&true)))=true then (some (.inr (.inl ()))) else (some (.inl (IntKind.wrap .i64 (i104+(1:Int)))))) else (some (.inr (.inr ())))
noncomputable def p45 (a0:List TArc) (b1:List TArc):Option Bool:=if (!decide ((a0.length:Int)=(b1.length:Int)))=true then (some false) else ((loopC (p45_l0 a0 b1) (0:Int)).bind fun res121=>(match res121 with | .inl _=>some false | .inr _=>some true))
theorem r45 {h:Heap} {a0_0:AV} {a1_0:AV} {a0:List TArc} {b1:List TArc} (f0_0:SlR rArc (Snap h) a0_0 a0) (f1_0:SlR rArc (Snap h) a1_0 b1) {r:Bool} (hf:p45 a0 b1=some r):ZCalls F 45 [a0_0,a1_0] h fun v h'=>v=.bool r∧St h none' [] h':=by
 refine w45 ?_
 unfold W45
 unfold p45 at hf
 have S:St h none' [] h:=St.refl _ _
 refine ifP_iff.2 ⟨(f0_0).is,?_⟩
 try rw [show (a0_0).slen=_ from (f0_0).slen]
 refine ifP_iff.2 ⟨(f1_0).is,?_⟩
 try rw [show (a1_0).slen=_ from (f1_0).slen]
 refine bP_intro (fun hc=>?_) (fun hc=>?_)
 ·rw [ifT hc] at hf
  obtain rfl:=oi hf
  exact ⟨rfl,S.sel [] rfl⟩
 ·rw [ifF hc] at hf
  obtain ⟨res121,hL,hf⟩:=obind hf
  obtain ⟨n122,hL⟩:=loopC_iff.1 hL
  refine loopm45_0 (R:=fun (a111:AV) (b112:AV) (y113:Bool) (i114:Int) (h115:Heap)=>false=y113∧St h none' [] h115∧(.inl ())=res121) (X0:=fun (a116:AV) (b117:AV) (y118:Bool) (i119:Int) (h120:Heap)=>St h none' [] h120∧(.inr ())=res121) ?_ ?_ (loop45_0 (I:=fun (m124:Nat) (a101:AV) (b102:AV) (y103:Bool) (i104:Int) (h105:Heap)=>a0_0=a101∧a1_0=b102∧St h none' [] h105∧iter (p45_l0 a0 b1) m124 i104=some res121) ?_ (m:=n122) ?_)
  ·rintro a111 b112 y113 i114 h115 ⟨rfl,S,rfl⟩
   try dsimp only at hf
   obtain rfl:=oi hf
   exact ⟨rfl,S.sel [] rfl⟩
  ·rintro a116 b117 y118 i119 h120 ⟨S,rfl⟩
   try dsimp only at hf
   obtain rfl:=oi hf
   exact ⟨rfl,S.sel [] rfl⟩
  ·rintro m1240 a101 b102 y103 i104 h105 ⟨rfl,rfl,S,hit⟩
   obtain ⟨m124,q123,rfl,hf,hk⟩:=iter_some hit
   clear hit
   unfold B45_0
   unfold p45_l0 at hf
   try dsimp only at hf
   refine ifP_iff.2 ⟨(f0_0).is,?_⟩
   try rw [show (a0_0).slen=_ from (f0_0).slen]
   refine bP_intro (fun hc=>?_) (fun hc=>?_)
   ·rw [ifD hc] at hf
    obtain ⟨e125,he125,hf⟩:=obind hf
    refine ix_go f0_0 (snap_mono S.le) he125 fun pe125=>?_
    obtain ⟨_,cr126,Rr126,Nr126,Or126,Zr126⟩:=SlR.idx f0_0 (snap_mono S.le) he125
    obtain rfl:=rArc_open Rr126
    refine ⟨(.int .i64 e125.Place),(.int .i64 e125.N),Nr126,?_⟩
    obtain ⟨e127,he127,hf⟩:=obind hf
    refine ix_go f1_0 (snap_mono S.le) he127 fun pe127=>?_
    obtain ⟨_,cr128,Rr128,Nr128,Or128,Zr128⟩:=SlR.idx f1_0 (snap_mono S.le) he127
    obtain rfl:=rArc_open Rr128
    refine ⟨(.int .i64 e127.Place),(.int .i64 e127.N),Nr128,?_⟩
    refine oP_intro (.bool (!((decide (e125.Place=e127.Place))&&((decide (e125.N=e127.N))&&true)))) rfl ⟨(!((decide (e125.Place=e127.Place))&&((decide (e125.N=e127.N))&&true))),rfl,?_⟩
    refine bP_intro (fun hc=>?_) (fun hc=>?_)
    ·rw [ifT hc] at hf
     obtain rfl:=oi hf
     obtain rfl:=hk
     exact ⟨rfl,S,rfl⟩
    ·rw [ifF hc] at hf
     obtain rfl:=oi hf
     exact ⟨m124,Nat.lt_succ_self _,rfl,rfl,S,hk⟩
   ·rw [ifE hc] at hf
    obtain rfl:=oi hf
    obtain rfl:=hk
    exact ⟨S,rfl⟩
  ·exact ⟨rfl,rfl,S,hL⟩
/-! 29: marblerun/marblerunref05.Same -/
noncomputable def p29_l0 (x0:TNet) (x1:TNet) (st:Bool×Int):Option ((Bool×Int)⊕(Unit⊕Bool)):=match st with | (y112,y113)=>if y113 < (x0.Places.length:Int) then ((idx x0.Places y113).bind fun e134=>(idx x1.Places y113).bind fun e136=>if (!((e134.Name==e136.Name)&&((decide (e134.Tokens=e136.Tokens))&&true)))=true then (some (.inr (.inl ()))) else (some (.inl (y112,(IntKind.wrap .i64 (y113+(1:Int))))))) else (some (.inr (.inr y112)))
noncomputable def p29_j0 (y141:Int) (b275:Bool):Option (Int⊕(Unit⊕Unit)):=if b275=true then (some (.inr (.inl ()))) else (some (.inl (IntKind.wrap .i64 (y141+(1:Int)))))
noncomputable def p29_j1 (y141:Int) (e226:TTrans) (e232:TTrans) (b265:Bool):Option (Int⊕(Unit⊕Unit)):=if b265=true then (p29_j0 y141 true) else ((p45 e226.Out e232.Out).bind fun y283=>p29_j0 y141 (!y283))
noncomputable def p29_j2 (y141:Int) (e226:TTrans) (e232:TTrans) (b255:Bool):Option (Int⊕(Unit⊕Unit)):=if b255=true then (p29_j1 y141 e226 e232 true) else ((p45 e226.Not e232.Not).bind fun y287=>p29_j1 y141 e226 e232 (!y287))
noncomputable def p29_j3 (y141:Int) (e226:TTrans) (e232:TTrans) (b245:Bool):Option (Int⊕(Unit⊕Unit)):=if b245=true then (p29_j2 y141 e226 e232 true) else ((p45 e226.In e232.In).bind fun y291=>p29_j2 y141 e226 e232 (!y291))
noncomputable def p29_j4 (y141:Int) (e226:TTrans) (e232:TTrans) (b238:Bool):Option (Int⊕(Unit⊕Unit)):=if b238=true then (p29_j3 y141 e226 e232 true) else (p29_j3 y141 e226 e232 (!decide (e226.Prio=e232.Prio)))
noncomputable def p29_l1 (x0:TNet) (x1:TNet) (y141:Int):Option (Int⊕(Unit⊕Unit)):=if y141 < (x0.Trans.length:Int) then ((idx x0.Trans y141).bind fun e226=>(idx x1.Trans y141).bind fun e232=>if (!(e226.Name==e232.Name))=true then (p29_j4 y141 e226 e232 true) else (p29_j4 y141 e226 e232 (!decide (e226.Delay=e232.Delay)))) else (some (.inr (.inr ())))
noncomputable def p29_j5 (x0:TNet) (x1:TNet) (b105:Bool):Option Bool:=if b105=true then (some false) else ((loopC (p29_l0 x0 x1) (false,(0:Int))).bind fun res130=>(match res130 with | .inl _=>some false | .inr y127=>(loopC (p29_l1 x0 x1) (0:Int)).bind fun res222=>(match res222 with | .inl _=>some false | .inr _=>some true)))
noncomputable def p29 (x0:TNet) (x1:TNet):Option Bool:=if (!decide ((x0.Places.length:Int)=(x1.Places.length:Int)))=true then (p29_j5 x0 x1 true) else (p29_j5 x0 x1 (!decide ((x0.Trans.length:Int)=(x1.Trans.length:Int))))
theorem r29 {h:Heap} {a0_0:AV} {a0_1:AV} {a1_0:AV} {a1_1:AV} {x0:TNet} {x1:TNet} (f0_0:SlR rPlace (Snap h) a0_0 x0.Places) (f0_1:SlR rTrans (Snap h) a0_1 x0.Trans) (f1_0:SlR rPlace (Snap h) a1_0 x1.Places) (f1_1:SlR rTrans (Snap h) a1_1 x1.Trans) {r:Bool} (hf:p29 x0 x1=some r):ZCalls F 29 [(.agg [a0_0,a0_1]),(.agg [a1_0,a1_1])] h fun v h'=>v=.bool r∧St h none' [] h':=by
 refine w29 ?_
 unfold W29
 unfold p29 at hf
 have S:St h none' [] h:=St.refl _ _
 intro h101
 have S:St _ _ [rowC h.n [a0_0,a0_1] 0] _:=S.pushRow [a0_0,a0_1]
 intro h103
 have S:St _ _ [rowC h101.n [a1_0,a1_1] 0,_] _:=S.pushRow [a1_0,a1_1]
 refine ⟨a0_0,S.rd1 m1 rfl,?_⟩
 refine ifP_iff.2 ⟨(f0_0).is,?_⟩
 try rw [show (a0_0).slen=_ from (f0_0).slen]
 refine ⟨a1_0,S.rd1 m0 rfl,?_⟩
 refine ifP_iff.2 ⟨(f1_0).is,?_⟩
 try rw [show (a1_0).slen=_ from (f1_0).slen]
 intro jjj5
 have hjj5:∀ (b105:Bool) (h106:Heap),p29_j5 x0 x1 b105=some r→h103=h106→St h none' [rowC h.n [a0_0,a0_1] 0,rowC h101.n [a1_0,a1_1] 0] h103→jjj5 b105 h106:=by
  rintro b105 h106 hf rfl S
  unfold p29_j5 at hf
  unfold jjj5
  refine bP_intro (fun hc=>?_) (fun hc=>?_)
  ·rw [ifT hc] at hf
   obtain rfl:=oi hf
   exact ⟨rfl,S.sel [] rfl⟩
  ·rw [ifF hc] at hf
   obtain ⟨res130,hL,hf⟩:=obind hf
   obtain ⟨n131,hL⟩:=loopC_iff.1 hL
   refine loopm29_0 (R:=fun (y120:AV) (y121:AV) (y122:Bool) (y123:Int) (h124:Heap)=>false=y122∧St h none' [] h124∧(.inl ())=res130) (X0:=fun (y125:AV) (y126:AV) (y127:Bool) (y128:Int) (h129:Heap)=>AV.ptr h.n 0 0=y125∧AV.ptr h101.n 0 0=y126∧St h none' [rowC h.n [a0_0,a0_1] 0,rowC h101.n [a1_0,a1_1] 0] h129∧(.inr y127)=res130) ?_ ?_ (loop29_0 (I:=fun (m133:Nat) (y110:AV) (y111:AV) (y112:Bool) (y113:Int) (h114:Heap)=>AV.ptr h.n 0 0=y110∧AV.ptr h101.n 0 0=y111∧St h none' [rowC h.n [a0_0,a0_1] 0,rowC h101.n [a1_0,a1_1] 0] h114∧iter (p29_l0 x0 x1) m133 (y112,y113)=some res130) ?_ (m:=n131) ?_)
   ·rintro y120 y121 y122 y123 h124 ⟨rfl,S,rfl⟩
    try dsimp only at hf
    obtain rfl:=oi hf
    exact ⟨rfl,S.sel [] rfl⟩
   ·rintro y125 y126 y127 y128 h129 ⟨rfl,rfl,S,rfl⟩
    try dsimp only at hf
    obtain ⟨res222,hL,hf⟩:=obind hf
    obtain ⟨n223,hL⟩:=loopC_iff.1 hL
    refine loopm29_1 (R:=fun (y212:AV) (y213:AV) (y214:Bool) (y215:Int) (h216:Heap)=>false=y214∧St h none' [] h216∧(.inl ())=res222) (X2:=fun (y217:AV) (y218:AV) (y219:Bool) (y220:Int) (h221:Heap)=>St h none' [] h221∧(.inr ())=res222) ?_ ?_ (loop29_1 (I:=fun (m225:Nat) (y138:AV) (y139:AV) (y140:Bool) (y141:Int) (h142:Heap)=>AV.ptr h.n 0 0=y138∧AV.ptr h101.n 0 0=y139∧St h none' [rowC h.n [a0_0,a0_1] 0,rowC h101.n [a1_0,a1_1] 0] h142∧iter (p29_l1 x0 x1) m225 y141=some res222) ?_ (m:=n223) ?_)
    ·rintro y212 y213 y214 y215 h216 ⟨rfl,S,rfl⟩
     try dsimp only at hf
     obtain rfl:=oi hf
     exact ⟨rfl,S.sel [] rfl⟩
    ·rintro y217 y218 y219 y220 h221 ⟨S,rfl⟩
     try dsimp only at hf
     obtain rfl:=oi hf
     exact ⟨rfl,S.sel [] rfl⟩
    ·rintro m2250 y138 y139 y140 y141 h142 ⟨rfl,rfl,S,hit⟩
     obtain ⟨m225,q224,rfl,hf,hk⟩:=iter_some hit
     clear hit
     unfold B29_1
     unfold p29_l1 at hf
     try dsimp only at hf
     refine ifP_iff.2 ⟨rfl,?_⟩
     refine ⟨a0_1,S.rd1 m0 rfl,?_⟩
     refine ifP_iff.2 ⟨(f0_1).is,?_⟩
     try rw [show (a0_1).slen=_ from (f0_1).slen]
     refine bP_intro (fun hc=>?_) (fun hc=>?_)
     ·rw [ifD hc] at hf
      refine ifP_iff.2 ⟨rfl,?_⟩
      refine ⟨a0_1,S.rd1 m0 rfl,?_⟩
      obtain ⟨e226,he226,hf⟩:=obind hf
      refine ix_go f0_1 (snap_mono S.le) he226 fun pe226=>?_
      obtain ⟨_,cr227,Rr227,Nr227,Or227,Zr227⟩:=SlR.idx f0_1 (snap_mono S.le) he226
      obtain ⟨cr227_3,cr227_4,cr227_5,rfl,Fr227_3,Fr227_4,Fr227_5⟩:=rTrans_open Rr227
      refine ⟨(.str e226.Name),(.int .i64 e226.Delay),(.int .i64 e226.Prio),cr227_3,cr227_4,cr227_5,Nr227,?_⟩
      intro h228
      have S:St _ _ [rowC h142.n [(.str ([]:List UInt8)),(.int .i64 0),(.int .i64 0),.nilSlice,.nilSlice,.nilSlice] 0,_,_] _:=S.pushRow [(.str ([]:List UInt8)),(.int .i64 0),(.int .i64 0),.nilSlice,.nilSlice,.nilSlice]
      obtain ⟨h230,e231,S⟩:=S.store (off:=0) (n:=6) (x:=(.agg [(.str e226.Name),(.int .i64 e226.Delay),(.int .i64 e226.Prio),cr227_3,cr227_4,cr227_5])) (cs':=[(.str e226.Name),(.int .i64 e226.Delay),(.int .i64 e226.Prio),cr227_3,cr227_4,cr227_5]) (nl rfl) rfl rfl rfl
      refine ⟨h230,e231,?_⟩
      refine ifP_iff.2 ⟨rfl,?_⟩
      refine ⟨a1_1,S.rd1 m2 rfl,?_⟩
      obtain ⟨e232,he232,hf⟩:=obind hf
      refine ix_go f1_1 (snap_mono S.le) he232 fun pe232=>?_
      obtain ⟨_,cr233,Rr233,Nr233,Or233,Zr233⟩:=SlR.idx f1_1 (snap_mono S.le) he232
      obtain ⟨cr233_3,cr233_4,cr233_5,rfl,Fr233_3,Fr233_4,Fr233_5⟩:=rTrans_open Rr233
      refine ⟨(.str e232.Name),(.int .i64 e232.Delay),(.int .i64 e232.Prio),cr233_3,cr233_4,cr233_5,Nr233,?_⟩
      intro h234
      have S:St _ _ [rowC h230.n [(.str ([]:List UInt8)),(.int .i64 0),(.int .i64 0),.nilSlice,.nilSlice,.nilSlice] 0,_,_,_] _:=S.pushRow [(.str ([]:List UInt8)),(.int .i64 0),(.int .i64 0),.nilSlice,.nilSlice,.nilSlice]
      obtain ⟨h236,e237,S⟩:=S.store (off:=0) (n:=6) (x:=(.agg [(.str e232.Name),(.int .i64 e232.Delay),(.int .i64 e232.Prio),cr233_3,cr233_4,cr233_5])) (cs':=[(.str e232.Name),(.int .i64 e232.Delay),(.int .i64 e232.Prio),cr233_3,cr233_4,cr233_5]) (nl rfl) rfl rfl rfl
      refine ⟨h236,e237,?_⟩
      refine ⟨e226.Name,S.rd1 m1 rfl,?_⟩
      refine ⟨e232.Name,S.rd1 m0 rfl,?_⟩
      intro jjj4
      have hjj4:∀ (b238:Bool) (h239:Heap),p29_j4 y141 e226 e232 b238=some q224→h236=h239→St h none' [rowC h.n [a0_0,a0_1] 0,rowC h101.n [a1_0,a1_1] 0,rowC h142.n [(.str e226.Name),(.int .i64 e226.Delay),(.int .i64 e226.Prio),cr227_3,cr227_4,cr227_5] 0,rowC h230.n [(.str e232.Name),(.int .i64 e232.Delay),(.int .i64 e232.Prio),cr233_3,cr233_4,cr233_5] 0] h236→jjj4 b238 h239:=by
       rintro b238 h239 hf rfl S
       unfold p29_j4 at hf
       unfold jjj4
       intro jjj3
       have hjj3:∀ (b245:Bool) (h246:Heap),p29_j3 y141 e226 e232 b245=some q224→h236=h246→St h none' [rowC h.n [a0_0,a0_1] 0,rowC h101.n [a1_0,a1_1] 0,rowC h142.n [(.str e226.Name),(.int .i64 e226.Delay),(.int .i64 e226.Prio),cr227_3,cr227_4,cr227_5] 0,rowC h230.n [(.str e232.Name),(.int .i64 e232.Delay),(.int .i64 e232.Prio),cr233_3,cr233_4,cr233_5] 0] h236→jjj3 b245 h246:=by
        rintro b245 h246 hf rfl S
        unfold p29_j3 at hf
        unfold jjj3
        intro jjj2
        have hjj2:∀ (b255:Bool) (h256:Heap),p29_j2 y141 e226 e232 b255=some q224→St h none' [rowC h.n [a0_0,a0_1] 0,rowC h101.n [a1_0,a1_1] 0,rowC h142.n [(.str e226.Name),(.int .i64 e226.Delay),(.int .i64 e226.Prio),cr227_3,cr227_4,cr227_5] 0,rowC h230.n [(.str e232.Name),(.int .i64 e232.Delay),(.int .i64 e232.Prio),cr233_3,cr233_4,cr233_5] 0] h256→jjj2 b255 h256:=by
         rintro b255 h256 hf S
         unfold p29_j2 at hf
         unfold jjj2
         intro jjj1
         have hjj1:∀ (b265:Bool) (h266:Heap),p29_j1 y141 e226 e232 b265=some q224→St h none' [rowC h.n [a0_0,a0_1] 0,rowC h101.n [a1_0,a1_1] 0,rowC h142.n [(.str e226.Name),(.int .i64 e226.Delay),(.int .i64 e226.Prio),cr227_3,cr227_4,cr227_5] 0,rowC h230.n [(.str e232.Name),(.int .i64 e232.Delay),(.int .i64 e232.Prio),cr233_3,cr233_4,cr233_5] 0] h266→jjj1 b265 h266:=by
          rintro b265 h266 hf S
          unfold p29_j1 at hf
          unfold jjj1
          intro jjj0
          have hjj0:∀ (b275:Bool) (h276:Heap),p29_j0 y141 b275=some q224→St h none' [rowC h.n [a0_0,a0_1] 0,rowC h101.n [a1_0,a1_1] 0] h276→jjj0 b275 h276:=by
           rintro b275 h276 hf S
           unfold p29_j0 at hf
           unfold jjj0
           refine bP_intro (fun hc=>?_) (fun hc=>?_)
           ·rw [ifT hc] at hf
            have S:St _ _ [] _:=S.sel [] rfl
            obtain rfl:=oi hf
            obtain rfl:=hk
            exact ⟨rfl,S,rfl⟩
           ·rw [ifF hc] at hf
            obtain rfl:=oi hf
            exact ⟨m225,Nat.lt_succ_self _,rfl,rfl,S,hk⟩
          refine bP_intro (fun hc=>?_) (fun hc=>?_)
          ·rw [ifT hc] at hf
           have S:St _ _ [_,_] _:=S.sel [0,1] rfl
           exact hjj0 _ _  hf  S
          ·rw [ifF hc] at hf
           refine ifP_iff.2 ⟨rfl,?_⟩
           refine ⟨cr227_5,S.rd1 m2 rfl,?_⟩
           refine ifP_iff.2 ⟨rfl,?_⟩
           refine ⟨cr233_5,S.rd1 m3 rfl,?_⟩
           obtain ⟨y283,hy283,hf⟩:=obind hf
           refine ⟨_,Fz.refl _,?_⟩
           refine (r45 (a0:=e226.Out) (b1:=e232.Out) (f0_0:=(SlR.mono (snap_mono S.le) Fr227_5)) (f1_0:=(SlR.mono (snap_mono S.le) Fr233_5)) hy283).mono fun v281 h282 T=>?_
           obtain ⟨rfl,T⟩:=T
           have S:St _ _ [_,_,_,_] _:=S.comp T
           refine ⟨y283,rfl,?_⟩
           have S:St _ _ [_,_] _:=S.sel [0,1] rfl
           exact hjj0 _ _  hf  S
         refine bP_intro (fun hc=>?_) (fun hc=>?_)
         ·rw [ifT hc] at hf
          exact hjj1 _ _  hf  S
         ·rw [ifF hc] at hf
          refine ifP_iff.2 ⟨rfl,?_⟩
          refine ⟨cr227_4,S.rd1 m2 rfl,?_⟩
          refine ifP_iff.2 ⟨rfl,?_⟩
          refine ⟨cr233_4,S.rd1 m3 rfl,?_⟩
          obtain ⟨y287,hy287,hf⟩:=obind hf
          refine ⟨_,Fz.refl _,?_⟩
          refine (r45 (a0:=e226.Not) (b1:=e232.Not) (f0_0:=(SlR.mono (snap_mono S.le) Fr227_4)) (f1_0:=(SlR.mono (snap_mono S.le) Fr233_4)) hy287).mono fun v285 h286 T=>?_
          obtain ⟨rfl,T⟩:=T
          have S:St _ _ [_,_,_,_] _:=S.comp T
          refine ⟨y287,rfl,?_⟩
          exact hjj1 _ _  hf  S
        refine bP_intro (fun hc=>?_) (fun hc=>?_)
        ·rw [ifT hc] at hf
         exact hjj2 _ _  hf  S
        ·rw [ifF hc] at hf
         refine ifP_iff.2 ⟨rfl,?_⟩
         refine ⟨cr227_3,S.rd1 m2 rfl,?_⟩
         refine ifP_iff.2 ⟨rfl,?_⟩
         refine ⟨cr233_3,S.rd1 m3 rfl,?_⟩
         obtain ⟨y291,hy291,hf⟩:=obind hf
         refine ⟨_,Fz.refl _,?_⟩
         refine (r45 (a0:=e226.In) (b1:=e232.In) (f0_0:=(SlR.mono (snap_mono S.le) Fr227_3)) (f1_0:=(SlR.mono (snap_mono S.le) Fr233_3)) hy291).mono fun v289 h290 T=>?_
         obtain ⟨rfl,T⟩:=T
         have S:St _ _ [_,_,_,_] _:=S.comp T
         refine ⟨y291,rfl,?_⟩
         exact hjj2 _ _  hf  S
       refine bP_intro (fun hc=>?_) (fun hc=>?_)
       ·rw [ifT hc] at hf
        exact hjj3 _ _  hf rfl S
       ·rw [ifF hc] at hf
        refine ifP_iff.2 ⟨rfl,?_⟩
        refine ⟨e226.Prio,S.rd1 m2 rfl,?_⟩
        refine ifP_iff.2 ⟨rfl,?_⟩
        refine ⟨e232.Prio,S.rd1 m3 rfl,?_⟩
        exact hjj3 _ _  hf rfl S
      refine bP_intro (fun hc=>?_) (fun hc=>?_)
      ·rw [ifT hc] at hf
       have S:St _ _ [_,_,_,_] _:=S.sel [2,3,1,0] rfl
       exact hjj4 _ _  hf rfl S
      ·rw [ifF hc] at hf
       refine ⟨e226.Delay,S.rd1 m1 rfl,?_⟩
       refine ⟨e232.Delay,S.rd1 m0 rfl,?_⟩
       have S:St _ _ [_,_,_,_] _:=S.sel [2,3,1,0] rfl
       exact hjj4 _ _  hf rfl S
     ·rw [ifE hc] at hf
      have S:St _ _ [] _:=S.sel [] rfl
      obtain rfl:=oi hf
      obtain rfl:=hk
      exact ⟨S,rfl⟩
    ·exact ⟨rfl,rfl,S,hL⟩
   ·rintro m1330 y110 y111 y112 y113 h114 ⟨rfl,rfl,S,hit⟩
    obtain ⟨m133,q132,rfl,hf,hk⟩:=iter_some hit
    clear hit
    unfold B29_0
    unfold p29_l0 at hf
    try dsimp only at hf
    refine ifP_iff.2 ⟨rfl,?_⟩
    refine ⟨a0_0,S.rd1 m0 rfl,?_⟩
    refine ifP_iff.2 ⟨(f0_0).is,?_⟩
    try rw [show (a0_0).slen=_ from (f0_0).slen]
    refine bP_intro (fun hc=>?_) (fun hc=>?_)
    ·rw [ifD hc] at hf
     refine ifP_iff.2 ⟨rfl,?_⟩
     refine ⟨a0_0,S.rd1 m0 rfl,?_⟩
     obtain ⟨e134,he134,hf⟩:=obind hf
     refine ix_go f0_0 (snap_mono S.le) he134 fun pe134=>?_
     obtain ⟨_,cr135,Rr135,Nr135,Or135,Zr135⟩:=SlR.idx f0_0 (snap_mono S.le) he134
     obtain rfl:=rPlace_open Rr135
     refine ⟨(.str e134.Name),(.int .i64 e134.Tokens),Nr135,?_⟩
     refine ifP_iff.2 ⟨rfl,?_⟩
     refine ⟨a1_0,S.rd1 m1 rfl,?_⟩
     obtain ⟨e136,he136,hf⟩:=obind hf
     refine ix_go f1_0 (snap_mono S.le) he136 fun pe136=>?_
     obtain ⟨_,cr137,Rr137,Nr137,Or137,Zr137⟩:=SlR.idx f1_0 (snap_mono S.le) he136
     obtain rfl:=rPlace_open Rr137
     refine ⟨(.str e136.Name),(.int .i64 e136.Tokens),Nr137,?_⟩
     refine oP_intro (.bool (!((e134.Name==e136.Name)&&((decide (e134.Tokens=e136.Tokens))&&true)))) rfl ⟨(!((e134.Name==e136.Name)&&((decide (e134.Tokens=e136.Tokens))&&true))),rfl,?_⟩
     refine bP_intro (fun hc=>?_) (fun hc=>?_)
     ·rw [ifT hc] at hf
      have S:St _ _ [] _:=S.sel [] rfl
      obtain rfl:=oi hf
      obtain rfl:=hk
      exact ⟨rfl,S,rfl⟩
     ·rw [ifF hc] at hf
      obtain rfl:=oi hf
      exact ⟨m133,Nat.lt_succ_self _,rfl,rfl,S,hk⟩
    ·rw [ifE hc] at hf
     obtain rfl:=oi hf
     obtain rfl:=hk
     exact ⟨rfl,rfl,S,rfl⟩
   ·exact ⟨rfl,rfl,S,hL⟩
 refine bP_intro (fun hc=>?_) (fun hc=>?_)
 ·rw [ifT hc] at hf
  have S:St _ _ [_,_] _:=S.sel [1,0] rfl
  exact hjj5 _ _  hf rfl S
 ·rw [ifF hc] at hf
  refine ⟨a0_1,S.rd1 m1 rfl,?_⟩
  refine ifP_iff.2 ⟨(f0_1).is,?_⟩
  try rw [show (a0_1).slen=_ from (f0_1).slen]
  refine ⟨a1_1,S.rd1 m0 rfl,?_⟩
  refine ifP_iff.2 ⟨(f1_1).is,?_⟩
  try rw [show (a1_1).slen=_ from (f1_1).slen]
  have S:St _ _ [_,_] _:=S.sel [1,0] rfl
  exact hjj5 _ _  hf rfl S
/-! 25: marblerun/marblerunlaw06.awake -/
noncomputable def p25_j0 (b130:Bool):Option Bool:=some b130
noncomputable def p25_j1 (u107:TNet×TFault) (b124:Bool):Option Bool:=if b124=true then ((idx u107.1.Trans (0:Int)).bind fun e134=>p25_j0 (decide (e134.Delay=(2:Int)))) else (p25_j0 false)
noncomputable def p25_j2 (u107:TNet×TFault) (b120:Bool):Option Bool:=if b120=true then (p25_j1 u107 (decide ((u107.1.Trans.length:Int)=(1:Int)))) else (p25_j1 u107 false)
noncomputable def p25:Option Bool:=(p26 [(112:Int),(108:Int),(97:Int),(99:Int),(101:Int),(32:Int),(112:Int),(32:Int),(61:Int),(32:Int),(49:Int),(59:Int),(32:Int),(116:Int),(114:Int),(97:Int),(110:Int),(115:Int),(32:Int),(116:Int),(32:Int),(64:Int),(50:Int),(58:Int),(32:Int),(112:Int),(32:Int),(45:Int),(62:Int),(32:Int),(112:Int),(59:Int)]).bind fun u107=>if ((decide (u107.2.Err=(0:Int)))&&((decide (u107.2.At=(0:Int)))&&((decide (u107.2.Line=(0:Int)))&&((decide (u107.2.Col=(0:Int)))&&true))))=true then (p25_j2 u107 (decide ((u107.1.Places.length:Int)=(1:Int)))) else (p25_j2 u107 false)
theorem r25 {h:Heap}   {r:Bool} (hf:p25  = some r):ZCalls F 25 [] h fun v h'=>v=.bool r∧St h none' [] h':=by
 refine w25 ?_
 unfold W25
 unfold p25 at hf
 have S:St h none' [] h:=St.refl _ _
 intro h101
 have S:St _ _ [rowC h.n [(.int .u8 112),(.int .u8 108),(.int .u8 97),(.int .u8 99),(.int .u8 101),(.int .u8 32),(.int .u8 112),(.int .u8 32),(.int .u8 61),(.int .u8 32),(.int .u8 49),(.int .u8 59),(.int .u8 32),(.int .u8 116),(.int .u8 114),(.int .u8 97),(.int .u8 110),(.int .u8 115),(.int .u8 32),(.int .u8 116),(.int .u8 32),(.int .u8 64),(.int .u8 50),(.int .u8 58),(.int .u8 32),(.int .u8 112),(.int .u8 32),(.int .u8 45),(.int .u8 62),(.int .u8 32),(.int .u8 112),(.int .u8 59)] 0] _:=S.pushRow [(.int .u8 112),(.int .u8 108),(.int .u8 97),(.int .u8 99),(.int .u8 101),(.int .u8 32),(.int .u8 112),(.int .u8 32),(.int .u8 61),(.int .u8 32),(.int .u8 49),(.int .u8 59),(.int .u8 32),(.int .u8 116),(.int .u8 114),(.int .u8 97),(.int .u8 110),(.int .u8 115),(.int .u8 32),(.int .u8 116),(.int .u8 32),(.int .u8 64),(.int .u8 50),(.int .u8 58),(.int .u8 32),(.int .u8 112),(.int .u8 32),(.int .u8 45),(.int .u8 62),(.int .u8 32),(.int .u8 112),(.int .u8 59)]
 have S:St _ _ [own (oSl (fz (rI .u8))) [(.slice h.n 0 0 32 1)] [(112:Int),(108:Int),(97:Int),(99:Int),(101:Int),(32:Int),(112:Int),(32:Int),(61:Int),(32:Int),(49:Int),(59:Int),(32:Int),(116:Int),(114:Int),(97:Int),(110:Int),(115:Int),(32:Int),(116:Int),(32:Int),(64:Int),(50:Int),(58:Int),(32:Int),(112:Int),(32:Int),(45:Int),(62:Int),(32:Int),(112:Int),(59:Int)]] _:=St.lit (r:=(rI .u8)) (els:=([(112:Int),(108:Int),(97:Int),(99:Int),(101:Int),(32:Int),(112:Int),(32:Int),(61:Int),(32:Int),(49:Int),(59:Int),(32:Int),(116:Int),(114:Int),(97:Int),(110:Int),(115:Int),(32:Int),(116:Int),(32:Int),(64:Int),(50:Int),(58:Int),(32:Int),(112:Int),(32:Int),(45:Int),(62:Int),(32:Int),(112:Int),(59:Int)]:List Int).map fun n=>[AV.int .u8 n]) (l:=([(112:Int),(108:Int),(97:Int),(99:Int),(101:Int),(32:Int),(112:Int),(32:Int),(61:Int),(32:Int),(49:Int),(59:Int),(32:Int),(116:Int),(114:Int),(97:Int),(110:Int),(115:Int),(32:Int),(116:Int),(32:Int),(64:Int),(50:Int),(58:Int),(32:Int),(112:Int),(32:Int),(45:Int),(62:Int),(32:Int),(112:Int),(59:Int)]:List Int)) (n:=32) S rfl (all2_intL _) rfl
 refine ⟨_,_,S.byteConv (r:=(fz (rI .u8))) m0 (by simp [AV.slen]),?_⟩
 obtain ⟨u107,hu107,hf⟩:=obind hf
 obtain ⟨h104,z103,S⟩:=St.freeze S
 refine ⟨_,z103,?_⟩
 refine (r26 (x0:=[(112:Int),(108:Int),(97:Int),(99:Int),(101:Int),(32:Int),(112:Int),(32:Int),(61:Int),(32:Int),(49:Int),(59:Int),(32:Int),(116:Int),(114:Int),(97:Int),(110:Int),(115:Int),(32:Int),(116:Int),(32:Int),(64:Int),(50:Int),(58:Int),(32:Int),(112:Int),(32:Int),(45:Int),(62:Int),(32:Int),(112:Int),(59:Int)]) (f0_0:=S.slz (r:=(rI .u8)) m0) hu107).mono fun v105 h106 T=>?_
 obtain ⟨c108,rfl,T⟩:=T
 have S:=S.comp T
 obtain ⟨au107_0,au107_1,rfl,Fau107_0,Fau107_1⟩:=rNet_open (S.fzr (.head _))
 have S:=S.drop
 have S:St _ _ [own (fz (rSl rPlace)) [au107_0] u107.1.Places,_] _:=S.add (rSl_mk Fau107_0)
 have S:St _ _ [own (fz (rSl rTrans)) [au107_1] u107.1.Trans,_,_] _:=S.add (rSl_mk Fau107_1)
 refine oP_intro (.agg [au107_0,au107_1]) rfl ?_
 refine oP_intro (.agg [(.int .i64 u107.2.Err),(.int .i64 u107.2.At),(.int .i64 u107.2.Line),(.int .i64 u107.2.Col)]) rfl ?_
 intro h112
 have S:St _ _ [rowC h106.n [.nilSlice,.nilSlice] 0,_,_,_] _:=S.pushRow [.nilSlice,.nilSlice]
 intro h114
 have S:St _ _ [rowC h112.n [(.int .i64 0),(.int .i64 0),(.int .i64 0),(.int .i64 0)] 0,_,_,_,_] _:=S.pushRow [(.int .i64 0),(.int .i64 0),(.int .i64 0),(.int .i64 0)]
 have S:St _ _ [_,_,_,_,_] _:=S.sel [1,0,2,3,4] rfl
 obtain ⟨h116,e117,S⟩:=S.store (off:=0) (n:=2) (x:=(.agg [au107_0,au107_1])) (cs':=[au107_0,au107_1]) (nl rfl) rfl rfl rfl
 refine ⟨h116,e117,?_⟩
 have S:St _ _ [_,_,_,_,_] _:=S.sel [1,0,2,3,4] rfl
 obtain ⟨h118,e119,S⟩:=S.store (off:=0) (n:=4) (x:=(.agg [(.int .i64 u107.2.Err),(.int .i64 u107.2.At),(.int .i64 u107.2.Line),(.int .i64 u107.2.Col)])) (cs':=[(.int .i64 u107.2.Err),(.int .i64 u107.2.At),(.int .i64 u107.2.Line),(.int .i64 u107.2.Col)]) (nl rfl) rfl rfl rfl
 refine ⟨h118,e119,?_⟩
 refine ⟨(.int .i64 u107.2.Err),(.int .i64 u107.2.At),(.int .i64 u107.2.Line),(.int .i64 u107.2.Col),S.rdN m0 (nl rfl) rfl,?_⟩
 refine oP_intro (.bool ((decide (u107.2.Err=(0:Int)))&&((decide (u107.2.At=(0:Int)))&&((decide (u107.2.Line=(0:Int)))&&((decide (u107.2.Col=(0:Int)))&&true))))) rfl ⟨((decide (u107.2.Err=(0:Int)))&&((decide (u107.2.At=(0:Int)))&&((decide (u107.2.Line=(0:Int)))&&((decide (u107.2.Col=(0:Int)))&&true)))),rfl,?_⟩
 intro jjj2
 have hjj2:∀ (b120:Bool) (h121:Heap),p25_j2 u107 b120=some r→h118=h121→St h none' [rowC h106.n [au107_0,au107_1] 0,own (fz (rSl rPlace)) [au107_0] u107.1.Places,own (fz (rSl rTrans)) [au107_1] u107.1.Trans] h118→jjj2 b120 h121:=by
  rintro b120 h121 hf rfl S
  unfold p25_j2 at hf
  unfold jjj2
  intro jjj1
  have hjj1:∀ (b124:Bool) (h125:Heap),p25_j1 u107 b124=some r→h118=h125→St h none' [rowC h106.n [au107_0,au107_1] 0,own (fz (rSl rPlace)) [au107_0] u107.1.Places,own (fz (rSl rTrans)) [au107_1] u107.1.Trans] h118→jjj1 b124 h125:=by
   rintro b124 h125 hf rfl S
   unfold p25_j1 at hf
   unfold jjj1
   intro jjj0
   have hjj0:∀ (b130:Bool) (h131:Heap),p25_j0 b130=some r→h118=h131→St h none' [] h118→jjj0 b130 h131:=by
    rintro b130 h131 hf rfl S
    unfold p25_j0 at hf
    unfold jjj0
    obtain rfl:=oi hf
    exact ⟨rfl,S.sel [] rfl⟩
   refine bP_intro (fun hc=>?_) (fun hc=>?_)
   ·rw [ifT hc] at hf
    refine ifP_iff.2 ⟨rfl,?_⟩
    refine ⟨au107_1,S.rd1 m0 rfl,?_⟩
    obtain ⟨e134,he134,hf⟩:=obind hf
    refine ix_go (S.slz (r:=rTrans) m2) (frz_snap _) he134 fun pe134=>?_
    refine ifP_iff.2 ⟨pe134,?_⟩
    obtain ⟨_,cr135,Rr135,Nr135,Or135,Zr135⟩:=SlR.idx (S.slz (r:=rTrans) m2) (frz_snap _) he134
    obtain ⟨cr135_3,cr135_4,cr135_5,rfl,Fr135_3,Fr135_4,Fr135_5⟩:=rTrans_open Rr135
    refine ⟨e134.Delay,Or135 1 _ rfl,?_⟩
    have S:St _ _ [] _:=S.sel [] rfl
    exact hjj0 _ _  hf rfl S
   ·rw [ifF hc] at hf
    have S:St _ _ [] _:=S.sel [] rfl
    exact hjj0 _ _  hf rfl S
  refine bP_intro (fun hc=>?_) (fun hc=>?_)
  ·rw [ifT hc] at hf
   refine ifP_iff.2 ⟨rfl,?_⟩
   refine ⟨au107_1,S.rd1 m0 rfl,?_⟩
   refine ifP_iff.2 ⟨((S.slz (r:=rTrans) m2)).is,?_⟩
   try rw [show (au107_1).slen=_ from ((S.slz (r:=rTrans) m2)).slen]
   exact hjj1 _ _  hf rfl S
  ·rw [ifF hc] at hf
   exact hjj1 _ _  hf rfl S
 refine bP_intro (fun hc=>?_) (fun hc=>?_)
 ·rw [ifT hc] at hf
  refine ⟨au107_0,S.rd1 m1 rfl,?_⟩
  refine ifP_iff.2 ⟨((S.slz (r:=rPlace) m3)).is,?_⟩
  try rw [show (au107_0).slen=_ from ((S.slz (r:=rPlace) m3)).slen]
  have S:St _ _ [_,_,_] _:=S.sel [1,3,2] rfl
  exact hjj2 _ _  hf rfl S
 ·rw [ifF hc] at hf
  have S:St _ _ [_,_,_] _:=S.sel [1,3,2] rfl
  exact hjj2 _ _  hf rfl S
/-! 12: marblerun/marblerunlaw06.ParseAhead -/
noncomputable def p12_j0 (b202:Bool):Option Bool:=some b202
noncomputable def p12_j1 (u148:TNet×TFault) (b197:Bool):Option Bool:=if b197=true then ((idx u148.1.Places (0:Int)).bind fun e205=>p12_j0 (decide (e205.Tokens=(2:Int)))) else (p12_j0 false)
noncomputable def p12_j2 (u148:TNet×TFault) (b194:Bool):Option Bool:=if b194=true then (p12_j1 u148 (decide ((u148.1.Places.length:Int)=(2:Int)))) else (p12_j1 u148 false)
noncomputable def p12_j3 (u110:TNet×TFault) (u148:TNet×TFault) (b187:Bool):Option Bool:=if b187=true then ((p29 u110.1 u148.1).bind fun y211=>p12_j2 u148 (!y211)) else (p12_j2 u148 false)
noncomputable def p12_j4 (u110:TNet×TFault) (u129:TNet×TFault) (u148:TNet×TFault) (b179:Bool):Option Bool:=if b179=true then ((p29 u110.1 u129.1).bind fun y215=>p12_j3 u110 u148 y215) else (p12_j3 u110 u148 false)
noncomputable def p12_j5 (u110:TNet×TFault) (u129:TNet×TFault) (u148:TNet×TFault) (b172:Bool):Option Bool:=if b172=true then (p12_j4 u110 u129 u148 ((decide (u148.2.Err=u110.2.Err))&&((decide (u148.2.At=u110.2.At))&&((decide (u148.2.Line=u110.2.Line))&&((decide (u148.2.Col=u110.2.Col))&&true))))) else (p12_j4 u110 u129 u148 false)
noncomputable def p12_j6 (u110:TNet×TFault) (u129:TNet×TFault) (u148:TNet×TFault) (b164:Bool):Option Bool:=if b164=true then (p12_j5 u110 u129 u148 ((decide (u129.2.Err=u110.2.Err))&&((decide (u129.2.At=u110.2.At))&&((decide (u129.2.Line=u110.2.Line))&&((decide (u129.2.Col=u110.2.Col))&&true))))) else (p12_j5 u110 u129 u148 false)
noncomputable def p12_j7 (y102:List UInt8):Option Bool:=(bytesI y102).bind fun y103=>(p26 y103).bind fun u110=>(p26 [(112:Int),(108:Int),(97:Int),(99:Int),(101:Int),(32:Int),(112:Int),(59:Int),(32:Int),(112:Int),(108:Int),(97:Int),(99:Int),(101:Int),(32:Int),(113:Int),(32:Int),(61:Int),(32:Int),(50:Int),(59:Int),(32:Int),(116:Int),(114:Int),(97:Int),(110:Int),(115:Int),(32:Int),(116:Int),(58:Int),(32:Int),(113:Int),(32:Int),(45:Int),(62:Int),(32:Int),(112:Int),(59:Int)]).bind fun u129=>(p26 [(112:Int),(108:Int),(97:Int),(99:Int),(101:Int),(32:Int),(113:Int),(32:Int),(61:Int),(32:Int),(50:Int),(59:Int),(32:Int),(116:Int),(114:Int),(97:Int),(110:Int),(115:Int),(32:Int),(116:Int),(58:Int),(32:Int),(113:Int),(32:Int),(45:Int),(62:Int),(32:Int),(112:Int),(59:Int),(32:Int),(112:Int),(108:Int),(97:Int),(99:Int),(101:Int),(32:Int),(112:Int),(59:Int)]).bind fun u148=>(p25 ).bind fun y163=>if y163=true then (p12_j6 u110 u129 u148 ((decide (u110.2.Err=(0:Int)))&&((decide (u110.2.At=(0:Int)))&&((decide (u110.2.Line=(0:Int)))&&((decide (u110.2.Col=(0:Int)))&&true))))) else (p12_j6 u110 u129 u148 false)
noncomputable def p12 (x0:Bool):Option Bool:=if x0=true then (p12_j7 ([112,108,97,99,101,32,112,59,32,116,114,97,110,115,32,116,58,32,113,32,45,62,32,112,59,32,112,108,97,99,101,32,113,32,61,32,50,59]:List UInt8)) else (p12_j7 ([116,114,97,110,115,32,116,58,32,113,32,45,62,32,112,59,32,112,108,97,99,101,32,112,59,32,112,108,97,99,101,32,113,32,61,32,50,59]:List UInt8))
theorem r12 {h:Heap}  {x0:Bool} {r:Bool} (hf:p12 x0=some r):ZCalls F 12 [(.bool x0)] h fun v h'=>v=.bool r∧St h none' [] h':=by
 refine w12 ?_
 unfold W12
 unfold p12 at hf
 have S:St h none' [] h:=St.refl _ _
 intro jjj7
 have hjj7:∀ (y102:List UInt8) (h101:Heap),p12_j7 y102=some r→St h none' [] h101→jjj7 y102 h101:=by
  rintro y102 h101 hf S
  unfold p12_j7 at hf
  unfold jjj7
  obtain ⟨y103,hy103,hf⟩:=obind hf
  refine oP_intro _ (bytesI_ob hy103) ?_
  intro h104
  have S:St _ _ [own (oSl (fz (rI .u8))) [(NOp.mk .strToBytes [(.str y102)] h101.n)] y103] _:=(S.ofStr y102).cast1 (by rw [(bytesI_some hy103).2])
  obtain ⟨u110,hu110,hf⟩:=obind hf
  obtain ⟨h107,z106,S⟩:=St.freeze S
  refine ⟨_,z106,?_⟩
  refine (r26 (x0:=y103) (f0_0:=S.slz (r:=(rI .u8)) m0) hu110).mono fun v108 h109 T=>?_
  obtain ⟨c111,rfl,T⟩:=T
  have S:=S.comp T
  obtain ⟨au110_0,au110_1,rfl,Fau110_0,Fau110_1⟩:=rNet_open (S.fzr (.head _))
  have S:=S.drop
  have S:St _ _ [own (fz (rSl rPlace)) [au110_0] u110.1.Places,_] _:=S.add (rSl_mk Fau110_0)
  have S:St _ _ [own (fz (rSl rTrans)) [au110_1] u110.1.Trans,_,_] _:=S.add (rSl_mk Fau110_1)
  refine oP_intro (.agg [au110_0,au110_1]) rfl ?_
  refine oP_intro (.agg [(.int .i64 u110.2.Err),(.int .i64 u110.2.At),(.int .i64 u110.2.Line),(.int .i64 u110.2.Col)]) rfl ?_
  intro h115
  have S:St _ _ [rowC h109.n [.nilSlice,.nilSlice] 0,_,_,_] _:=S.pushRow [.nilSlice,.nilSlice]
  intro h117
  have S:St _ _ [rowC h115.n [(.int .i64 0),(.int .i64 0),(.int .i64 0),(.int .i64 0)] 0,_,_,_,_] _:=S.pushRow [(.int .i64 0),(.int .i64 0),(.int .i64 0),(.int .i64 0)]
  have S:St _ _ [_,_,_,_,_] _:=S.sel [1,0,2,3,4] rfl
  obtain ⟨h119,e120,S⟩:=S.store (off:=0) (n:=2) (x:=(.agg [au110_0,au110_1])) (cs':=[au110_0,au110_1]) (nl rfl) rfl rfl rfl
  refine ⟨h119,e120,?_⟩
  have S:St _ _ [_,_,_,_,_] _:=S.sel [1,0,2,3,4] rfl
  obtain ⟨h121,e122,S⟩:=S.store (off:=0) (n:=4) (x:=(.agg [(.int .i64 u110.2.Err),(.int .i64 u110.2.At),(.int .i64 u110.2.Line),(.int .i64 u110.2.Col)])) (cs':=[(.int .i64 u110.2.Err),(.int .i64 u110.2.At),(.int .i64 u110.2.Line),(.int .i64 u110.2.Col)]) (nl rfl) rfl rfl rfl
  refine ⟨h121,e122,?_⟩
  intro h123
  have S:St _ _ [rowC h121.n [(.int .u8 112),(.int .u8 108),(.int .u8 97),(.int .u8 99),(.int .u8 101),(.int .u8 32),(.int .u8 112),(.int .u8 59),(.int .u8 32),(.int .u8 112),(.int .u8 108),(.int .u8 97),(.int .u8 99),(.int .u8 101),(.int .u8 32),(.int .u8 113),(.int .u8 32),(.int .u8 61),(.int .u8 32),(.int .u8 50),(.int .u8 59),(.int .u8 32),(.int .u8 116),(.int .u8 114),(.int .u8 97),(.int .u8 110),(.int .u8 115),(.int .u8 32),(.int .u8 116),(.int .u8 58),(.int .u8 32),(.int .u8 113),(.int .u8 32),(.int .u8 45),(.int .u8 62),(.int .u8 32),(.int .u8 112),(.int .u8 59)] 0,_,_,_,_,_] _:=S.pushRow [(.int .u8 112),(.int .u8 108),(.int .u8 97),(.int .u8 99),(.int .u8 101),(.int .u8 32),(.int .u8 112),(.int .u8 59),(.int .u8 32),(.int .u8 112),(.int .u8 108),(.int .u8 97),(.int .u8 99),(.int .u8 101),(.int .u8 32),(.int .u8 113),(.int .u8 32),(.int .u8 61),(.int .u8 32),(.int .u8 50),(.int .u8 59),(.int .u8 32),(.int .u8 116),(.int .u8 114),(.int .u8 97),(.int .u8 110),(.int .u8 115),(.int .u8 32),(.int .u8 116),(.int .u8 58),(.int .u8 32),(.int .u8 113),(.int .u8 32),(.int .u8 45),(.int .u8 62),(.int .u8 32),(.int .u8 112),(.int .u8 59)]
  have S:St _ _ [own (oSl (fz (rI .u8))) [(.slice h121.n 0 0 38 1)] [(112:Int),(108:Int),(97:Int),(99:Int),(101:Int),(32:Int),(112:Int),(59:Int),(32:Int),(112:Int),(108:Int),(97:Int),(99:Int),(101:Int),(32:Int),(113:Int),(32:Int),(61:Int),(32:Int),(50:Int),(59:Int),(32:Int),(116:Int),(114:Int),(97:Int),(110:Int),(115:Int),(32:Int),(116:Int),(58:Int),(32:Int),(113:Int),(32:Int),(45:Int),(62:Int),(32:Int),(112:Int),(59:Int)],_,_,_,_,_] _:=St.lit (r:=(rI .u8)) (els:=([(112:Int),(108:Int),(97:Int),(99:Int),(101:Int),(32:Int),(112:Int),(59:Int),(32:Int),(112:Int),(108:Int),(97:Int),(99:Int),(101:Int),(32:Int),(113:Int),(32:Int),(61:Int),(32:Int),(50:Int),(59:Int),(32:Int),(116:Int),(114:Int),(97:Int),(110:Int),(115:Int),(32:Int),(116:Int),(58:Int),(32:Int),(113:Int),(32:Int),(45:Int),(62:Int),(32:Int),(112:Int),(59:Int)]:List Int).map fun n=>[AV.int .u8 n]) (l:=([(112:Int),(108:Int),(97:Int),(99:Int),(101:Int),(32:Int),(112:Int),(59:Int),(32:Int),(112:Int),(108:Int),(97:Int),(99:Int),(101:Int),(32:Int),(113:Int),(32:Int),(61:Int),(32:Int),(50:Int),(59:Int),(32:Int),(116:Int),(114:Int),(97:Int),(110:Int),(115:Int),(32:Int),(116:Int),(58:Int),(32:Int),(113:Int),(32:Int),(45:Int),(62:Int),(32:Int),(112:Int),(59:Int)]:List Int)) (n:=38) S rfl (all2_intL _) rfl
  refine ⟨_,_,S.byteConv (r:=(fz (rI .u8))) m0 (by simp [AV.slen]),?_⟩
  obtain ⟨u129,hu129,hf⟩:=obind hf
  obtain ⟨h126,z125,S⟩:=St.freeze S
  refine ⟨_,z125,?_⟩
  refine (r26 (x0:=[(112:Int),(108:Int),(97:Int),(99:Int),(101:Int),(32:Int),(112:Int),(59:Int),(32:Int),(112:Int),(108:Int),(97:Int),(99:Int),(101:Int),(32:Int),(113:Int),(32:Int),(61:Int),(32:Int),(50:Int),(59:Int),(32:Int),(116:Int),(114:Int),(97:Int),(110:Int),(115:Int),(32:Int),(116:Int),(58:Int),(32:Int),(113:Int),(32:Int),(45:Int),(62:Int),(32:Int),(112:Int),(59:Int)]) (f0_0:=S.slz (r:=(rI .u8)) m0) hu129).mono fun v127 h128 T=>?_
  obtain ⟨c130,rfl,T⟩:=T
  have S:=S.comp T
  obtain ⟨au129_0,au129_1,rfl,Fau129_0,Fau129_1⟩:=rNet_open (S.fzr (.head _))
  have S:=S.drop
  have S:St _ _ [own (fz (rSl rPlace)) [au129_0] u129.1.Places,_,_,_,_,_,_] _:=S.add (rSl_mk Fau129_0)
  have S:St _ _ [own (fz (rSl rTrans)) [au129_1] u129.1.Trans,_,_,_,_,_,_,_] _:=S.add (rSl_mk Fau129_1)
  refine oP_intro (.agg [au129_0,au129_1]) rfl ?_
  refine oP_intro (.agg [(.int .i64 u129.2.Err),(.int .i64 u129.2.At),(.int .i64 u129.2.Line),(.int .i64 u129.2.Col)]) rfl ?_
  intro h134
  have S:St _ _ [rowC h128.n [.nilSlice,.nilSlice] 0,_,_,_,_,_,_,_,_] _:=S.pushRow [.nilSlice,.nilSlice]
  intro h136
  have S:St _ _ [rowC h134.n [(.int .i64 0),(.int .i64 0),(.int .i64 0),(.int .i64 0)] 0,_,_,_,_,_,_,_,_,_] _:=S.pushRow [(.int .i64 0),(.int .i64 0),(.int .i64 0),(.int .i64 0)]
  have S:St _ _ [_,_,_,_,_,_,_,_,_,_] _:=S.sel [1,0,2,3,4,5,6,7,8,9] rfl
  obtain ⟨h138,e139,S⟩:=S.store (off:=0) (n:=2) (x:=(.agg [au129_0,au129_1])) (cs':=[au129_0,au129_1]) (nl rfl) rfl rfl rfl
  refine ⟨h138,e139,?_⟩
  have S:St _ _ [_,_,_,_,_,_,_,_,_,_] _:=S.sel [1,0,2,3,4,5,6,7,8,9] rfl
  obtain ⟨h140,e141,S⟩:=S.store (off:=0) (n:=4) (x:=(.agg [(.int .i64 u129.2.Err),(.int .i64 u129.2.At),(.int .i64 u129.2.Line),(.int .i64 u129.2.Col)])) (cs':=[(.int .i64 u129.2.Err),(.int .i64 u129.2.At),(.int .i64 u129.2.Line),(.int .i64 u129.2.Col)]) (nl rfl) rfl rfl rfl
  refine ⟨h140,e141,?_⟩
  intro h142
  have S:St _ _ [rowC h140.n [(.int .u8 112),(.int .u8 108),(.int .u8 97),(.int .u8 99),(.int .u8 101),(.int .u8 32),(.int .u8 113),(.int .u8 32),(.int .u8 61),(.int .u8 32),(.int .u8 50),(.int .u8 59),(.int .u8 32),(.int .u8 116),(.int .u8 114),(.int .u8 97),(.int .u8 110),(.int .u8 115),(.int .u8 32),(.int .u8 116),(.int .u8 58),(.int .u8 32),(.int .u8 113),(.int .u8 32),(.int .u8 45),(.int .u8 62),(.int .u8 32),(.int .u8 112),(.int .u8 59),(.int .u8 32),(.int .u8 112),(.int .u8 108),(.int .u8 97),(.int .u8 99),(.int .u8 101),(.int .u8 32),(.int .u8 112),(.int .u8 59)] 0,_,_,_,_,_,_,_,_,_,_] _:=S.pushRow [(.int .u8 112),(.int .u8 108),(.int .u8 97),(.int .u8 99),(.int .u8 101),(.int .u8 32),(.int .u8 113),(.int .u8 32),(.int .u8 61),(.int .u8 32),(.int .u8 50),(.int .u8 59),(.int .u8 32),(.int .u8 116),(.int .u8 114),(.int .u8 97),(.int .u8 110),(.int .u8 115),(.int .u8 32),(.int .u8 116),(.int .u8 58),(.int .u8 32),(.int .u8 113),(.int .u8 32),(.int .u8 45),(.int .u8 62),(.int .u8 32),(.int .u8 112),(.int .u8 59),(.int .u8 32),(.int .u8 112),(.int .u8 108),(.int .u8 97),(.int .u8 99),(.int .u8 101),(.int .u8 32),(.int .u8 112),(.int .u8 59)]
  have S:St _ _ [own (oSl (fz (rI .u8))) [(.slice h140.n 0 0 38 1)] [(112:Int),(108:Int),(97:Int),(99:Int),(101:Int),(32:Int),(113:Int),(32:Int),(61:Int),(32:Int),(50:Int),(59:Int),(32:Int),(116:Int),(114:Int),(97:Int),(110:Int),(115:Int),(32:Int),(116:Int),(58:Int),(32:Int),(113:Int),(32:Int),(45:Int),(62:Int),(32:Int),(112:Int),(59:Int),(32:Int),(112:Int),(108:Int),(97:Int),(99:Int),(101:Int),(32:Int),(112:Int),(59:Int)],_,_,_,_,_,_,_,_,_,_] _:=St.lit (r:=(rI .u8)) (els:=([(112:Int),(108:Int),(97:Int),(99:Int),(101:Int),(32:Int),(113:Int),(32:Int),(61:Int),(32:Int),(50:Int),(59:Int),(32:Int),(116:Int),(114:Int),(97:Int),(110:Int),(115:Int),(32:Int),(116:Int),(58:Int),(32:Int),(113:Int),(32:Int),(45:Int),(62:Int),(32:Int),(112:Int),(59:Int),(32:Int),(112:Int),(108:Int),(97:Int),(99:Int),(101:Int),(32:Int),(112:Int),(59:Int)]:List Int).map fun n=>[AV.int .u8 n]) (l:=([(112:Int),(108:Int),(97:Int),(99:Int),(101:Int),(32:Int),(113:Int),(32:Int),(61:Int),(32:Int),(50:Int),(59:Int),(32:Int),(116:Int),(114:Int),(97:Int),(110:Int),(115:Int),(32:Int),(116:Int),(58:Int),(32:Int),(113:Int),(32:Int),(45:Int),(62:Int),(32:Int),(112:Int),(59:Int),(32:Int),(112:Int),(108:Int),(97:Int),(99:Int),(101:Int),(32:Int),(112:Int),(59:Int)]:List Int)) (n:=38) S rfl (all2_intL _) rfl
  refine ⟨_,_,S.byteConv (r:=(fz (rI .u8))) m0 (by simp [AV.slen]),?_⟩
  obtain ⟨u148,hu148,hf⟩:=obind hf
  obtain ⟨h145,z144,S⟩:=St.freeze S
  refine ⟨_,z144,?_⟩
  refine (r26 (x0:=[(112:Int),(108:Int),(97:Int),(99:Int),(101:Int),(32:Int),(113:Int),(32:Int),(61:Int),(32:Int),(50:Int),(59:Int),(32:Int),(116:Int),(114:Int),(97:Int),(110:Int),(115:Int),(32:Int),(116:Int),(58:Int),(32:Int),(113:Int),(32:Int),(45:Int),(62:Int),(32:Int),(112:Int),(59:Int),(32:Int),(112:Int),(108:Int),(97:Int),(99:Int),(101:Int),(32:Int),(112:Int),(59:Int)]) (f0_0:=S.slz (r:=(rI .u8)) m0) hu148).mono fun v146 h147 T=>?_
  obtain ⟨c149,rfl,T⟩:=T
  have S:=S.comp T
  obtain ⟨au148_0,au148_1,rfl,Fau148_0,Fau148_1⟩:=rNet_open (S.fzr (.head _))
  have S:=S.drop
  have S:St _ _ [own (fz (rSl rPlace)) [au148_0] u148.1.Places,_,_,_,_,_,_,_,_,_,_,_] _:=S.add (rSl_mk Fau148_0)
  have S:St _ _ [own (fz (rSl rTrans)) [au148_1] u148.1.Trans,_,_,_,_,_,_,_,_,_,_,_,_] _:=S.add (rSl_mk Fau148_1)
  refine oP_intro (.agg [au148_0,au148_1]) rfl ?_
  refine oP_intro (.agg [(.int .i64 u148.2.Err),(.int .i64 u148.2.At),(.int .i64 u148.2.Line),(.int .i64 u148.2.Col)]) rfl ?_
  intro h153
  have S:St _ _ [rowC h147.n [.nilSlice,.nilSlice] 0,_,_,_,_,_,_,_,_,_,_,_,_,_] _:=S.pushRow [.nilSlice,.nilSlice]
  intro h155
  have S:St _ _ [rowC h153.n [(.int .i64 0),(.int .i64 0),(.int .i64 0),(.int .i64 0)] 0,_,_,_,_,_,_,_,_,_,_,_,_,_,_] _:=S.pushRow [(.int .i64 0),(.int .i64 0),(.int .i64 0),(.int .i64 0)]
  have S:St _ _ [_,_,_,_,_,_,_,_,_,_,_,_,_,_,_] _:=S.sel [1,0,2,3,4,5,6,7,8,9,10,11,12,13,14] rfl
  obtain ⟨h157,e158,S⟩:=S.store (off:=0) (n:=2) (x:=(.agg [au148_0,au148_1])) (cs':=[au148_0,au148_1]) (nl rfl) rfl rfl rfl
  refine ⟨h157,e158,?_⟩
  have S:St _ _ [_,_,_,_,_,_,_,_,_,_,_,_,_,_,_] _:=S.sel [1,0,2,3,4,5,6,7,8,9,10,11,12,13,14] rfl
  obtain ⟨h159,e160,S⟩:=S.store (off:=0) (n:=4) (x:=(.agg [(.int .i64 u148.2.Err),(.int .i64 u148.2.At),(.int .i64 u148.2.Line),(.int .i64 u148.2.Col)])) (cs':=[(.int .i64 u148.2.Err),(.int .i64 u148.2.At),(.int .i64 u148.2.Line),(.int .i64 u148.2.Col)]) (nl rfl) rfl rfl rfl
  refine ⟨h159,e160,?_⟩
  obtain ⟨y163,hy163,hf⟩:=obind hf
  refine ⟨_,Fz.refl _,?_⟩
  refine (r25  hy163).mono fun v161 h162 T=>?_
  obtain ⟨rfl,T⟩:=T
  have S:St _ _ [_,_,_,_,_,_,_,_,_,_,_,_,_,_,_] _:=S.comp T
  refine ⟨y163,rfl,?_⟩
  intro jjj6
  have hjj6:∀ (b164:Bool) (h165:Heap),p12_j6 u110 u129 u148 b164=some r→h162=h165→St h none' [rowC h109.n [au110_0,au110_1] 0,rowC h115.n [(.int .i64 u110.2.Err),(.int .i64 u110.2.At),(.int .i64 u110.2.Line),(.int .i64 u110.2.Col)] 0,rowC h128.n [au129_0,au129_1] 0,rowC h134.n [(.int .i64 u129.2.Err),(.int .i64 u129.2.At),(.int .i64 u129.2.Line),(.int .i64 u129.2.Col)] 0,rowC h147.n [au148_0,au148_1] 0,rowC h153.n [(.int .i64 u148.2.Err),(.int .i64 u148.2.At),(.int .i64 u148.2.Line),(.int .i64 u148.2.Col)] 0,own (fz (rSl rPlace)) [au110_0] u110.1.Places,own (fz (rSl rTrans)) [au110_1] u110.1.Trans,own (fz (rSl rPlace)) [au129_0] u129.1.Places,own (fz (rSl rTrans)) [au129_1] u129.1.Trans,own (fz (rSl rPlace)) [au148_0] u148.1.Places,own (fz (rSl rTrans)) [au148_1] u148.1.Trans] h162→jjj6 b164 h165:=by
   rintro b164 h165 hf rfl S
   unfold p12_j6 at hf
   unfold jjj6
   intro jjj5
   have hjj5:∀ (b172:Bool) (h173:Heap),p12_j5 u110 u129 u148 b172=some r→h162=h173→St h none' [rowC h109.n [au110_0,au110_1] 0,rowC h115.n [(.int .i64 u110.2.Err),(.int .i64 u110.2.At),(.int .i64 u110.2.Line),(.int .i64 u110.2.Col)] 0,rowC h128.n [au129_0,au129_1] 0,rowC h147.n [au148_0,au148_1] 0,rowC h153.n [(.int .i64 u148.2.Err),(.int .i64 u148.2.At),(.int .i64 u148.2.Line),(.int .i64 u148.2.Col)] 0,own (fz (rSl rPlace)) [au110_0] u110.1.Places,own (fz (rSl rTrans)) [au110_1] u110.1.Trans,own (fz (rSl rPlace)) [au129_0] u129.1.Places,own (fz (rSl rTrans)) [au129_1] u129.1.Trans,own (fz (rSl rPlace)) [au148_0] u148.1.Places,own (fz (rSl rTrans)) [au148_1] u148.1.Trans] h162→jjj5 b172 h173:=by
    rintro b172 h173 hf rfl S
    unfold p12_j5 at hf
    unfold jjj5
    intro jjj4
    have hjj4:∀ (b179:Bool) (h180:Heap),p12_j4 u110 u129 u148 b179=some r→h162=h180→St h none' [rowC h109.n [au110_0,au110_1] 0,rowC h128.n [au129_0,au129_1] 0,rowC h147.n [au148_0,au148_1] 0,own (fz (rSl rPlace)) [au110_0] u110.1.Places,own (fz (rSl rTrans)) [au110_1] u110.1.Trans,own (fz (rSl rPlace)) [au129_0] u129.1.Places,own (fz (rSl rTrans)) [au129_1] u129.1.Trans,own (fz (rSl rPlace)) [au148_0] u148.1.Places,own (fz (rSl rTrans)) [au148_1] u148.1.Trans] h162→jjj4 b179 h180:=by
     rintro b179 h180 hf rfl S
     unfold p12_j4 at hf
     unfold jjj4
     intro jjj3
     have hjj3:∀ (b187:Bool) (h188:Heap),p12_j3 u110 u148 b187=some r→St h none' [rowC h109.n [au110_0,au110_1] 0,rowC h147.n [au148_0,au148_1] 0,own (fz (rSl rPlace)) [au110_0] u110.1.Places,own (fz (rSl rTrans)) [au110_1] u110.1.Trans,own (fz (rSl rPlace)) [au148_0] u148.1.Places,own (fz (rSl rTrans)) [au148_1] u148.1.Trans] h188→jjj3 b187 h188:=by
      rintro b187 h188 hf S
      unfold p12_j3 at hf
      unfold jjj3
      intro jjj2
      have hjj2:∀ (b194:Bool) (h195:Heap),p12_j2 u148 b194=some r→St h none' [rowC h147.n [au148_0,au148_1] 0,own (fz (rSl rPlace)) [au148_0] u148.1.Places,own (fz (rSl rTrans)) [au148_1] u148.1.Trans] h195→jjj2 b194 h195:=by
       rintro b194 h195 hf S
       unfold p12_j2 at hf
       unfold jjj2
       intro jjj1
       have hjj1:∀ (b197:Bool) (h198:Heap),p12_j1 u148 b197=some r→h195=h198→St h none' [rowC h147.n [au148_0,au148_1] 0,own (fz (rSl rPlace)) [au148_0] u148.1.Places,own (fz (rSl rTrans)) [au148_1] u148.1.Trans] h195→jjj1 b197 h198:=by
        rintro b197 h198 hf rfl S
        unfold p12_j1 at hf
        unfold jjj1
        intro jjj0
        have hjj0:∀ (b202:Bool) (h203:Heap),p12_j0 b202=some r→h195=h203→St h none' [] h195→jjj0 b202 h203:=by
         rintro b202 h203 hf rfl S
         unfold p12_j0 at hf
         unfold jjj0
         obtain rfl:=oi hf
         exact ⟨rfl,S.sel [] rfl⟩
        refine bP_intro (fun hc=>?_) (fun hc=>?_)
        ·rw [ifT hc] at hf
         refine ifP_iff.2 ⟨rfl,?_⟩
         refine ⟨au148_0,S.rd1 m0 rfl,?_⟩
         obtain ⟨e205,he205,hf⟩:=obind hf
         refine ix_go (S.slz (r:=rPlace) m1) (frz_snap _) he205 fun pe205=>?_
         refine ifP_iff.2 ⟨pe205,?_⟩
         obtain ⟨_,cr206,Rr206,Nr206,Or206,Zr206⟩:=SlR.idx (S.slz (r:=rPlace) m1) (frz_snap _) he205
         obtain rfl:=rPlace_open Rr206
         refine ⟨e205.Tokens,Or206 1 _ rfl,?_⟩
         have S:St _ _ [] _:=S.sel [] rfl
         exact hjj0 _ _  hf rfl S
        ·rw [ifF hc] at hf
         have S:St _ _ [] _:=S.sel [] rfl
         exact hjj0 _ _  hf rfl S
       refine bP_intro (fun hc=>?_) (fun hc=>?_)
       ·rw [ifT hc] at hf
        refine ifP_iff.2 ⟨rfl,?_⟩
        refine ⟨au148_0,S.rd1 m0 rfl,?_⟩
        refine ifP_iff.2 ⟨((S.slz (r:=rPlace) m1)).is,?_⟩
        try rw [show (au148_0).slen=_ from ((S.slz (r:=rPlace) m1)).slen]
        exact hjj1 _ _  hf rfl S
       ·rw [ifF hc] at hf
        exact hjj1 _ _  hf rfl S
      refine bP_intro (fun hc=>?_) (fun hc=>?_)
      ·rw [ifT hc] at hf
       refine ⟨au110_0,au110_1,S.rdN m0 (nl rfl) rfl,?_⟩
       refine ⟨au148_0,au148_1,S.rdN m1 (nl rfl) rfl,?_⟩
       obtain ⟨y211,hy211,hf⟩:=obind hf
       refine ⟨_,Fz.refl _,?_⟩
       refine (r29 (x0:=u110.1) (x1:=u148.1) (f0_0:=(SlR.mono (frz_snap _) (S.slz (r:=rPlace) m2))) (f0_1:=(SlR.mono (frz_snap _) (S.slz (r:=rTrans) m3))) (f1_0:=(SlR.mono (frz_snap _) (S.slz (r:=rPlace) m4))) (f1_1:=(SlR.mono (frz_snap _) (S.slz (r:=rTrans) m5))) hy211).mono fun v209 h210 T=>?_
       obtain ⟨rfl,T⟩:=T
       have S:St _ _ [_,_,_,_,_,_] _:=S.comp T
       refine ⟨y211,rfl,?_⟩
       have S:St _ _ [_,_,_] _:=S.sel [1,4,5] rfl
       exact hjj2 _ _  hf  S
      ·rw [ifF hc] at hf
       have S:St _ _ [_,_,_] _:=S.sel [1,4,5] rfl
       exact hjj2 _ _  hf  S
     refine bP_intro (fun hc=>?_) (fun hc=>?_)
     ·rw [ifT hc] at hf
      refine ⟨au110_0,au110_1,S.rdN m0 (nl rfl) rfl,?_⟩
      refine ⟨au129_0,au129_1,S.rdN m1 (nl rfl) rfl,?_⟩
      obtain ⟨y215,hy215,hf⟩:=obind hf
      refine ⟨_,Fz.refl _,?_⟩
      refine (r29 (x0:=u110.1) (x1:=u129.1) (f0_0:=(SlR.mono (frz_snap _) (S.slz (r:=rPlace) m3))) (f0_1:=(SlR.mono (frz_snap _) (S.slz (r:=rTrans) m4))) (f1_0:=(SlR.mono (frz_snap _) (S.slz (r:=rPlace) m5))) (f1_1:=(SlR.mono (frz_snap _) (S.slz (r:=rTrans) m6))) hy215).mono fun v213 h214 T=>?_
      obtain ⟨rfl,T⟩:=T
      have S:St _ _ [_,_,_,_,_,_,_,_,_] _:=S.comp T
      refine ⟨y215,rfl,?_⟩
      have S:St _ _ [_,_,_,_,_,_] _:=S.sel [0,2,3,4,7,8] rfl
      exact hjj3 _ _  hf  S
     ·rw [ifF hc] at hf
      have S:St _ _ [_,_,_,_,_,_] _:=S.sel [0,2,3,4,7,8] rfl
      exact hjj3 _ _  hf  S
    refine bP_intro (fun hc=>?_) (fun hc=>?_)
    ·rw [ifT hc] at hf
     refine ⟨(.int .i64 u148.2.Err),(.int .i64 u148.2.At),(.int .i64 u148.2.Line),(.int .i64 u148.2.Col),S.rdN m4 (nl rfl) rfl,?_⟩
     refine ⟨(.int .i64 u110.2.Err),(.int .i64 u110.2.At),(.int .i64 u110.2.Line),(.int .i64 u110.2.Col),S.rdN m1 (nl rfl) rfl,?_⟩
     refine oP_intro (.bool ((decide (u148.2.Err=u110.2.Err))&&((decide (u148.2.At=u110.2.At))&&((decide (u148.2.Line=u110.2.Line))&&((decide (u148.2.Col=u110.2.Col))&&true))))) rfl ⟨((decide (u148.2.Err=u110.2.Err))&&((decide (u148.2.At=u110.2.At))&&((decide (u148.2.Line=u110.2.Line))&&((decide (u148.2.Col=u110.2.Col))&&true)))),rfl,?_⟩
     have S:St _ _ [_,_,_,_,_,_,_,_,_] _:=S.sel [0,2,3,5,6,7,8,9,10] rfl
     exact hjj4 _ _  hf rfl S
    ·rw [ifF hc] at hf
     have S:St _ _ [_,_,_,_,_,_,_,_,_] _:=S.sel [0,2,3,5,6,7,8,9,10] rfl
     exact hjj4 _ _  hf rfl S
   refine bP_intro (fun hc=>?_) (fun hc=>?_)
   ·rw [ifT hc] at hf
    refine ⟨(.int .i64 u129.2.Err),(.int .i64 u129.2.At),(.int .i64 u129.2.Line),(.int .i64 u129.2.Col),S.rdN m3 (nl rfl) rfl,?_⟩
    refine ⟨(.int .i64 u110.2.Err),(.int .i64 u110.2.At),(.int .i64 u110.2.Line),(.int .i64 u110.2.Col),S.rdN m1 (nl rfl) rfl,?_⟩
    refine oP_intro (.bool ((decide (u129.2.Err=u110.2.Err))&&((decide (u129.2.At=u110.2.At))&&((decide (u129.2.Line=u110.2.Line))&&((decide (u129.2.Col=u110.2.Col))&&true))))) rfl ⟨((decide (u129.2.Err=u110.2.Err))&&((decide (u129.2.At=u110.2.At))&&((decide (u129.2.Line=u110.2.Line))&&((decide (u129.2.Col=u110.2.Col))&&true)))),rfl,?_⟩
    have S:St _ _ [_,_,_,_,_,_,_,_,_,_,_] _:=S.sel [0,1,2,4,5,6,7,8,9,10,11] rfl
    exact hjj5 _ _  hf rfl S
   ·rw [ifF hc] at hf
    have S:St _ _ [_,_,_,_,_,_,_,_,_,_,_] _:=S.sel [0,1,2,4,5,6,7,8,9,10,11] rfl
    exact hjj5 _ _  hf rfl S
  refine bP_intro (fun hc=>?_) (fun hc=>?_)
  ·rw [ifT hc] at hf
   refine ⟨(.int .i64 u110.2.Err),(.int .i64 u110.2.At),(.int .i64 u110.2.Line),(.int .i64 u110.2.Col),S.rdN m10 (nl rfl) rfl,?_⟩
   refine oP_intro (.bool ((decide (u110.2.Err=(0:Int)))&&((decide (u110.2.At=(0:Int)))&&((decide (u110.2.Line=(0:Int)))&&((decide (u110.2.Col=(0:Int)))&&true))))) rfl ⟨((decide (u110.2.Err=(0:Int)))&&((decide (u110.2.At=(0:Int)))&&((decide (u110.2.Line=(0:Int)))&&((decide (u110.2.Col=(0:Int)))&&true)))),rfl,?_⟩
   have S:St _ _ [_,_,_,_,_,_,_,_,_,_,_,_] _:=S.sel [11,10,6,5,1,0,13,12,8,7,3,2] rfl
   exact hjj6 _ _  hf rfl S
  ·rw [ifF hc] at hf
   have S:St _ _ [_,_,_,_,_,_,_,_,_,_,_,_] _:=S.sel [11,10,6,5,1,0,13,12,8,7,3,2] rfl
   exact hjj6 _ _  hf rfl S
 refine bP_intro (fun hc=>?_) (fun hc=>?_)
 ·rw [ifT hc] at hf
  exact hjj7 _ _  hf  S
 ·rw [ifF hc] at hf
  exact hjj7 _ _  hf  S
end Go.Proofs.Ytloaoofdbilpeaa
