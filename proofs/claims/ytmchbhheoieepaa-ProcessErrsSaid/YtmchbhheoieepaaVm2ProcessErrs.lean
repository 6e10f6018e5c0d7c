/- A machine over typed values, and that functions do what it says. No condition. Own work. -/
import Derived.Test.YtmchbhheoieepaaVm1ProcessErrs
set_option linter.unusedSimpArgs false
set_option linter.unusedVariables false
namespace Go.Am
open Go
section
variable {T:TE} {g:Heap} {M:Nat→Prop} {B:Hp} {ps:List (Part T)} {ms:List AV} {h:Heap}
theorem jw {x:V1 T} {as:List AV} (hr:All2 (cJ B ps ms h) [.v x] as):∃ a,as=[a]∧fR B ps ms h x a:=by
 cases hr with
 | cons p t=>cases t; exact ⟨_,rfl,p⟩
theorem jM {x y:V1 T} {as:List AV} (hr:All2 (cJ B ps ms h) [.v x,.v y] as):∃ a b,as=[a,b]∧fR B ps ms h x a∧fR B ps ms h y b:=by
 cases hr with
 | cons p t=>cases t with
  | cons q t=>cases t; exact ⟨_,_,rfl,p,q⟩
theorem aV {z:Bool} {k:IntKind} {n:T.D (.int k)} {a:AV} (hr:bF B ps ms h (.d z (.int k) n) a):a=.int k n:=by
 have hr:[a]=[AV.int k n]:=hr
 cases hr; rfl
theorem dI {z:Bool} {n:T.D .bool} {a:AV} (hr:bF B ps ms h (.d z .bool n) a):a=.bool n:=by
 have hr:[a]=[AV.bool n]:=hr
 cases hr; rfl
theorem dG {z:Bool} {n:T.D .str} {a:AV} (hr:bF B ps ms h (.d z .str n) a):a=.str n:=by
 have hr:[a]=[AV.str n]:=hr
 cases hr; rfl
theorem qM (z:Bool) (k:IntKind) (n:Int):cg B ms h (.d (T:=T) z (.int k) n) (.int k n):=rfl
theorem gQ (z:Bool) (b:Bool):cg B ms h (.d (T:=T) z .bool b) (.bool b):=rfl
theorem FY (z:Bool) (b:List UInt8):cg B ms h (.d (T:=T) z .str b) (.str b):=rfl
theorem b_C (p:Prop) (i:Decidable p):cg B ms h (.b (T:=T) p i) (.bool (decide p)):=rfl
theorem obI {α β:Type} {o:Option α} {f:α→Option β} {r:β} (h:o.bind f=some r):∃ a,o=some a∧f a=some r:=by
 cases o with
 | none=>cases h
 | some a=>exact ⟨a,rfl,h⟩
def uU (B:Hp) (ms:List AV) (h:Heap) {R:Type} (K:W T→Option R) (r:R) (o:Option AV):Prop:=∃ w v,K w=some r∧o=some v∧cg B ms h w v∧v.flat=true
theorem ya {R:Type} {op:BinOp} {x y:List UInt8} {K:W T→Option R} {r:R} (hK:EM op x y K=some r):uU B ms h K r (POp.ev (.bin op) [.str x,.str y]):=by
 cases op<;>simp only [EM] at hK<;>try cases hK
 case add=>
  obtain ⟨s,hs,hK⟩:=obI hK
  exact ⟨_,_,hK,zy hs,FY _ _,rfl⟩
 all_goals exact ⟨_,_,hK,rfl,gQ _ _,rfl⟩
theorem zD {R:Type} {op:BinOp} {x y:W T} {a b:AV} {K:W T→Option R} {r:R} (hK:ET op x y K=some r) (ha:bF B ps ms h x a) (hb:bF B ps ms h y b):uU B ms h K r (POp.ev (.bin op) [a,b]):=by
 unfold ET at hK
 split at hK
 ·rename_i z k n z' k' m
  obtain rfl:=aV ha
  obtain rfl:=aV hb
  split at hK
  ·obtain ⟨d,hd,hK⟩:=obI hK
   exact ⟨_,_,hK,xP hd,qM _ _ _,rfl⟩
  ·obtain ⟨d,hd,hK⟩:=obI hK
   exact ⟨_,_,hK,AZ hd,qM _ _ _,rfl⟩
  rename_i n1 n2
  split at hK
  ·rename_i hk
   subst hk
   cases op<;>simp only [reduceCtorEq] at hK<;>try (first | exact absurd rfl n1 | exact absurd rfl n2)
   case quo=>
    obtain ⟨d,hd,hK⟩:=obI hK
    exact ⟨_,_,hK,xk hd,qM _ _ _,rfl⟩
   case rem=>
    obtain ⟨d,hd,hK⟩:=obI hK
    exact ⟨_,_,hK,yn hd,qM _ _ _,rfl⟩
   all_goals first
    | exact ⟨_,_,hK,by simp only [POp.ev,e8,if_true,gX],qM _ _ _,rfl⟩
    | exact ⟨_,_,hK,by simp only [POp.ev,e8,if_true,gX],b_C _ _,rfl⟩
    | exact ⟨_,_,hK,by simp only [POp.ev,e8,if_true,gX],gQ _ _,rfl⟩
  cases hK
 ·obtain rfl:=dG ha
  obtain rfl:=dG hb
  exact ya hK
 cases hK
theorem Cb {R:Type} {op:UnOp} {x:W T} {a:AV} {K:W T→Option R} {r:R} (hK:unW op x K=some r) (ha:bF B ps ms h x a):uU B ms h K r (POp.ev (.un op) [a]):=by
 unfold unW at hK
 split at hK
 ·obtain rfl:=aV ha
  split at hK
  ·exact ⟨_,_,hK,rfl,qM _ _ _,rfl⟩
  cases hK
 ·obtain rfl:=dI ha
  split at hK
  ·exact ⟨_,_,hK,rfl,gQ _ _,rfl⟩
  cases hK
 ·have ha:a=_:=ha
  subst ha
  split at hK
  ·exact ⟨_,_,hK,rfl,gQ _ _,rfl⟩
  cases hK
 ·have ha:a=_:=ha
  subst ha
  split at hK
  ·exact ⟨_,_,hK,rfl,rfl,rfl⟩
  cases hK
 cases hK
theorem qZ {R:Type} {s:VS T} {Δ:List Ch} {e:Env} (S:VSim g M Δ s ms e h) {neg:Bool} {x:W T} {a:AV} {K:W T→Option R} {r:R} (hK:Es s neg x K=some r) (ha:bF (Bo g M) s.ps ms h x a) :
  uU (Bo g M) ms h K r (POp.ev (.eql neg 1) [a,.nilPtr])∧uU (Bo g M) ms h K r (POp.ev (.eql neg 1) [.nilPtr,a]):=by
 have sw:POp.ev (.eql neg 1) [.nilPtr,a]=POp.ev (.eql neg 1) [a,.nilPtr]:=by
  cases a<;>simp [POp.ev,kE]
 rw [sw]
 refine (fun q=>⟨q,q⟩) ?_
 unfold Es at hK
 split at hK
 ·have ha:a=_:=ha
  subst ha
  exact ⟨_,_,hK,rfl,(by cases neg<;>rfl),rfl⟩
 ·obtain ⟨o,v,_,rfl⟩:=ha
  exact ⟨_,_,hK,rfl,(by cases neg<;>rfl),rfl⟩
 ·obtain ⟨o,v,base,row,_,_,_,rfl⟩:=ha
  exact ⟨_,_,hK,rfl,(by cases neg<;>rfl),rfl⟩
 ·rename_i z t q
  have hq:PtR (T.w t).rep (dX h) a q:=(cP (r:=T.r t) ha).mono (zG.le S.st z)
  cases neg
  ·exact ⟨_,_,hK,wX hq,gQ _ _,rfl⟩
  exact ⟨_,_,hK,sH hq,gQ _ _,rfl⟩
 ·rename_i k
  have ha:nth ms k=some a:=ha
  split at hK
  ·rename_i ws hp
   obtain ⟨o,v,cs,rfl,_,_⟩:=St.rowOpen (S.st.pullL ha hp)
   exact ⟨_,_,hK,rfl,(by cases neg<;>rfl),rfl⟩
  ·rename_i t q hp
   have hq:PtR (T.w t).rep (dX h) a q:=(S.st.pullL ha hp).pt (.head _)
   cases neg
   ·exact ⟨_,_,hK,wX hq,gQ _ _,rfl⟩
   exact ⟨_,_,hK,sH hq,gQ _ _,rfl⟩
  cases hK
 cases hK
theorem i7 {w:W T} {a:AV} (hf:a.flat=true):a.cells=[a]∧a.isTup=false:=by
 cases a<;>first | exact ⟨rfl,rfl⟩ | cases hf
theorem cO {x:V1 T} {a:AV} (hr:fR B ps ms h x a):All2 (kQ B ps ms h) (cB x) a.cells∧a.isTup=false:=by
 cases x with
 | w w=>
  obtain ⟨h1,h2⟩:=i7 (w:=w) hr.2
  rw [h1]
  exact ⟨.cons hr .nil,h2⟩
 | agg l=>
  obtain ⟨cs,rfl,hc⟩:=hr
  exact ⟨hc,rfl⟩
theorem jb:∀ {zs:List (W T)} {za:List AV} {offs:List (Nat×Nat)} {xs:List (SV T)} {as:List AV} {l:List (W T)},dR zs offs xs=some l→All2 (kQ B ps ms h) zs za→All2 (cJ B ps ms h) xs as→∃ cs,fH za offs as=some cs∧All2 (kQ B ps ms h) l cs
 | zs,za,[],[],as,l,hp,hz,hx=>by
  simp only [dR] at hp
  cases hp
  cases hx
  exact ⟨za,rfl,hz⟩
 | zs,za,[],x::xs,as,l,hp,hz,hx=>by simp only [dR] at hp; cases hp
 | zs,za,o::os,[],as,l,hp,hz,hx=>by simp only [dR] at hp; cases hp
 | zs,za,(off,n)::os,x::xs,as,l,hp,hz,hx=>by
  cases x with
  | v x=>
   simp only [dR] at hp
   cases hc:(Nat.beq (cB x).length n&&Nat.ble (off+n) zs.length) with
   | false=>rw [hc] at hp; cases hp
   | true=>
    rw [hc] at hp
    rw [Bool.and_eq_true] at hc
    cases hx with
    | cons p q=>
     rename_i a as
     obtain ⟨r1,r2⟩:=cO p
     have hl:a.cells.length=n:=by rw [← r1.len]; exact Nat.eq_of_beq_eq_true hc.1
     have hzl:zs.length=za.length:=hz.len
     have hb:off+n≤zs.length:=Nat.le_of_ble_eq_true hc.2
     have hz2:All2 (kQ B ps ms h) (zs.take off++(cB x++zs.drop (off+n))) (splice za off a.cells):=by
      unfold splice
      rw [hl]
      exact (hz.take off).append' (r1.append' (hz.drop (off+n)))
     obtain ⟨cs,k1,k2⟩:=jb hp hz2 q
     refine ⟨cs,?_,k2⟩
     simp only [fH]
     have e1:Nat.beq a.cells.length n=true:=by rw [hl]; exact Nat.beq_refl n
     have e2:Nat.ble (off+n) za.length=true:=by rw [← hzl]; exact hc.2
     rw [e1,e2,r2]
     exact k1
  | tup l=>simp only [dR] at hp; cases hp
  | un=>simp only [dR] at hp; cases hp
  | ro x=>simp only [dR] at hp; cases hp
theorem GQ (B:Hp) (ms:List AV) (h:Heap) (a:AV):cg B ms h (wc (T:=T) a) a:=by
 cases a<;>rfl
theorem H6 {a:AV} (hf:a.flat=true):kQ B ps ms h (wc (T:=T) a) a:=⟨d5 (GQ _ _ _ _),hf⟩
theorem xE {zero:List AV} {z:List (W T)} (hz:zW zero=some z):All2 (kQ B ps ms h) z zero:=by
 unfold zW at hz
 cases hf:zero.all AV.flat with
 | false=>rw [hf] at hz; cases hz
 | true=>
  rw [hf] at hz
  cases hz
  induction zero with
  | nil=>exact .nil
  | cons a l ih=>
   rw [List.all_cons,Bool.and_eq_true] at hf
   exact .cons (H6 hf.1) (ih hf.2)
theorem sT {Δ:List Ch} {s:VS T} {e:Env} (S:VSim g M Δ s ms e h) {k:Nat} {t:VT} {l:List (T.D t)} {a:AV} (hp:lkP s.ps k=some (.sl t l)) (ha:nth ms k=some a):SlR (T.r t) (dX h) a l:=
 (S.st.pullL ha hp).sl (r:=T.w t) (.head _)
theorem Bu {z o:Bool} {t:VT} {l:T.D (.sl o t)} {a:AV} (ha:bF B ps ms h (.d z (.sl o t) l) a):SlR (T.r t) (zG B h z) a l:=by
 have ha:(T.r (.sl o t)).R (zG B h z) [a] l:=ha
 cases o
 ·exact oW ha
 exact oW ha
theorem a5 (T:TE) (t:VT):(T.r t).z=T.cells t:=by
 have key:∀ (ts:List VT),(∀ u,u∈ts→u.leaf=true)→(oHL T.o ts).rep.z=ts.length:=by
  intro ts
  induction ts with
  | nil=>intro _; rfl
  | cons u ts ih=>
   intro hu
   have h1:(VT.ow T.o u).rep.z=1:=by
    have:=hu u (List.mem_cons_self ..)
    cases u with
    | sl o t=>cases o<;>rfl
    | st k=>cases this
    | mp a b=>cases a<;>cases b<;>rfl
    | _=>rfl
   show (VT.ow T.o u).rep.z+(oHL T.o ts).rep.z=_
   rw [h1,ih fun v hv=>hu v (List.mem_cons_of_mem _ hv),List.length_cons,Nat.add_comm]
 cases t with
 | st k=>
  show (T.o k).rep.z=_
  rw [T.o_eq k]
  exact key _ (T.fl_leaf k)
 | sl o t=>cases o<;>rfl
 | mp a b=>cases a<;>cases b<;>rfl
 | _=>rfl
theorem iv {p:AV} (hp:p.isPtr=true):p.flat=true:=by cases p<;>first | rfl | cases hp
theorem E3 {z:Bool} {t:VT} {a:AV} {l:List (T.D t)} {i:Int} {x:T.D t} {h0:Heap} (ha:SlR (T.r t) (zG B h z) a l) (hi:idx l i=some x) :
  a.isSlice=true∧0≤i∧i < (a.slen:Int)∧cg B ms h (.ed z t x 0) (a.at (i.toNat * T.cells t))∧(a.at (i.toNat * T.cells t)).flat=true:=by
 obtain ⟨q1,q2,q3⟩:=ha.ix hi
 refine ⟨q1,q2,q3,?_⟩
 obtain ⟨h0,hx⟩:=bL hi
 rcases ha with ⟨rfl,rfl⟩ | ⟨o,v,off,row,els,rfl,h2,h3,h4,h5⟩
 ·simp at hx
 obtain ⟨c,hc,hR⟩:=h5.getR hx
 have hlt:=(List.getElem?_eq_some_iff.1 hx).1
 have hz:∀ d,d∈els→d.length=(T.r t).z:=fun d hd=>by
  obtain ⟨k,hk⟩:=List.getElem?_of_mem hd
  obtain ⟨b,_,hb⟩:=bj h5 hk
  exact (T.r t).len hb
 have hch:=fB hz h4 hlt hc
 rw [a5] at hch h3
 have hle:i.toNat * T.cells t+T.cells t≤l.length * T.cells t:=by rw [← Nat.succ_mul]; exact Nat.mul_le_mul_right _ (by omega)
 exact ⟨⟨o,v,off+i.toNat * T.cells t,row,h2,by omega,by rw [hch]; exact hR,rfl⟩,rfl⟩
theorem sO {Δ:List Ch} {s:VS T} {e:Env} (S:VSim g M Δ s ms e h) {k:Nat} {t:VT} {l:List (T.D t)} {a:AV} (hp:∃ p,lkP s.ps k=some p∧slq t l p) (ha:nth ms k=some a) {i:Int} {x:T.D t} (hi:idx l i=some x) :
  a.isSlice=true∧0≤i∧i < (a.slen:Int)∧bF (Bo g M) s.ps ms h (.el k t i (some x) 0) (a.at (i.toNat * T.cells t))∧(a.at (i.toNat * T.cells t)).isPtr=true:=by
 have hp0:=hp
 obtain ⟨p,hp,rfl | ⟨j,j',rfl⟩⟩:=hp
 ·have hs:=sT S hp ha
  obtain ⟨q1,q2,q3⟩:=hs.ix hi
  have h1:=(hs.idx (Hp.le_refl _) hi).1
  rw [a5] at h1
  exact ⟨q1,q2,q3,⟨a,l,ha,hp0,⟨_,hi,fun _ e=>(Option.some.inj e).symm⟩,(fG _).symm⟩,h1⟩
 obtain ⟨fp,c,_,o,v,off,row,e1,e2,l1,x0,l2,f1,f2,_,_,rfl,_⟩:=(S.st.pullL ha hp).mem (.head _)
 obtain ⟨h0,hx⟩:=bL hi
 have hlt:=(List.getElem?_eq_some_iff.1 hx).1
 exact ⟨rfl,h0,by show i < (l.length:Int); omega,⟨_,l,ha,hp0,⟨_,hi,fun _ e=>(Option.some.inj e).symm⟩,(fG _).symm⟩,rfl⟩
theorem fD {R:Type} {t:VT} {x:Option (T.D t)} {i:Int} {l:List (T.D t)} {K:T.D t→Option R} {r:R} (hK:elX x i l K=some r) (h3:∃ y,idx l i=some y∧∀ z,x=some z→z=y):∃ y,idx l i=some y∧K y=some r:=by
 obtain ⟨y,h1,h2⟩:=h3
 cases x with
 | some x=>exact ⟨y,h1,by rw [← h2 _ rfl]; exact hK⟩
 | none=>
  obtain ⟨e,hK⟩:=aO (show db l t (fun l=>(idx l i).bind K)=some r from hK)
  dsimp only at hK
  rw [h1] at hK
  exact ⟨y,h1,hK⟩
theorem iE {a:AV} (h:a.isSlice=true):a.flat=true:=by cases a<;>first | rfl | cases h
theorem lu {a:AV} (h:a.isSlice=true) {n:Nat} (hn:a.slen=n):POp.ev .lenSl [a]=some (.int .i64 n):=by
 simp only [POp.ev,if_pos h,hn]
theorem tU {α R:Type} {l:List α} {x y:Option R} {r:R} (h:Bl l x y=some r):y=some r∧(l=[]→x=some r):=by
 classical
 by_cases hc:l=[]∧x≠y
 ·unfold Bl at h
  rw [if_pos hc] at h; cases h
 unfold Bl at h
 rw [if_neg hc] at h
 refine ⟨h,fun hl=>?_⟩
 rcases Classical.em (x=y) with e | e
 ·rw [e]; exact h
 exact absurd ⟨hl,e⟩ hc
theorem ye {R:Type} {s:VS T} {Δ:List Ch} {e:Env} (S:VSim g M Δ s ms e h) {neg:Bool} {x:W T} {a:AV} {K:W T→Option R} {r:R} (hK:FE s neg x K=some r) (ha:bF (Bo g M) s.ps ms h x a) :
  uU (Bo g M) ms h K r (POp.ev (.eql neg 2) [a,.nilSlice]):=by
 have go:∀ {α:Type} {rr:Rep α} {G:Hp} {l:List α},SlR rr G a l→Bl l (K (.c (.bool (!neg)))) (K (.c (.bool neg)))=some r→uU (Bo g M) ms h K r (POp.ev (.eql neg 2) [a,.nilSlice]):=fun hs hK=>by
  obtain ⟨h1,h2⟩:=tU hK
  rcases hs with ⟨rfl,hl⟩ | ⟨o,v,off,row,els,rfl,_⟩
  ·exact ⟨_,_,h2 hl,by cases neg<;>rfl,rfl,rfl⟩
  exact ⟨_,_,h1,by cases neg<;>rfl,rfl,rfl⟩
 unfold FE at hK
 split at hK
 ·have ha:a=_:=ha
  subst ha
  exact ⟨_,_,hK,by cases neg<;>rfl,rfl,rfl⟩
 ·exact go (Bu ha) hK
 ·split at hK
  ·rename_i hp
   exact go (sT S hp ha) hK
  cases hK
 cases hK
theorem yw {R:Type} {Δ:List Ch} {s:VS T} {e:Env} (S:VSim g M Δ s ms e h) {x:W T} {a:AV} {K:SV T→VS T→Option R} {r:R} (hK:Fj s K x=some r) (ha:bF (Bo g M) s.ps ms h x a) :
  ∃ n:Nat,K (W.sv (.d true (.int .i64) (n:Int))) s=some r∧POp.ev .lenSl [a]=some (.int .i64 n):=by
 unfold Fj at hK
 split at hK
 ·rename_i k
  split at hK
  ·rename_i t l hp
   have hs:=sT S hp ha
   exact ⟨_,hK,lu hs.is hs.slen⟩
  ·rename_i t l i j hp
   obtain ⟨fp,c,_,o,v,off,row,e1,e2,l1,x0,l2,f1,f2,_,_,rfl,_⟩:=(S.st.pullL ha hp).mem (.head _)
   exact ⟨_,hK,lu rfl rfl⟩
  cases hK
 ·have hs:=Bu ha
  exact ⟨_,hK,lu hs.is hs.slen⟩
 ·have ha:a=_:=ha
  subst ha
  exact ⟨0,hK,rfl⟩
 cases hK
theorem Cc {R:Type} {Δ:List Ch} {s:VS T} {e:Env} (S:VSim g M Δ s ms e h) {x:W T} {a:AV} {esz:Nat} {i:Int} {k:IntKind} {K:SV T→VS T→Option R} {r:R} (hK:ixA s x esz i K=some r) (ha:bF (Bo g M) s.ps ms h x a) :
  ∃ w v,K (W.sv w) s=some r∧POp.ev (.indexAddr esz) [a,.int k i]=some v∧kQ (Bo g M) s.ps ms h w v:=by
 unfold ixA at hK
 split at hK
 ·rename_i j
  split at hK
  ·rename_i t l hp
   cases he:Nat.beq (T.cells t) esz with
   | false=>rw [he] at hK; cases hK
   | true=>
    obtain rfl:=Nat.eq_of_beq_eq_true he
    rw [he] at hK
    obtain ⟨x,hx,hK⟩:=obI hK
    obtain ⟨q1,q2,q3,q4,q5⟩:=sO S ⟨_,hp,.inl rfl⟩ ha hx
    exact ⟨_,_,hK,by simp only [POp.ev,if_pos (And.intro q1 (And.intro q2 q3))],q4,iv q5⟩
  ·rename_i t l j0 j1 hp
   cases he:Nat.beq (T.cells t) esz with
   | false=>rw [he] at hK; cases hK
   | true=>
    obtain rfl:=Nat.eq_of_beq_eq_true he
    rw [he] at hK
    obtain ⟨x,hx,hK⟩:=obI hK
    obtain ⟨q1,q2,q3,q4,q5⟩:=sO S ⟨_,hp,.inr ⟨_,_,rfl⟩⟩ ha hx
    exact ⟨_,_,hK,by simp only [POp.ev,if_pos (And.intro q1 (And.intro q2 q3))],q4,iv q5⟩
  cases hK
 ·rename_i z o t l
  cases he:Nat.beq (T.cells t) esz with
  | false=>rw [he] at hK; cases hK
  | true=>
   obtain rfl:=Nat.eq_of_beq_eq_true he
   rw [he] at hK
   obtain ⟨x,hx,hK⟩:=obI hK
   obtain ⟨q1,q2,q3,q4,q5⟩:=E3 (h0:=h) (Bu ha) hx
   exact ⟨_,_,hK,by simp only [POp.ev,if_pos (And.intro q1 (And.intro q2 q3))],d5 q4,q5⟩
 cases hK
theorem mD {R:Type} {w:W T} {K:W T→Option R} {r:R} (hK:ptD w K=some r) {a:AV} (hr:bF B ps ms h w a):∃ w',K w'=some r∧bF B ps ms h w' a:=by
 unfold ptD at hK
 split at hK
 ·rename_i z t q
  obtain ⟨x,rfl,hK⟩:=obI hK
  have hr:(Bp (T.r t)).R (zG B h z) [a] (some x):=hr
  rcases cP hr with ⟨_,e⟩ | ⟨o,v,row,b,rfl,e,h1,h2⟩
  ·cases e
  cases e
  have hl:row.length=T.cells t:=by rw [← a5]; exact (T.r t).len h2
  exact ⟨_,hK,o,v,0,row,h1,by omega,by rw [List.drop_zero,← hl,List.take_length]; exact h2,rfl⟩
 exact ⟨w,hK,hr⟩
theorem xW {t:VT} (hp:t.flat=true) {G G':Hp} {c:List AV} {y:T.D t} (hr:(T.r t).R G c y):(T.r t).R G' c y:=by
 cases t<;>first | exact hr | cases hp
theorem rf {R:Type} {z:Bool} {t:VT}:∀ (ws:List (W T)) {K:List (T.D t)→Option R} {r:R},Ef z t ws K=some r→∀ {cs:List AV},All2 (kQ B ps ms h) ws cs→∃ xs,K xs=some r∧All2 (fun x c=>(T.r t).R (zG B h z) [c] x∧c.flat=true) xs cs
 | [],K,r,hK,cs,hr=>by cases hr; exact ⟨[],hK,.nil⟩
 | w::ws,K,r,hK,cs,hr=>by
  cases hr with
  | @cons _ c _ cs p q=>
   unfold Ef at hK
   split at hK
   ·rename_i heq; cases heq
   ·rename_i z' t' x ws' heq
    injection heq with e1 e2
    subst e1; subst e2
    cases hb:((z'==z)||t.flat) with
    | false=>rw [hb] at hK; cases hK
    | true=>
     rw [hb,cond_true] at hK
     unfold cast1 at hK
     split at hK
     ·rename_i e
      subst e
      obtain ⟨xs,k1,k2⟩:=rf ws hK q
      refine ⟨x::xs,k1,.cons ⟨?_,p.2⟩ k2⟩
      have p1:(T.r t').R (zG B h z') [c] x:=p.1
      rw [Bool.or_eq_true] at hb
      rcases hb with hb | hb
      ·rw [← (beq_iff_eq.1 hb:z'=z)]; exact p1
      exact xW hb p1
     cases hK
   cases hK
theorem vj {R:Type} {l:List (W T)} {i:Int} {k:IntKind} {len:Nat} {K:W T→Option R} {r:R} (hK:A6 l i K=some r) (hl:l.length=len) {cs:List AV} (hr:All2 (kQ B ps ms h) l cs):uU B ms h K r (POp.ev (.indexArr1 len) [.agg cs,.int k i]):=by
 unfold A6 at hK
 split at hK
 ·rename_i z t x ws
  obtain ⟨xs,hK,hx⟩:=rf _ hK hr
  obtain ⟨y,hy,hK⟩:=obI hK
  obtain ⟨h0,h1⟩:=bL hy
  obtain ⟨c,c1,c2⟩:=bj hx h1
  have hlt:=(List.getElem?_eq_some_iff.1 c1).1
  rw [← hr.len,hl] at hlt
  exact ⟨_,c,hK,by simp only [POp.ev,if_pos (show 0≤i∧i < (len:Int) by omega)]; exact c1,c2.1,c2.2⟩
 cases hK
theorem Ca {R:Type} {q:Nat} {x y:W T} {K:Bool→Option R} {r:R} (hK:eqC q x y K=some r) {a b:AV} (ha:bF B ps ms h x a) (hb:bF B ps ms h y b):∃ c,K c=some r∧jW q a b=some c:=by
 unfold eqC at hK
 split at hK
 ·obtain rfl:=aV ha
  obtain rfl:=aV hb
  split at hK
  ·rename_i hk; exact ⟨_,hK,by simp only [jW,if_pos hk]⟩
  cases hK
 ·obtain rfl:=dG ha
  obtain rfl:=dG hb
  exact ⟨_,hK,rfl⟩
 ·obtain rfl:=dI ha
  obtain rfl:=dI hb
  exact ⟨_,hK,rfl⟩
 cases hK
theorem wU {R:Type} {xs ys:List (W T)} {cs ds:List AV} (hx:All2 (kQ B ps ms h) xs cs) (hy:All2 (kQ B ps ms h) ys ds):∀ (is:List (Nat×Nat)) {K:Bool→Option R} {r:R},eqW xs ys is K=some r→∃ b,K b=some r∧bM cs ds is=some b
 | [],K,r,hK=>⟨true,hK,rfl⟩
 | (i,q)::is,K,r,hK=>by
  simp only [eqW] at hK
  obtain ⟨x,h1,hK⟩:=obI hK
  obtain ⟨y,h2,hK⟩:=obI hK
  rw [aW] at h1 h2
  obtain ⟨a,a1,a2⟩:=bj hx h1
  obtain ⟨b,b1,b2⟩:=bj hy h2
  obtain ⟨c,hK,c1⟩:=Ca hK a2.1 b2.1
  obtain ⟨d,hK,d1⟩:=wU hx hy is hK
  exact ⟨_,hK,by simp only [bM,a1,b1,c1,d1]⟩
theorem pj {a:AV} (h:a.isSlice=true) (z l u:Nat):(a.sub z l u).flat=true:=by cases a<;>first | rfl | cases h
theorem sN {R:Type} {lo hi:Bool} {rest:List (SV T)} {α:Type} {q0:Rep α} {G:Hp} {a:AV} {l:List α} (hs:SlR q0 G a l) {K:List α→Option R} {r:R} (hK:(zY (l.length:Int) lo hi rest fun a b=>(slc l a b).bind K)=some r) {as:List AV} (hr:All2 (cJ B ps ms h) rest as):∃ (u v:Int) (q:List α),K q=some r∧slc l u v=some q∧POp.ev (.sliceSl q0.z lo hi) (a::as)=some (a.sub q0.z u.toNat v.toNat):=by
 unfold zY at hK
 split at hK
 ·obtain ⟨q,hq,hK⟩:=obI hK
  cases hr
  exact ⟨_,_,q,hK,hq,mY hs hq⟩
 ·obtain ⟨q,hq,hK⟩:=obI hK
  obtain ⟨c,rfl,p⟩:=jw hr
  obtain rfl:=aV p.1
  exact ⟨_,_,q,hK,hq,eh hs hq⟩
 ·obtain ⟨q,hq,hK⟩:=obI hK
  obtain ⟨c,rfl,p⟩:=jw hr
  obtain rfl:=aV p.1
  exact ⟨_,_,q,hK,hq,gL hs hq⟩
 ·obtain ⟨q,hq,hK⟩:=obI hK
  obtain ⟨c,d,rfl,p,p'⟩:=jM hr
  obtain rfl:=aV p.1
  obtain rfl:=aV p'.1
  exact ⟨_,_,q,hK,hq,mu hs hq⟩
 cases hK
theorem vu {R:Type} {lo hi:Bool} {rest:List (SV T)} {l:List UInt8} {K:List UInt8→Option R} {r:R} (hK:(zY (l.length:Int) lo hi rest fun a b=>(slc l a b).bind K)=some r) {as:List AV} (hr:All2 (cJ B ps ms h) rest as):∃ q,K q=some r∧POp.ev (.sliceStr lo hi) (.str l::as)=some (.str q):=by
 unfold zY at hK
 split at hK
 ·obtain ⟨q,hq,hK⟩:=obI hK
  cases hr
  exact ⟨q,hK,lq hq⟩
 ·obtain ⟨q,hq,hK⟩:=obI hK
  obtain ⟨c,rfl,p⟩:=jw hr
  obtain rfl:=aV p.1
  exact ⟨q,hK,kG hq⟩
 ·obtain ⟨q,hq,hK⟩:=obI hK
  obtain ⟨c,rfl,p⟩:=jw hr
  obtain rfl:=aV p.1
  exact ⟨q,hK,kF hq⟩
 ·obtain ⟨q,hq,hK⟩:=obI hK
  obtain ⟨c,d,rfl,p,p'⟩:=jM hr
  obtain rfl:=aV p.1
  obtain rfl:=aV p'.1
  exact ⟨q,hK,lM hq⟩
 cases hK
end
end Go.Am
namespace Go.Am
open Go
section
variable {T:TE} {g:Heap} {M:Nat→Prop} {h:Heap}
theorem eI {t:VT} (ht:t.leaf=true):(VT.ow T.o t).rep.z=1:=by
 cases t with
 | sl o t=>cases o<;>rfl
 | st k=>cases ht
 | mp a b=>cases a<;>cases b<;>rfl
 | _=>rfl
theorem dt {t:VT} {G:Hp} {a:AV} {x:T.D t} (hr:(T.r t).R G [a] x) (ht:t.leaf=true):a.flat=true:=by
 cases t with
 | int k=>have hr:[a]=[AV.int k x]:=hr; cases hr; rfl
 | bool=>have hr:[a]=[AV.bool x]:=hr; cases hr; rfl
 | str=>have hr:[a]=[AV.str x]:=hr; cases hr; rfl
 | sl o t=>
  cases o
  ·exact iE (oW (r:=T.r t) hr).is
  exact iE (oW (r:=T.r t) hr).is
 | st k=>cases ht
 | pt t=>
  rcases cP (r:=T.r t) hr with ⟨rfl,_⟩ | ⟨o,v,row,b,rfl,_⟩<;>rfl
 | ic n t=>
  obtain ⟨c,e,hc⟩:=(show ∃ c,[a]=[c]∧IfR n (T.r t) G c x from hr)
  cases e
  rcases hc with ⟨rfl,_⟩ | ⟨p,rfl,_⟩<;>rfl
 | mp k v=>
  have key:∀ {α:Type} {G:Hp} {y:Option α},(BB α).R G [a] y→a.flat=true:=fun {α G y} hr=>by
   obtain ⟨s,e,hs⟩:=hr
   cases e
   cases a<;>first | rfl | cases hs
  cases k<;>cases v<;>first | exact key hr | exact hr.elim
theorem rv {B:Hp}:∀ (ts:List VT) (hl:∀ t,t∈ts→t.leaf=true) (x:T.H ts) {Γ:List Ch} {cs:List AV} (S:St g M (own (oHL T.o ts) cs x::Γ) h) (ms:List AV),
  ∃ xs:List AV,xs.length=(opn ts x ms.length).2.length∧All2 (hY B (ms++xs) h) (opn ts x ms.length).1 cs∧∀ M0,St g M (chs B M0 xs (opn ts x ms.length).2++Γ) h
 | [],hl,x,Γ,cs,S,ms=>by
  have hcs:cs=[]:=S.snap (.head _)
  subst hcs
  exact ⟨[],rfl,.nil,fun _=>S.drop⟩
 | t::ts,hl,x,Γ,cs,S,ms=>by
  obtain ⟨a,b,rfl,hla,_,S1⟩:=S.unpair
  have ht:=hl t (List.mem_cons_self ..)
  obtain ⟨c0,rfl⟩:=jl (hla.trans (eI ht))
  have hl2:∀ u,u∈ts→u.leaf=true:=fun u hu=>hl u (List.mem_cons_of_mem _ hu)
  have hfl:c0.flat=true:=dt (x:=x.1) (S1.snap (r:=T.w t) (.head _)) ht
  have dat:∀ (e:opn (t::ts) x ms.length=(.d true t x.1::(opn ts x.2 ms.length).1,(opn ts x.2 ms.length).2)) (hf:T.w t=fz (T.w t).rep),∃ xs:List AV,xs.length=(opn (t::ts) x ms.length).2.length∧All2 (hY B (ms++xs) h) (opn (t::ts) x ms.length).1 ([c0]++b)∧∀ M0,St g M (chs B M0 xs (opn (t::ts) x ms.length).2++Γ) h:=by
   intro e hf
   rw [e]
   have S2:St g M (own (T.w t) [c0] x.1::own (oHL T.o ts) b x.2::Γ) h:=S1
   rw [hf] at S2
   have fact:(T.r t).R (Frz h) [c0] x.1:=S2.fzr (.head _)
   obtain ⟨xs,k1,k2,k3⟩:=rv ts hl2 x.2 S2.drop ms
   exact ⟨xs,k1,.cons ⟨fact,hfl⟩ k2,k3⟩
  have prt:∀ (p:Part T) (e:opn (t::ts) x ms.length=(.r ms.length::(opn ts x.2 (ms.length+1)).1,p::(opn ts x.2 (ms.length+1)).2)) (hp:∀ M0,df B M0 c0 p=own (T.w t) [c0] x.1),∃ xs:List AV,xs.length=(opn (t::ts) x ms.length).2.length∧All2 (hY B (ms++xs) h) (opn (t::ts) x ms.length).1 ([c0]++b)∧∀ M0,St g M (chs B M0 xs (opn (t::ts) x ms.length).2++Γ) h:=by
   intro p e hp
   rw [e]
   have S2:St g M (own (T.w t) [c0] x.1::own (oHL T.o ts) b x.2::Γ) h:=S1
   obtain ⟨xs,k1,k2,k3⟩:=rv ts hl2 x.2 S2.swap (ms++[c0])
   have e2:(ms++[c0]).length=ms.length+1:=by simp
   rw [e2] at k1 k2 k3
   rw [List.append_assoc] at k2
   refine ⟨c0::xs,by simp only [List.length_cons,k1],.cons ⟨bn ms xs c0,hfl⟩ k2,fun M0=>?_⟩
   have S3:=(k3 M0).perm List.perm_middle
   rw [← hp M0] at S3
   exact S3
  cases t with
  | int k=>exact dat rfl rfl
  | bool=>exact dat rfl rfl
  | str=>exact dat rfl rfl
  | sl o t=>
   cases o
   ·exact dat rfl rfl
   exact prt _ rfl fun _=>rfl
  | st k=>cases ht
  | pt t=>exact prt _ rfl fun _=>rfl
  | ic n t=>exact prt _ rfl fun _=>rfl
  | mp k v=>exact prt _ rfl fun _=>rfl
theorem dZ (T:TE):∀ (t u:VT),u∈T.lv t→u.leaf=true
 | .st k,u,hu=>T.fl_leaf k u hu
 | .int _,u,hu=>by simp only [TE.lv,List.mem_singleton] at hu; subst hu; rfl
 | .bool,u,hu=>by simp only [TE.lv,List.mem_singleton] at hu; subst hu; rfl
 | .str,u,hu=>by simp only [TE.lv,List.mem_singleton] at hu; subst hu; rfl
 | .sl _ _,u,hu=>by simp only [TE.lv,List.mem_singleton] at hu; subst hu; rfl
 | .pt _,u,hu=>by simp only [TE.lv,List.mem_singleton] at hu; subst hu; rfl
 | .ic _ _,u,hu=>by simp only [TE.lv,List.mem_singleton] at hu; subst hu; rfl
 | .mp _ _,u,hu=>by simp only [TE.lv,List.mem_singleton] at hu; subst hu; rfl
theorem gF {R:Type} {Δ:List Ch} {s:VS T} {ms:List AV} {e:Env} (S:VSim g M Δ s ms e h) {k:Nat} {a:AV} (ha:nth ms k=some a) {K:VS T→Option R} {r:R} (hK:wL k s K=some r) :
  ∃ s' xs o v,K s'=some r∧VSim g M Δ s' (ms++xs) e h∧a=.ptr o v 0∧Ro s s'∧∀ w a,bF (Bo g M) s.ps ms h w a→bF (Bo g M) s'.ps (ms++xs) h w a:=by
 unfold wL at hK
 split at hK
 ·rename_i t q hp
  obtain ⟨x,rfl,hK⟩:=obI hK
  have S1:=S.st.pull ha hp
  obtain ⟨o,v,row,rfl,S2⟩:=St.ptrOpen (r:=T.w t) S1
  have S3:=(St.unW S2.swap)
  rw [← S.len] at hK
  obtain ⟨xs,k1,k2,k3⟩:=rv (B:=Bo g M) (T.lv t) (dZ T t) (T.un t x) S3 ms
  have S4:=k3 (ms++xs)
  refine ⟨_,xs,o,v,hK,?_,rfl,⟨fun j x h=>h,fun j p h=>aL (kd hp (fun _ e=>by cases e) h)⟩,fun w a r=>uK (vm (bi hp (fun _ e=>by cases e)) (fun _ _ e=>by rcases e with e | ⟨_,_,e⟩<;>cases e) r)⟩
  have S5:St g M (fJ o row v::(chs (Bo g M) (ms++xs) xs (opn (T.lv t) (T.un t x) ms.length).2++Δ++chs (Bo g M) (ms++xs) ms (s.ps.set k .dead))) h:=by
   have S6:=S4.perm List.perm_middle
   rw [← List.append_assoc] at S6
   exact St.more (Γ:=fJ o row v::_) xs S6
  have S7:=St.push' (p:=.row (opn (T.lv t) (T.un t x) ms.length).1) (k:=k) (St.rowClose k2 S5) ha (a8 hp)
  rw [List.set_set] at S7
  have hlen:ms.length=(s.ps.set k (.row (opn (T.lv t) (T.un t x) ms.length).1)).length:=by rw [List.length_set]; exact S.len
  have S8:VSim g M Δ (⟨s.e,s.ps.set k (.row (opn (T.lv t) (T.un t x) ms.length).1)++(opn (T.lv t) (T.un t x) ms.length).2⟩:VS T) (ms++xs) e h:=by
   refine ⟨by simp only [List.length_append,← hlen,k1],?_,?_⟩
   ·rw [eg _ _ hlen]
    refine S7.perm ?_
    rw [← List.append_assoc Δ,List.append_assoc (chs _ _ xs _)]
    exact List.perm_append_comm
   exact S.env_id (fun w a r=>aK (HZ.refl _) w r) fun w a r=>uK (vm (bi hp (fun _ e=>by cases e)) (fun _ _ e=>by rcases e with e | ⟨_,_,e⟩<;>cases e) r)
  exact S8
 ·rename_i ws hp
  obtain ⟨o,v,cs,rfl,_,_⟩:=St.rowOpen (S.st.pull ha hp)
  exact ⟨s,[],o,v,hK,by rw [List.append_nil]; exact S,rfl,Ro.refl s,fun w a r=>by rw [List.append_nil]; exact r⟩
 ·rename_i ws hp
  obtain ⟨o,v,cs,rfl,_,_⟩:=St.rowOpen (S.st.pull (p:=.ro (.row ws)) ha hp)
  exact ⟨s,[],o,v,hK,by rw [List.append_nil]; exact S,rfl,Ro.refl s,fun w a r=>by rw [List.append_nil]; exact r⟩
 cases hK
def PQ {R:Type} (g:Heap) (M:Nat→Prop) (Δ:List Ch) (K:SV T→VS T→Option R) (r:R) (s:VS T) (ms:List AV) (e:Env) (h:Heap) (o:Option AV):Prop:=
 ∃ x s' xs v,K x s'=some r∧o=some v∧VSim g M Δ s' (ms++xs) e h∧cJ (Bo g M) s'.ps (ms++xs) h x v∧Ro s s'
theorem PQ.same {R:Type} {Δ:List Ch} {K:SV T→VS T→Option R} {r:R} {s:VS T} {ms:List AV} {e:Env} {o:Option AV} (S:VSim g M Δ s ms e h) {x:SV T} {v:AV} (hK:K x s=some r) (ho:o=some v) (hr:cJ (Bo g M) s.ps ms h x v):PQ g M Δ K r s ms e h o:=
 ⟨x,s,[],v,hK,ho,by rw [List.append_nil]; exact S,by rw [List.append_nil]; exact hr,Ro.refl s⟩
theorem PQ.one {R:Type} {Δ:List Ch} {K:SV T→VS T→Option R} {r:R} {s:VS T} {ms:List AV} {e:Env} {o:Option AV} (S:VSim g M Δ s ms e h) (hw:uU (Bo g M) ms h (fun w=>K (W.sv w) s) r o):PQ g M Δ K r s ms e h o:=by
 obtain ⟨w,v,h1,h2,h3,h4⟩:=hw
 exact PQ.same S h1 h2 ⟨d5 h3,h4⟩
theorem xb {R:Type} {Δ:List Ch} {s:VS T} {ms:List AV} {e:Env} (S:VSim g M Δ s ms e h) {x:W T} {a:AV} (ha:bF (Bo g M) s.ps ms h x a) {off:Nat} {K:SV T→VS T→Option R} {r:R} (hK:adA s off K x=some r):PQ g M Δ K r s ms e h (POp.ev (.fieldAddr off) [a]):=by
 unfold adA at hK
 split at hK
 ·obtain ⟨o,v,h1,rfl⟩:=ha
  exact PQ.same S hK rfl ⟨⟨o,v,h1,rfl⟩,rfl⟩
 ·obtain ⟨s',xs,o,v,k1,k2,rfl,k3,_⟩:=gF S ha hK
  refine ⟨_,s',xs,_,k1,rfl,k2,⟨⟨o,v,aL ha,?_⟩,rfl⟩,k3⟩
  rw [Nat.zero_add]
 ·rename_i k t i x o
  obtain ⟨b,l,h1,h2,h3,rfl⟩:=ha
  have hp:=(sO S h2 h1 h3.choose_spec.1).2.2.2.2
  have hq:=ew o hp
  refine PQ.same S hK (v:=((b.at (i.toNat * T.cells t)).padd o).padd off) ?_ ⟨⟨b,l,h1,h2,h3,tG _ _ _⟩,iv (ew _ hq)⟩
  revert hq
  cases (b.at (i.toNat * T.cells t)).padd o<;>intro hq<;>first | rfl | cases hq
 ·obtain ⟨o,v,base,row,h1,h2,h3,rfl⟩:=ha
  exact PQ.same S hK rfl ⟨⟨o,v,base,row,h1,h2,h3,by rw [Nat.add_assoc]⟩,rfl⟩
 cases hK
theorem DZ {R:Type} {Δ:List Ch} {s:VS T} {ms:List AV} {e:Env} (S:VSim g M Δ s ms e h) {x:W T} {a:AV} (ha:bF (Bo g M) s.ps ms h x a) {K:SV T→VS T→Option R} {r:R} (hK:ncA s K x=some r):PQ g M Δ K r s ms e h (POp.ev .nilCheck [a]):=by
 unfold ncA at hK
 split at hK
 ·obtain ⟨o,v,h1,rfl⟩:=ha
  exact PQ.same S hK rfl ⟨⟨o,v,h1,rfl⟩,rfl⟩
 ·obtain ⟨s',xs,o,v,k1,k2,rfl,k3,_⟩:=gF S ha hK
  exact ⟨_,s',xs,_,k1,rfl,k2,⟨⟨o,v,aL ha,rfl⟩,rfl⟩,k3⟩
 ·rename_i k t i x o
  have ha':=ha
  obtain ⟨b,l,h1,h2,h3,rfl⟩:=ha
  have hp:=(sO S h2 h1 h3.choose_spec.1).2.2.2.2
  exact PQ.same S hK (Dp (ew o hp)) ⟨ha',iv (ew _ hp)⟩
 ·obtain ⟨o,v,base,row,h1,h2,h3,rfl⟩:=ha
  exact PQ.same S hK rfl ⟨⟨o,v,base,row,h1,h2,h3,rfl⟩,rfl⟩
 cases hK
theorem All2.nthR {α β:Type} {P:α→β→Prop} {l:List α} {m:List β} (h:All2 P l m) {i:Nat} {a:α} (hi:nth l i=some a):∃ b,m[i]? = some b∧P a b:=by
 rw [aW] at hi
 exact bj h hi
theorem CB {R:Type} {Δ:List Ch} {s:VS T} {ms:List AV} {e:Env} (S:VSim g M Δ s ms e h) {x:W T} {a:AV} (ha:bF (Bo g M) s.ps ms h x a) {esz:Nat} {lo hi:Bool} {rest:List (SV T)} {as:List AV} (hr:All2 (cJ (Bo g M) s.ps ms h) rest as) {K:SV T→VS T→Option R} {r:R} (hK:slA s esz lo hi rest K x=some r):PQ g M Δ K r s ms e h (POp.ev (.sliceSl esz lo hi) (a::as)):=by
 unfold slA at hK
 split at hK
 ·rename_i k
  have ha:nth ms k=some a:=ha
  split at hK
  ·rename_i t l hp
   cases he:Nat.beq (T.cells t) esz with
   | false=>rw [he] at hK; cases hK
   | true=>
    obtain rfl:=Nat.eq_of_beq_eq_true he
    rw [he,cond_true] at hK
    have hs:=sT S (bi hp (fun _ e=>by cases e)) ha
    obtain ⟨u,v,q,hK,hq,hev⟩:=sN hs hK hr
    obtain ⟨l1,l2⟩:=ck hq
    have S1:=S.kill hp ha
    have e1:(T.w t).rep.z=T.cells t:=a5 T t
    have e2:(T.r t).z=T.cells t:=a5 T t
    have S2:=St.sub (r:=T.w t) S1.st l1 l2
    rw [eD hq,e1] at S2
    rw [e2] at hev
    have S3:VSim g M (own (oSl (T.w t)) [a.sub (T.cells t) u.toNat v.toNat] q::Δ) (s.kill k) ms e h:=S1.with S2
    have S4:=VSim.new (p:=.sl t q) S3
    refine ⟨_,_,[a.sub (T.cells t) u.toNat v.toNat],_,hK,hev,S4,⟨?_,pj hs.is _ _ _⟩,(Ro.kill hp (fun _ e=>by cases e)).trans (Ro.app _ _)⟩
    show nth (ms++[_]) s.ps.length=_
    rw [← S.len]; exact bn ms [] _
  cases hK
 ·rename_i z o t l
  cases he:Nat.beq (T.cells t) esz with
  | false=>rw [he] at hK; cases hK
  | true=>
   obtain rfl:=Nat.eq_of_beq_eq_true he
   rw [he,cond_true] at hK
   have hs:=Bu ha
   obtain ⟨u,v,q,hK,hq,hev⟩:=sN hs hK hr
   obtain ⟨l1,l2⟩:=ck hq
   have e2:(T.r t).z=T.cells t:=a5 T t
   have h2:=hs.sub l1 l2
   rw [eD hq,e2] at h2
   rw [e2] at hev
   refine PQ.same S hK hev ⟨?_,pj hs.is _ _ _⟩
   cases o
   ·exact ⟨_,rfl,h2⟩
   exact ⟨_,rfl,h2⟩
 cases hK
theorem wH {w:W T} {b:Bool} {B:Hp} {ps:List (Part T)} {ms:List AV} {h:Heap} {a:AV} (hb:bV w=some b) (hr:bF B ps ms h w a):a=.bool b:=by
 unfold bV at hb
 split at hb
 ·cases hb; exact dI hr
 ·cases hb; exact hr
 ·cases hb; exact hr
 cases hb
theorem zM {R:Type} {Δ:List Ch} {s:VS T} {ms:List AV} {e:Env} (S:VSim g M Δ s ms e h) {q:POp} {xs:List (SV T)} {as:List AV} (ha:All2 (cJ (Bo g M) s.ps ms h) xs as) {K:SV T→VS T→Option R} {r:R} (hK:FB q xs s K=some r):PQ g M Δ K r s ms e h (q.ev as):=by
 cases q<;>simp only [FB] at hK<;>try cases hK
 case mv=>
  split at hK
  ·cases ha with
   | cons p t=>cases t; exact PQ.same S hK rfl p
  cases hK
 case pick=>
  split at hK
  ·rename_i c x y
   cases ha with
   | cons p t=>cases t with
    | cons q t=>cases t with
     | cons w t=>
      cases t
      have p:_=AV.bool c:=p.1
      subst p
      cases c
      ·exact PQ.same S hK rfl w
      exact PQ.same S hK rfl q
  cases hK
 case build zero offs=>
  obtain ⟨z,hz,hK⟩:=obI hK
  obtain ⟨l,hl,hK⟩:=obI hK
  obtain ⟨cs,k1,k2⟩:=jb hl (xE hz) ha
  exact PQ.same S hK (by simp only [POp.ev,k1]) ⟨cs,rfl,k2⟩
 case nilCheck=>
  split at hK
  ·obtain ⟨a,rfl,p⟩:=jw ha
   obtain ⟨w',hK,p'⟩:=mD hK p.1
   exact DZ S p' hK
  cases hK
 case bin op=>
  split at hK
  ·obtain ⟨a,b,rfl,p,q⟩:=jM ha
   exact PQ.one S (zD hK p.1 q.1)
  cases hK
 case eql neg q=>
  split at hK
  ·obtain ⟨a,b,rfl,p,q⟩:=jM ha
   have q:b=_:=q.1
   subst q
   exact PQ.one S (qZ S hK p.1).1
  ·obtain ⟨a,b,rfl,p,q⟩:=jM ha
   have p:a=_:=p.1
   subst p
   exact PQ.one S (qZ S hK q.1).2
  ·obtain ⟨a,b,rfl,p,q⟩:=jM ha
   have q:b=_:=q.1
   subst q
   exact PQ.one S (ye S hK p.1)
  ·obtain ⟨a,b,rfl,p,q⟩:=jM ha
   obtain ⟨x1,e1,hK⟩:=obI hK
   obtain ⟨x2,e2,hK⟩:=obI hK
   obtain rfl:=wH e1 p.1
   obtain rfl:=wH e2 q.1
   exact PQ.same S hK (show POp.ev (.eql neg 0) [.bool x1,.bool x2]=some (.bool (bif neg then !(x1==x2) else x1==x2)) by cases neg<;>rfl) ⟨rfl,rfl⟩
  cases hK
 case un op=>
  split at hK
  ·obtain ⟨a,rfl,p⟩:=jw ha
   exact PQ.one S (Cb hK p.1)
  cases hK
 case conv k=>
  split at hK
  ·obtain ⟨a,rfl,p⟩:=jw ha
   obtain rfl:=aV p.1
   exact PQ.same S hK rfl ⟨rfl,rfl⟩
  cases hK
 case mkIface t=>
  split at hK
  ·obtain ⟨a,rfl,p⟩:=jw ha
   exact PQ.same S hK rfl ⟨⟨a,p.1,p.2,rfl⟩,rfl⟩
  ·obtain ⟨a,rfl,p⟩:=jw ha
   obtain ⟨o,v,h1,rfl⟩:=p.1
   exact PQ.same S hK rfl ⟨⟨_,h1,rfl,rfl⟩,rfl⟩
  cases hK
 case fieldAddr off=>
  split at hK
  ·obtain ⟨a,rfl,p⟩:=jw ha
   obtain ⟨w',hK,p'⟩:=mD hK p.1
   exact xb S p' hK
  cases hK
 case indexArrAddr len esz=>
  split at hK
  ·obtain ⟨a,b,rfl,p,q⟩:=jM ha
   obtain rfl:=aV q.1
   split at hK
   ·rename_i hi
    obtain ⟨w',hK,p'⟩:=mD hK p.1
    have:=xb S p' hK
    unfold PQ at this ⊢
    have e:∀ k:IntKind,∀ i:Int,0≤i∧i < (len:Int)→POp.ev (.indexArrAddr len esz) [a,.int k i]=POp.ev (.fieldAddr (i.toNat * esz)) [a]:=fun k i hi=>by
     cases a<;>first | rfl | simp only [POp.ev,if_pos hi]
    rw [e _ _ hi]
    exact this
   cases hK
  cases hK
 case indexArr1 len=>
  split at hK
  ·rename_i l z k i
   obtain ⟨a,b,rfl,p,q⟩:=jM ha
   obtain rfl:=aV q.1
   obtain ⟨cs,rfl,hc⟩:=p
   cases hl:Nat.beq l.length len with
   | false=>rw [hl] at hK; cases hK
   | true=>
    rw [hl,cond_true] at hK
    exact PQ.one S (vj hK (Nat.eq_of_beq_eq_true hl) hc)
  cases hK
 case indexStr=>
  split at hK
  ·obtain ⟨a,b,rfl,p,q⟩:=jM ha
   obtain rfl:=aV q.1
   obtain rfl:=dG p.1
   obtain ⟨n,hn,hK⟩:=obI hK
   exact PQ.same S hK (xS hn) ⟨rfl,rfl⟩
  cases hK
 case sliceStr lo hi=>
  split at hK
  ·cases ha with
   | cons p q=>
    obtain rfl:=dG p.1
    obtain ⟨r,hK,e⟩:=vu hK q
    exact PQ.same S hK e ⟨rfl,rfl⟩
  cases hK
 case sliceSl esz lo hi=>
  split at hK
  ·cases ha with
   | @cons _ a _ as p q=>exact CB S p.1 q hK
  cases hK
 case eqAgg neg is=>
  split at hK
  ·obtain ⟨a,b,rfl,⟨cs,rfl,hc⟩,⟨ds,rfl,hd⟩⟩:=jM ha
   obtain ⟨c,hK,e⟩:=wU hc hd is hK
   refine PQ.same S hK (v:=.bool (bif neg then !c else c)) ?_ ⟨rfl,rfl⟩
   simp only [POp.ev,e]
   cases neg<;>rfl
  cases hK
 case field1 off=>
  split at hK
  ·obtain ⟨a,rfl,cs,rfl,p⟩:=jw ha
   obtain ⟨w,hw,hK⟩:=obI hK
   obtain ⟨b,k1,k2⟩:=p.nthR hw
   exact PQ.same S hK k1 k2
  cases hK
 case fieldN off n=>
  split at hK
  ·rename_i l
   obtain ⟨a,rfl,cs,rfl,p⟩:=jw ha
   cases hb:Nat.ble (off+n) l.length with
   | false=>rw [hb] at hK; cases hK
   | true=>
    rw [hb] at hK
    have hb:off+n≤cs.length:=by rw [← p.len]; exact Nat.le_of_ble_eq_true hb
    exact PQ.same S hK (by simp only [POp.ev,if_pos hb]) ⟨_,rfl,(p.drop off).take n⟩
  cases hK
 case indexAddr esz=>
  split at hK
  ·obtain ⟨a,b,rfl,p,q⟩:=jM ha
   obtain rfl:=aV q.1
   obtain ⟨w,v,k1,k2,k3⟩:=Cc S hK p.1
   exact PQ.same S k1 k2 k3
  cases hK
 case extract i=>
  split at hK
  ·cases ha with
   | cons p t=>
    cases t
    obtain ⟨vs,rfl,p⟩:=p
    obtain ⟨w,hw,hK⟩:=obI hK
    obtain ⟨b,k1,k2⟩:=p.nthR hw
    exact PQ.same S hK k1 k2
  cases hK
 case mkFunc f=>
  split at hK
  ·rename_i ks hks
   have key:∀ {xs:List (SV T)} {as:List AV} {ks:List Nat},All2 (cJ (Bo g M) s.ps ms h) xs as→vh xs=some ks→All2 (fun k c=>∃ o v,nth ms k=some (.ptr o v 0)∧c=.ptr o v 0) ks as:=by
    intro xs as ks ha
    induction ha generalizing ks with
    | nil=>intro e; cases e; exact .nil
    | cons p q ih=>
     intro e
     unfold vh at e
     split at e
     ·rename_i heq; cases heq
     ·rename_i heq
      injection heq with u1 u2
      subst u1; subst u2
      split at e
      ·rename_i ks' hk'
       cases e
       obtain ⟨o,v,h1,rfl⟩:=p.1
       exact .cons ⟨o,v,h1,rfl⟩ (ih hk')
      cases e
     cases e
   exact PQ.same S hK rfl ⟨⟨as,rfl,key ha hks⟩,rfl⟩
  cases hK
 case lenStr=>
  split at hK
  ·obtain ⟨a,rfl,p⟩:=jw ha
   obtain rfl:=dG p.1
   exact PQ.same S hK rfl ⟨rfl,rfl⟩
  cases hK
 case lenSl=>
  split at hK
  ·obtain ⟨a,rfl,p⟩:=jw ha
   obtain ⟨n,k1,k2⟩:=yw S hK p.1
   exact PQ.same S k1 k2 ⟨rfl,rfl⟩
  cases hK
 case lenArr n=>
  split at hK
  ·cases ha with
   | cons p t=>cases t; exact PQ.same S hK rfl ⟨rfl,rfl⟩
  cases hK
 case min=>
  split at hK
  ·split at hK
   ·rename_i hk
    subst hk
    obtain ⟨a,b,rfl,p,q⟩:=jM ha
    obtain rfl:=aV p.1
    obtain rfl:=aV q.1
    exact PQ.same S hK (by simp only [POp.ev,xq,if_true]) ⟨rfl,rfl⟩
   cases hK
  cases hK
 case max=>
  split at hK
  ·split at hK
   ·rename_i hk
    subst hk
    obtain ⟨a,b,rfl,p,q⟩:=jM ha
    obtain rfl:=aV p.1
    obtain rfl:=aV q.1
    exact PQ.same S hK (by simp only [POp.ev,xK,if_true]) ⟨rfl,rfl⟩
   cases hK
  cases hK
end
end Go.Am
namespace Go.Am
open Go
section
variable {T:TE} {g:Heap} {M:Nat→Prop} {h:Heap}
theorem jm {Γ:List Ch} {t:VT} (hp:t.pure=true) {c:List AV} {y:T.D t} (S:St g M (own (T.w t) c y::Γ) h):(T.r t).R (Frz h) c y:=by
 cases t with
 | sl o t=>
  cases o
  ·exact S.fzr (.head _)
  cases hp
 | int k=>exact S.fzr (r:=rI k) (.head _)
 | bool=>exact S.fzr (r:=rB) (.head _)
 | str=>exact S.fzr (r:=rS) (.head _)
 | _=>cases hp
theorem mt {t:VT} (hp:t.flat=true) {G G':Hp} {c:List AV} {y:T.D t} (hr:(T.r t).R G c y):(T.r t).R G' c y:=by
 cases t<;>first | exact hr | cases hp
theorem lfO {R:Type}:∀ (ts:List VT) (hl:∀ t,t∈ts→t.leaf=true) (x:T.H ts) (n:Nat) {K:(t:VT)→T.D t→Option R} {r:R} {Γ:List Ch} {cs:List AV},St g M (own (oHL T.o ts) cs x::Γ) h→lf ts x n K=some r→∃ t y c Γ',K t y=some r∧cs[n]? = some c∧t∈ts∧St g M (own (T.w t) [c] y::Γ') h
 | [],_,_,_,_,_,_,_,_,hK=>by simp only [lf] at hK; cases hK
 | t::ts,hl,x,n,K,r,Γ,cs,S,hK=>by
  obtain ⟨a,b,rfl,hla,_,S1⟩:=S.unpair
  obtain ⟨c0,rfl⟩:=jl (hla.trans (eI (hl t (List.mem_cons_self ..))))
  cases n with
  | zero=>
   simp only [lf] at hK
   exact ⟨t,x.1,c0,_,hK,rfl,List.mem_cons_self ..,S1⟩
  | succ n=>
   simp only [lf] at hK
   obtain ⟨u,y,c,Γ',k1,k2,k3,k4⟩:=lfO ts (fun u hu=>hl u (List.mem_cons_of_mem _ hu)) x.2 n S1.swap hK
   exact ⟨u,y,c,Γ',k1,by simpa using k2,List.mem_cons_of_mem _ k3,k4⟩
theorem lfR {R:Type} {G:Hp}:∀ (ts:List VT) (hl:∀ t,t∈ts→t.leaf=true) (x:T.H ts) (n:Nat) {K:(t:VT)→T.D t→Option R} {r:R} {cs:List AV},(oHL T.o ts).rep.R G cs x→lf ts x n K=some r→∃ t y c,K t y=some r∧cs[n]? = some c∧t∈ts∧(T.r t).R G [c] y
 | [],_,_,_,_,_,_,_,hK=>by simp only [lf] at hK; cases hK
 | t::ts,hl,x,n,K,r,cs,hR,hK=>by
  obtain ⟨a,b,rfl,h1,h2⟩:=hR
  obtain ⟨c0,rfl⟩:=jl (((VT.ow T.o t).rep.len h1).trans (eI (hl t (List.mem_cons_self ..))))
  cases n with
  | zero=>
   simp only [lf] at hK
   exact ⟨t,x.1,c0,hK,rfl,List.mem_cons_self ..,h1⟩
  | succ n=>
   simp only [lf] at hK
   obtain ⟨u,y,c,k1,k2,k3,k4⟩:=lfR ts (fun u hu=>hl u (List.mem_cons_of_mem _ hu)) x.2 n h2 hK
   exact ⟨u,y,c,k1,by simpa using k2,List.mem_cons_of_mem _ k3,k4⟩
theorem unR {G:Hp} {t:VT} {cs:List AV} {x:T.D t} (hr:(T.r t).R G cs x):(oHL T.o (T.lv t)).rep.R G cs (T.un t x):=by
 have key:(oHL T.o [t]).rep.R G cs (x,()):=⟨cs,[],by simp,hr,rfl⟩
 cases t with
 | st k=>
  have e:T.w (.st k)=qT (oHL T.o (T.fl k)) (T.to k):=T.o_eq k
  have hr:(T.w (.st k)).rep.R G cs x:=hr
  rw [e] at hr
  exact hr
 | _=>exact key
theorem Fx {R:Type} {B:Hp} {ps:List (Part T)} {ms:List AV}:∀ (ts:List VT) (hl:∀ t,t∈ts→t.leaf=true) (x:T.H ts) (o n:Nat) {K:List (W T)→Option R} {r:R} {Γ:List Ch} {cs:List AV},St g M (own (oHL T.o ts) cs x::Γ) h→lfs true true ts x o n K=some r→∃ l,K l=some r∧All2 (kQ B ps ms h) l ((cs.drop o).take n)
 | ts,hl,x,o,0,K,r,Γ,cs,S,hK=>by
  cases ts<;>simp only [lfs] at hK<;>exact ⟨[],hK,by simp; exact .nil⟩
 | [],_,x,o,n+1,K,r,Γ,cs,S,hK=>by simp only [lfs] at hK; cases hK
 | t::ts,hl,x,0,n+1,K,r,Γ,cs,S,hK=>by
  obtain ⟨a,b,rfl,hla,_,S1⟩:=S.unpair
  have ht:=hl t (List.mem_cons_self ..)
  obtain ⟨c0,rfl⟩:=jl (hla.trans (eI ht))
  simp only [lfs,Bool.true_and] at hK
  cases hp:t.pure with
  | false=>rw [hp] at hK; cases hK
  | true=>
   rw [hp] at hK
   have hK:lfs true true ts x.2 0 n _=some r:=hK
   have f:=jm (T:=T) (t:=t) hp S1
   obtain ⟨l,k1,k3⟩:=Fx ts (fun u hu=>hl u (List.mem_cons_of_mem _ hu)) x.2 0 n S1.swap hK
   exact ⟨_,k1,.cons ⟨f,dt f ht⟩ (by simpa using k3)⟩
 | t::ts,hl,x,o+1,n+1,K,r,Γ,cs,S,hK=>by
  obtain ⟨a,b,rfl,hla,_,S1⟩:=S.unpair
  have ht:=hl t (List.mem_cons_self ..)
  obtain ⟨c0,rfl⟩:=jl (hla.trans (eI ht))
  simp only [lfs] at hK
  obtain ⟨l,k1,k3⟩:=Fx ts (fun u hu=>hl u (List.mem_cons_of_mem _ hu)) x.2 o (n+1) S1.swap hK
  exact ⟨l,k1,by simpa using k3⟩
theorem FJ {R:Type} {g0:Heap} {ps:List (Part T)} {ms:List AV} {z:Bool} {B:Hp}:∀ (ts:List VT) (hl:∀ t,t∈ts→t.leaf=true) (x:T.H ts) (o n:Nat) {K:List (W T)→Option R} {r:R} {cs:List AV},(oHL T.o ts).rep.R (zG B h z) cs x→lfs z false ts x o n K=some r→∃ l,K l=some r∧All2 (kQ B ps ms h) l ((cs.drop o).take n)
 | ts,hl,x,o,0,K,r,cs,hR,hK=>by
  cases ts<;>simp only [lfs] at hK<;>exact ⟨[],hK,by simp; exact .nil⟩
 | [],_,x,o,n+1,K,r,cs,S,hK=>by simp only [lfs] at hK; cases hK
 | t::ts,hl,x,0,n+1,K,r,cs,hR,hK=>by
  obtain ⟨a,b,rfl,h1,h2⟩:=hR
  have ht:=hl t (List.mem_cons_self ..)
  obtain ⟨c0,rfl⟩:=jl (((VT.ow T.o t).rep.len h1).trans (eI ht))
  simp only [lfs,Bool.false_and,cond_false] at hK
  obtain ⟨l,k1,k3⟩:=FJ (g0:=g0) ts (fun u hu=>hl u (List.mem_cons_of_mem _ hu)) x.2 0 n h2 hK
  have f:(T.r t).R (zG B h z) [c0] x.1:=h1
  have f2:cg B ms h (.d (z||t.flat) t x.1) c0:=by
   cases hf:t.flat with
   | false=>rw [Bool.or_false]; exact f
   | true=>exact mt hf f
  exact ⟨_,k1,.cons ⟨d5 f2,dt f ht⟩ (by simpa using k3)⟩
 | t::ts,hl,x,o+1,n+1,K,r,cs,hR,hK=>by
  obtain ⟨a,b,rfl,h1,h2⟩:=hR
  have ht:=hl t (List.mem_cons_self ..)
  obtain ⟨c0,rfl⟩:=jl (((VT.ow T.o t).rep.len h1).trans (eI ht))
  simp only [lfs] at hK
  obtain ⟨l,k1,k3⟩:=FJ (g0:=g0) ts (fun u hu=>hl u (List.mem_cons_of_mem _ hu)) x.2 o (n+1) h2 hK
  exact ⟨l,k1,by simpa using k3⟩
theorem sB {Δ:List Ch} {s:VS T} {ms:List AV} {e:Env} (S:VSim g M Δ s ms e h) {k:Nat} {t:VT} {l:List (T.D t)} {a:AV} (hp:lkP s.ps k=some (.sl t l)) (ha:nth ms k=some a) {i:Int} {x:T.D t} (hi:idx l i=some x) :
  ∃ c,c.length=T.cells t∧(a.at (i.toNat * T.cells t)).isPtr=true∧(∀ j y,c[j]? = some y→h.rd1 ((a.at (i.toNat * T.cells t)).padd j)=some y)∧h.rdN (a.at (i.toNat * T.cells t)) (T.cells t)=some c∧∃ Γ,St g M (own (oHL T.o (T.lv t)) c (T.un t x)::Γ) h:=by
 obtain ⟨c,hc,S1⟩:=St.out (r:=T.w t) (S.st.pullL ha hp) hi
 obtain ⟨_,_,q3,q4,q5,_⟩:=S1.hrd (.tail _ (.head _))
 have e1:(T.w t).rep.z=T.cells t:=a5 T t
 rw [e1] at hc q3 q4 q5
 exact ⟨c,hc,q3,q5,q4,_,St.unW S1⟩
theorem vf {h:Heap} {p:AV} {z:Nat} {c:List AV} (hp:p.isPtr=true) (hr:h.rdN p z=some c) (hc:c.length=z) {o n:Nat} (hn:o+n≤z):h.rdN (p.padd o) n=some ((c.drop o).take n):=by
 cases p<;>first | cases hp | skip
 rename_i q v f
 have hr:h.cells q v f z=some c:=hr
 show h.cells q v (f+o) n=_
 obtain ⟨cs,wr,hg,hl,rfl⟩:=ja hr
 rw [eA hg (by omega),List.drop_take,List.take_take,List.drop_drop,Nat.min_eq_left (by omega)]
theorem jZ {ps:List (Part T)} {k:Nat} {t t0:VT} {l:List (T.D t)} {l0:List (T.D t0)} (h:∃ p,lkP ps k=some p∧slq t l p) (h0:lkP ps k=some (.sl t0 l0)):lkP ps k=some (.sl t l):=by
 obtain ⟨p,h,rfl | ⟨j,j2,rfl⟩⟩:=h
 ·exact h
 rw [h0] at h; cases h
def PS {R:Type} (g:Heap) (M:Nat→Prop) (K:SV T→VS T→Option R) (r:R) (s:VS T) (ms:List AV) (h:Heap) (o:Option AV):Prop:=∃ x v,K x s=some r∧o=some v∧cJ (Bo g M) s.ps ms h x v
theorem PS.same {R:Type} {K:SV T→VS T→Option R} {r:R} {s:VS T} {ms:List AV} {o:Option AV} {x:SV T} {v:AV} (hK:K x s=some r) (ho:o=some v) (hr:cJ (Bo g M) s.ps ms h x v):PS g M K r s ms h o:=⟨x,v,hK,ho,hr⟩
theorem PS.pq {R:Type} {Δ:List Ch} {K:SV T→VS T→Option R} {r:R} {s:VS T} {ms:List AV} {e:Env} {o:Option AV} (S:VSim g M Δ s ms e h) (hp:PS g M K r s ms h o):PQ g M Δ K r s ms e h o:=by
 obtain ⟨x,v,h1,h2,h3⟩:=hp
 exact PQ.same S h1 h2 h3
theorem ur {R:Type} {Δ:List Ch} {s:VS T} {ms:List AV} {e:Env} (S:VSim g M Δ s ms e h) {x:W T} {a:AV} (ha:bF (Bo g M) s.ps ms h x a) {K:SV T→VS T→Option R} {r:R} (hK:ldA s K x=some r):PS g M K r s ms h (ROp.ev .load1 [a] h):=by
 unfold ldA at hK
 split at hK
 ·rename_i k o
  split at hK
  ·rename_i ws hp
   obtain ⟨w,hw,hK⟩:=obI hK
   obtain ⟨ob,v,h1,rfl⟩:=ha
   obtain ⟨ob',v',cs,e1,h2,S2⟩:=St.rowOpen (S.st.pullL h1 hp)
   cases e1
   obtain ⟨b,k1,k2⟩:=h2.nthR hw
   exact PS.same hK (S2.rd1 (.head _) k1) ⟨d5 k2.1,k2.2⟩
  cases hK
 ·rename_i k t i x o
  split at hK
  rotate_left
  ·cases hK
  rename_i t0 l0 hp0
  obtain ⟨b,l,h1,h2,h3,rfl⟩:=ha
  have h2:=jZ h2 hp0
  rw [hp0] at h2
  cases h2
  obtain ⟨x,h3,hK⟩:=fD hK h3
  have h2:=hp0
  obtain ⟨c,hc,q1,q2,q3,Γ,S1⟩:=sB S h2 h1 h3
  obtain ⟨u,y,d,Γ',k1,k2,k3,k4⟩:=lfO _ (dZ T t) _ _ S1 hK
  cases hp:u.pure with
  | false=>rw [hp] at k1; cases k1
  | true=>
   rw [hp] at k1
   have f:=jm (T:=T) (t:=u) hp k4
   exact PS.same k1 (q2 _ _ k2) ⟨f,dt f (dZ T t u k3)⟩
 ·rename_i z t x o
  obtain ⟨ob,v,base,row,h1,h2,h3,rfl⟩:=ha
  obtain ⟨u,y,d,k1,k2,k3,k4⟩:=lfR _ (dZ T t) _ _ (unR h3) hK
  obtain ⟨w,hg⟩:=zG.le S.st z _ _ _ h1
  have hlt:=(List.getElem?_eq_some_iff.1 k2).1
  have hlt2:o < T.cells t:=by rw [List.length_take,List.length_drop] at hlt; omega
  rw [List.getElem?_take_of_lt hlt2,List.getElem?_drop] at k2
  refine PS.same k1 (pT hg k2) ⟨d5 ?_,dt k4 (dZ T t u k3)⟩
  cases hf:u.flat with
  | false=>rw [Bool.or_false]; exact k4
  | true=>exact mt hf k4
 cases hK
theorem nC {h:Heap} {p:AV} {n:Nat} {c:List AV} (hr:h.rdN p n=some c):ROp.ev (.loadN n) [p] h=some (.agg c):=by
 cases p<;>first | cases hr | skip
 have hr:h.cells _ _ _ n=some c:=hr
 simp only [ROp.ev,hr]
theorem tv {R:Type} {Δ:List Ch} {s:VS T} {ms:List AV} {e:Env} (S:VSim g M Δ s ms e h) {x:W T} {a:AV} (ha:bF (Bo g M) s.ps ms h x a) {n:Nat} {K:SV T→VS T→Option R} {r:R} (hK:ldN s n K x=some r):PS g M K r s ms h (ROp.ev (.loadN n) [a] h):=by
 unfold ldN at hK
 split at hK
 ·rename_i k o
  split at hK
  ·rename_i ws hp
   cases hb:Nat.ble (o+n) ws.length with
   | false=>rw [hb] at hK; cases hK
   | true=>
    rw [hb] at hK
    obtain ⟨ob,v,h1,rfl⟩:=ha
    obtain ⟨ob',v',cs,e1,h2,S2⟩:=St.rowOpen (S.st.pullL h1 hp)
    cases e1
    have hb:o+n≤cs.length:=by rw [← h2.len]; exact Nat.le_of_ble_eq_true hb
    exact PS.same hK (nC (S2.rdN (.head _) hb rfl)) ⟨_,rfl,((h2.drop o).take n).imp fun w a k=>⟨d5 k.1,k.2⟩⟩
  cases hK
 ·rename_i k t i x o
  split at hK
  rotate_left
  ·cases hK
  rename_i t0 l0 hp0
  cases hb:Nat.ble (o+n) (T.cells t) with
  | false=>rw [hb] at hK; cases hK
  | true=>
   rw [hb] at hK
   have hb:o+n≤T.cells t:=Nat.le_of_ble_eq_true hb
   obtain ⟨b,l,h1,h2,h3,rfl⟩:=ha
   have h2:=jZ h2 hp0
   rw [hp0] at h2
   cases h2
   obtain ⟨x,h3,hK⟩:=fD hK h3
   have h2:=hp0
   obtain ⟨c,hc,q1,q2,q3,Γ,S1⟩:=sB S h2 h1 h3
   obtain ⟨ws,k1,k3⟩:=Fx (B:=Bo g M) (ps:=s.ps) (ms:=ms) _ (dZ T t) _ _ _ S1 hK
   exact PS.same k1 (nC (vf q1 q3 hc hb)) ⟨_,rfl,k3⟩
 ·rename_i z t x o
  cases hb:Nat.ble (o+n) (T.cells t) with
  | false=>rw [hb] at hK; cases hK
  | true=>
   rw [hb] at hK
   have hb:o+n≤T.cells t:=Nat.le_of_ble_eq_true hb
   obtain ⟨ob,v,base,row,h1,h2,h3,rfl⟩:=ha
   obtain ⟨ws,k1,k3⟩:=FJ (g0:=g) (ps:=s.ps) (ms:=ms) _ (dZ T t) _ _ _ (unR h3) hK
   obtain ⟨w,hg⟩:=zG.le S.st z _ _ _ h1
   rw [List.drop_take,List.take_take,List.drop_drop,Nat.min_eq_left (by omega)] at k3
   exact PS.same k1 (nC (pW hg (by omega))) ⟨_,rfl,k3⟩
 cases hK
theorem PQ.pre {R:Type} {Δ:List Ch} {K:SV T→VS T→Option R} {r:R} {s s':VS T} {ms xs:List AV} {e:Env} {o:Option AV} (hr:Ro s s') (hq:PQ g M Δ K r s' (ms++xs) e h o):PQ g M Δ K r s ms e h o:=by
 obtain ⟨x,s2,xs2,v,h1,h2,h3,h4,h5⟩:=hq
 rw [List.append_assoc] at h3 h4
 exact ⟨x,s2,xs++xs2,v,h1,h2,h3,h4,hr.trans h5⟩
theorem pQ {R:Type} {Δ:List Ch} {s0 s:VS T} {ms:List AV} {e:Env} {t:VT} {c:T.D t→Part T} (hc:∀ B ms a x,df B ms a (c x)=own (T.w t) [a] x) (hl:t.leaf=true) (hz:T.cells t=1) (hz2:(T.w t).rep.z=T.cells t) {k:Nat} {b:AV} {l:List (T.D t)} {p0:Part T} {i:Int} {x:T.D t} {K:SV T→VS T→Option R} {r:R}
  (S1:VSim g M (own (T.w (.sl true t)) [b] l::Δ) (s.kill k) ms e h) (hp:nth s.ps k=some p0) (hn:∀ q,p0≠.ro q) (h1:nth ms k=some b) (ro:Ro s0 s) (h3:idx l i=some x)
  (hK:K (W.sv (.r s.ps.length)) (((s.kill k).set k (.ho t l i.toNat s.ps.length)).new (c x))=some r):PQ g M Δ K r s0 ms e h (ROp.ev .load1 [(b.at (i.toNat * T.cells t)).padd 0] h):=by
 obtain ⟨c0',hc',S2⟩:=St.out (r:=T.w t) S1.st h3
 have hz':(T.w t).rep.z=1:=hz2.trans hz
 obtain ⟨c0,rfl⟩:=jl (hc'.trans hz')
 obtain ⟨_,_,q3,q4,q5,_⟩:=S2.hrd (.tail _ (.head _))
 have fl:c0.flat=true:=dt (t:=t) (S2.snap (r:=T.w t) (.head _)) hl
 have hlen:(s.kill k).ps.length=s.ps.length:=by simp [VS.kill,VS.pur,VS.set]
 have S5:VSim g M Δ (((s.kill k).set k (.ho t l i.toNat s.ps.length)).new (c x)) (ms++[c0]) e h:=by
  have S3:VSim g M (df (Bo g M) (ms++[c0]) c0 (c x)::kP (T.w t) b l i.toNat [c0]::Δ) (s.kill k) ms e h:=by
   rw [hc]
   exact S1.with S2
  have S4:=VSim.new S3
  have hj:nth (ms++[c0]) s.ps.length=some c0:=by
   rw [← hlen,← S1.len]; exact bn ms [] _
  have S6:VSim g M (df (Bo g M) (ms++[c0]) b (.ho t l i.toNat s.ps.length)::Δ) ((s.kill k).new (c x)) (ms++[c0]) e h:=S4.with (S4.st.imp (.cons (fun fp hP=>⟨c0,hj,hP⟩) (All2.refl' (fun _ _ k=>k) _)))
  have hd:nth (s.kill k).ps k=some .dead:=a8 hp
  have S7:=VSim.put0 S6 (aL hd) (aL h1)
  have e1:((s.kill k).new (c x)).set k (.ho t l i.toNat s.ps.length)=((s.kill k).set k (.ho t l i.toNat s.ps.length)).new (c x):=by
   simp only [VS.set,VS.new]
   rw [List.set_append_left _ _ (gY hd)]
  rw [← e1]
  exact S7
 refine ⟨_,_,[c0],c0,hK,?_,S5,⟨?_,fl⟩,(ro.trans ((Ro.kill hp hn).trans (Ro.setP (a8 hp) (fun _ e=>by cases e)))).trans (Ro.app _ _)⟩
 ·have:=q5 0 c0 rfl
  rw [hz2] at this
  rw [fG] at this ⊢
  exact BS this
 show nth (ms++[c0]) s.ps.length=_
 rw [← hlen,← S1.len]; exact bn ms [] _
theorem zk {R:Type} {Δ:List Ch} {s:VS T} {ms:List AV} {e:Env} (S:VSim g M Δ s ms e h) {q:ROp} {xs:List (SV T)} {as:List AV} (ha:All2 (cJ (Bo g M) s.ps ms h) xs as) {K:SV T→VS T→Option R} {r:R} (hK:EI q xs s K=some r):PQ g M Δ K r s ms e h (q.ev as h):=by
 cases q<;>simp only [EI] at hK<;>try cases hK
 case load1=>
  split at hK
  ·rename_i k off
   obtain ⟨a,rfl,p⟩:=jw ha
   obtain ⟨o,v,h1,rfl⟩:=p.1
   obtain ⟨s',xs,_,_,hK,S',_,ro,_⟩:=gF S h1 hK
   exact PQ.pre ro ((ur (x:=.ptr k off) S' ⟨o,v,aL h1,rfl⟩ hK).pq S')
  ·rename_i k u i x
   obtain ⟨a,rfl,p⟩:=jw ha
   split at hK
   ·rename_i t l hp
    obtain ⟨rfl,hK⟩:=aO hK
    obtain ⟨b,l',h1,h2,h3,rfl⟩:=p.1
    have h4:=jZ h2 (bi hp (fun _ e=>by cases e))
    rw [bi hp (fun _ e=>by cases e)] at h4
    cases h4
    obtain ⟨x,h3,hK⟩:=fD hK h3
    exact pQ (t:=.sl true u) (c:=Part.sl u) (fun _ _ _ _=>rfl) rfl rfl rfl (S.kill hp h1) hp (fun _ e=>by cases e) h1 (Ro.refl _) h3 hK
   ·rename_i t l i' j hp
    obtain ⟨b,l',h1,h2,h3,rfl⟩:=p.1
    obtain ⟨t',l2,s1,h',i1,j1,k1,k2,k3,hp1,k4⟩:=sm (E:=Eq) (fun _=>rfl) wg _ _ hK S hp h1
    subst k2
    obtain ⟨rfl,k1⟩:=aO k1
    obtain ⟨x',h3',k1⟩:=obI k1
    exact pQ (t:=.sl true u) (c:=Part.sl u) (fun _ _ _ _=>rfl) rfl rfl rfl k3 hp1 (fun _ e=>by cases e) h1 k4.ro h3' k1
   cases hK
  ·rename_i k u i x
   obtain ⟨a,rfl,p⟩:=jw ha
   split at hK
   ·rename_i t l hp
    obtain ⟨rfl,hK⟩:=aO hK
    obtain ⟨b,l',h1,h2,h3,rfl⟩:=p.1
    have h4:=jZ h2 (bi hp (fun _ e=>by cases e))
    rw [bi hp (fun _ e=>by cases e)] at h4
    cases h4
    obtain ⟨x,h3,hK⟩:=fD hK h3
    exact pQ (t:=.pt u) (c:=Part.po u) (fun _ _ _ _=>rfl) rfl rfl rfl (S.kill hp h1) hp (fun _ e=>by cases e) h1 (Ro.refl _) h3 hK
   ·rename_i t l i' j hp
    obtain ⟨b,l',h1,h2,h3,rfl⟩:=p.1
    obtain ⟨t',l2,s1,h',i1,j1,k1,k2,k3,hp1,k4⟩:=sm (E:=Eq) (fun _=>rfl) wg _ _ hK S hp h1
    subst k2
    obtain ⟨rfl,k1⟩:=aO k1
    obtain ⟨x',h3',k1⟩:=obI k1
    exact pQ (t:=.pt u) (c:=Part.po u) (fun _ _ _ _=>rfl) rfl rfl rfl k3 hp1 (fun _ e=>by cases e) h1 k4.ro h3' k1
   cases hK
  ·obtain ⟨a,rfl,p⟩:=jw ha
   obtain ⟨w',hK,p'⟩:=mD hK p.1
   exact (ur S p' hK).pq S
  cases hK
 case loadN n=>
  split at hK
  ·rename_i k off
   obtain ⟨a,rfl,p⟩:=jw ha
   obtain ⟨o,v,h1,rfl⟩:=p.1
   obtain ⟨s',xs,_,_,hK,S',_,ro,_⟩:=gF S h1 hK
   exact PQ.pre ro ((tv (x:=.ptr k off) S' ⟨o,v,aL h1,rfl⟩ hK).pq S')
  ·obtain ⟨a,rfl,p⟩:=jw ha
   obtain ⟨w',hK,p'⟩:=mD hK p.1
   exact (tv S p' hK).pq S
  cases hK
 case bytesToStr=>
  split at hK
  ·obtain ⟨a,rfl,p⟩:=jw ha
   have go:∀ {l:List Int},SlR (rI .u8) (dX h) a l→K (W.sv (.d true .str (l.map u8))) s=some r→PQ g M Δ K r s ms e h (ROp.ev .bytesToStr [a] h):=fun hs hK=>PQ.same S hK (uO hs) ⟨rfl,rfl⟩
   split at hK
   ·split at hK
    ·rename_i l hp
     exact go (sT S hp p.1) hK
    cases hK
   ·exact go ((Bu p.1).mono (zG.le S.st _)) hK
   cases hK
  cases hK
 case lookup kq ok zero=>
  split at hK
  ·rename_i k z k1 x
   obtain ⟨a,b,rfl,p,q⟩:=jM ha
   obtain rfl:=aV q.1
   split at hK
   ·rename_i ka kb m hp
    cases hq:Nat.beq kq 1 with
    | false=>rw [hq] at hK; cases hK
    | true=>
     obtain rfl:=Nat.eq_of_beq_eq_true hq
     rw [hq,cond_true] at hK
     unfold lkM at hK
     split at hK
     ·rename_i kz z0
      split at hK
      ·rename_i hc
       obtain ⟨rfl,rfl,rfl⟩:=hc
       have hO:=(S.st.pullL p.1 hp)
       have key:∀ (ok:Bool),ROp.ev (.lookup 1 ok (.int kz 0)) [a,.int k1 x] h=some (if ok=true then .tuple [.int kz ((mlk k1 m x).getD 0),.bool (mlk k1 m x).isSome] else .int kz ((mlk k1 m x).getD 0)):=fun ok=>by
        cases m with
        | none=>
         obtain ⟨fp,⟨e1,_,_⟩ | ⟨m,e1,_⟩⟩:=hO.mem (.head _)
         ·cases e1
          cases ok<;>rfl
         cases e1
        | some m=>
         have S1:=St.nmOpen (k:=keI k1) (ve:=AV.int kz) (c:=a) (q:=some m) rfl hO
         cases ok
         ·exact S1.look1 (e:=keI k1) (ve:=AV.int kz) (.head _) x 0
         exact S1.look2 (e:=keI k1) (ve:=AV.int kz) (.head _) x 0
       cases ok with
       | true=>exact PQ.same S hK (key true) ⟨_,rfl,.cons ⟨rfl,rfl⟩ (.cons ⟨rfl,rfl⟩ .nil)⟩
       | false=>exact PQ.same S hK (key false) ⟨rfl,rfl⟩
      cases hK
     cases hK
   cases hK
  ·rename_i k z x
   obtain ⟨a,b,rfl,p,q⟩:=jM ha
   obtain rfl:=dG q.1
   split at hK
   ·rename_i m hp
    cases hq:Nat.beq kq 2 with
    | false=>rw [hq] at hK; cases hK
    | true=>
     obtain rfl:=Nat.eq_of_beq_eq_true hq
     rw [hq,cond_true] at hK
     unfold lkS at hK
     split at hK
     ·cases ok with
      | true=>cases hK
      | false=>
       rw [cond_false] at hK
       have hO:=(S.st.pullL p.1 hp)
       have key:ROp.ev (.lookup 2 false (.bool false)) [a,.str x] h=some (.bool ((G2 m x).getD false)):=by
        cases m with
        | none=>
         obtain ⟨fp,⟨e1,_,_⟩ | ⟨m,e1,_⟩⟩:=hO.mem (.head _)
         ·cases e1
          rfl
         cases e1
        | some m=>
         have S1:=St.nmOpen (k:=keS) (ve:=AV.bool) (c:=a) (q:=some m) rfl hO
         exact S1.look1 (e:=keS) (ve:=AV.bool) (.head _) x false
       exact PQ.same S hK key ⟨rfl,rfl⟩
     cases hK
   cases hK
  cases hK
end
end Go.Am
namespace Go.Am
open Go
section
variable {T:TE} {g:Heap} {M:Nat→Prop} {h:Heap}
def HQ {R:Type} (g:Heap) (M:Nat→Prop) (Δ:List Ch) (K:SV T→VS T→Option R) (r:R) (s:VS T) (ms:List AV) (e:Env) (o:Option (AV×Heap)):Prop:=
 ∃ x s' xs v h1 h',K x s'=some r∧o=some (v,h1)∧Fz h1 h'∧VSim g M Δ s' (ms++xs) e h'∧cJ (Bo g M) s'.ps (ms++xs) h' x v∧Ro s s'
theorem HQ.pre {R:Type} {g:Heap} {M:Nat→Prop} {Δ:List Ch} {K:SV T→VS T→Option R} {r:R} {s s':VS T} {ms xs:List AV} {e:Env} {o:Option (AV×Heap)} (hr:Ro s s') (hq:HQ g M Δ K r s' (ms++xs) e o):HQ g M Δ K r s ms e o:=by
 obtain ⟨x,s2,xs2,v,h1,h2,q1,q2,q3,q4,q5,q6⟩:=hq
 rw [List.append_assoc] at q4 q5
 exact ⟨x,s2,xs++xs2,v,h1,h2,q1,q2,q3,q4,q5,hr.trans q6⟩
theorem wZ {zero:List AV} {z:List (W T)} (hz:zW zero=some z) (B:Hp) (ms:List AV) (h:Heap):All2 (hY B ms h) z zero:=by
 unfold zW at hz
 cases hf:zero.all AV.flat with
 | false=>rw [hf] at hz; cases hz
 | true=>
  rw [hf] at hz
  cases hz
  induction zero with
  | nil=>exact .nil
  | cons a l ih=>
   rw [List.all_cons,Bool.and_eq_true] at hf
   exact .cons ⟨GQ _ _ _ _,hf.1⟩ (ih hf.2)
theorem zJ {B:Hp} {ps:List (Part T)} {ms:List AV}:∀ {ws:List (W T)} {cs:List AV},ws.all W.sto=true→All2 (kQ B ps ms h) ws cs→All2 (hY B ms h) ws cs
 | _,_,_,.nil=>.nil
 | w::ws,_,hs,.cons p q=>by
  rw [List.all_cons,Bool.and_eq_true] at hs
  refine .cons ⟨?_,p.2⟩ (zJ hs.2 q)
  cases w<;>first | exact p.1 | cases hs.1
theorem r6 {B:Hp} {ms xs:List AV} {h h':Heap} (hz:HZ h h') {ws:List (W T)} {cs:List AV} (hr:All2 (hY B ms h) ws cs):All2 (hY B (ms++xs) h') ws cs:=hr.imp fun w a k=>⟨aK hz w k.1,k.2⟩
theorem VSim.pushO {Δ:List Ch} {s:VS T} {ms:List AV} {e:Env} (S:VSim g M Δ s ms e h) (x:AObj):VSim g M Δ s ms e (h.push x):=S.heap (HZ.of (HLe.push h x)) (S.st.push x)
theorem uz {Δ:List Ch} {s:VS T} {ms:List AV} {e:Env} (S:VSim g M Δ s ms e h) {cs:List AV} {ws:List (W T)} (hr:All2 (hY (Bo g M) ms h) ws cs):VSim g M Δ (s.new (.row ws)) (ms++[.ptr h.n 0 0]) e (h.push (.row cs 0 true)):=by
 have hz:HZ h (h.push (.row cs 0 true)):=HZ.of (HLe.push h _)
 have S1:=S.pushO (.row cs 0 true)
 have S2:VSim g M (fJ h.n cs 0::Δ) s ms e (h.push (.row cs 0 true)):=S1.with (S.st.pushRow cs)
 have S3:=St.rowClose (r6 (xs:=[.ptr h.n 0 0]) hz hr) S2.st
 exact VSim.new (p:=.row ws) (S2.with S3)
theorem B1 {Γ:List Ch} {α:Type} {r:ORep α} (S:St g M Γ h):St g M (tj r [] []::Γ) h:=S.catNil r
theorem xd {R:Type} {t:VT}:∀ (n:Nat) (ws:List (W T)) (s:VS T) (K:List (T.D t)→VS T→Option R) (r:R),tkE t n ws s K=some r→∀ {Δ:List Ch} {ms:List AV} {e:Env} {h:Heap} {as:List AV},VSim g M Δ s ms e h→All2 (ii (Bo g M) ms h) ws as→
  ∃ l s' h',K l s'=some r∧l.length=n∧Fz h h'∧VSim g M (tj (T.w t) as l::Δ) s' ms e h'∧Trk s s'
 | 0,ws,s,K,r,hK,Δ,ms,e,h,as,S,hr=>by
  cases ws with
  | nil=>
   simp only [tkE] at hK
   cases hr
   exact ⟨[],s,h,hK,rfl,Fz.refl _,S.with (B1 S.st),Trk.refl _⟩
  | cons w ws=>simp only [tkE] at hK; cases hK
 | n+1,ws,s,K,r,hK,Δ,ms,e,h,as,S,hr=>by
  have hK:tks fuel (T.lv t) (ws.take (T.cells t)) s (fun x s=>tkE t n (ws.drop (T.cells t)) s fun l s=>K (T.re t x::l) s)=some r:=hK
  obtain ⟨x,s1,h1,k1,k2,k3,k4⟩:=(jP (T:=T) fuel).1 _ _ _ _ _ hK S (hr.take _)
  obtain ⟨l,s2,h2,q1,q2,q3,q4,q5⟩:=xd n _ _ _ _ k1 k3 ((hr.drop (T.cells t)).imp fun w a k=>lL k2.hz k)
  refine ⟨_,s2,h2,q1,by rw [List.length_cons,q2],k2.trans q3,?_,k4.trans q5⟩
  have S5:VSim g M (tj (T.w t) (as.take (T.cells t)++as.drop (T.cells t)) (T.re t x::l)::Δ) s2 ms e h2:=q4.with ((St.reW q4.st.swap).catCons)
  rw [List.take_append_drop] at S5
  exact S5
theorem AS {R:Type} {t:VT} {zero:List AV} {z:List (W T)} (hz:zW zero=some z) {K:T.H (T.lv t)→Option R} {r:R} (hK:tks fuel (T.lv t) z ⟨[],[]⟩ (fun x _=>K x)=some r):∃ x,K x=some r∧∀ h,(T.w t).O h zero (T.re t x) []:=by
 have S0:VSim (T:=T) .empty fr [] ⟨[],[]⟩ [] .nil .empty:=⟨rfl,St.refl _ _,fun k sv hk=>by cases hk⟩
 obtain ⟨x,s',h',k1,k2,k3,k4⟩:=(jP (T:=T) fuel).1 _ _ _ _ _ hK S0 ((wZ hz (Bo .empty fr) [] .empty).imp fun w a k=>pF k.1)
 refine ⟨x,k1,fun h=>?_⟩
 have S4:=St.reW k3.st
 obtain ⟨fp,hO⟩:=S4.mem (.head _)
 have hn:h'.n=0:=k2.n.symm
 have hno:∀ o,h'.get o=none:=fun o=>Heap.get_ge h' (by omega)
 have hfp:fp=[]:=by
  cases fp with
  | nil=>rfl
  | cons o fp=>
   obtain ⟨y,hy⟩:=(T.w t).bd hO o (List.mem_cons_self ..)
   rw [hno] at hy; cases hy
 subst hfp
 refine (T.w t).stay hO (fun o ho=>by cases ho) fun o cs v hg=>?_
 have hg:h'.get o=_:=hg
 rw [hno] at hg; cases hg
theorem zu {R:Type} {H:List (Nat×VT)} {d:Option Nat} {Δ:List Ch} {s:VS T} {ms:List AV} {e:Env} (S:VSim g M Δ s ms e h) {q:NOp} {xs:List (SV T)} {as:List AV} (ha:All2 (cJ (Bo g M) s.ps ms h) xs as) {K:SV T→VS T→Option R} {r:R} (hK:Fn H d q xs s K=some r) :
  HQ g M Δ K r s ms e ((q.ob as h).map fun ob=>(q.mk as h.n,h.push ob)):=by
 cases q<;>simp only [Fn] at hK<;>try cases hK
 case alloc zero=>
  split at hK
  ·cases ha
   obtain ⟨z,hz,hK⟩:=obI hK
   have S2:=uz S (wZ hz (Bo g M) ms h)
   refine ⟨_,_,[.ptr h.n 0 0],_,_,_,hK,rfl,Fz.refl _,S2,⟨⟨h.n,0,?_,rfl⟩,rfl⟩,Ro.app _ _⟩
   rw [← S.len]; exact bn ms [] _
  cases hK
 case box=>
  split at hK
  ·obtain ⟨a,rfl,p⟩:=jw ha
   rename_i x
   cases hs:(cB x).all W.sto with
   | false=>rw [hs] at hK; cases hK
   | true=>
    rw [hs] at hK
    obtain ⟨r1,r2⟩:=cO p
    have S2:=uz S (zJ hs r1)
    refine ⟨_,_,[.ptr h.n 0 0],.ptr h.n 0 0,_,_,hK,?_,Fz.refl _,S2,⟨⟨h.n,0,?_,rfl⟩,rfl⟩,Ro.app _ _⟩
    ·simp only [NOp.ob,r2,Bool.false_eq_true,if_false]; rfl
    rw [← S.len]; exact bn ms [] _
  cases hK
 case buildSlice esz len zero offs=>
  obtain ⟨t,ht,hK⟩:=obI hK
  obtain ⟨z,hz,hK⟩:=obI hK
  obtain ⟨l,hl,hK⟩:=obI hK
  cases he:Nat.beq (T.cells t) esz with
  | false=>rw [he] at hK; cases hK
  | true=>
   obtain rfl:=Nat.eq_of_beq_eq_true he
   rw [he] at hK
   obtain ⟨cs,k1,k2⟩:=jb hl (xE (B:=Bo g M) (ps:=s.ps) (ms:=ms) (h:=h) hz) ha
   obtain ⟨x,s',h',q1,q2,q3,q4,q5⟩:=xd _ _ _ _ _ hK S (k2.imp fun w a k=>g9 k.1)
   have S2:=q4.pushO (.row cs 0 true)
   have S3:St g M (fJ h'.n cs 0::tj (T.w t) cs x::(Δ++chs (Bo g M) ms ms s'.ps)) (h'.push (.row cs 0 true)):=q4.st.pushRow cs
   have S4:=St.litO S3 (n:=len) q2.symm
   have e1:(T.w t).rep.z=T.cells t:=a5 T t
   rw [e1] at S4
   have S5:VSim g M (own (oSl (T.w t)) [.slice h'.n 0 0 len (T.cells t)] x::Δ) s' ms e (h'.push (.row cs 0 true)):=S2.with S4
   have S6:=VSim.new (p:=.sl t x) (a:=.slice h'.n 0 0 len (T.cells t)) S5
   refine ⟨_,_,[.slice h'.n 0 0 len (T.cells t)],.slice h.n 0 0 len (T.cells t),h.push (.row cs 0 true),_,q1,?_,q3.push _,S6,⟨?_,rfl⟩,q5.ro.trans (Ro.app _ _)⟩
   ·simp only [NOp.ob,k1,Option.map,NOp.mk]
   show nth (ms++[AV.slice h'.n 0 0 len (T.cells t)]) s'.ps.length=_
   rw [← q4.len,← q3.n]; exact bn ms [] _
 case mkMap=>
  split at hK
  ·cases ha
   split at hK
   ·rename_i ka kb hh
    have S2:VSim g M (own (T.w (.mp (.int ka) (.int kb))) [.map h.n] (some [])::Δ) s ms e (h.push (.map [])):=(S.pushO _).with (St.nmClose (S.st.pushM (keI ka) (AV.int kb)))
    have S3:=VSim.new (p:=.mp (.int ka) (.int kb) (some [])) S2
    refine ⟨_,_,[.map h.n],.map h.n,_,_,hK,rfl,Fz.refl _,S3,⟨?_,rfl⟩,Ro.app _ _⟩
    show nth (ms++[AV.map h.n]) s.ps.length=_
    rw [← S.len]; exact bn ms [] _
   ·have S2:VSim g M (own (T.w (.mp .str .bool)) [.map h.n] (some [])::Δ) s ms e (h.push (.map [])):=(S.pushO _).with (St.nmClose (S.st.pushM keS AV.bool))
    have S3:=VSim.new (p:=.mp .str .bool (some [])) S2
    refine ⟨_,_,[.map h.n],.map h.n,_,_,hK,rfl,Fz.refl _,S3,⟨?_,rfl⟩,Ro.app _ _⟩
    show nth (ms++[AV.map h.n]) s.ps.length=_
    rw [← S.len]; exact bn ms [] _
   cases hK
  cases hK
 case mkSlice esz bytes zero=>
  split at hK
  ·rename_i z1 k1 l z2 k2 c
   obtain ⟨a,b,rfl,p,q⟩:=jM ha
   obtain rfl:=aV p.1
   obtain rfl:=aV q.1
   obtain ⟨t,ht,hK⟩:=obI hK
   obtain ⟨z,hz,hK⟩:=obI hK
   cases he:Nat.beq (T.cells t) esz with
   | false=>rw [he] at hK; cases hK
   | true=>
    obtain rfl:=Nat.eq_of_beq_eq_true he
    rw [he] at hK
    obtain ⟨x,hK,hx⟩:=AS (K:=fun x=>(mkS bytes _ _ (T.re t x)).bind fun y=>K (W.sv (.r s.ps.length)) (s.new (.sl t y))) hz hK
    obtain ⟨y,hy,hK⟩:=obI hK
    obtain ⟨hc,rfl⟩:=vS hy
    have S1:=St.make (r:=T.w t) S.st hx
    have S2:=S1 (Int.toNat l)
    have e1:(T.w t).rep.z=T.cells t:=a5 T t
    rw [e1] at S2
    have S3:=VSim.new (p:=.sl t (List.replicate (Int.toNat l) (T.re t x))) (a:=.slice h.n 0 0 (Int.toNat l) (T.cells t)) ((S.pushO _).with S2)
    refine ⟨_,_,[.slice h.n 0 0 (Int.toNat l) (T.cells t)],.slice h.n 0 0 (Int.toNat l) (T.cells t),_,_,hK,?_,Fz.refl _,S3,⟨?_,rfl⟩,Ro.app _ _⟩
    ·simp only [NOp.ob,if_pos hc,Option.map,NOp.mk]
    show nth (ms++[AV.slice h.n 0 0 (Int.toNat l) (T.cells t)]) s.ps.length=_
    rw [← S.len]; exact bn ms [] _
  cases hK
end
end Go.Am
