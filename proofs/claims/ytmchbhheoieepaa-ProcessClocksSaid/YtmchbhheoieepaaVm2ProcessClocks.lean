/- A machine over typed values, and that functions do what it says. No condition. Own work. -/
import Derived.Test.YtmchbhheoieepaaVm1ProcessClocks
set_option linter.unusedSimpArgs false
set_option linter.unusedVariables false
namespace Go.Am
open Go
section
variable {T:TE} {g:Heap} {M:Nat→Prop} {B:Hp} {ps:List (Part T)} {ms:List AV} {h:Heap}
theorem iw {x:V1 T} {as:List AV} (hr:All2 (cM B ps ms h) [.v x] as):∃ a,as=[a]∧fR B ps ms h x a:=by
 cases hr with
 | cons p t=>cases t; exact ⟨_,rfl,p⟩
theorem j6 {x y:V1 T} {as:List AV} (hr:All2 (cM B ps ms h) [.v x,.v y] as):∃ a b,as=[a,b]∧fR B ps ms h x a∧fR B ps ms h y b:=by
 cases hr with
 | cons p t=>cases t with
  | cons q t=>cases t; exact ⟨_,_,rfl,p,q⟩
theorem aL {z:Bool} {k:IntKind} {n:T.D (.int k)} {a:AV} (hr:bZ B ps ms h (.d z (.int k) n) a):a=.int k n:=by
 have hr:[a]=[AV.int k n]:=hr
 cases hr; rfl
theorem eH {z:Bool} {n:T.D .bool} {a:AV} (hr:bZ B ps ms h (.d z .bool n) a):a=.bool n:=by
 have hr:[a]=[AV.bool n]:=hr
 cases hr; rfl
theorem eg {z:Bool} {n:T.D .str} {a:AV} (hr:bZ B ps ms h (.d z .str n) a):a=.str n:=by
 have hr:[a]=[AV.str n]:=hr
 cases hr; rfl
theorem oj (z:Bool) (k:IntKind) (n:Int):bF B ms h (.d (T:=T) z (.int k) n) (.int k n):=rfl
theorem fH (z:Bool) (b:Bool):bF B ms h (.d (T:=T) z .bool b) (.bool b):=rfl
theorem AU (z:Bool) (b:List UInt8):bF B ms h (.d (T:=T) z .str b) (.str b):=rfl
theorem b_C (p:Prop) (i:Decidable p):bF B ms h (.b (T:=T) p i) (.bool (decide p)):=rfl
theorem obI {α β:Type} {o:Option α} {f:α→Option β} {r:β} (h:o.bind f=some r):∃ a,o=some a∧f a=some r:=by
 cases o with
 | none=>cases h
 | some a=>exact ⟨a,rfl,h⟩
def wH (B:Hp) (ms:List AV) (h:Heap) {R:Type} (K:W T→Option R) (r:R) (o:Option AV):Prop:=∃ w v,K w=some r∧o=some v∧bF B ms h w v∧v.flat=true
theorem u9 {R:Type} {op:BinOp} {x y:List UInt8} {K:W T→Option R} {r:R} (hK:Be op x y K=some r):wH B ms h K r (POp.ev (.bin op) [.str x,.str y]):=by
 cases op<;>simp only [Be] at hK<;>try cases hK
 case add=>
  obtain ⟨s,hs,hK⟩:=obI hK
  exact ⟨_,_,hK,uq hs,AU _ _,rfl⟩
 all_goals exact ⟨_,_,hK,rfl,fH _ _,rfl⟩
theorem v6 {R:Type} {op:BinOp} {x y:W T} {a b:AV} {K:W T→Option R} {r:R} (hK:BU op x y K=some r) (ha:bZ B ps ms h x a) (hb:bZ B ps ms h y b):wH B ms h K r (POp.ev (.bin op) [a,b]):=by
 unfold BU at hK
 split at hK
 ·rename_i z k n z' k' m
  obtain rfl:=aL ha
  obtain rfl:=aL hb
  split at hK
  ·obtain ⟨d,hd,hK⟩:=obI hK
   exact ⟨_,_,hK,xg hd,oj _ _ _,rfl⟩
  ·obtain ⟨d,hd,hK⟩:=obI hK
   exact ⟨_,_,hK,xj hd,oj _ _ _,rfl⟩
  rename_i n1 n2
  split at hK
  ·rename_i hk
   subst hk
   cases op<;>simp only [reduceCtorEq] at hK<;>try (first | exact absurd rfl n1 | exact absurd rfl n2)
   case quo=>
    obtain ⟨d,hd,hK⟩:=obI hK
    exact ⟨_,_,hK,xk hd,oj _ _ _,rfl⟩
   case rem=>
    obtain ⟨d,hd,hK⟩:=obI hK
    exact ⟨_,_,hK,ue hd,oj _ _ _,rfl⟩
   all_goals first
    | exact ⟨_,_,hK,by simp only [POp.ev,ep,if_true,fN],oj _ _ _,rfl⟩
    | exact ⟨_,_,hK,by simp only [POp.ev,ep,if_true,fN],b_C _ _,rfl⟩
    | exact ⟨_,_,hK,by simp only [POp.ev,ep,if_true,fN],fH _ _,rfl⟩
  cases hK
 ·obtain rfl:=eg ha
  obtain rfl:=eg hb
  exact u9 hK
 cases hK
theorem zE {R:Type} {op:UnOp} {x:W T} {a:AV} {K:W T→Option R} {r:R} (hK:unW op x K=some r) (ha:bZ B ps ms h x a):wH B ms h K r (POp.ev (.un op) [a]):=by
 unfold unW at hK
 split at hK
 ·obtain rfl:=aL ha
  split at hK
  ·exact ⟨_,_,hK,rfl,oj _ _ _,rfl⟩
  cases hK
 ·obtain rfl:=eH ha
  split at hK
  ·exact ⟨_,_,hK,rfl,fH _ _,rfl⟩
  cases hK
 ·have ha:a=_:=ha
  subst ha
  split at hK
  ·exact ⟨_,_,hK,rfl,fH _ _,rfl⟩
  cases hK
 ·have ha:a=_:=ha
  subst ha
  split at hK
  ·exact ⟨_,_,hK,rfl,rfl,rfl⟩
  cases hK
 cases hK
theorem qc {R:Type} {s:VS T} {Δ:List Ch} {e:Env} (S:VSim g M Δ s ms e h) {neg:Bool} {x:W T} {a:AV} {K:W T→Option R} {r:R} (hK:AO s neg x K=some r) (ha:bZ (Bo g M) s.ps ms h x a) :
  wH (Bo g M) ms h K r (POp.ev (.eql neg 1) [a,.nilPtr])∧wH (Bo g M) ms h K r (POp.ev (.eql neg 1) [.nilPtr,a]):=by
 have sw:POp.ev (.eql neg 1) [.nilPtr,a]=POp.ev (.eql neg 1) [a,.nilPtr]:=by
  cases a<;>simp [POp.ev,jS]
 rw [sw]
 refine (fun q=>⟨q,q⟩) ?_
 unfold AO at hK
 split at hK
 ·have ha:a=_:=ha
  subst ha
  exact ⟨_,_,hK,rfl,(by cases neg<;>rfl),rfl⟩
 ·obtain ⟨o,v,_,rfl⟩:=ha
  exact ⟨_,_,hK,rfl,(by cases neg<;>rfl),rfl⟩
 ·obtain ⟨o,v,base,row,_,_,_,rfl⟩:=ha
  exact ⟨_,_,hK,rfl,(by cases neg<;>rfl),rfl⟩
 ·rename_i z t q
  have hq:PtR (T.w t).rep (dH h) a q:=(cF (r:=T.r t) ha).mono (zG.le S.st z)
  cases neg
  ·exact ⟨_,_,hK,tL hq,fH _ _,rfl⟩
  exact ⟨_,_,hK,oZ hq,fH _ _,rfl⟩
 ·rename_i k
  have ha:nth ms k=some a:=ha
  split at hK
  ·rename_i ws hp
   obtain ⟨o,v,cs,rfl,_,_⟩:=St.rowOpen (S.st.pullL ha hp)
   exact ⟨_,_,hK,rfl,(by cases neg<;>rfl),rfl⟩
  ·rename_i t q hp
   have hq:PtR (T.w t).rep (dH h) a q:=(S.st.pullL ha hp).pt (.head _)
   cases neg
   ·exact ⟨_,_,hK,tL hq,fH _ _,rfl⟩
   exact ⟨_,_,hK,oZ hq,fH _ _,rfl⟩
  cases hK
 cases hK
theorem gu {w:W T} {a:AV} (hf:a.flat=true):a.cells=[a]∧a.isTup=false:=by
 cases a<;>first | exact ⟨rfl,rfl⟩ | cases hf
theorem cw {x:V1 T} {a:AV} (hr:fR B ps ms h x a):All2 (jP B ps ms h) (ci x) a.cells∧a.isTup=false:=by
 cases x with
 | w w=>
  obtain ⟨h1,h2⟩:=gu (w:=w) hr.2
  rw [h1]
  exact ⟨.cons hr .nil,h2⟩
 | agg l=>
  obtain ⟨cs,rfl,hc⟩:=hr
  exact ⟨hc,rfl⟩
theorem hY:∀ {zs:List (W T)} {za:List AV} {offs:List (Nat×Nat)} {xs:List (SV T)} {as:List AV} {l:List (W T)},dw zs offs xs=some l→All2 (jP B ps ms h) zs za→All2 (cM B ps ms h) xs as→∃ cs,fi za offs as=some cs∧All2 (jP B ps ms h) l cs
 | zs,za,[],[],as,l,hp,hz,hx=>by
  simp only [dw] at hp
  cases hp
  cases hx
  exact ⟨za,rfl,hz⟩
 | zs,za,[],x::xs,as,l,hp,hz,hx=>by simp only [dw] at hp; cases hp
 | zs,za,o::os,[],as,l,hp,hz,hx=>by simp only [dw] at hp; cases hp
 | zs,za,(off,n)::os,x::xs,as,l,hp,hz,hx=>by
  cases x with
  | v x=>
   simp only [dw] at hp
   cases hc:(Nat.beq (ci x).length n&&Nat.ble (off+n) zs.length) with
   | false=>rw [hc] at hp; cases hp
   | true=>
    rw [hc] at hp
    rw [Bool.and_eq_true] at hc
    cases hx with
    | cons p q=>
     rename_i a as
     obtain ⟨r1,r2⟩:=cw p
     have hl:a.cells.length=n:=by rw [← r1.len]; exact Nat.eq_of_beq_eq_true hc.1
     have hzl:zs.length=za.length:=hz.len
     have hb:off+n≤zs.length:=Nat.le_of_ble_eq_true hc.2
     have hz2:All2 (jP B ps ms h) (zs.take off++(ci x++zs.drop (off+n))) (splice za off a.cells):=by
      unfold splice
      rw [hl]
      exact (hz.take off).append' (r1.append' (hz.drop (off+n)))
     obtain ⟨cs,k1,k2⟩:=hY hp hz2 q
     refine ⟨cs,?_,k2⟩
     simp only [fi]
     have e1:Nat.beq a.cells.length n=true:=by rw [hl]; exact Nat.beq_refl n
     have e2:Nat.ble (off+n) za.length=true:=by rw [← hzl]; exact hc.2
     rw [e1,e2,r2]
     exact k1
  | tup l=>simp only [dw] at hp; cases hp
  | un=>simp only [dw] at hp; cases hp
  | ro x=>simp only [dw] at hp; cases hp
theorem Cu (B:Hp) (ms:List AV) (h:Heap) (a:AV):bF B ms h (wc (T:=T) a) a:=by
 cases a<;>rfl
theorem D1 {a:AV} (hf:a.flat=true):jP B ps ms h (wc (T:=T) a) a:=⟨dy (Cu _ _ _ _),hf⟩
theorem wB {zero:List AV} {z:List (W T)} (hz:zW zero=some z):All2 (jP B ps ms h) z zero:=by
 unfold zW at hz
 cases hf:zero.all AV.flat with
 | false=>rw [hf] at hz; cases hz
 | true=>
  rw [hf] at hz
  cases hz
  induction zero with
  | nil=>exact .nil
  | cons a l ih=>
   rw [List.all_cons,Bool.and_eq_true] at hf
   exact .cons (D1 hf.1) (ih hf.2)
theorem rX {Δ:List Ch} {s:VS T} {e:Env} (S:VSim g M Δ s ms e h) {k:Nat} {t:VT} {l:List (T.D t)} {a:AV} (hp:lkP s.ps k=some (.sl t l)) (ha:nth ms k=some a):SlR (T.r t) (dH h) a l:=
 (S.st.pullL ha hp).sl (r:=T.w t) (.head _)
theorem ya {z o:Bool} {t:VT} {l:T.D (.sl o t)} {a:AV} (ha:bZ B ps ms h (.d z (.sl o t) l) a):SlR (T.r t) (zG B h z) a l:=by
 have ha:(T.r (.sl o t)).R (zG B h z) [a] l:=ha
 cases o
 ·exact mR ha
 exact mR ha
theorem aS (T:TE) (t:VT):(T.r t).z=T.cells t:=by
 have key:∀ (ts:List VT),(∀ u,u∈ts→u.leaf=true)→(oHL T.o ts).rep.z=ts.length:=by
  intro ts
  induction ts with
  | nil=>intro _; rfl
  | cons u ts ih=>
   intro hu
   have h1:(VT.ow T.o u).rep.z=1:=by
    have:=hu u (List.mem_cons_self ..)
    cases u with
    | sl o t=>cases o<;>rfl
    | st k=>cases this
    | mp a b=>cases a<;>cases b<;>rfl
    | _=>rfl
   show (VT.ow T.o u).rep.z+(oHL T.o ts).rep.z=_
   rw [h1,ih fun v hv=>hu v (List.mem_cons_of_mem _ hv),List.length_cons,Nat.add_comm]
 cases t with
 | st k=>
  show (T.o k).rep.z=_
  rw [T.o_eq k]
  exact key _ (T.fl_leaf k)
 | sl o t=>cases o<;>rfl
 | mp a b=>cases a<;>cases b<;>rfl
 | _=>rfl
theorem gd {p:AV} (hp:p.isPtr=true):p.flat=true:=by cases p<;>first | rfl | cases hp
theorem BE {z:Bool} {t:VT} {a:AV} {l:List (T.D t)} {i:Int} {x:T.D t} {h0:Heap} (ha:SlR (T.r t) (zG B h z) a l) (hi:idx l i=some x) :
  a.isSlice=true∧0≤i∧i < (a.slen:Int)∧bF B ms h (.ed z t x 0) (a.at (i.toNat * T.cells t))∧(a.at (i.toNat * T.cells t)).flat=true:=by
 obtain ⟨q1,q2,q3⟩:=ha.ix hi
 refine ⟨q1,q2,q3,?_⟩
 obtain ⟨h0,hx⟩:=cp hi
 rcases ha with ⟨rfl,rfl⟩ | ⟨o,v,off,row,els,rfl,h2,h3,h4,h5⟩
 ·simp at hx
 obtain ⟨c,hc,hR⟩:=h5.getR hx
 have hlt:=(List.getElem?_eq_some_iff.1 hx).1
 have hz:∀ d,d∈els→d.length=(T.r t).z:=fun d hd=>by
  obtain ⟨k,hk⟩:=List.getElem?_of_mem hd
  obtain ⟨b,_,hb⟩:=a6 h5 hk
  exact (T.r t).len hb
 have hch:=eV hz h4 hlt hc
 rw [aS] at hch h3
 have hle:i.toNat * T.cells t+T.cells t≤l.length * T.cells t:=by rw [← Nat.succ_mul]; exact Nat.mul_le_mul_right _ (by omega)
 exact ⟨⟨o,v,off+i.toNat * T.cells t,row,h2,by omega,by rw [hch]; exact hR,rfl⟩,rfl⟩
theorem qH {Δ:List Ch} {s:VS T} {e:Env} (S:VSim g M Δ s ms e h) {k:Nat} {t:VT} {l:List (T.D t)} {a:AV} (hp:∃ p,lkP s.ps k=some p∧slq t l p) (ha:nth ms k=some a) {i:Int} {x:T.D t} (hi:idx l i=some x) :
  a.isSlice=true∧0≤i∧i < (a.slen:Int)∧bZ (Bo g M) s.ps ms h (.el k t i x 0) (a.at (i.toNat * T.cells t))∧(a.at (i.toNat * T.cells t)).isPtr=true:=by
 have hp0:=hp
 obtain ⟨p,hp,rfl | ⟨j,rfl⟩⟩:=hp
 ·have hs:=rX S hp ha
  obtain ⟨q1,q2,q3⟩:=hs.ix hi
  have h1:=(hs.idx (Hp.le_refl _) hi).1
  rw [aS] at h1
  exact ⟨q1,q2,q3,⟨a,l,ha,hp0,hi,(eU _).symm⟩,h1⟩
 obtain ⟨fp,c,o,v,off,row,e1,e2,l1,x0,l2,f1,f2,_,_,rfl,_⟩:=(S.st.pullL ha hp).mem (.head _)
 obtain ⟨h0,hx⟩:=cp hi
 have hlt:=(List.getElem?_eq_some_iff.1 hx).1
 exact ⟨rfl,h0,by show i < (l.length:Int); omega,⟨_,l,ha,hp0,hi,(eU _).symm⟩,rfl⟩
theorem jL {a:AV} (h:a.isSlice=true):a.flat=true:=by cases a<;>first | rfl | cases h
theorem nJ {a:AV} (h:a.isSlice=true) {n:Nat} (hn:a.slen=n):POp.ev .lenSl [a]=some (.int .i64 n):=by
 simp only [POp.ev,if_pos h,hn]
theorem xB {R:Type} {Δ:List Ch} {s:VS T} {e:Env} (S:VSim g M Δ s ms e h) {x:W T} {a:AV} {K:SV T→VS T→Option R} {r:R} (hK:Bp s K x=some r) (ha:bZ (Bo g M) s.ps ms h x a) :
  ∃ n:Nat,K (W.sv (.d true (.int .i64) (n:Int))) s=some r∧POp.ev .lenSl [a]=some (.int .i64 n):=by
 unfold Bp at hK
 split at hK
 ·rename_i k
  split at hK
  ·rename_i t l hp
   have hs:=rX S hp ha
   exact ⟨_,hK,nJ hs.is hs.slen⟩
  cases hK
 ·have hs:=ya ha
  exact ⟨_,hK,nJ hs.is hs.slen⟩
 ·have ha:a=_:=ha
  subst ha
  exact ⟨0,hK,rfl⟩
 cases hK
theorem zz {R:Type} {Δ:List Ch} {s:VS T} {e:Env} (S:VSim g M Δ s ms e h) {x:W T} {a:AV} {esz:Nat} {i:Int} {k:IntKind} {K:SV T→VS T→Option R} {r:R} (hK:ixA s x esz i K=some r) (ha:bZ (Bo g M) s.ps ms h x a) :
  ∃ w v,K (W.sv w) s=some r∧POp.ev (.indexAddr esz) [a,.int k i]=some v∧jP (Bo g M) s.ps ms h w v:=by
 unfold ixA at hK
 split at hK
 ·rename_i j
  split at hK
  ·rename_i t l hp
   cases he:Nat.beq (T.cells t) esz with
   | false=>rw [he] at hK; cases hK
   | true=>
    obtain rfl:=Nat.eq_of_beq_eq_true he
    rw [he] at hK
    obtain ⟨x,hx,hK⟩:=obI hK
    obtain ⟨q1,q2,q3,q4,q5⟩:=qH S ⟨_,hp,.inl rfl⟩ ha hx
    exact ⟨_,_,hK,by simp only [POp.ev,if_pos (And.intro q1 (And.intro q2 q3))],q4,gd q5⟩
  ·rename_i t l j0 hp
   cases he:Nat.beq (T.cells t) esz with
   | false=>rw [he] at hK; cases hK
   | true=>
    obtain rfl:=Nat.eq_of_beq_eq_true he
    rw [he] at hK
    obtain ⟨x,hx,hK⟩:=obI hK
    obtain ⟨q1,q2,q3,q4,q5⟩:=qH S ⟨_,hp,.inr ⟨_,rfl⟩⟩ ha hx
    exact ⟨_,_,hK,by simp only [POp.ev,if_pos (And.intro q1 (And.intro q2 q3))],q4,gd q5⟩
  cases hK
 ·rename_i z o t l
  cases he:Nat.beq (T.cells t) esz with
  | false=>rw [he] at hK; cases hK
  | true=>
   obtain rfl:=Nat.eq_of_beq_eq_true he
   rw [he] at hK
   obtain ⟨x,hx,hK⟩:=obI hK
   obtain ⟨q1,q2,q3,q4,q5⟩:=BE (h0:=h) (ya ha) hx
   exact ⟨_,_,hK,by simp only [POp.ev,if_pos (And.intro q1 (And.intro q2 q3))],dy q4,q5⟩
 cases hK
theorem kC {R:Type} {w:W T} {K:W T→Option R} {r:R} (hK:ptD w K=some r) {a:AV} (hr:bZ B ps ms h w a):∃ w',K w'=some r∧bZ B ps ms h w' a:=by
 unfold ptD at hK
 split at hK
 ·rename_i z t q
  obtain ⟨x,rfl,hK⟩:=obI hK
  have hr:(xP (T.r t)).R (zG B h z) [a] (some x):=hr
  rcases cF hr with ⟨_,e⟩ | ⟨o,v,row,b,rfl,e,h1,h2⟩
  ·cases e
  cases e
  have hl:row.length=T.cells t:=by rw [← aS]; exact (T.r t).len h2
  exact ⟨_,hK,o,v,0,row,h1,by omega,by rw [List.drop_zero,← hl,List.take_length]; exact h2,rfl⟩
 exact ⟨w,hK,hr⟩
theorem vf {t:VT} (hp:t.flat=true) {G G':Hp} {c:List AV} {y:T.D t} (hr:(T.r t).R G c y):(T.r t).R G' c y:=by
 cases t<;>first | exact hr | cases hp
theorem qk {R:Type} {z:Bool} {t:VT}:∀ (ws:List (W T)) {K:List (T.D t)→Option R} {r:R},Au z t ws K=some r→∀ {cs:List AV},All2 (jP B ps ms h) ws cs→∃ xs,K xs=some r∧All2 (fun x c=>(T.r t).R (zG B h z) [c] x∧c.flat=true) xs cs
 | [],K,r,hK,cs,hr=>by cases hr; exact ⟨[],hK,.nil⟩
 | w::ws,K,r,hK,cs,hr=>by
  cases hr with
  | @cons _ c _ cs p q=>
   unfold Au at hK
   split at hK
   ·rename_i heq; cases heq
   ·rename_i z' t' x ws' heq
    injection heq with e1 e2
    subst e1; subst e2
    cases hb:((z'==z)||t.flat) with
    | false=>rw [hb] at hK; cases hK
    | true=>
     rw [hb,cond_true] at hK
     unfold cast1 at hK
     split at hK
     ·rename_i e
      subst e
      obtain ⟨xs,k1,k2⟩:=qk ws hK q
      refine ⟨x::xs,k1,.cons ⟨?_,p.2⟩ k2⟩
      have p1:(T.r t').R (zG B h z') [c] x:=p.1
      rw [Bool.or_eq_true] at hb
      rcases hb with hb | hb
      ·rw [← (beq_iff_eq.1 hb:z'=z)]; exact p1
      exact vf hb p1
     cases hK
   cases hK
theorem tc {R:Type} {l:List (W T)} {i:Int} {k:IntKind} {len:Nat} {K:W T→Option R} {r:R} (hK:uS l i K=some r) (hl:l.length=len) {cs:List AV} (hr:All2 (jP B ps ms h) l cs):wH B ms h K r (POp.ev (.indexArr1 len) [.agg cs,.int k i]):=by
 unfold uS at hK
 split at hK
 ·rename_i z t x ws
  obtain ⟨xs,hK,hx⟩:=qk _ hK hr
  obtain ⟨y,hy,hK⟩:=obI hK
  obtain ⟨h0,h1⟩:=cp hy
  obtain ⟨c,c1,c2⟩:=a6 hx h1
  have hlt:=(List.getElem?_eq_some_iff.1 c1).1
  rw [← hr.len,hl] at hlt
  exact ⟨_,c,hK,by simp only [POp.ev,if_pos (show 0≤i∧i < (len:Int) by omega)]; exact c1,c2.1,c2.2⟩
 cases hK
theorem yb {R:Type} {q:Nat} {x y:W T} {K:Bool→Option R} {r:R} (hK:eqC q x y K=some r) {a b:AV} (ha:bZ B ps ms h x a) (hb:bZ B ps ms h y b):∃ c,K c=some r∧iY q a b=some c:=by
 unfold eqC at hK
 split at hK
 ·obtain rfl:=aL ha
  obtain rfl:=aL hb
  split at hK
  ·rename_i hk; exact ⟨_,hK,by simp only [iY,if_pos hk]⟩
  cases hK
 ·obtain rfl:=eg ha
  obtain rfl:=eg hb
  exact ⟨_,hK,rfl⟩
 ·obtain rfl:=eH ha
  obtain rfl:=eH hb
  exact ⟨_,hK,rfl⟩
 cases hK
theorem tK {R:Type} {xs ys:List (W T)} {cs ds:List AV} (hx:All2 (jP B ps ms h) xs cs) (hy:All2 (jP B ps ms h) ys ds):∀ (is:List (Nat×Nat)) {K:Bool→Option R} {r:R},eqW xs ys is K=some r→∃ b,K b=some r∧bC cs ds is=some b
 | [],K,r,hK=>⟨true,hK,rfl⟩
 | (i,q)::is,K,r,hK=>by
  simp only [eqW] at hK
  obtain ⟨x,h1,hK⟩:=obI hK
  obtain ⟨y,h2,hK⟩:=obI hK
  rw [aM] at h1 h2
  obtain ⟨a,a1,a2⟩:=a6 hx h1
  obtain ⟨b,b1,b2⟩:=a6 hy h2
  obtain ⟨c,hK,c1⟩:=yb hK a2.1 b2.1
  obtain ⟨d,hK,d1⟩:=tK hx hy is hK
  exact ⟨_,hK,by simp only [bC,a1,b1,c1,d1]⟩
theorem mX {a:AV} (h:a.isSlice=true) (z l u:Nat):(a.sub z l u).flat=true:=by cases a<;>first | rfl | cases h
theorem pF {R:Type} {lo hi:Bool} {rest:List (SV T)} {α:Type} {q0:Rep α} {G:Hp} {a:AV} {l:List α} (hs:SlR q0 G a l) {K:List α→Option R} {r:R} (hK:(vu (l.length:Int) lo hi rest fun a b=>(slc l a b).bind K)=some r) {as:List AV} (hr:All2 (cM B ps ms h) rest as):∃ (u v:Int) (q:List α),K q=some r∧slc l u v=some q∧POp.ev (.sliceSl q0.z lo hi) (a::as)=some (a.sub q0.z u.toNat v.toNat):=by
 unfold vu at hK
 split at hK
 ·obtain ⟨q,hq,hK⟩:=obI hK
  cases hr
  exact ⟨_,_,q,hK,hq,kX hs hq⟩
 ·obtain ⟨q,hq,hK⟩:=obI hK
  obtain ⟨c,rfl,p⟩:=iw hr
  obtain rfl:=aL p.1
  exact ⟨_,_,q,hK,hq,dJ hs hq⟩
 ·obtain ⟨q,hq,hK⟩:=obI hK
  obtain ⟨c,rfl,p⟩:=iw hr
  obtain rfl:=aL p.1
  exact ⟨_,_,q,hK,hq,fP hs hq⟩
 ·obtain ⟨q,hq,hK⟩:=obI hK
  obtain ⟨c,d,rfl,p,p'⟩:=j6 hr
  obtain rfl:=aL p.1
  obtain rfl:=aL p'.1
  exact ⟨_,_,q,hK,hq,j7 hs hq⟩
 cases hK
theorem sT {R:Type} {lo hi:Bool} {rest:List (SV T)} {l:List UInt8} {K:List UInt8→Option R} {r:R} (hK:(vu (l.length:Int) lo hi rest fun a b=>(slc l a b).bind K)=some r) {as:List AV} (hr:All2 (cM B ps ms h) rest as):∃ q,K q=some r∧POp.ev (.sliceStr lo hi) (.str l::as)=some (.str q):=by
 unfold vu at hK
 split at hK
 ·obtain ⟨q,hq,hK⟩:=obI hK
  cases hr
  exact ⟨q,hK,jz hq⟩
 ·obtain ⟨q,hq,hK⟩:=obI hK
  obtain ⟨c,rfl,p⟩:=iw hr
  obtain rfl:=aL p.1
  exact ⟨q,hK,jR hq⟩
 ·obtain ⟨q,hq,hK⟩:=obI hK
  obtain ⟨c,rfl,p⟩:=iw hr
  obtain rfl:=aL p.1
  exact ⟨q,hK,jj hq⟩
 ·obtain ⟨q,hq,hK⟩:=obI hK
  obtain ⟨c,d,rfl,p,p'⟩:=j6 hr
  obtain rfl:=aL p.1
  obtain rfl:=aL p'.1
  exact ⟨q,hK,jC hq⟩
 cases hK
end
end Go.Am
namespace Go.Am
open Go
section
variable {T:TE} {g:Heap} {M:Nat→Prop} {h:Heap}
theorem dV {t:VT} (ht:t.leaf=true):(VT.ow T.o t).rep.z=1:=by
 cases t with
 | sl o t=>cases o<;>rfl
 | st k=>cases ht
 | mp a b=>cases a<;>cases b<;>rfl
 | _=>rfl
theorem cQ {t:VT} {G:Hp} {a:AV} {x:T.D t} (hr:(T.r t).R G [a] x) (ht:t.leaf=true):a.flat=true:=by
 cases t with
 | int k=>have hr:[a]=[AV.int k x]:=hr; cases hr; rfl
 | bool=>have hr:[a]=[AV.bool x]:=hr; cases hr; rfl
 | str=>have hr:[a]=[AV.str x]:=hr; cases hr; rfl
 | sl o t=>
  cases o
  ·exact jL (mR (r:=T.r t) hr).is
  exact jL (mR (r:=T.r t) hr).is
 | st k=>cases ht
 | pt t=>
  rcases cF (r:=T.r t) hr with ⟨rfl,_⟩ | ⟨o,v,row,b,rfl,_⟩<;>rfl
 | ic n t=>
  obtain ⟨c,e,hc⟩:=(show ∃ c,[a]=[c]∧IfR n (T.r t) G c x from hr)
  cases e
  rcases hc with ⟨rfl,_⟩ | ⟨p,rfl,_⟩<;>rfl
 | mp k v=>
  have key:∀ {α:Type} {G:Hp} {y:Option α},(Aj α).R G [a] y→a.flat=true:=fun {α G y} hr=>by
   obtain ⟨s,e,hs⟩:=hr
   cases e
   cases a<;>first | rfl | cases hs
  cases k<;>cases v<;>first | exact key hr | exact hr.elim
theorem qY {B:Hp}:∀ (ts:List VT) (hl:∀ t,t∈ts→t.leaf=true) (x:T.H ts) {Γ:List Ch} {cs:List AV} (S:St g M (own (oHL T.o ts) cs x::Γ) h) (ms:List AV),
  ∃ xs:List AV,xs.length=(opn ts x ms.length).2.length∧All2 (fV B (ms++xs) h) (opn ts x ms.length).1 cs∧∀ M0,St g M (chs B M0 xs (opn ts x ms.length).2++Γ) h
 | [],hl,x,Γ,cs,S,ms=>by
  have hcs:cs=[]:=S.snap (.head _)
  subst hcs
  exact ⟨[],rfl,.nil,fun _=>S.drop⟩
 | t::ts,hl,x,Γ,cs,S,ms=>by
  obtain ⟨a,b,rfl,hla,_,S1⟩:=S.unpair
  have ht:=hl t (List.mem_cons_self ..)
  obtain ⟨c0,rfl⟩:=g9 (hla.trans (dV ht))
  have hl2:∀ u,u∈ts→u.leaf=true:=fun u hu=>hl u (List.mem_cons_of_mem _ hu)
  have hfl:c0.flat=true:=cQ (x:=x.1) (S1.snap (r:=T.w t) (.head _)) ht
  have dat:∀ (e:opn (t::ts) x ms.length=(.d true t x.1::(opn ts x.2 ms.length).1,(opn ts x.2 ms.length).2)) (hf:T.w t=fz (T.w t).rep),∃ xs:List AV,xs.length=(opn (t::ts) x ms.length).2.length∧All2 (fV B (ms++xs) h) (opn (t::ts) x ms.length).1 ([c0]++b)∧∀ M0,St g M (chs B M0 xs (opn (t::ts) x ms.length).2++Γ) h:=by
   intro e hf
   rw [e]
   have S2:St g M (own (T.w t) [c0] x.1::own (oHL T.o ts) b x.2::Γ) h:=S1
   rw [hf] at S2
   have fact:(T.r t).R (Frz h) [c0] x.1:=S2.fzr (.head _)
   obtain ⟨xs,k1,k2,k3⟩:=qY ts hl2 x.2 S2.drop ms
   exact ⟨xs,k1,.cons ⟨fact,hfl⟩ k2,k3⟩
  have prt:∀ (p:Part T) (e:opn (t::ts) x ms.length=(.r ms.length::(opn ts x.2 (ms.length+1)).1,p::(opn ts x.2 (ms.length+1)).2)) (hp:∀ M0,dt B M0 c0 p=own (T.w t) [c0] x.1),∃ xs:List AV,xs.length=(opn (t::ts) x ms.length).2.length∧All2 (fV B (ms++xs) h) (opn (t::ts) x ms.length).1 ([c0]++b)∧∀ M0,St g M (chs B M0 xs (opn (t::ts) x ms.length).2++Γ) h:=by
   intro p e hp
   rw [e]
   have S2:St g M (own (T.w t) [c0] x.1::own (oHL T.o ts) b x.2::Γ) h:=S1
   obtain ⟨xs,k1,k2,k3⟩:=qY ts hl2 x.2 S2.swap (ms++[c0])
   have e2:(ms++[c0]).length=ms.length+1:=by simp
   rw [e2] at k1 k2 k3
   rw [List.append_assoc] at k2
   refine ⟨c0::xs,by simp only [List.length_cons,k1],.cons ⟨bp ms xs c0,hfl⟩ k2,fun M0=>?_⟩
   have S3:=(k3 M0).perm List.perm_middle
   rw [← hp M0] at S3
   exact S3
  cases t with
  | int k=>exact dat rfl rfl
  | bool=>exact dat rfl rfl
  | str=>exact dat rfl rfl
  | sl o t=>
   cases o
   ·exact dat rfl rfl
   exact prt _ rfl fun _=>rfl
  | st k=>cases ht
  | pt t=>exact prt _ rfl fun _=>rfl
  | ic n t=>exact prt _ rfl fun _=>rfl
  | mp k v=>exact prt _ rfl fun _=>rfl
theorem dC (T:TE):∀ (t u:VT),u∈T.lv t→u.leaf=true
 | .st k,u,hu=>T.fl_leaf k u hu
 | .int _,u,hu=>by simp only [TE.lv,List.mem_singleton] at hu; subst hu; rfl
 | .bool,u,hu=>by simp only [TE.lv,List.mem_singleton] at hu; subst hu; rfl
 | .str,u,hu=>by simp only [TE.lv,List.mem_singleton] at hu; subst hu; rfl
 | .sl _ _,u,hu=>by simp only [TE.lv,List.mem_singleton] at hu; subst hu; rfl
 | .pt _,u,hu=>by simp only [TE.lv,List.mem_singleton] at hu; subst hu; rfl
 | .ic _ _,u,hu=>by simp only [TE.lv,List.mem_singleton] at hu; subst hu; rfl
 | .mp _ _,u,hu=>by simp only [TE.lv,List.mem_singleton] at hu; subst hu; rfl
theorem fx {R:Type} {Δ:List Ch} {s:VS T} {ms:List AV} {e:Env} (S:VSim g M Δ s ms e h) {k:Nat} {a:AV} (ha:nth ms k=some a) {K:VS T→Option R} {r:R} (hK:ub k s K=some r) :
  ∃ s' xs o v,K s'=some r∧VSim g M Δ s' (ms++xs) e h∧a=.ptr o v 0∧Ro s s'∧∀ w a,bZ (Bo g M) s.ps ms h w a→bZ (Bo g M) s'.ps (ms++xs) h w a:=by
 unfold ub at hK
 split at hK
 ·rename_i t q hp
  obtain ⟨x,rfl,hK⟩:=obI hK
  have S1:=S.st.pull ha hp
  obtain ⟨o,v,row,rfl,S2⟩:=St.ptrOpen (r:=T.w t) S1
  have S3:=(St.unW S2.swap)
  rw [← S.len] at hK
  obtain ⟨xs,k1,k2,k3⟩:=qY (B:=Bo g M) (T.lv t) (dC T t) (T.un t x) S3 ms
  have S4:=k3 (ms++xs)
  refine ⟨_,xs,o,v,hK,?_,rfl,⟨fun j x h=>h,fun j p h=>aH (kj hp (fun _ e=>by cases e) h)⟩,fun w a r=>sK (rN (bW hp (fun _ e=>by cases e)) (fun _ _ e=>by rcases e with e | ⟨_,e⟩<;>cases e) r)⟩
  have S5:St g M (eT o row v::(chs (Bo g M) (ms++xs) xs (opn (T.lv t) (T.un t x) ms.length).2++Δ++chs (Bo g M) (ms++xs) ms (s.ps.set k .dead))) h:=by
   have S6:=S4.perm List.perm_middle
   rw [← List.append_assoc] at S6
   exact St.more (Γ:=eT o row v::_) xs S6
  have S7:=St.push' (p:=.row (opn (T.lv t) (T.un t x) ms.length).1) (k:=k) (St.rowClose k2 S5) ha (aZ hp)
  rw [List.set_set] at S7
  have hlen:ms.length=(s.ps.set k (.row (opn (T.lv t) (T.un t x) ms.length).1)).length:=by rw [List.length_set]; exact S.len
  have S8:VSim g M Δ (⟨s.e,s.ps.set k (.row (opn (T.lv t) (T.un t x) ms.length).1)++(opn (T.lv t) (T.un t x) ms.length).2⟩:VS T) (ms++xs) e h:=by
   refine ⟨by simp only [List.length_append,← hlen,k1],?_,?_⟩
   ·rw [dF _ _ hlen]
    refine S7.perm ?_
    rw [← List.append_assoc Δ,List.append_assoc (chs _ _ xs _)]
    exact List.perm_append_comm
   exact S.env_id (fun w a r=>aE (HZ.refl _) w r) fun w a r=>sK (rN (bW hp (fun _ e=>by cases e)) (fun _ _ e=>by rcases e with e | ⟨_,e⟩<;>cases e) r)
  exact S8
 ·rename_i ws hp
  obtain ⟨o,v,cs,rfl,_,_⟩:=St.rowOpen (S.st.pull ha hp)
  exact ⟨s,[],o,v,hK,by rw [List.append_nil]; exact S,rfl,Ro.refl s,fun w a r=>by rw [List.append_nil]; exact r⟩
 ·rename_i ws hp
  obtain ⟨o,v,cs,rfl,_,_⟩:=St.rowOpen (S.st.pull (p:=.ro (.row ws)) ha hp)
  exact ⟨s,[],o,v,hK,by rw [List.append_nil]; exact S,rfl,Ro.refl s,fun w a r=>by rw [List.append_nil]; exact r⟩
 cases hK
def PQ {R:Type} (g:Heap) (M:Nat→Prop) (Δ:List Ch) (K:SV T→VS T→Option R) (r:R) (s:VS T) (ms:List AV) (e:Env) (h:Heap) (o:Option AV):Prop:=
 ∃ x s' xs v,K x s'=some r∧o=some v∧VSim g M Δ s' (ms++xs) e h∧cM (Bo g M) s'.ps (ms++xs) h x v∧Ro s s'
theorem PQ.same {R:Type} {Δ:List Ch} {K:SV T→VS T→Option R} {r:R} {s:VS T} {ms:List AV} {e:Env} {o:Option AV} (S:VSim g M Δ s ms e h) {x:SV T} {v:AV} (hK:K x s=some r) (ho:o=some v) (hr:cM (Bo g M) s.ps ms h x v):PQ g M Δ K r s ms e h o:=
 ⟨x,s,[],v,hK,ho,by rw [List.append_nil]; exact S,by rw [List.append_nil]; exact hr,Ro.refl s⟩
theorem PQ.one {R:Type} {Δ:List Ch} {K:SV T→VS T→Option R} {r:R} {s:VS T} {ms:List AV} {e:Env} {o:Option AV} (S:VSim g M Δ s ms e h) (hw:wH (Bo g M) ms h (fun w=>K (W.sv w) s) r o):PQ g M Δ K r s ms e h o:=by
 obtain ⟨w,v,h1,h2,h3,h4⟩:=hw
 exact PQ.same S h1 h2 ⟨dy h3,h4⟩
theorem tB {R:Type} {Δ:List Ch} {s:VS T} {ms:List AV} {e:Env} (S:VSim g M Δ s ms e h) {x:W T} {a:AV} (ha:bZ (Bo g M) s.ps ms h x a) {off:Nat} {K:SV T→VS T→Option R} {r:R} (hK:adA s off K x=some r):PQ g M Δ K r s ms e h (POp.ev (.fieldAddr off) [a]):=by
 unfold adA at hK
 split at hK
 ·obtain ⟨o,v,h1,rfl⟩:=ha
  exact PQ.same S hK rfl ⟨⟨o,v,h1,rfl⟩,rfl⟩
 ·obtain ⟨s',xs,o,v,k1,k2,rfl,k3,_⟩:=fx S ha hK
  refine ⟨_,s',xs,_,k1,rfl,k2,⟨⟨o,v,aH ha,?_⟩,rfl⟩,k3⟩
  rw [Nat.zero_add]
 ·rename_i k t i x o
  obtain ⟨b,l,h1,h2,h3,rfl⟩:=ha
  have hp:=(qH S h2 h1 h3).2.2.2.2
  have hq:=dP o hp
  refine PQ.same S hK (v:=((b.at (i.toNat * T.cells t)).padd o).padd off) ?_ ⟨⟨b,l,h1,h2,h3,pp _ _ _⟩,gd (dP _ hq)⟩
  revert hq
  cases (b.at (i.toNat * T.cells t)).padd o<;>intro hq<;>first | rfl | cases hq
 ·obtain ⟨o,v,base,row,h1,h2,h3,rfl⟩:=ha
  exact PQ.same S hK rfl ⟨⟨o,v,base,row,h1,h2,h3,by rw [Nat.add_assoc]⟩,rfl⟩
 cases hK
theorem zk {R:Type} {Δ:List Ch} {s:VS T} {ms:List AV} {e:Env} (S:VSim g M Δ s ms e h) {x:W T} {a:AV} (ha:bZ (Bo g M) s.ps ms h x a) {K:SV T→VS T→Option R} {r:R} (hK:ncA s K x=some r):PQ g M Δ K r s ms e h (POp.ev .nilCheck [a]):=by
 unfold ncA at hK
 split at hK
 ·obtain ⟨o,v,h1,rfl⟩:=ha
  exact PQ.same S hK rfl ⟨⟨o,v,h1,rfl⟩,rfl⟩
 ·obtain ⟨s',xs,o,v,k1,k2,rfl,k3,_⟩:=fx S ha hK
  exact ⟨_,s',xs,_,k1,rfl,k2,⟨⟨o,v,aH ha,rfl⟩,rfl⟩,k3⟩
 ·rename_i k t i x o
  have ha':=ha
  obtain ⟨b,l,h1,h2,h3,rfl⟩:=ha
  have hp:=(qH S h2 h1 h3).2.2.2.2
  exact PQ.same S hK (xT (dP o hp)) ⟨ha',gd (dP _ hp)⟩
 ·obtain ⟨o,v,base,row,h1,h2,h3,rfl⟩:=ha
  exact PQ.same S hK rfl ⟨⟨o,v,base,row,h1,h2,h3,rfl⟩,rfl⟩
 cases hK
theorem All2.nthR {α β:Type} {P:α→β→Prop} {l:List α} {m:List β} (h:All2 P l m) {i:Nat} {a:α} (hi:nth l i=some a):∃ b,m[i]? = some b∧P a b:=by
 rw [aM] at hi
 exact a6 h hi
theorem yz {R:Type} {Δ:List Ch} {s:VS T} {ms:List AV} {e:Env} (S:VSim g M Δ s ms e h) {x:W T} {a:AV} (ha:bZ (Bo g M) s.ps ms h x a) {esz:Nat} {lo hi:Bool} {rest:List (SV T)} {as:List AV} (hr:All2 (cM (Bo g M) s.ps ms h) rest as) {K:SV T→VS T→Option R} {r:R} (hK:slA s esz lo hi rest K x=some r):PQ g M Δ K r s ms e h (POp.ev (.sliceSl esz lo hi) (a::as)):=by
 unfold slA at hK
 split at hK
 ·rename_i k
  have ha:nth ms k=some a:=ha
  split at hK
  ·rename_i t l hp
   cases he:Nat.beq (T.cells t) esz with
   | false=>rw [he] at hK; cases hK
   | true=>
    obtain rfl:=Nat.eq_of_beq_eq_true he
    rw [he,cond_true] at hK
    have hs:=rX S (bW hp (fun _ e=>by cases e)) ha
    obtain ⟨u,v,q,hK,hq,hev⟩:=pF hs hK hr
    obtain ⟨l1,l2⟩:=bM hq
    have S1:=S.kill hp ha
    have e1:(T.w t).rep.z=T.cells t:=aS T t
    have e2:(T.r t).z=T.cells t:=aS T t
    have S2:=St.sub (r:=T.w t) S1.st l1 l2
    rw [dY hq,e1] at S2
    rw [e2] at hev
    have S3:VSim g M (own (oSl (T.w t)) [a.sub (T.cells t) u.toNat v.toNat] q::Δ) (s.kill k) ms e h:=S1.with S2
    have S4:=VSim.new (p:=.sl t q) S3
    refine ⟨_,_,[a.sub (T.cells t) u.toNat v.toNat],_,hK,hev,S4,⟨?_,mX hs.is _ _ _⟩,(Ro.kill hp (fun _ e=>by cases e)).trans (Ro.app _ _)⟩
    show nth (ms++[_]) s.ps.length=_
    rw [← S.len]; exact bp ms [] _
  cases hK
 ·rename_i z o t l
  cases he:Nat.beq (T.cells t) esz with
  | false=>rw [he] at hK; cases hK
  | true=>
   obtain rfl:=Nat.eq_of_beq_eq_true he
   rw [he,cond_true] at hK
   have hs:=ya ha
   obtain ⟨u,v,q,hK,hq,hev⟩:=pF hs hK hr
   obtain ⟨l1,l2⟩:=bM hq
   have e2:(T.r t).z=T.cells t:=aS T t
   have h2:=hs.sub l1 l2
   rw [dY hq,e2] at h2
   rw [e2] at hev
   refine PQ.same S hK hev ⟨?_,mX hs.is _ _ _⟩
   cases o
   ·exact ⟨_,rfl,h2⟩
   exact ⟨_,rfl,h2⟩
 cases hK
theorem xd {R:Type} {Δ:List Ch} {s:VS T} {ms:List AV} {e:Env} (S:VSim g M Δ s ms e h) {q:POp} {xs:List (SV T)} {as:List AV} (ha:All2 (cM (Bo g M) s.ps ms h) xs as) {K:SV T→VS T→Option R} {r:R} (hK:BN q xs s K=some r):PQ g M Δ K r s ms e h (q.ev as):=by
 cases q<;>simp only [BN] at hK<;>try cases hK
 case mv=>
  split at hK
  ·cases ha with
   | cons p t=>cases t; exact PQ.same S hK rfl p
  cases hK
 case pick=>
  split at hK
  ·rename_i c x y
   cases ha with
   | cons p t=>cases t with
    | cons q t=>cases t with
     | cons w t=>
      cases t
      have p:_=AV.bool c:=p.1
      subst p
      cases c
      ·exact PQ.same S hK rfl w
      exact PQ.same S hK rfl q
  cases hK
 case build zero offs=>
  obtain ⟨z,hz,hK⟩:=obI hK
  obtain ⟨l,hl,hK⟩:=obI hK
  obtain ⟨cs,k1,k2⟩:=hY hl (wB hz) ha
  exact PQ.same S hK (by simp only [POp.ev,k1]) ⟨cs,rfl,k2⟩
 case nilCheck=>
  split at hK
  ·obtain ⟨a,rfl,p⟩:=iw ha
   obtain ⟨w',hK,p'⟩:=kC hK p.1
   exact zk S p' hK
  cases hK
 case bin op=>
  split at hK
  ·obtain ⟨a,b,rfl,p,q⟩:=j6 ha
   exact PQ.one S (v6 hK p.1 q.1)
  cases hK
 case eql neg q=>
  split at hK
  ·obtain ⟨a,b,rfl,p,q⟩:=j6 ha
   have q:b=_:=q.1
   subst q
   exact PQ.one S (qc S hK p.1).1
  ·obtain ⟨a,b,rfl,p,q⟩:=j6 ha
   have p:a=_:=p.1
   subst p
   exact PQ.one S (qc S hK q.1).2
  cases hK
 case un op=>
  split at hK
  ·obtain ⟨a,rfl,p⟩:=iw ha
   exact PQ.one S (zE hK p.1)
  cases hK
 case conv k=>
  split at hK
  ·obtain ⟨a,rfl,p⟩:=iw ha
   obtain rfl:=aL p.1
   exact PQ.same S hK rfl ⟨rfl,rfl⟩
  cases hK
 case mkIface t=>
  split at hK
  ·obtain ⟨a,rfl,p⟩:=iw ha
   exact PQ.same S hK rfl ⟨⟨a,p.1,p.2,rfl⟩,rfl⟩
  ·obtain ⟨a,rfl,p⟩:=iw ha
   obtain ⟨o,v,h1,rfl⟩:=p.1
   exact PQ.same S hK rfl ⟨⟨_,h1,rfl,rfl⟩,rfl⟩
  cases hK
 case fieldAddr off=>
  split at hK
  ·obtain ⟨a,rfl,p⟩:=iw ha
   obtain ⟨w',hK,p'⟩:=kC hK p.1
   exact tB S p' hK
  cases hK
 case indexArrAddr len esz=>
  split at hK
  ·obtain ⟨a,b,rfl,p,q⟩:=j6 ha
   obtain rfl:=aL q.1
   split at hK
   ·rename_i hi
    obtain ⟨w',hK,p'⟩:=kC hK p.1
    have:=tB S p' hK
    unfold PQ at this ⊢
    have e:∀ k:IntKind,∀ i:Int,0≤i∧i < (len:Int)→POp.ev (.indexArrAddr len esz) [a,.int k i]=POp.ev (.fieldAddr (i.toNat * esz)) [a]:=fun k i hi=>by
     cases a<;>first | rfl | simp only [POp.ev,if_pos hi]
    rw [e _ _ hi]
    exact this
   cases hK
  cases hK
 case indexArr1 len=>
  split at hK
  ·rename_i l z k i
   obtain ⟨a,b,rfl,p,q⟩:=j6 ha
   obtain rfl:=aL q.1
   obtain ⟨cs,rfl,hc⟩:=p
   cases hl:Nat.beq l.length len with
   | false=>rw [hl] at hK; cases hK
   | true=>
    rw [hl,cond_true] at hK
    exact PQ.one S (tc hK (Nat.eq_of_beq_eq_true hl) hc)
  cases hK
 case indexStr=>
  split at hK
  ·obtain ⟨a,b,rfl,p,q⟩:=j6 ha
   obtain rfl:=aL q.1
   obtain rfl:=eg p.1
   obtain ⟨n,hn,hK⟩:=obI hK
   exact PQ.same S hK (uu hn) ⟨rfl,rfl⟩
  cases hK
 case sliceStr lo hi=>
  split at hK
  ·cases ha with
   | cons p q=>
    obtain rfl:=eg p.1
    obtain ⟨r,hK,e⟩:=sT hK q
    exact PQ.same S hK e ⟨rfl,rfl⟩
  cases hK
 case sliceSl esz lo hi=>
  split at hK
  ·cases ha with
   | @cons _ a _ as p q=>exact yz S p.1 q hK
  cases hK
 case eqAgg neg is=>
  split at hK
  ·obtain ⟨a,b,rfl,⟨cs,rfl,hc⟩,⟨ds,rfl,hd⟩⟩:=j6 ha
   obtain ⟨c,hK,e⟩:=tK hc hd is hK
   refine PQ.same S hK (v:=.bool (bif neg then !c else c)) ?_ ⟨rfl,rfl⟩
   simp only [POp.ev,e]
   cases neg<;>rfl
  cases hK
 case field1 off=>
  split at hK
  ·obtain ⟨a,rfl,cs,rfl,p⟩:=iw ha
   obtain ⟨w,hw,hK⟩:=obI hK
   obtain ⟨b,k1,k2⟩:=p.nthR hw
   exact PQ.same S hK k1 k2
  cases hK
 case fieldN off n=>
  split at hK
  ·rename_i l
   obtain ⟨a,rfl,cs,rfl,p⟩:=iw ha
   cases hb:Nat.ble (off+n) l.length with
   | false=>rw [hb] at hK; cases hK
   | true=>
    rw [hb] at hK
    have hb:off+n≤cs.length:=by rw [← p.len]; exact Nat.le_of_ble_eq_true hb
    exact PQ.same S hK (by simp only [POp.ev,if_pos hb]) ⟨_,rfl,(p.drop off).take n⟩
  cases hK
 case indexAddr esz=>
  split at hK
  ·obtain ⟨a,b,rfl,p,q⟩:=j6 ha
   obtain rfl:=aL q.1
   obtain ⟨w,v,k1,k2,k3⟩:=zz S hK p.1
   exact PQ.same S k1 k2 k3
  cases hK
 case extract i=>
  split at hK
  ·cases ha with
   | cons p t=>
    cases t
    obtain ⟨vs,rfl,p⟩:=p
    obtain ⟨w,hw,hK⟩:=obI hK
    obtain ⟨b,k1,k2⟩:=p.nthR hw
    exact PQ.same S hK k1 k2
  cases hK
 case lenStr=>
  split at hK
  ·obtain ⟨a,rfl,p⟩:=iw ha
   obtain rfl:=eg p.1
   exact PQ.same S hK rfl ⟨rfl,rfl⟩
  cases hK
 case lenSl=>
  split at hK
  ·obtain ⟨a,rfl,p⟩:=iw ha
   obtain ⟨n,k1,k2⟩:=xB S hK p.1
   exact PQ.same S k1 k2 ⟨rfl,rfl⟩
  cases hK
 case lenArr n=>
  split at hK
  ·cases ha with
   | cons p t=>cases t; exact PQ.same S hK rfl ⟨rfl,rfl⟩
  cases hK
 case min=>
  split at hK
  ·split at hK
   ·rename_i hk
    subst hk
    obtain ⟨a,b,rfl,p,q⟩:=j6 ha
    obtain rfl:=aL p.1
    obtain rfl:=aL q.1
    exact PQ.same S hK (by simp only [POp.ev,uE,if_true]) ⟨rfl,rfl⟩
   cases hK
  cases hK
 case max=>
  split at hK
  ·split at hK
   ·rename_i hk
    subst hk
    obtain ⟨a,b,rfl,p,q⟩:=j6 ha
    obtain rfl:=aL p.1
    obtain rfl:=aL q.1
    exact PQ.same S hK (by simp only [POp.ev,uw,if_true]) ⟨rfl,rfl⟩
   cases hK
  cases hK
end
end Go.Am
namespace Go.Am
open Go
section
variable {T:TE} {g:Heap} {M:Nat→Prop} {h:Heap}
theorem ib {Γ:List Ch} {t:VT} (hp:t.pure=true) {c:List AV} {y:T.D t} (S:St g M (own (T.w t) c y::Γ) h):(T.r t).R (Frz h) c y:=by
 cases t with
 | sl o t=>
  cases o
  ·exact S.fzr (.head _)
  cases hp
 | int k=>exact S.fzr (r:=rI k) (.head _)
 | bool=>exact S.fzr (r:=rB) (.head _)
 | str=>exact S.fzr (r:=rS) (.head _)
 | _=>cases hp
theorem kU {t:VT} (hp:t.flat=true) {G G':Hp} {c:List AV} {y:T.D t} (hr:(T.r t).R G c y):(T.r t).R G' c y:=by
 cases t<;>first | exact hr | cases hp
theorem lfO {R:Type}:∀ (ts:List VT) (hl:∀ t,t∈ts→t.leaf=true) (x:T.H ts) (n:Nat) {K:(t:VT)→T.D t→Option R} {r:R} {Γ:List Ch} {cs:List AV},St g M (own (oHL T.o ts) cs x::Γ) h→lf ts x n K=some r→∃ t y c Γ',K t y=some r∧cs[n]? = some c∧t∈ts∧St g M (own (T.w t) [c] y::Γ') h
 | [],_,_,_,_,_,_,_,_,hK=>by simp only [lf] at hK; cases hK
 | t::ts,hl,x,n,K,r,Γ,cs,S,hK=>by
  obtain ⟨a,b,rfl,hla,_,S1⟩:=S.unpair
  obtain ⟨c0,rfl⟩:=g9 (hla.trans (dV (hl t (List.mem_cons_self ..))))
  cases n with
  | zero=>
   simp only [lf] at hK
   exact ⟨t,x.1,c0,_,hK,rfl,List.mem_cons_self ..,S1⟩
  | succ n=>
   simp only [lf] at hK
   obtain ⟨u,y,c,Γ',k1,k2,k3,k4⟩:=lfO ts (fun u hu=>hl u (List.mem_cons_of_mem _ hu)) x.2 n S1.swap hK
   exact ⟨u,y,c,Γ',k1,by simpa using k2,List.mem_cons_of_mem _ k3,k4⟩
theorem lfR {R:Type} {G:Hp}:∀ (ts:List VT) (hl:∀ t,t∈ts→t.leaf=true) (x:T.H ts) (n:Nat) {K:(t:VT)→T.D t→Option R} {r:R} {cs:List AV},(oHL T.o ts).rep.R G cs x→lf ts x n K=some r→∃ t y c,K t y=some r∧cs[n]? = some c∧t∈ts∧(T.r t).R G [c] y
 | [],_,_,_,_,_,_,_,hK=>by simp only [lf] at hK; cases hK
 | t::ts,hl,x,n,K,r,cs,hR,hK=>by
  obtain ⟨a,b,rfl,h1,h2⟩:=hR
  obtain ⟨c0,rfl⟩:=g9 (((VT.ow T.o t).rep.len h1).trans (dV (hl t (List.mem_cons_self ..))))
  cases n with
  | zero=>
   simp only [lf] at hK
   exact ⟨t,x.1,c0,hK,rfl,List.mem_cons_self ..,h1⟩
  | succ n=>
   simp only [lf] at hK
   obtain ⟨u,y,c,k1,k2,k3,k4⟩:=lfR ts (fun u hu=>hl u (List.mem_cons_of_mem _ hu)) x.2 n h2 hK
   exact ⟨u,y,c,k1,by simpa using k2,List.mem_cons_of_mem _ k3,k4⟩
theorem unR {G:Hp} {t:VT} {cs:List AV} {x:T.D t} (hr:(T.r t).R G cs x):(oHL T.o (T.lv t)).rep.R G cs (T.un t x):=by
 have key:(oHL T.o [t]).rep.R G cs (x,()):=⟨cs,[],by simp,hr,rfl⟩
 cases t with
 | st k=>
  have e:T.w (.st k)=oC (oHL T.o (T.fl k)) (T.to k):=T.o_eq k
  have hr:(T.w (.st k)).rep.R G cs x:=hr
  rw [e] at hr
  exact hr
 | _=>exact key
theorem A7 {R:Type} {B:Hp} {ps:List (Part T)} {ms:List AV}:∀ (ts:List VT) (hl:∀ t,t∈ts→t.leaf=true) (x:T.H ts) (o n:Nat) {K:List (W T)→Option R} {r:R} {Γ:List Ch} {cs:List AV},St g M (own (oHL T.o ts) cs x::Γ) h→lfs true true ts x o n K=some r→∃ l,K l=some r∧All2 (jP B ps ms h) l ((cs.drop o).take n)
 | ts,hl,x,o,0,K,r,Γ,cs,S,hK=>by
  cases ts<;>simp only [lfs] at hK<;>exact ⟨[],hK,by simp; exact .nil⟩
 | [],_,x,o,n+1,K,r,Γ,cs,S,hK=>by simp only [lfs] at hK; cases hK
 | t::ts,hl,x,0,n+1,K,r,Γ,cs,S,hK=>by
  obtain ⟨a,b,rfl,hla,_,S1⟩:=S.unpair
  have ht:=hl t (List.mem_cons_self ..)
  obtain ⟨c0,rfl⟩:=g9 (hla.trans (dV ht))
  simp only [lfs,Bool.true_and] at hK
  cases hp:t.pure with
  | false=>rw [hp] at hK; cases hK
  | true=>
   rw [hp] at hK
   have hK:lfs true true ts x.2 0 n _=some r:=hK
   have f:=ib (T:=T) (t:=t) hp S1
   obtain ⟨l,k1,k3⟩:=A7 ts (fun u hu=>hl u (List.mem_cons_of_mem _ hu)) x.2 0 n S1.swap hK
   exact ⟨_,k1,.cons ⟨f,cQ f ht⟩ (by simpa using k3)⟩
 | t::ts,hl,x,o+1,n+1,K,r,Γ,cs,S,hK=>by
  obtain ⟨a,b,rfl,hla,_,S1⟩:=S.unpair
  have ht:=hl t (List.mem_cons_self ..)
  obtain ⟨c0,rfl⟩:=g9 (hla.trans (dV ht))
  simp only [lfs] at hK
  obtain ⟨l,k1,k3⟩:=A7 ts (fun u hu=>hl u (List.mem_cons_of_mem _ hu)) x.2 o (n+1) S1.swap hK
  exact ⟨l,k1,by simpa using k3⟩
theorem Bl {R:Type} {g0:Heap} {ps:List (Part T)} {ms:List AV} {z:Bool} {B:Hp}:∀ (ts:List VT) (hl:∀ t,t∈ts→t.leaf=true) (x:T.H ts) (o n:Nat) {K:List (W T)→Option R} {r:R} {cs:List AV},(oHL T.o ts).rep.R (zG B h z) cs x→lfs z false ts x o n K=some r→∃ l,K l=some r∧All2 (jP B ps ms h) l ((cs.drop o).take n)
 | ts,hl,x,o,0,K,r,cs,hR,hK=>by
  cases ts<;>simp only [lfs] at hK<;>exact ⟨[],hK,by simp; exact .nil⟩
 | [],_,x,o,n+1,K,r,cs,S,hK=>by simp only [lfs] at hK; cases hK
 | t::ts,hl,x,0,n+1,K,r,cs,hR,hK=>by
  obtain ⟨a,b,rfl,h1,h2⟩:=hR
  have ht:=hl t (List.mem_cons_self ..)
  obtain ⟨c0,rfl⟩:=g9 (((VT.ow T.o t).rep.len h1).trans (dV ht))
  simp only [lfs,Bool.false_and,cond_false] at hK
  obtain ⟨l,k1,k3⟩:=Bl (g0:=g0) ts (fun u hu=>hl u (List.mem_cons_of_mem _ hu)) x.2 0 n h2 hK
  have f:(T.r t).R (zG B h z) [c0] x.1:=h1
  have f2:bF B ms h (.d (z||t.flat) t x.1) c0:=by
   cases hf:t.flat with
   | false=>rw [Bool.or_false]; exact f
   | true=>exact kU hf f
  exact ⟨_,k1,.cons ⟨dy f2,cQ f ht⟩ (by simpa using k3)⟩
 | t::ts,hl,x,o+1,n+1,K,r,cs,hR,hK=>by
  obtain ⟨a,b,rfl,h1,h2⟩:=hR
  have ht:=hl t (List.mem_cons_self ..)
  obtain ⟨c0,rfl⟩:=g9 (((VT.ow T.o t).rep.len h1).trans (dV ht))
  simp only [lfs] at hK
  obtain ⟨l,k1,k3⟩:=Bl (g0:=g0) ts (fun u hu=>hl u (List.mem_cons_of_mem _ hu)) x.2 o (n+1) h2 hK
  exact ⟨l,k1,by simpa using k3⟩
theorem rE {Δ:List Ch} {s:VS T} {ms:List AV} {e:Env} (S:VSim g M Δ s ms e h) {k:Nat} {t:VT} {l:List (T.D t)} {a:AV} (hp:lkP s.ps k=some (.sl t l)) (ha:nth ms k=some a) {i:Int} {x:T.D t} (hi:idx l i=some x) :
  ∃ c,c.length=T.cells t∧(a.at (i.toNat * T.cells t)).isPtr=true∧(∀ j y,c[j]? = some y→h.rd1 ((a.at (i.toNat * T.cells t)).padd j)=some y)∧h.rdN (a.at (i.toNat * T.cells t)) (T.cells t)=some c∧∃ Γ,St g M (own (oHL T.o (T.lv t)) c (T.un t x)::Γ) h:=by
 obtain ⟨c,hc,S1⟩:=St.out (r:=T.w t) (S.st.pullL ha hp) hi
 obtain ⟨_,_,q3,q4,q5,_⟩:=S1.hrd (.tail _ (.head _))
 have e1:(T.w t).rep.z=T.cells t:=aS T t
 rw [e1] at hc q3 q4 q5
 exact ⟨c,hc,q3,q5,q4,_,St.unW S1⟩
theorem sE {h:Heap} {p:AV} {z:Nat} {c:List AV} (hp:p.isPtr=true) (hr:h.rdN p z=some c) (hc:c.length=z) {o n:Nat} (hn:o+n≤z):h.rdN (p.padd o) n=some ((c.drop o).take n):=by
 cases p<;>first | cases hp | skip
 rename_i q v f
 have hr:h.cells q v f z=some c:=hr
 show h.cells q v (f+o) n=_
 obtain ⟨cs,wr,hg,hl,rfl⟩:=gj hr
 rw [dN hg (by omega),List.drop_take,List.take_take,List.drop_drop,Nat.min_eq_left (by omega)]
theorem mP {ps:List (Part T)} {k:Nat} {t t0:VT} {l:List (T.D t)} {l0:List (T.D t0)} (h:∃ p,lkP ps k=some p∧slq t l p) (h0:lkP ps k=some (.sl t0 l0)):lkP ps k=some (.sl t l):=by
 obtain ⟨p,h,rfl | ⟨j,rfl⟩⟩:=h
 ·exact h
 rw [h0] at h; cases h
def PS {R:Type} (g:Heap) (M:Nat→Prop) (K:SV T→VS T→Option R) (r:R) (s:VS T) (ms:List AV) (h:Heap) (o:Option AV):Prop:=∃ x v,K x s=some r∧o=some v∧cM (Bo g M) s.ps ms h x v
theorem PS.same {R:Type} {K:SV T→VS T→Option R} {r:R} {s:VS T} {ms:List AV} {o:Option AV} {x:SV T} {v:AV} (hK:K x s=some r) (ho:o=some v) (hr:cM (Bo g M) s.ps ms h x v):PS g M K r s ms h o:=⟨x,v,hK,ho,hr⟩
theorem PS.pq {R:Type} {Δ:List Ch} {K:SV T→VS T→Option R} {r:R} {s:VS T} {ms:List AV} {e:Env} {o:Option AV} (S:VSim g M Δ s ms e h) (hp:PS g M K r s ms h o):PQ g M Δ K r s ms e h o:=by
 obtain ⟨x,v,h1,h2,h3⟩:=hp
 exact PQ.same S h1 h2 h3
theorem qW {R:Type} {Δ:List Ch} {s:VS T} {ms:List AV} {e:Env} (S:VSim g M Δ s ms e h) {x:W T} {a:AV} (ha:bZ (Bo g M) s.ps ms h x a) {K:SV T→VS T→Option R} {r:R} (hK:ldA s K x=some r):PS g M K r s ms h (ROp.ev .load1 [a] h):=by
 unfold ldA at hK
 split at hK
 ·rename_i k o
  split at hK
  ·rename_i ws hp
   obtain ⟨w,hw,hK⟩:=obI hK
   obtain ⟨ob,v,h1,rfl⟩:=ha
   obtain ⟨ob',v',cs,e1,h2,S2⟩:=St.rowOpen (S.st.pullL h1 hp)
   cases e1
   obtain ⟨b,k1,k2⟩:=h2.nthR hw
   exact PS.same hK (S2.rd1 (.head _) k1) ⟨dy k2.1,k2.2⟩
  cases hK
 ·rename_i k t i x o
  split at hK
  rotate_left
  ·cases hK
  rename_i t0 l0 hp0
  obtain ⟨b,l,h1,h2,h3,rfl⟩:=ha
  have h2:=mP h2 hp0
  obtain ⟨c,hc,q1,q2,q3,Γ,S1⟩:=rE S h2 h1 h3
  obtain ⟨u,y,d,Γ',k1,k2,k3,k4⟩:=lfO _ (dC T t) _ _ S1 hK
  cases hp:u.pure with
  | false=>rw [hp] at k1; cases k1
  | true=>
   rw [hp] at k1
   have f:=ib (T:=T) (t:=u) hp k4
   exact PS.same k1 (q2 _ _ k2) ⟨f,cQ f (dC T t u k3)⟩
 ·rename_i z t x o
  obtain ⟨ob,v,base,row,h1,h2,h3,rfl⟩:=ha
  obtain ⟨u,y,d,k1,k2,k3,k4⟩:=lfR _ (dC T t) _ _ (unR h3) hK
  obtain ⟨w,hg⟩:=zG.le S.st z _ _ _ h1
  have hlt:=(List.getElem?_eq_some_iff.1 k2).1
  have hlt2:o < T.cells t:=by rw [List.length_take,List.length_drop] at hlt; omega
  rw [List.getElem?_take_of_lt hlt2,List.getElem?_drop] at k2
  refine PS.same k1 (mT hg k2) ⟨dy ?_,cQ k4 (dC T t u k3)⟩
  cases hf:u.flat with
  | false=>rw [Bool.or_false]; exact k4
  | true=>exact kU hf k4
 cases hK
theorem mG {h:Heap} {p:AV} {n:Nat} {c:List AV} (hr:h.rdN p n=some c):ROp.ev (.loadN n) [p] h=some (.agg c):=by
 cases p<;>first | cases hr | skip
 have hr:h.cells _ _ _ n=some c:=hr
 simp only [ROp.ev,hr]
theorem oO {R:Type} {Δ:List Ch} {s:VS T} {ms:List AV} {e:Env} (S:VSim g M Δ s ms e h) {x:W T} {a:AV} (ha:bZ (Bo g M) s.ps ms h x a) {n:Nat} {K:SV T→VS T→Option R} {r:R} (hK:ldN s n K x=some r):PS g M K r s ms h (ROp.ev (.loadN n) [a] h):=by
 unfold ldN at hK
 split at hK
 ·rename_i k o
  split at hK
  ·rename_i ws hp
   cases hb:Nat.ble (o+n) ws.length with
   | false=>rw [hb] at hK; cases hK
   | true=>
    rw [hb] at hK
    obtain ⟨ob,v,h1,rfl⟩:=ha
    obtain ⟨ob',v',cs,e1,h2,S2⟩:=St.rowOpen (S.st.pullL h1 hp)
    cases e1
    have hb:o+n≤cs.length:=by rw [← h2.len]; exact Nat.le_of_ble_eq_true hb
    exact PS.same hK (mG (S2.rdN (.head _) hb rfl)) ⟨_,rfl,((h2.drop o).take n).imp fun w a k=>⟨dy k.1,k.2⟩⟩
  cases hK
 ·rename_i k t i x o
  split at hK
  rotate_left
  ·cases hK
  rename_i t0 l0 hp0
  cases hb:Nat.ble (o+n) (T.cells t) with
  | false=>rw [hb] at hK; cases hK
  | true=>
   rw [hb] at hK
   have hb:o+n≤T.cells t:=Nat.le_of_ble_eq_true hb
   obtain ⟨b,l,h1,h2,h3,rfl⟩:=ha
   have h2:=mP h2 hp0
   obtain ⟨c,hc,q1,q2,q3,Γ,S1⟩:=rE S h2 h1 h3
   obtain ⟨ws,k1,k3⟩:=A7 (B:=Bo g M) (ps:=s.ps) (ms:=ms) _ (dC T t) _ _ _ S1 hK
   exact PS.same k1 (mG (sE q1 q3 hc hb)) ⟨_,rfl,k3⟩
 ·rename_i z t x o
  cases hb:Nat.ble (o+n) (T.cells t) with
  | false=>rw [hb] at hK; cases hK
  | true=>
   rw [hb] at hK
   have hb:o+n≤T.cells t:=Nat.le_of_ble_eq_true hb
   obtain ⟨ob,v,base,row,h1,h2,h3,rfl⟩:=ha
   obtain ⟨ws,k1,k3⟩:=Bl (g0:=g) (ps:=s.ps) (ms:=ms) _ (dC T t) _ _ _ (unR h3) hK
   obtain ⟨w,hg⟩:=zG.le S.st z _ _ _ h1
   rw [List.drop_take,List.take_take,List.drop_drop,Nat.min_eq_left (by omega)] at k3
   exact PS.same k1 (mG (nn hg (by omega))) ⟨_,rfl,k3⟩
 cases hK
theorem PQ.pre {R:Type} {Δ:List Ch} {K:SV T→VS T→Option R} {r:R} {s s':VS T} {ms xs:List AV} {e:Env} {o:Option AV} (hr:Ro s s') (hq:PQ g M Δ K r s' (ms++xs) e h o):PQ g M Δ K r s ms e h o:=by
 obtain ⟨x,s2,xs2,v,h1,h2,h3,h4,h5⟩:=hq
 rw [List.append_assoc] at h3 h4
 exact ⟨x,s2,xs++xs2,v,h1,h2,h3,h4,hr.trans h5⟩
theorem wm {R:Type} {Δ:List Ch} {s:VS T} {ms:List AV} {e:Env} (S:VSim g M Δ s ms e h) {q:ROp} {xs:List (SV T)} {as:List AV} (ha:All2 (cM (Bo g M) s.ps ms h) xs as) {K:SV T→VS T→Option R} {r:R} (hK:BR q xs s K=some r):PQ g M Δ K r s ms e h (q.ev as h):=by
 cases q<;>simp only [BR] at hK<;>try cases hK
 case load1=>
  split at hK
  ·rename_i k off
   obtain ⟨a,rfl,p⟩:=iw ha
   obtain ⟨o,v,h1,rfl⟩:=p.1
   obtain ⟨s',xs,_,_,hK,S',_,ro,_⟩:=fx S h1 hK
   exact PQ.pre ro ((qW (x:=.ptr k off) S' ⟨o,v,aH h1,rfl⟩ hK).pq S')
  ·rename_i k u i x
   obtain ⟨a,rfl,p⟩:=iw ha
   split at hK
   ·rename_i t l hp
    obtain ⟨rfl,hK⟩:=bk hK
    have hK:K (W.sv (.r s.ps.length)) (((s.kill k).set k (.ho (.sl true u) l i.toNat)).new (.sl u x))=some r:=hK
    obtain ⟨b,l',h1,h2,h3,rfl⟩:=p.1
    have h4:=mP h2 (bW hp (fun _ e=>by cases e))
    rw [bW hp (fun _ e=>by cases e)] at h4
    cases h4
    have S1:=S.kill hp h1
    obtain ⟨c,hc,S2⟩:=St.out (r:=T.w (.sl true u)) S1.st h3
    obtain ⟨c0,rfl⟩:=g9 hc
    obtain ⟨_,_,q3,q4,q5,_⟩:=S2.hrd (.tail _ (.head _))
    have fl:c0.flat=true:=cQ (t:=.sl true u) (S2.snap (r:=T.w (.sl true u)) (.head _)) rfl
    have S3:VSim g M (yA (T.w (.sl true u)) b l i.toNat::own (T.w (.sl true u)) [c0] x::Δ) (s.kill k) ms e h:=S1.with ((S2.swap).imp (.cons (fun fp hP=>⟨_,hP⟩) (All2.refl' (fun _ _ k=>k) _)))
    have S4:=VSim.put0 (p:=.ho (.sl true u) l i.toNat) S3 (aZ hp) h1
    have S5:=VSim.new (p:=.sl u x) (a:=c0) S4
    refine ⟨_,_,[c0],c0,hK,?_,S5,⟨?_,fl⟩,((Ro.kill hp (fun _ e=>by cases e)).trans (Ro.setP (aZ hp) (fun _ e=>by cases e))).trans (Ro.app _ _)⟩
    ·have:=q5 0 c0 rfl
     rw [eU] at this ⊢
     exact yk this
    show nth (ms++[c0]) s.ps.length=_
    rw [← S.len]; exact bp ms [] _
   cases hK
  ·obtain ⟨a,rfl,p⟩:=iw ha
   obtain ⟨w',hK,p'⟩:=kC hK p.1
   exact (qW S p' hK).pq S
  cases hK
 case loadN n=>
  split at hK
  ·rename_i k off
   obtain ⟨a,rfl,p⟩:=iw ha
   obtain ⟨o,v,h1,rfl⟩:=p.1
   obtain ⟨s',xs,_,_,hK,S',_,ro,_⟩:=fx S h1 hK
   exact PQ.pre ro ((oO (x:=.ptr k off) S' ⟨o,v,aH h1,rfl⟩ hK).pq S')
  ·obtain ⟨a,rfl,p⟩:=iw ha
   obtain ⟨w',hK,p'⟩:=kC hK p.1
   exact (oO S p' hK).pq S
  cases hK
 case bytesToStr=>
  split at hK
  ·obtain ⟨a,rfl,p⟩:=iw ha
   have go:∀ {l:List Int},SlR (rI .u8) (dH h) a l→K (W.sv (.d true .str (l.map u8))) s=some r→PQ g M Δ K r s ms e h (ROp.ev .bytesToStr [a] h):=fun hs hK=>PQ.same S hK (rO hs) ⟨rfl,rfl⟩
   split at hK
   ·split at hK
    ·rename_i l hp
     exact go (rX S hp p.1) hK
    cases hK
   ·exact go ((ya p.1).mono (zG.le S.st _)) hK
   cases hK
  cases hK
 case lookup kq ok zero=>
  split at hK
  ·rename_i k z k1 x
   obtain ⟨a,b,rfl,p,q⟩:=j6 ha
   obtain rfl:=aL q.1
   split at hK
   ·rename_i ka kb m hp
    cases hq:Nat.beq kq 1 with
    | false=>rw [hq] at hK; cases hK
    | true=>
     obtain rfl:=Nat.eq_of_beq_eq_true hq
     rw [hq,cond_true] at hK
     unfold lkM at hK
     split at hK
     ·rename_i kz z0
      split at hK
      ·rename_i hc
       obtain ⟨rfl,rfl,rfl⟩:=hc
       have hO:=(S.st.pullL p.1 hp)
       have key:∀ (ok:Bool),ROp.ev (.lookup 1 ok (.int kz 0)) [a,.int k1 x] h=some (if ok=true then .tuple [.int kz ((mlk k1 m x).getD 0),.bool (mlk k1 m x).isSome] else .int kz ((mlk k1 m x).getD 0)):=fun ok=>by
        cases m with
        | none=>
         obtain ⟨fp,⟨e1,_,_⟩ | ⟨m,e1,_⟩⟩:=hO.mem (.head _)
         ·cases e1
          cases ok<;>rfl
         cases e1
        | some m=>
         have S1:=St.nmOpen (k:=keI k1) (ve:=AV.int kz) (c:=a) (q:=some m) rfl hO
         cases ok
         ·exact S1.look1 (e:=keI k1) (ve:=AV.int kz) (.head _) x 0
         exact S1.look2 (e:=keI k1) (ve:=AV.int kz) (.head _) x 0
       cases ok with
       | true=>exact PQ.same S hK (key true) ⟨_,rfl,.cons ⟨rfl,rfl⟩ (.cons ⟨rfl,rfl⟩ .nil)⟩
       | false=>exact PQ.same S hK (key false) ⟨rfl,rfl⟩
      cases hK
     cases hK
   cases hK
  cases hK
end
end Go.Am
namespace Go.Am
open Go
section
variable {T:TE} {g:Heap} {M:Nat→Prop} {h:Heap}
def HQ {R:Type} (g:Heap) (M:Nat→Prop) (Δ:List Ch) (K:SV T→VS T→Option R) (r:R) (s:VS T) (ms:List AV) (e:Env) (o:Option (AV×Heap)):Prop:=
 ∃ x s' xs v h1 h',K x s'=some r∧o=some (v,h1)∧Fz h1 h'∧VSim g M Δ s' (ms++xs) e h'∧cM (Bo g M) s'.ps (ms++xs) h' x v∧Ro s s'
theorem HQ.pre {R:Type} {g:Heap} {M:Nat→Prop} {Δ:List Ch} {K:SV T→VS T→Option R} {r:R} {s s':VS T} {ms xs:List AV} {e:Env} {o:Option (AV×Heap)} (hr:Ro s s') (hq:HQ g M Δ K r s' (ms++xs) e o):HQ g M Δ K r s ms e o:=by
 obtain ⟨x,s2,xs2,v,h1,h2,q1,q2,q3,q4,q5,q6⟩:=hq
 rw [List.append_assoc] at q4 q5
 exact ⟨x,s2,xs++xs2,v,h1,h2,q1,q2,q3,q4,q5,hr.trans q6⟩
theorem tV {zero:List AV} {z:List (W T)} (hz:zW zero=some z) (B:Hp) (ms:List AV) (h:Heap):All2 (fV B ms h) z zero:=by
 unfold zW at hz
 cases hf:zero.all AV.flat with
 | false=>rw [hf] at hz; cases hz
 | true=>
  rw [hf] at hz
  cases hz
  induction zero with
  | nil=>exact .nil
  | cons a l ih=>
   rw [List.all_cons,Bool.and_eq_true] at hf
   exact .cons ⟨Cu _ _ _ _,hf.1⟩ (ih hf.2)
theorem xy {B:Hp} {ps:List (Part T)} {ms:List AV}:∀ {ws:List (W T)} {cs:List AV},ws.all W.sto=true→All2 (jP B ps ms h) ws cs→All2 (fV B ms h) ws cs
 | _,_,_,.nil=>.nil
 | w::ws,_,hs,.cons p q=>by
  rw [List.all_cons,Bool.and_eq_true] at hs
  refine .cons ⟨?_,p.2⟩ (xy hs.2 q)
  cases w<;>first | exact p.1 | cases hs.1
theorem rz {B:Hp} {ms xs:List AV} {h h':Heap} (hz:HZ h h') {ws:List (W T)} {cs:List AV} (hr:All2 (fV B ms h) ws cs):All2 (fV B (ms++xs) h') ws cs:=hr.imp fun w a k=>⟨aE hz w k.1,k.2⟩
theorem VSim.pushO {Δ:List Ch} {s:VS T} {ms:List AV} {e:Env} (S:VSim g M Δ s ms e h) (x:AObj):VSim g M Δ s ms e (h.push x):=S.heap (HZ.of (HLe.push h x)) (S.st.push x)
theorem pz {Δ:List Ch} {s:VS T} {ms:List AV} {e:Env} (S:VSim g M Δ s ms e h) {cs:List AV} {ws:List (W T)} (hr:All2 (fV (Bo g M) ms h) ws cs):VSim g M Δ (s.new (.row ws)) (ms++[.ptr h.n 0 0]) e (h.push (.row cs 0 true)):=by
 have hz:HZ h (h.push (.row cs 0 true)):=HZ.of (HLe.push h _)
 have S1:=S.pushO (.row cs 0 true)
 have S2:VSim g M (eT h.n cs 0::Δ) s ms e (h.push (.row cs 0 true)):=S1.with (S.st.pushRow cs)
 have S3:=St.rowClose (rz (xs:=[.ptr h.n 0 0]) hz hr) S2.st
 exact VSim.new (p:=.row ws) (S2.with S3)
theorem yN {Γ:List Ch} {α:Type} {r:ORep α} (S:St g M Γ h):St g M (rF r [] []::Γ) h:=S.catNil r
theorem t9 {R:Type} {t:VT}:∀ (n:Nat) (ws:List (W T)) (s:VS T) (K:List (T.D t)→VS T→Option R) (r:R),tkE t n ws s K=some r→∀ {Δ:List Ch} {ms:List AV} {e:Env} {h:Heap} {as:List AV},VSim g M Δ s ms e h→All2 (f7 (Bo g M) ms h) ws as→
  ∃ l s' h',K l s'=some r∧l.length=n∧Fz h h'∧VSim g M (rF (T.w t) as l::Δ) s' ms e h'∧Trk s s'
 | 0,ws,s,K,r,hK,Δ,ms,e,h,as,S,hr=>by
  cases ws with
  | nil=>
   simp only [tkE] at hK
   cases hr
   exact ⟨[],s,h,hK,rfl,Fz.refl _,S.with (yN S.st),Trk.refl _⟩
  | cons w ws=>simp only [tkE] at hK; cases hK
 | n+1,ws,s,K,r,hK,Δ,ms,e,h,as,S,hr=>by
  have hK:tks fuel (T.lv t) (ws.take (T.cells t)) s (fun x s=>tkE t n (ws.drop (T.cells t)) s fun l s=>K (T.re t x::l) s)=some r:=hK
  obtain ⟨x,s1,h1,k1,k2,k3,k4⟩:=(iH (T:=T) fuel).1 _ _ _ _ _ hK S (hr.take _)
  obtain ⟨l,s2,h2,q1,q2,q3,q4,q5⟩:=t9 n _ _ _ _ k1 k3 ((hr.drop (T.cells t)).imp fun w a k=>js k2.hz k)
  refine ⟨_,s2,h2,q1,by rw [List.length_cons,q2],k2.trans q3,?_,k4.trans q5⟩
  have S5:VSim g M (rF (T.w t) (as.take (T.cells t)++as.drop (T.cells t)) (T.re t x::l)::Δ) s2 ms e h2:=q4.with ((St.reW q4.st.swap).catCons)
  rw [List.take_append_drop] at S5
  exact S5
theorem xJ {R:Type} {t:VT} {zero:List AV} {z:List (W T)} (hz:zW zero=some z) {K:T.H (T.lv t)→Option R} {r:R} (hK:tks fuel (T.lv t) z ⟨[],[]⟩ (fun x _=>K x)=some r):∃ x,K x=some r∧∀ h,(T.w t).O h zero (T.re t x) []:=by
 have S0:VSim (T:=T) .empty eX [] ⟨[],[]⟩ [] .nil .empty:=⟨rfl,St.refl _ _,fun k sv hk=>by cases hk⟩
 obtain ⟨x,s',h',k1,k2,k3,k4⟩:=(iH (T:=T) fuel).1 _ _ _ _ _ hK S0 ((tV hz (Bo .empty eX) [] .empty).imp fun w a k=>ng k.1)
 refine ⟨x,k1,fun h=>?_⟩
 have S4:=St.reW k3.st
 obtain ⟨fp,hO⟩:=S4.mem (.head _)
 have hn:h'.n=0:=k2.n.symm
 have hno:∀ o,h'.get o=none:=fun o=>Heap.get_ge h' (by omega)
 have hfp:fp=[]:=by
  cases fp with
  | nil=>rfl
  | cons o fp=>
   obtain ⟨y,hy⟩:=(T.w t).bd hO o (List.mem_cons_self ..)
   rw [hno] at hy; cases hy
 subst hfp
 refine (T.w t).stay hO (fun o ho=>by cases ho) fun o cs v hg=>?_
 have hg:h'.get o=_:=hg
 rw [hno] at hg; cases hg
theorem wt {R:Type} {H:List (Nat×VT)} {d:Option Nat} {Δ:List Ch} {s:VS T} {ms:List AV} {e:Env} (S:VSim g M Δ s ms e h) {q:NOp} {xs:List (SV T)} {as:List AV} (ha:All2 (cM (Bo g M) s.ps ms h) xs as) {K:SV T→VS T→Option R} {r:R} (hK:BC H d q xs s K=some r) :
  HQ g M Δ K r s ms e ((q.ob as h).map fun ob=>(q.mk as h.n,h.push ob)):=by
 cases q<;>simp only [BC] at hK<;>try cases hK
 case alloc zero=>
  split at hK
  ·cases ha
   obtain ⟨z,hz,hK⟩:=obI hK
   have S2:=pz S (tV hz (Bo g M) ms h)
   refine ⟨_,_,[.ptr h.n 0 0],_,_,_,hK,rfl,Fz.refl _,S2,⟨⟨h.n,0,?_,rfl⟩,rfl⟩,Ro.app _ _⟩
   rw [← S.len]; exact bp ms [] _
  cases hK
 case box=>
  split at hK
  ·obtain ⟨a,rfl,p⟩:=iw ha
   rename_i x
   cases hs:(ci x).all W.sto with
   | false=>rw [hs] at hK; cases hK
   | true=>
    rw [hs] at hK
    obtain ⟨r1,r2⟩:=cw p
    have S2:=pz S (xy hs r1)
    refine ⟨_,_,[.ptr h.n 0 0],.ptr h.n 0 0,_,_,hK,?_,Fz.refl _,S2,⟨⟨h.n,0,?_,rfl⟩,rfl⟩,Ro.app _ _⟩
    ·simp only [NOp.ob,r2,Bool.false_eq_true,if_false]; rfl
    rw [← S.len]; exact bp ms [] _
  cases hK
 case buildSlice esz len zero offs=>
  obtain ⟨t,ht,hK⟩:=obI hK
  obtain ⟨z,hz,hK⟩:=obI hK
  obtain ⟨l,hl,hK⟩:=obI hK
  cases he:Nat.beq (T.cells t) esz with
  | false=>rw [he] at hK; cases hK
  | true=>
   obtain rfl:=Nat.eq_of_beq_eq_true he
   rw [he] at hK
   obtain ⟨cs,k1,k2⟩:=hY hl (wB (B:=Bo g M) (ps:=s.ps) (ms:=ms) (h:=h) hz) ha
   obtain ⟨x,s',h',q1,q2,q3,q4,q5⟩:=t9 _ _ _ _ _ hK S (k2.imp fun w a k=>fK k.1)
   have S2:=q4.pushO (.row cs 0 true)
   have S3:St g M (eT h'.n cs 0::rF (T.w t) cs x::(Δ++chs (Bo g M) ms ms s'.ps)) (h'.push (.row cs 0 true)):=q4.st.pushRow cs
   have S4:=St.litO S3 (n:=len) q2.symm
   have e1:(T.w t).rep.z=T.cells t:=aS T t
   rw [e1] at S4
   have S5:VSim g M (own (oSl (T.w t)) [.slice h'.n 0 0 len (T.cells t)] x::Δ) s' ms e (h'.push (.row cs 0 true)):=S2.with S4
   have S6:=VSim.new (p:=.sl t x) (a:=.slice h'.n 0 0 len (T.cells t)) S5
   refine ⟨_,_,[.slice h'.n 0 0 len (T.cells t)],.slice h.n 0 0 len (T.cells t),h.push (.row cs 0 true),_,q1,?_,q3.push _,S6,⟨?_,rfl⟩,q5.ro.trans (Ro.app _ _)⟩
   ·simp only [NOp.ob,k1,Option.map,NOp.mk]
   show nth (ms++[AV.slice h'.n 0 0 len (T.cells t)]) s'.ps.length=_
   rw [← q4.len,← q3.n]; exact bp ms [] _
 case mkMap=>
  split at hK
  ·cases ha
   split at hK
   ·rename_i ka kb hh
    have S2:VSim g M (own (T.w (.mp (.int ka) (.int kb))) [.map h.n] (some [])::Δ) s ms e (h.push (.map [])):=(S.pushO _).with (St.nmClose (S.st.pushM (keI ka) (AV.int kb)))
    have S3:=VSim.new (p:=.mp (.int ka) (.int kb) (some [])) S2
    refine ⟨_,_,[.map h.n],.map h.n,_,_,hK,rfl,Fz.refl _,S3,⟨?_,rfl⟩,Ro.app _ _⟩
    show nth (ms++[AV.map h.n]) s.ps.length=_
    rw [← S.len]; exact bp ms [] _
   cases hK
  cases hK
 case mkSlice esz bytes zero=>
  split at hK
  ·rename_i z1 k1 l z2 k2 c
   obtain ⟨a,b,rfl,p,q⟩:=j6 ha
   obtain rfl:=aL p.1
   obtain rfl:=aL q.1
   obtain ⟨t,ht,hK⟩:=obI hK
   obtain ⟨z,hz,hK⟩:=obI hK
   cases he:Nat.beq (T.cells t) esz with
   | false=>rw [he] at hK; cases hK
   | true=>
    obtain rfl:=Nat.eq_of_beq_eq_true he
    rw [he] at hK
    obtain ⟨x,hK,hx⟩:=xJ (K:=fun x=>(mkS bytes _ _ (T.re t x)).bind fun y=>K (W.sv (.r s.ps.length)) (s.new (.sl t y))) hz hK
    obtain ⟨y,hy,hK⟩:=obI hK
    obtain ⟨hc,rfl⟩:=sU hy
    have S1:=St.make (r:=T.w t) S.st hx
    have S2:=S1 (Int.toNat l)
    have e1:(T.w t).rep.z=T.cells t:=aS T t
    rw [e1] at S2
    have S3:=VSim.new (p:=.sl t (List.replicate (Int.toNat l) (T.re t x))) (a:=.slice h.n 0 0 (Int.toNat l) (T.cells t)) ((S.pushO _).with S2)
    refine ⟨_,_,[.slice h.n 0 0 (Int.toNat l) (T.cells t)],.slice h.n 0 0 (Int.toNat l) (T.cells t),_,_,hK,?_,Fz.refl _,S3,⟨?_,rfl⟩,Ro.app _ _⟩
    ·simp only [NOp.ob,if_pos hc,Option.map,NOp.mk]
    show nth (ms++[AV.slice h.n 0 0 (Int.toNat l) (T.cells t)]) s.ps.length=_
    rw [← S.len]; exact bp ms [] _
  cases hK
end
end Go.Am
namespace Go.Am
open Go
section
variable {T:TE} {g:Heap} {M:Nat→Prop} {h:Heap}
theorem VSim.act {Δ:List Ch} {s:VS T} {ms:List AV} {e:Env} {Γ1:List Ch} {Γ2:AV→List Ch} {o:Option (AV×Heap)} (S:VSim g M (Γ1++Δ) s ms e h) (op:∀ M',St h M' Γ1 h→∃ v h',o=some (v,h')∧St h M' (Γ2 v) h'):∃ v h',o=some (v,h')∧HZ h h'∧VSim g M (Γ2 v++Δ) s ms e h':=by
 have S1:=S.st
 rw [List.append_assoc] at S1
 obtain ⟨fp,f1,f2,_,_,L,_,_,_,back⟩:=St.lend2 Γ1 S1
 obtain ⟨v,h',k1,k2⟩:=op _ L
 refine ⟨v,h',k1,k2.hz,S.heap k2.hz ?_⟩
 rw [List.append_assoc]
 exact back _ _ k2
theorem VSim.pull {Δ:List Ch} {s:VS T} {ms:List AV} {e:Env} (S:VSim g M Δ s ms e h) {k:Nat} {p:Part T} {a:AV} (hp:nth s.ps k=some p) (ha:nth ms k=some a) (hn:∀ t l,¬ slq t l p) (hr:∀ q,p≠.ro q):VSim g M (dt (Bo g M) ms a p::Δ) (s.set k .dead) ms e h:=
 ⟨by simp only [VS.set,List.length_set]; exact S.len,S.st.pull ha hp,S.env_id (fun _ _ r=>r) fun w a r=>rN (bW hp hr) hn r⟩
def apC {α:Type} (r:ORep α) (els:List (List AV)) (l:List α):Ch where
 P h fp:=∃ fps,All3 (r.O h) els l fps∧fp=fps.flatten∧fp.Nodup
 nd:=by rintro _ _ ⟨_,_,_,h⟩; exact h
 bd:=by rintro h fp ⟨fps,a,rfl,_⟩; exact a.bd
 stay:=by rintro h h' fp ⟨fps,a,rfl,hn⟩ hs hz; exact ⟨fps,a.stay hs hz,rfl,hn⟩
theorem kR:∀ (ts:List VT),ts.all (fun t=>t.pure)=true→∀ {h:Heap} {cs:List AV} {x:T.H ts} {fp:List Nat},(oHL T.o ts).O h cs x fp→fp=[]
 | [],_,h,cs,x,fp,hO=>hO.1
 | t::ts,hp,h,cs,x,fp,hO=>by
  rw [List.all_cons,Bool.and_eq_true] at hp
  obtain ⟨a,b,fa,fb,_,h1,h2,rfl,_⟩:=hO
  rw [kR ts hp.2 h2,List.append_nil]
  cases t with
  | int k=>exact h1.1
  | bool=>exact h1.1
  | str=>exact h1.1
  | sl o t=>
   cases o
   ·exact h1.1
   exact absurd hp.1 (by simp [VT.pure])
  | st k=>exact absurd hp.1 (by simp [VT.pure])
  | pt t=>exact absurd hp.1 (by simp [VT.pure])
  | ic n t=>exact absurd hp.1 (by simp [VT.pure])
  | mp k v=>exact absurd hp.1 (by simp [VT.pure])
theorem qj:∀ (ts:List VT),ts.all (fun t=>t.pure)=true→∀ {h:Heap} {cs:List AV} {x:T.H ts},(oHL T.o ts).rep.R (Frz h) cs x→(oHL T.o ts).O h cs x []
 | [],_,h,cs,x,hR=>⟨rfl,hR⟩
 | t::ts,hp,h,cs,x,hR=>by
  rw [List.all_cons,Bool.and_eq_true] at hp
  obtain ⟨a,b,e,h1,h2⟩:=hR
  refine ⟨a,b,[],[],e,?_,qj ts hp.2 h2,rfl,by simp⟩
  cases t with
  | int k=>exact ⟨rfl,h1⟩
  | bool=>exact ⟨rfl,h1⟩
  | str=>exact ⟨rfl,h1⟩
  | sl o t=>
   cases o
   ·exact ⟨rfl,h1⟩
   exact absurd hp.1 (by simp [VT.pure])
  | st k=>exact absurd hp.1 (by simp [VT.pure])
  | pt t=>exact absurd hp.1 (by simp [VT.pure])
  | ic n t=>exact absurd hp.1 (by simp [VT.pure])
  | mp k v=>exact absurd hp.1 (by simp [VT.pure])
theorem qf:∀ (ts:List VT),ts.all (fun t=>t.flat)=true→∀ {G G':Hp} {cs:List AV} {x:T.H ts},(oHL T.o ts).rep.R G cs x→(oHL T.o ts).rep.R G' cs x
 | [],_,_,_,_,_,hR=>hR
 | t::ts,hp,_,_,_,_,⟨a,b,e,h1,h2⟩=>by
  rw [List.all_cons,Bool.and_eq_true] at hp
  exact ⟨a,b,e,kU (T:=T) (t:=t) hp.1 h1,qf ts hp.2 h2⟩
theorem BQ {t:VT} (ht:t.leaf=true) {h:Heap} {cs:List AV} {x:T.D t} {fp:List Nat}:(T.w t).O h cs x fp↔(oHL T.o [t]).O h cs (x,()) fp:=by
 constructor
 ·intro hO
  exact ⟨cs,[],fp,[],by simp,hO,⟨rfl,rfl⟩,by simp,(T.w t).nd hO⟩
 rintro ⟨a,b,fa,fb,rfl,h1,⟨rfl,h2⟩,rfl,_⟩
 have h2:b=[]:=h2
 subst h2
 rw [List.append_nil,List.append_nil]
 exact h1
theorem unO {t:VT} {h:Heap} {cs:List AV} {x:T.D t} {fp:List Nat}:(T.w t).O h cs x fp↔(oHL T.o (T.lv t)).O h cs (T.un t x) fp:=by
 cases t with
 | st k=>
  have e:T.w (.st k)=oC (oHL T.o (T.fl k)) (T.to k):=T.o_eq k
  rw [e]
  exact Iff.rfl
 | _=>exact BQ rfl
theorem lC {t:VT} (hd:T.dup t=true) {h:Heap} {cs:List AV} {x:T.D t} {fp:List Nat} (hO:(T.w t).O h cs x fp):fp=[]:=kR _ hd (unO.1 hO)
theorem yW {t:VT} (hd:T.dup t=true) {h:Heap} {cs:List AV} {x:T.D t} (hR:(T.r t).R (Frz h) cs x):(T.w t).O h cs x []:=unO.2 (qj _ hd (unR hR))
theorem reR {G:Hp} {t:VT} {cs:List AV} {x:T.D t} (hr:(oHL T.o (T.lv t)).rep.R G cs (T.un t x)):(T.r t).R G cs x:=by
 have key:∀ {t:VT} {x:T.D t},(oHL T.o [t]).rep.R G cs (x,())→(T.r t).R G cs x:=by
  rintro t x ⟨a,b,rfl,h1,h2⟩
  have h2:b=[]:=h2
  subst h2
  rw [List.append_nil]
  exact h1
 cases t with
 | st k=>
  have e:T.w (.st k)=oC (oHL T.o (T.fl k)) (T.to k):=T.o_eq k
  show (T.w (.st k)).rep.R G cs x
  rw [e]
  exact hr
 | _=>exact key hr
theorem BS {t:VT} (hd:T.flt t=true) {G G':Hp} {cs:List AV} {x:T.D t} (hR:(T.r t).R G cs x):(T.r t).R G' cs x:=reR (qf _ hd (unR hR))
theorem jZ {α:Type} {r:ORep α} {h:Heap} (hn:∀ {cs:List AV} {x:α} {fp:List Nat},r.O h cs x fp→fp=[]):∀ {els:List (List AV)} {l:List α} {fps:List (List Nat)},All3 (r.O h) els l fps→fps.flatten=[]
 | _,_,_,.nil=>rfl
 | _,_,_,.cons p q=>by rw [List.flatten_cons,hn p,jZ hn q]; rfl
theorem d9 {h:Heap} {o v off n z:Nat} {row:List AV} {w:Bool} {els:List (List AV)} (hg:h.get o=some (.row row v w)) (hl:off+n * z≤row.length) (he:els.flatten=(row.drop off).take (n * z)):appended h z (.slice o v off n z)=some (els.flatten,n):=by
 show (match h.rows z (.slice o v off n z) with
  | some cs=>some (cs,(AV.slice o v off n z).slen)
  | none=>none)=_
 rw [show h.rows z (.slice o v off n z)=some els.flatten by rw [he]; exact dN hg hl]
 rfl
theorem tj {R:Type} {Δ:List Ch} {s:VS T} {ms:List AV} {e:Env} (S:VSim g M Δ s ms e h) {y:W T} {a:AV} (ha:bZ (Bo g M) s.ps ms h y a) {K:(t:VT)→List (T.D t)→VS T→Option R} {r:R} (hK:apY s y K=some r) :
  ∃ t l els s',K t l s'=some r∧appended h (T.cells t) a=some (els.flatten,l.length)∧VSim g M (apC (T.w t) els l::Δ) s' ms e h∧Ro s s':=by
 unfold apY at hK
 split at hK
 ·rename_i k
  have ha:nth ms k=some a:=ha
  split at hK
  ·rename_i t l hp
   cases hd:T.dup t with
   | true=>
    rw [hd,cond_true] at hK
    have e1:(VT.ow T.o t).rep.z=T.cells t:=aS T t
    obtain ⟨fp,s0,e0,hO⟩:=(S.st.pullL ha hp).mem (.head _)
    cases e0
    rcases hO with ⟨rfl,rfl,_⟩ | ⟨o,v,off,row,els,fps,rfl,hg,h3,h4,h5,_,_⟩
    ·exact ⟨t,[],[],s,hK,rfl,S.none (c:=apC (T.w t) [] []) ⟨[],.nil,rfl,by simp⟩,Ro.refl s⟩
    rw [e1] at h3 h4
    refine ⟨t,l,els,s,hK,?_,S.none (c:=apC (T.w t) els l) ⟨fps,h5,(jZ (lC hd) h5).symm,by simp⟩,Ro.refl s⟩
    rw [e1]
    exact d9 hg h3 h4
   | false=>
    rw [hd,cond_false] at hK
    split at hK
    ·rename_i t l hp
     have e1:(VT.ow T.o t).rep.z=T.cells t:=aS T t
     have S2:=S.kill hp ha
     obtain ⟨fp,⟨s0,e0,hO⟩,kk⟩:=S2.st.turn1
     cases e0
     rcases hO with ⟨rfl,rfl,rfl⟩ | ⟨o,v,off,row,els,fps,rfl,hg,h3,h4,h5,rfl,h7⟩
     ·exact ⟨t,[],[],_,hK,rfl,S2.with (kk h (apC (T.w t) [] []) [] (HZ.refl _) (Nat.le_refl _) (fun _ _ _ hy=>hy) ⟨[],.nil,rfl,by simp⟩ (fun o ho=>by cases ho)),Ro.kill hp (fun _ e=>by cases e)⟩
     rw [e1] at h3 h4
     refine ⟨t,l,els,_,hK,?_,S2.with (kk h (apC (T.w t) els l) fps.flatten (HZ.refl _) (Nat.le_refl _) (fun _ _ _ hy=>hy) ⟨fps,h5,rfl,(List.nodup_cons.1 h7).2⟩ (fun o ho=>.inl (List.mem_cons_of_mem _ ho))),Ro.kill hp (fun _ e=>by cases e)⟩
     rw [e1]
     exact d9 hg h3 h4
    cases hK
  cases hK
 ·rename_i z o t l
  cases hd:(T.dup t&&(z||T.flt t)) with
  | false=>rw [hd] at hK; cases hK
  | true=>
   rw [hd] at hK
   rw [Bool.and_eq_true,Bool.or_eq_true] at hd
   have hs:=ya ha
   rcases hs with ⟨rfl,rfl⟩ | ⟨ob,v,off,row,els,rfl,h2,h3,h4,h5⟩
   ·exact ⟨t,[],[],s,hK,rfl,S.none (c:=apC (T.w t) [] []) ⟨[],.nil,rfl,by simp⟩,Ro.refl s⟩
   obtain ⟨w,hg⟩:=zG.le S.st z _ _ _ h2
   have e1:(T.r t).z=T.cells t:=aS T t
   rw [e1] at h3 h4
   have h6:All2 ((T.r t).R (Frz h)) els l:=h5.imp fun c x k=>by
    rcases hd.2 with hz | hf
    ·subst hz; exact k
    exact BS hf k
   have h7:∀ {els:List (List AV)} {l:List (T.D t)},All2 ((T.r t).R (Frz h)) els l→All3 ((T.w t).O h) els l (l.map fun _=>[]):=by
    intro els l a
    induction a with
    | nil=>exact .nil
    | cons p q ih=>exact .cons (yW hd.1 p) ih
   refine ⟨t,l,els,s,hK,?_,S.none (c:=apC (T.w t) els l) ⟨_,h7 h6,(jZ (lC hd.1) (h7 h6)).symm,by simp⟩,Ro.refl s⟩
   rw [e1]
   exact d9 hg h3 h4
 cases hK
theorem Ac {R:Type} {Δ:List Ch} {s:VS T} {ms:List AV} {e:Env} (S:VSim g M Δ s ms e h) {x:W T} {a:AV} (ha:f7 (Bo g M) ms h x a) {t:VT} {K:List (T.D t)→VS T→Option R} {r:R} (hK:apX s x t K=some r) :
  ∃ l s',K l s'=some r∧VSim g M (own (oSl (T.w t)) [a] l::Δ) s' ms e h∧Ro s s':=by
 unfold apX at hK
 split at hK
 ·rename_i k
  split at hK
  ·rename_i u l hp
   obtain ⟨rfl,hK⟩:=bk hK
   have ha:nth ms k=some a:=ha
   exact ⟨l,_,hK,S.kill hp ha,Ro.kill hp (fun _ e=>by cases e)⟩
  cases hK
 ·have ha:a=.nilSlice:=ha
  subst ha
  exact ⟨[],s,hK,S.none (wu _ _),Ro.refl s⟩
 cases hK
theorem uo {α:Type} (a b c:α) (l:List α):(a::b::c::l).Perm (c::b::a::l):=(List.Perm.swap b a _).trans ((List.Perm.cons b (List.Perm.swap c a _)).trans (List.Perm.swap c b _))
theorem qN {α:Type} (a b c:α) (l:List α):(a::b::c::l).Perm (b::c::a::l):=(List.Perm.swap b a _).trans (List.Perm.cons b (List.Perm.swap c a _))
theorem lG:∀ (ts:List VT) (hl:∀ t,t∈ts→t.leaf=true) (x:T.H ts) (o n:Nat) (y:T.H (wy ts o n)) {Γ:List Ch} {c d:List AV},St g M (own (oHL T.o ts) c x::own (oHL T.o (wy ts o n)) d y::Γ) h→o+n≤ts.length→d.length=n→St g M (own (oHL T.o ts) (splice c o d) (tl ts x o n y)::Γ) h
 | ts,hl,x,o,0,y,Γ,c,d,S,hb,hd=>by
  have:d=[]:=List.eq_nil_of_length_eq_zero hd
  subst this
  have e1:splice c o ([]:List AV)=c:=by unfold splice; simp
  rw [e1]
  cases ts<;>simp only [tl]<;>exact S.swap.drop
 | [],hl,x,o,n+1,y,Γ,c,d,S,hb,hd=>by simp at hb
 | t::ts,hl,x,0,n+1,y,Γ,c,d,S,hb,hd=>by
  have ht:=hl t (List.mem_cons_self ..)
  obtain ⟨a,b,rfl,hla,_,S1⟩:=S.unpair
  obtain ⟨c0,rfl⟩:=g9 (hla.trans (dV ht))
  have S2:=(S1.drop).swap
  obtain ⟨a2,b2,rfl,hla2,_,S3⟩:=S2.unpair
  obtain ⟨d0,rfl⟩:=g9 (hla2.trans (dV ht))
  have S4:=S3.perm (uo _ _ _ _)
  have S5:=lG ts (fun u hu=>hl u (List.mem_cons_of_mem _ hu)) x.2 0 n y.2 S4 (by simp at hb; omega) (by simpa using hd)
  have S6:=(S5.swap).pair
  have e1:splice ([c0]++b) 0 ([d0]++b2)=[d0]++splice b 0 b2:=by unfold splice; simp
  rw [e1]
  exact S6
 | t::ts,hl,x,o+1,n+1,y,Γ,c,d,S,hb,hd=>by
  have ht:=hl t (List.mem_cons_self ..)
  obtain ⟨a,b,rfl,hla,_,S1⟩:=S.unpair
  obtain ⟨c0,rfl⟩:=g9 (hla.trans (dV ht))
  have S4:=S1.perm (qN _ _ _ _)
  have S5:=lG ts (fun u hu=>hl u (List.mem_cons_of_mem _ hu)) x.2 o (n+1) y S4 (by simp at hb; omega) hd
  have S6:=(S5.swap).pair
  have e1:splice ([c0]++b) (o+1) d=[c0]++splice b o d:=by
   unfold splice
   simp only [List.singleton_append,List.take_succ_cons,List.cons_append,show o+1+d.length=(o+d.length)+1 by omega,List.drop_succ_cons]
   rfl
  rw [e1]
  exact S6
theorem ee {n:Nat} {p a v:AV} {h h':Heap} (hr:EOp.ev (.store n) [p,a] h=some (v,h')):v=.undef:=by
 cases p<;>simp only [EOp.ev,reduceCtorEq] at hr
 split at hr
 ·split at hr
  ·cases hr; rfl
  cases hr
 cases hr
theorem rA {R:Type} {Δ:List Ch} {s:VS T} {ms:List AV} {e:Env} (S:VSim g M Δ s ms e h) {n:Nat} {xs:List (W T)} {p a:AV} {x:W T} (hp:jP (Bo g M) s.ps ms h x p) (hx:All2 (jP (Bo g M) s.ps ms h) xs a.cells) (hat:a.isTup=false) {K:SV T→VS T→Option R} {r:R} (hK:stA s n xs K x=some r) :
  HQ g M Δ K r s ms e (EOp.ev (.store n) [p,a] h):=by
 unfold stA at hK
 split at hK
 ·rename_i k o
  split at hK
  ·rename_i ws hw
   cases hb:(Nat.beq xs.length n&&Nat.ble (o+n) ws.length&&xs.all W.sto) with
   | false=>rw [hb] at hK; cases hK
   | true=>
    rw [hb] at hK
    rw [Bool.and_eq_true,Bool.and_eq_true] at hb
    obtain ⟨⟨hb1,hb2⟩,hb3⟩:=hb
    have hb1:a.cells.length=n:=by rw [← hx.len]; exact Nat.eq_of_beq_eq_true hb1
    obtain ⟨ob,v,h1,rfl⟩:=hp.1
    have S1:=S.pull hw h1 (fun _ _ e=>by rcases e with e | ⟨_,e⟩<;>cases e) (fun _ e=>by cases e)
    obtain ⟨ob',v',cs,e1,hr,S2⟩:=St.rowOpen S1.st
    cases e1
    have hb2:o+n≤cs.length:=by rw [← hr.len]; exact Nat.le_of_ble_eq_true hb2
    have S3:VSim g M ([eT ob cs v]++Δ) (s.set k .dead) ms e h:=S1.with S2
    obtain ⟨w,h',k1,k2,S4⟩:=S3.act (o:=EOp.ev (.store n) [.ptr ob v o,a] h) (Γ2:=fun _=>[eT ob (splice cs o a.cells) v]) (fun M' L=>by
     obtain ⟨h',q1,q2⟩:=L.store hb2 hb1 hat rfl
     exact ⟨_,h',q1,q2⟩)
    have hw2:=ee k1
    subst hw2
    have hr2:All2 (fV (Bo g M) ms h') (ws.take o++(xs++ws.drop (o+n))) (splice cs o a.cells):=by
     have hr':=hr.imp fun w a (k:fV (Bo g M) ms h w a)=>(show fV (Bo g M) ms h' w a from ⟨cA k2 w k.1,k.2⟩)
     have hx':=(xy hb3 hx).imp fun w a (k:fV (Bo g M) ms h w a)=>(show fV (Bo g M) ms h' w a from ⟨cA k2 w k.1,k.2⟩)
     unfold splice
     rw [hb1]
     exact (hr'.take o).append' (hx'.append' (hr'.drop (o+n)))
    have S5:=St.rowClose hr2 S4.st
    have S6:VSim g M Δ ((s.set k .dead).set k (.row (ws.take o++(xs++ws.drop (o+n))))) ms e h':=VSim.put0 (S4.with (Δ':=yp _ _ _ _::Δ) S5) (aZ hw) h1
    have e2:(s.set k .dead).set k (.row (ws.take o++(xs++ws.drop (o+n))))=s.set k (.row (ws.take o++(xs++ws.drop (o+n)))):=by
     simp only [VS.set,List.set_set]
    rw [e2] at S6
    exact ⟨_,_,[],_,_,h',hK,k1,Fz.refl _,by rw [List.append_nil]; exact S6,rfl,Ro.setP hw (fun _ e=>by cases e)⟩
  cases hK
 ·rename_i k t i x o
  cases hb:(Nat.beq xs.length n&&Nat.ble (o+n) (T.cells t)) with
  | false=>rw [hb] at hK; cases hK
  | true=>
   rw [hb] at hK
   rw [Bool.and_eq_true] at hb
   have hb1:a.cells.length=n:=by rw [← hx.len]; exact Nat.eq_of_beq_eq_true hb.1
   have hb2:o+n≤T.cells t:=Nat.le_of_ble_eq_true hb.2
   obtain ⟨b,l0,h1,h2,h3,rfl⟩:=hp.1
   obtain ⟨ys,s',h',q1,q2,q3,q4⟩:=(iH (T:=T) fuel).1 _ _ _ _ _ hK S (hx.imp fun w a k=>fK k.1)
   dsimp only at q1
   split at q1
   ·rename_i t' l hw
    obtain ⟨rfl,q1⟩:=bk q1
    have q1:(some (l.set i.toNat (T.re t' (tl (T.lv t') (T.un t' x) o n ys)))).bind (fun l'=>K .un ((s'.kill k).set k (.sl t' l')))=some r:=q1
    have q1:K .un ((s'.kill k).set k (.sl t' (l.set i.toNat (T.re t' (tl (T.lv t') (T.un t' x) o n ys)))))=some r:=q1
    have hl:l0=l:=by
     have:=bW (q4.sl _ _ _ hw) (fun _ e=>by cases e)
     have h5:=mP h2 this
     rw [h5] at this
     cases this; rfl
    subst hl
    have S1:=q3.kill hw h1
    obtain ⟨c,hc,S2⟩:=St.out (r:=T.w t') S1.st h3
    have S3:=St.unW S2
    have e1:(T.w t').rep.z=T.cells t':=aS T t'
    have S4:VSim g M ([ko (T.w t') b l0 i.toNat c]++(own (oHL T.o (T.lv t')) c (T.un t' x)::own (oHL T.o (wy (T.lv t') o n)) a.cells ys::Δ)) (s'.kill k) ms e h':=S1.with S3.swap
    obtain ⟨w,h'',k1,k2,S5⟩:=S4.act (o:=EOp.ev (.store n) [(b.at (i.toNat * T.cells t')).padd o,a] h') (Γ2:=fun _=>[ko (T.w t') b l0 i.toNat (splice c o a.cells)]) (fun M' L=>by
     obtain ⟨h2,w1,w2⟩:=L.hset (k:=o) (n:=n) (y:=a) hb1 hat (by rw [e1]; exact hb2) rfl
     rw [e1] at w1
     exact ⟨_,h2,w1,w2⟩)
    have S6:=lG _ (dC T t') _ o n ys (S5.st.perm (List.Perm.trans (qN _ _ _ _) (List.Perm.refl _))) hb2 hb1
    have S7:=St.back (St.reW S6)
    have S8:VSim g M Δ ((s'.kill k).set k (.sl t' (l0.set i.toNat (T.re t' (tl (T.lv t') (T.un t' x) o n ys))))) ms e h'':=VSim.put0 (p:=.sl t' _) (S5.with (Δ':=own (oSl (T.w t')) [b] _::Δ) S7) (aZ hw) h1
    obtain ⟨g1,z1,z2⟩:=rm q2 k1
    exact ⟨_,_,[],_,g1,h'',q1,z1,z2,by rw [List.append_nil]; exact S8,ee k1,(q4.ro.trans (Ro.kill hw (fun _ e=>by cases e))).trans (Ro.setP (aZ hw) (fun _ e=>by cases e))⟩
   cases q1
 cases hK
theorem ki {q:Nat} {p a b v:AV} {h h':Heap} (hr:EOp.ev (.mapSet q) [p,a,b] h=some (v,h')):v=.undef:=by
 cases p<;>simp only [EOp.ev,reduceCtorEq] at hr
 split at hr
 ·split at hr
  ·split at hr
   ·cases hr; rfl
   cases hr
  cases hr
 cases hr
theorem uv {R:Type} {Δ:List Ch} {s:VS T} {ms:List AV} {e:Env} (S:VSim g M Δ s ms e h) {q:EOp} {xs:List (SV T)} {as:List AV} (ha:All2 (cM (Bo g M) s.ps ms h) xs as) {K:SV T→VS T→Option R} {r:R} (hK:Bc q xs s K=some r) :
  HQ g M Δ K r s ms e (q.ev as h):=by
 cases q<;>simp only [Bc] at hK<;>try cases hK
 case mapSet kq=>
  split at hK
  ·rename_i k z1 k1 x z2 k2 y
   cases ha with
   | cons p q=>cases q with
    | cons p2 q=>cases q with
     | cons p3 q=>
      cases q
      obtain rfl:=aL p2.1
      obtain rfl:=aL p3.1
      split at hK
      ·rename_i ka kb m hp
       split at hK
       ·rename_i hc
        obtain ⟨rfl,rfl,rfl⟩:=hc
        obtain ⟨l,hl,hK⟩:=obI hK
        have hl:m=some l:=hl
        subst hl
        have ha:nth ms k=some _:=p.1
        have S1:=S.pull hp ha (fun _ _ e=>by rcases e with e | ⟨_,e⟩<;>cases e) (fun _ e=>by cases e)
        have S2:=St.nmOpen (k:=keI k1) (ve:=AV.int k2) (m:=l) rfl S1.st
        have S3:VSim g M ([own (kG (keI k1) (AV.int k2)) [_] l]++Δ) (s.set k .dead) ms e h:=S1.with S2
        obtain ⟨w,h',w1,w2,S4⟩:=S3.act (o:=EOp.ev (.mapSet 1) [_,.int k1 x,.int k2 y] h) (Γ2:=fun _=>[own (kG (keI k1) (AV.int k2)) [_] (ov (keI k1) l x y)]) (fun M' L=>by
         obtain ⟨h',u1,u2⟩:=L.setM (e:=keI k1) (ve:=AV.int k2) x y
         exact ⟨_,h',u1,u2⟩)
        have hu:=ki w1
        subst hu
        have S5:VSim g M (dt (Bo g M) ms _ (.mp (.int k1) (.int k2) (some (ov (keI k1) l x y)))::Δ) (s.set k .dead) ms e h':=S4.with (St.nmClose S4.st)
        have S6:=VSim.put0 S5 (aZ hp) ha
        have e2:(s.set k .dead).set k (.mp (.int k1) (.int k2) (some (ov (keI k1) l x y)))=s.set k (.mp (.int k1) (.int k2) (some (ov (keI k1) l x y))):=by
         simp only [VS.set,List.set_set]
        rw [e2] at S6
        exact ⟨_,_,[],_,_,h',hK,w1,Fz.refl _,by rw [List.append_nil]; exact S6,rfl,Ro.setP hp (fun _ e=>by cases e)⟩
       cases hK
      cases hK
  cases hK
 case append esz b=>
  split at hK
  ·rename_i x y
   obtain ⟨a,c,rfl,p,q⟩:=j6 ha
   cases hn:neW x y with
   | false=>rw [hn] at hK; cases hK
   | true=>
    rw [hn,cond_true] at hK
    obtain ⟨t,l2,els,s1,k1,k2,S1,o1⟩:=tj S q.1 hK
    cases he:Nat.beq (T.cells t) esz with
    | false=>rw [he] at k1; cases k1
    | true=>
     obtain rfl:=Nat.eq_of_beq_eq_true he
     rw [he,cond_true] at k1
     obtain ⟨l,s2,k3,S2,o2⟩:=Ac S1 (fK p.1) k1
     obtain ⟨l',hl,k3⟩:=obI k3
     obtain ⟨hroom,rfl⟩:=ni hl
     have e1:(T.w t).rep.z=T.cells t:=aS T t
     have S3:VSim g M ([own (oSl (T.w t)) [a] l,apC (T.w t) els l2]++Δ) s2 ms e h:=S2
     obtain ⟨v,h',w1,w2,S4⟩:=S3.act (o:=EOp.ev (.append (T.cells t) b) [a,c] h) (Γ2:=fun v=>[own (oSl (T.w t)) [v] (l++l2)]) (fun M' L=>by
      obtain ⟨v,h2,w1,w2⟩:=St.app_gen (els2:=els) (fps2:=[]) (fp2:=[]) (t:=c) (b:=b) L (by rw [e1]; exact k2) (fun fp hp=>by
       obtain ⟨fps,u1,u2,u3⟩:=hp
       exact ⟨fps,u1,by rw [← u2]; exact u3,fun o ho=>by rw [u2]; exact ho⟩) hroom
      rw [e1] at w1
      exact ⟨v,h2,w1,w2⟩)
     have S5:VSim g M Δ (s2.new (.sl t (l++l2))) (ms++[v]) e h':=VSim.new (p:=.sl t (l++l2)) (a:=v) S4
     have hv:v.flat=true:=by
      obtain ⟨fp,s0,e0,hO⟩:=S4.st.mem (.head _)
      cases e0
      rcases hO with ⟨rfl,_⟩ | ⟨o,v,off,row,els,fps,rfl,_⟩<;>rfl
     refine ⟨_,_,[v],v,h',h',k3,w1,Fz.refl _,S5,⟨?_,hv⟩,(o1.trans o2).trans (Ro.app _ _)⟩
     show nth (ms++[v]) s2.ps.length=_
     rw [← S2.len]; exact bp ms [] _
  cases hK
 case store n=>
  split at hK
  ·rename_i k off x
   obtain ⟨p,a,rfl,q1,q2⟩:=j6 ha
   obtain ⟨o,v,h1,rfl⟩:=q1.1
   obtain ⟨s',xs,_,_,hK,S',_,ro,hw⟩:=fx S h1 hK
   obtain ⟨r1,r2⟩:=cw q2
   exact HQ.pre ro (rA (x:=.ptr k off) S' ⟨⟨o,v,aH h1,rfl⟩,rfl⟩ (r1.imp fun w a k=>⟨hw _ _ k.1,k.2⟩) r2 hK)
  ·rename_i k u i x y
   obtain ⟨p,a,rfl,q1,q2⟩:=j6 ha
   obtain ⟨r1,r2⟩:=cw q2
   split at hK
   ·cases hn:Nat.beq n 1 with
    | false=>rw [hn] at hK; cases hK
    | true=>
     obtain rfl:=Nat.eq_of_beq_eq_true hn
     rw [hn,cond_true] at hK
     obtain ⟨b,l0,h1,h2,h3,rfl⟩:=q1.1
     obtain ⟨ys,s',h',k1,k2,k3,k4⟩:=(iH (T:=T) fuel).1 _ _ _ _ _ hK S (r1.imp fun w a k=>fK k.1)
     dsimp only at k1
     split at k1
     ·rename_i t l j hw
      obtain ⟨rfl,k1⟩:=bk k1
      split at k1
      ·rename_i hij
       have k1:K .un ((s'.kill k).set k (.sl (.sl true u) (l.set j ys.1)))=some r:=k1
       subst hij
       have S1:=k3.kill hw h1
       have hlen:a.cells.length=1:=by
        have:=S1.st.snap (r:=oHL T.o [.sl true u]) (.tail _ (.head _))
        have:=(oHL T.o [.sl true u]).rep.len this
        exact this
       obtain ⟨fp,⟨c,hP⟩,kk⟩:=S1.st.turn1
       have S2:=kk h' (ko (T.w (.sl true u)) b l i.toNat c) fp (HZ.refl _) (Nat.le_refl _) (fun _ _ _ hy=>hy) hP (fun o ho=>.inl ho)
       have S3:VSim g M ([ko (T.w (.sl true u)) b l i.toNat c]++(own (oHL T.o [.sl true u]) a.cells ys::Δ)) (s'.kill k) ms e h':=S1.with S2
       have hcl:c.length=1:=by
        obtain ⟨o,v,off,row,e1,e2,l1,x0,l2,f1,f2,_,_,_,_,_,_,_,_,hcl,_⟩:=hP
        exact hcl
       obtain ⟨w,h'',w1,w2,S5⟩:=S3.act (o:=EOp.ev (.store 1) [(b.at (i.toNat * 1)).padd 0,a] h') (Γ2:=fun _=>[ko (T.w (.sl true u)) b l i.toNat a.cells]) (fun M' L=>by
        obtain ⟨h2,z1,z2⟩:=L.hset (k:=0) (n:=1) (y:=a) (c':=a.cells) hlen r2 (by show 0+1≤1; omega) (by
         show c.take 0++(a.cells++c.drop (0+a.cells.length))=a.cells
         rw [List.drop_eq_nil_of_le (by omega)]
         simp)
        exact ⟨_,h2,z1,z2⟩)
       have S6:St g M (own (T.w (.sl true u)) a.cells ys.1::ko (T.w (.sl true u)) b l i.toNat a.cells::(Δ++chs (Bo g M) ms ms (s'.kill k).ps)) h'':=by
        have S7:=S5.st.swap
        obtain ⟨a1,b1,e1,_,hb,S8⟩:=S7.unpair
        have hb:b1=[]:=List.eq_nil_of_length_eq_zero hb
        subst hb
        rw [List.append_nil] at e1
        subst e1
        exact (S8.swap.drop)
       have S8:VSim g M Δ ((s'.kill k).set k (.sl (.sl true u) (l.set i.toNat ys.1))) ms e h'':=VSim.put0 (p:=.sl (.sl true u) _) (S5.with (Δ':=own (oSl (T.w (.sl true u))) [b] _::Δ) (St.back S6)) (aZ hw) h1
       obtain ⟨g1,z1,z2⟩:=rm k2 w1
       exact ⟨_,_,[],_,g1,h'',k1,z1,z2,by rw [List.append_nil]; exact S8,ee w1,(k4.ro.trans (Ro.kill hw (fun _ e=>by cases e))).trans (Ro.setP (aZ hw) (fun _ e=>by cases e))⟩
      cases k1
     cases k1
   exact rA S q1 r1 r2 hK
  ·obtain ⟨p,a,rfl,q1,q2⟩:=j6 ha
   obtain ⟨r1,r2⟩:=cw q2
   exact rA S q1 r1 r2 hK
  cases hK
end
end Go.Am
