/- A machine over typed values, and that functions do what it says. No condition. Own work. -/
import Derived.Test.YtmchbhheoieepaaVm3ProcessClocks
set_option linter.unusedSimpArgs false
set_option linter.unusedVariables false
namespace Go.Am
open Go
section
variable {T:TE}
def dS:Part T→Bool
 | .ro _=>true
 | _=>false
def roE (s:VS T):nA T:=s.e.filter fun x=>iy (some x.2)&&iy (lk s.e x.1)
def roP (s:VS T):List (Part T):=s.ps.takeWhile dS
def roS (s:VS T):VS T:=⟨roE s,roP s⟩
def W.cl (m:Nat):W T→Bool
 | .r k=>Nat.blt k m
 | .ic _ k=>Nat.blt k m
 | .ptr k _=>Nat.blt k m
 | _=>true
def V1.cl (m:Nat) (x:V1 T):Bool:=(ci x).all (W.cl m)
def SV.cl (m:Nat):SV T→Bool
 | .ro x=>x.cl m
 | _=>true
def Part.cl (m:Nat):Part T→Bool
 | .ro (.row ws)=>ws.all (W.cl m)
 | .ro (.sl _ _)=>true
 | .ro (.po _ _)=>true
 | .ro (.io _ _ _)=>true
 | .ro (.mp _ _ _)=>true
 | .ro (.ho _ _ _)=>true
 | .ro .dead=>true
 | .ro (.ro _)=>false
 | _=>true
def clS (s:VS T):Bool:=(roE s).all (fun x=>x.2.cl (roP s).length)&&(roP s).all (Part.cl (roP s).length)&&(s.ps.drop (roP s).length).all fun p=>!dS p
def bu:List In→List Nat
 | []=>[]
 | .slot k _::l=>k::bu l
 | _::l=>bu l
def kM (l:List In) (s:VS T):Bool:=(bu l).all fun k=>!iy (lk s.e k)
def cH (ro:Bool) (l:List In) (x:T.H (DS l)) (s:VS T):VS T:=⟨mkE ro s.ps.length l x []++s.e,s.ps++mkP ro s.ps.length l x []⟩
def amL (am:Nat→AV):Nat→Nat→List AV
 | _,0=>[]
 | n,c+1=>am n::amL am (n+1) c
theorem mw (am:Nat→AV):∀ n c,(amL am n c).length=c
 | _,0=>rfl
 | n,c+1=>by simp [amL,mw am (n+1) c]
theorem lS (am:Nat→AV):∀ n c j,j < c→nth (amL am n c) j=some (am (n+j))
 | _,0,j,h=>by omega
 | n,c+1,0,h=>rfl
 | n,c+1,j+1,h=>by
  show nth (amL am (n+1) c) j=_
  rw [lS am (n+1) c j (by omega)]
  congr 2; omega
theorem gA {α:Type}:∀ (l m:List (Nat×α)) (k:Nat),lk (l++m) k=match lk l k with
  | some x=>some x
  | none=>lk m k
 | [],m,k=>rfl
 | (j,v)::l,m,k=>by
  simp only [List.cons_append,lk]
  cases Nat.beq j k
  ·simp only [cond_false]; exact gA l m k
  rfl
theorem j8 {α:Type}:∀ {l:List (Nat×α)} {k:Nat} {x:α},lk l k=some x→(k,x)∈l
 | [],k,x,h=>by cases h
 | (j,v)::l,k,x,h=>by
  simp only [lk] at h
  cases hb:Nat.beq j k with
  | true=>
   obtain rfl:=Nat.eq_of_beq_eq_true hb
   rw [hb] at h
   cases h
   exact List.mem_cons_self ..
  | false=>rw [hb] at h; exact List.mem_cons_of_mem _ (j8 h)
theorem lO {α:Type}:∀ {l:List (Nat×α)} {k:Nat},(∀ x,(k,x)∉l)→lk l k=none
 | [],k,h=>rfl
 | (j,v)::l,k,h=>by
  simp only [lk]
  cases hb:Nat.beq j k with
  | true=>
   obtain rfl:=Nat.eq_of_beq_eq_true hb
   exact absurd (List.mem_cons_self ..) (h v)
  | false=>exact lO fun x hx=>h x (List.mem_cons_of_mem _ hx)
theorem eP (p:nA T):∀ (l:nA T) (k:Nat),iy (lk p k)=true→iy (lk l k)=true→lk (l.filter fun x=>iy (some x.2)&&iy (lk p x.1)) k=lk l k
 | [],k,h1,h2=>rfl
 | (j,v)::l,k,h1,h2=>by
  have h2':iy (bif Nat.beq j k then some v else lk l k)=true:=h2
  cases hb:Nat.beq j k with
  | true=>
   obtain rfl:=Nat.eq_of_beq_eq_true hb
   rw [hb] at h2'
   have h3:iy (some v)=true:=h2'
   rw [List.filter_cons_of_pos (by simp only [h3,h1,Bool.and_self])]
   simp only [lk,hb,cond_true]
  | false=>
   rw [hb] at h2'
   have e2:lk ((j,v)::l) k=lk l k:=by simp only [lk,hb,cond_false]
   rw [e2]
   cases hc:(iy (some v)&&iy (lk p j)) with
   | true=>
    rw [List.filter_cons_of_pos (by exact hc)]
    simp only [lk,hb,cond_false]
    exact eP p l k h1 h2'
   | false=>
    rw [List.filter_cons_of_neg (by simp only [hc]; simp)]
    exact eP p l k h1 h2'
theorem fO (p:nA T):∀ (l:nA T) {k:Nat} {sv:SV T},lk (l.filter fun x=>iy (some x.2)&&iy (lk p x.1)) k=some sv→iy (some sv)=true∧iy (lk p k)=true:=by
 intro l k sv h
 have:=j8 h
 rw [List.mem_filter,Bool.and_eq_true] at this
 exact this.2
theorem oQ {s:VS T} {k:Nat} {sv:SV T} (h:lk (roE s) k=some sv):lk s.e k=some sv:=by
 obtain ⟨h1,h2⟩:=fO s.e s.e h
 rw [← eP s.e s.e k h2 h2]
 exact h
theorem Ad {s:VS T} {k:Nat} {x:V1 T} (h:lk s.e k=some (.ro x)):lk (roE s) k=some (.ro x):=by
 have h1:iy (lk s.e k)=true:=by rw [h]; rfl
 have:=eP s.e s.e k h1 h1
 rw [h] at this
 exact this
theorem p8:∀ {ps:List (Part T)} {k:Nat} {p:Part T},nth (ps.takeWhile dS) k=some p→nth ps k=some p∧dS p=true
 | [],k,p,h=>by cases h
 | q::ps,k,p,h=>by
  rw [List.takeWhile_cons] at h
  cases hq:dS q with
  | false=>rw [hq] at h; cases h
  | true=>
   rw [hq] at h
   cases k with
   | zero=>cases h; exact ⟨rfl,hq⟩
   | succ k=>exact p8 (k:=k) h
theorem lX (ps:List (Part T)):ps.takeWhile dS=ps.take (ps.takeWhile dS).length:=by
 induction ps with
 | nil=>rfl
 | cons q ps ih=>
  rw [List.takeWhile_cons]
  cases hq:dS q with
  | false=>rfl
  | true=>simp only [if_true,List.length_cons,List.take_succ_cons]; rw [← ih]
variable {g:Heap} {M:Nat→Prop}
theorem f9 {α:Type} {l:List α} {k m:Nat} {x:α} (h:nth l k=some x) (hk:k < m):nth (l.take m) k=some x:=by
 rw [aM] at h ⊢
 rw [List.getElem?_take_of_lt hk,h]
theorem kf {B:Hp} {ms:List AV} {h:Heap} {m:Nat}:∀ {w:W T} {a:AV},w.cl m=true→bF B ms h w a→bF B (ms.take m) h w a
 | .bad,_,_,r=>r
 | .c v,_,_,r=>r
 | .d z t x,_,_,r=>r
 | .b p i,_,_,r=>r
 | .r k,_,hc,r=>f9 r (by simpa [W.cl,Nat.blt_eq] using hc)
 | .ic n k,_,hc,⟨p,r1,r2,r3⟩=>⟨p,f9 r1 (by simpa [W.cl,Nat.blt_eq] using hc),r2,r3⟩
 | .ptr k off,_,hc,⟨o,v,r1,r2⟩=>⟨o,v,f9 r1 (by simpa [W.cl,Nat.blt_eq] using hc),r2⟩
 | .el _ _ _ _ _,_,_,r=>r.elim
 | .ed z t x off,_,_,r=>r
theorem iq {B:Hp} {ms:List AV} {h:Heap} {m:Nat}:∀ {ws:List (W T)} {cs:List AV},ws.all (W.cl m)=true→All2 (fV B ms h) ws cs→All2 (fV B (ms.take m) h) ws cs
 | _,_,_,.nil=>.nil
 | w::ws,_,hc,.cons p q=>by
  rw [List.all_cons,Bool.and_eq_true] at hc
  exact .cons ⟨kf hc.1 p.1,p.2⟩ (iq hc.2 q)
theorem ln {B:Hp} {ms:List AV} {h:Heap} {m:Nat}:∀ {x:V1 T} {a:AV},x.cl m=true→nR B ms h x a→nR B (ms.take m) h x a
 | .w w,a,hc,r=>⟨kf (by simpa [V1.cl,ci] using hc) r.1,r.2⟩
 | .agg ws,a,hc,⟨cs,e,r⟩=>⟨cs,e,iq hc r⟩
theorem oJ {B:Hp} {ms:List AV} {h:Heap} {m:Nat} {a:AV} {p:Part T} (hr:dS p=true) (hc:p.cl m=true) (fp:List Nat) (hP:(dt B ms a p).P h fp):(dt B (ms.take m) a p).P h fp:=by
 cases p with
 | ro p=>
  cases p with
  | row ws=>
   obtain ⟨o,v,cs,e,e2,hg,hr⟩:=hP
   exact ⟨o,v,cs,e,e2,hg,iq hc hr⟩
  | ro p=>cases hc
  | _=>exact hP
 | _=>cases hr
theorem jW {B:Hp} {ms:List AV} {h:Heap} (m:Nat):∀ (as:List AV) (ps:List (Part T)),(∀ p,p∈ps→dS p=true∧p.cl m=true)→All2 (fun (c c':Ch)=>∀ fp,c.P h fp→c'.P h fp) (chs B ms as ps) (chs B (ms.take m) as ps)
 | [],_,_=>.nil
 | _::_,[],_=>.nil
 | a::as,p::ps,hp=>.cons (oJ (hp p (List.mem_cons_self ..)).1 (hp p (List.mem_cons_self ..)).2) (jW m as ps fun q hq=>hp q (List.mem_cons_of_mem _ hq))
theorem St.impR {Γ Γ1 Γ2:List Ch} {h:Heap} (S:St g M (Γ++Γ1) h) (hi:All2 (fun (c c':Ch)=>∀ fp,c.P h fp→c'.P h fp) Γ1 Γ2):St g M (Γ++Γ2) h:=by
 refine S.imp ?_
 clear S
 induction Γ with
 | nil=>exact hi
 | cons c Γ ih=>exact .cons (fun _ k=>k) ih
theorem St.dropR {Γ:List Ch} {h:Heap} {Γ1:List Ch} (S:St g M (Γ++Γ1) h):St g M Γ h:=St.dropL (Γ0:=Γ1) (S.perm List.perm_append_comm)
theorem VSim.roS {Δ:List Ch} {s:VS T} {ms:List AV} {e:Env} {h:Heap} (S:VSim g M Δ s ms e h) (hc:clS s=true):VSim g M Δ (roS s) (ms.take (roP s).length) e h∧Ro s (Am.roS s):=by
 unfold clS at hc
 rw [Bool.and_eq_true,Bool.and_eq_true,List.all_eq_true,List.all_eq_true,List.all_eq_true] at hc
 obtain ⟨hc,hc3⟩:=hc
 have hle:(roP s).length≤ms.length:=by
  rw [S.len]
  have:=lX s.ps
  have h2:=congrArg List.length this
  rw [List.length_take] at h2
  show (s.ps.takeWhile dS).length≤_
  omega
 refine ⟨⟨?_,?_,fun k sv hk=>?_⟩,⟨fun k x hk=>Ad hk,fun k p hp=>?_⟩⟩
 ·rw [List.length_take]; show min _ _=(roP s).length; omega
 ·have h1:chs (Bo g M) ms ms s.ps=chs (Bo g M) ms (ms.take (roP s).length) (roP s)++chs (Bo g M) ms (ms.drop (roP s).length) (s.ps.drop (roP s).length):=by
   have h2:s.ps=roP s++s.ps.drop (roP s).length:=by
    have:=lX s.ps
    show s.ps=s.ps.takeWhile dS++s.ps.drop (s.ps.takeWhile dS).length
    conv=>lhs; rw [← List.take_append_drop (s.ps.takeWhile dS).length s.ps]
    rw [← this]
   have h3:=dF (B:=Bo g M) (ms:=ms) (as:=ms.take (roP s).length) (ps:=roP s) (ms.drop (roP s).length) (s.ps.drop (roP s).length) (by rw [List.length_take]; omega)
   rw [List.take_append_drop,← h2] at h3
   exact h3
  have S1:=S.st
  rw [h1,← List.append_assoc] at S1
  refine St.impR S1.dropR (jW _ _ _ fun p hp=>?_)
  obtain ⟨i,hi⟩:=List.getElem?_of_mem hp
  rw [← aM] at hi
  exact ⟨(p8 hi).2,hc.2 p hp⟩
 ·have hk1:=oQ (s:=s) hk
  obtain ⟨v,h1,h2⟩:=S.env k sv hk1
  refine ⟨v,h1,?_⟩
  have hcl:=hc.1 _ (j8 hk)
  have hr:=(fO s.e s.e hk).1
  cases sv with
  | ro x=>exact ln hcl h2
  | _=>cases hr
 have hlt:k < (roP s).length:=by
  rcases Nat.lt_or_ge k (roP s).length with hh | hh
  ·exact hh
  exfalso
  rw [aM] at hp
  have hm:Part.ro p∈s.ps.drop (roP s).length:=by
   refine List.mem_of_getElem? (i:=k - (roP s).length) ?_
   rw [List.getElem?_drop,show (roP s).length+(k - (roP s).length)=k by omega,hp]
  have:=hc3 _ hm
  cases this
 show nth (s.ps.takeWhile dS) k=_
 rw [lX]
 exact f9 hp hlt
theorem fS {B:Hp} {ms:List AV} {h:Heap} {ws:List (W T)} {cs:List AV} (hr:All2 (fV B ms h) ws cs) (w:W T) {a:AV} (hc:bF B ms h w a) (hf:a.flat=true):All2 (fV B ms h) (ws++[w]) (cs++[a]):=hr.append' (.cons ⟨hc,hf⟩ .nil)
theorem bJ {B:Hp} {am:Nat→AV} {e:Env} {h:Heap} {ro:Bool} {b N:Nat} {msF:List AV} (hF:∀ j,j < N→nth msF (b+j)=some (am j)):∀ (l:List In) (x:T.H (DS l)) (n:Nat) (accW:List (W T)) (acc:List AV) (Γ:List Ch),okI N l=true→Mat B am e h l x n acc Γ→All2 (fV B msF h) accW acc→
  ∀ k sv,(k,sv)∈mkE ro b l x accW→∃ v y,e.get k=some v∧sv=onS ro y∧nR B msF h y v
 | [],x,n,accW,acc,Γ,_,_,_,k,sv,hm=>by cases hm
 | .d z t::l,x,n,accW,acc,Γ,ho,⟨a,h1,h2,h3⟩,hr,k,sv,hm=>bJ hF l x.2 n _ _ Γ ho h3 (fS hr (.d z t x.1) h2 h1) k sv hm
 | .e z t o::l,x,n,accW,acc,Γ,ho,⟨a,h1,h2,h3⟩,hr,k,sv,hm=>bJ hF l x.2 n _ _ Γ ho h3 (fS hr (.ed z t x.1 o) h2 h1) k sv hm
 | .r j::l,x,n,accW,acc,Γ,ho,⟨h1,h2⟩,hr,k,sv,hm=>by
  have ho:(Nat.blt j N&&okI N l)=true:=ho
  rw [Bool.and_eq_true] at ho
  exact bJ hF l x n _ _ Γ ho.2 h2 (fS hr (.r (b+j)) (hF j (by simpa [Nat.blt_eq] using ho.1)) h1) k sv hm
 | .ptr j off::l,x,n,accW,acc,Γ,ho,⟨o,v,h1,h2⟩,hr,k,sv,hm=>by
  have ho:(Nat.blt j N&&okI N l)=true:=ho
  rw [Bool.and_eq_true] at ho
  exact bJ hF l x n _ _ Γ ho.2 h2 (fS hr (.ptr (b+j) off) ⟨o,v,by rw [hF j (by simpa [Nat.blt_eq] using ho.1),h1],rfl⟩ rfl) k sv hm
 | .ic m j::l,x,n,accW,acc,Γ,ho,⟨h1,h2⟩,hr,k,sv,hm=>by
  have ho:(Nat.blt j N&&okI N l)=true:=ho
  rw [Bool.and_eq_true] at ho
  exact bJ hF l x n _ _ Γ ho.2 h2 (fS hr (.ic m (b+j)) ⟨am j,hF j (by simpa [Nat.blt_eq] using ho.1),h1,rfl⟩ rfl) k sv hm
 | .c v::l,x,n,accW,acc,Γ,ho,⟨h1,h2⟩,hr,k,sv,hm=>bJ hF l x n _ _ Γ ho h2 (fS hr (.c v) rfl h1) k sv hm
 | .ld _ _::l,x,n,accW,acc,Γ,ho,hM,hr,k,sv,hm=>bJ hF l x n _ _ Γ ho hM .nil k sv hm
 | .ldr::l,x,n,accW,acc,Γ,ho,hM,hr,k,sv,hm=>bJ hF l x n _ _ Γ ho hM .nil k sv hm
 | .slot k0 false::l,x,n,accW,acc,Γ,ho,⟨⟨a,h1,h2⟩,h3⟩,hr,k,sv,hm=>by
  have hm:(k,sv)∈(k0,onS ro (xW accW))::mkE ro b l x []:=hm
  rcases List.mem_cons.1 hm with hq | hq
  ·cases hq
   subst h1
   cases hr with
   | cons p q=>
    cases q
    exact ⟨a,_,h2,rfl,p⟩
  exact bJ hF l x n _ _ Γ ho h3 .nil k sv hq
 | .slot k0 true::l,x,n,accW,acc,Γ,ho,⟨h1,h3⟩,hr,k,sv,hm=>by
  have hm:(k,sv)∈(k0,onS ro (.agg accW))::mkE ro b l x []:=hm
  rcases List.mem_cons.1 hm with hq | hq
  ·cases hq
   exact ⟨_,_,h1,rfl,acc,rfl,hr⟩
  exact bJ hF l x n _ _ Γ ho h3 .nil k sv hq
 | .row::l,x,n,accW,acc,Γ,ho,⟨o,v,Γ',h1,h2,h3⟩,hr,k,sv,hm=>bJ hF l x (n+1) _ _ Γ' ho h3 .nil k sv hm
 | .sl t::l,x,n,accW,acc,Γ,ho,⟨Γ',h1,h3⟩,hr,k,sv,hm=>bJ hF l x.2 (n+1) _ _ Γ' ho h3 .nil k sv hm
 | .po t::l,x,n,accW,acc,Γ,ho,⟨Γ',h1,h3⟩,hr,k,sv,hm=>bJ hF l x.2 (n+1) _ _ Γ' ho h3 .nil k sv hm
 | .pr t::l,x,n,accW,acc,Γ,ho,⟨Γ',h1,h3⟩,hr,k,sv,hm=>bJ hF l x.2 (n+1) _ _ Γ' ho h3 .nil k sv hm
 | .mp a c::l,x,n,accW,acc,Γ,ho,⟨Γ',h1,h3⟩,hr,k,sv,hm=>bJ hF l x.2 (n+1) _ _ Γ' ho h3 .nil k sv hm
 | .io a c::l,x,n,accW,acc,Γ,ho,⟨Γ',h1,h3⟩,hr,k,sv,hm=>bJ hF l x.2 (n+1) _ _ Γ' ho h3 .nil k sv hm
theorem i1 {B:Hp} {ms:List AV} {a:AV} (ro:Bool) (p:Part T):dt B ms a (onP ro p)=dt B ms a p:=by cases ro<;>rfl
theorem bL {B:Hp} {am:Nat→AV} {e:Env} {h:Heap} {ro:Bool} {b N:Nat} {msF:List AV} (hF:∀ j,j < N→nth msF (b+j)=some (am j)):∀ (l:List In) (x:T.H (DS l)) (n:Nat) (accW:List (W T)) (acc:List AV) (Γ:List Ch),okI N l=true→Mat B am e h l x n acc Γ→All2 (fV B msF h) accW acc→
  (mkP ro b l x accW).length=cU l∧All2 (fun (c c':Ch)=>∀ fp,c.P h fp→c'.P h fp) Γ (chs B msF (amL am n (cU l)) (mkP ro b l x accW))
 | [],x,n,accW,acc,Γ,_,hM,_=>by
  have hM:Γ=[]:=hM
  subst hM
  exact ⟨rfl,.nil⟩
 | .d z t::l,x,n,accW,acc,Γ,ho,⟨a,h1,h2,h3⟩,hr=>bL hF l x.2 n _ _ Γ ho h3 (fS hr (.d z t x.1) h2 h1)
 | .e z t o::l,x,n,accW,acc,Γ,ho,⟨a,h1,h2,h3⟩,hr=>bL hF l x.2 n _ _ Γ ho h3 (fS hr (.ed z t x.1 o) h2 h1)
 | .r j::l,x,n,accW,acc,Γ,ho,⟨h1,h2⟩,hr=>by
  have ho:(Nat.blt j N&&okI N l)=true:=ho
  rw [Bool.and_eq_true] at ho
  exact bL hF l x n _ _ Γ ho.2 h2 (fS hr (.r (b+j)) (hF j (by simpa [Nat.blt_eq] using ho.1)) h1)
 | .ptr j off::l,x,n,accW,acc,Γ,ho,⟨o,v,h1,h2⟩,hr=>by
  have ho:(Nat.blt j N&&okI N l)=true:=ho
  rw [Bool.and_eq_true] at ho
  exact bL hF l x n _ _ Γ ho.2 h2 (fS hr (.ptr (b+j) off) ⟨o,v,by rw [hF j (by simpa [Nat.blt_eq] using ho.1),h1],rfl⟩ rfl)
 | .ic m j::l,x,n,accW,acc,Γ,ho,⟨h1,h2⟩,hr=>by
  have ho:(Nat.blt j N&&okI N l)=true:=ho
  rw [Bool.and_eq_true] at ho
  exact bL hF l x n _ _ Γ ho.2 h2 (fS hr (.ic m (b+j)) ⟨am j,hF j (by simpa [Nat.blt_eq] using ho.1),h1,rfl⟩ rfl)
 | .c v::l,x,n,accW,acc,Γ,ho,⟨h1,h2⟩,hr=>bL hF l x n _ _ Γ ho h2 (fS hr (.c v) rfl h1)
 | .ld _ _::l,x,n,accW,acc,Γ,ho,hM,hr=>bL hF l x n _ _ Γ ho hM .nil
 | .ldr::l,x,n,accW,acc,Γ,ho,hM,hr=>bL hF l x n _ _ Γ ho hM .nil
 | .slot k0 false::l,x,n,accW,acc,Γ,ho,⟨_,h3⟩,hr=>bL hF l x n _ _ Γ ho h3 .nil
 | .slot k0 true::l,x,n,accW,acc,Γ,ho,⟨_,h3⟩,hr=>bL hF l x n _ _ Γ ho h3 .nil
 | .row::l,x,n,accW,acc,Γ,ho,⟨o,v,Γ',h1,h2,h3⟩,hr=>by
  subst h2
  obtain ⟨k1,k2⟩:=bL (ro:=ro) hF l x (n+1) _ _ Γ' ho h3 .nil
  refine ⟨congrArg (·+1) k1,.cons ?_ k2⟩
  rw [i1]
  rintro fp ⟨rfl,hg⟩
  exact ⟨o,v,acc,h1,rfl,hg,hr⟩
 | .sl t::l,x,n,accW,acc,Γ,ho,⟨Γ',h1,h3⟩,hr=>by
  subst h1
  obtain ⟨k1,k2⟩:=bL (ro:=ro) hF l x.2 (n+1) _ _ Γ' ho h3 .nil
  refine ⟨congrArg (·+1) k1,.cons ?_ k2⟩
  rw [i1]
  exact fun _ k=>k
 | .po t::l,x,n,accW,acc,Γ,ho,⟨Γ',h1,h3⟩,hr=>by
  subst h1
  obtain ⟨k1,k2⟩:=bL (ro:=ro) hF l x.2 (n+1) _ _ Γ' ho h3 .nil
  refine ⟨congrArg (·+1) k1,.cons ?_ k2⟩
  rw [i1]
  exact fun _ k=>k
 | .pr t::l,x,n,accW,acc,Γ,ho,⟨Γ',h1,h3⟩,hr=>by
  subst h1
  obtain ⟨k1,k2⟩:=bL (ro:=ro) hF l x.2 (n+1) _ _ Γ' ho h3 .nil
  refine ⟨congrArg (·+1) k1,.cons ?_ k2⟩
  rw [i1]
  exact fun _ k=>k
 | .mp a c::l,x,n,accW,acc,Γ,ho,⟨Γ',h1,h3⟩,hr=>by
  subst h1
  obtain ⟨k1,k2⟩:=bL (ro:=ro) hF l x.2 (n+1) _ _ Γ' ho h3 .nil
  refine ⟨congrArg (·+1) k1,.cons ?_ k2⟩
  rw [i1]
  exact fun _ k=>k
 | .io a c::l,x,n,accW,acc,Γ,ho,⟨Γ',h1,h3⟩,hr=>by
  subst h1
  obtain ⟨k1,k2⟩:=bL (ro:=ro) hF l x.2 (n+1) _ _ Γ' ho h3 .nil
  refine ⟨congrArg (·+1) k1,.cons ?_ k2⟩
  rw [i1]
  exact fun _ k=>k
theorem aN {ro:Bool} {b:Nat}:∀ (l:List In) (x:T.H (DS l)) (accW:List (W T)) (k:Nat) (sv:SV T),(k,sv)∈mkE ro b l x accW→k∈bu l
 | [],x,accW,k,sv,hm=>by cases hm
 | .d _ _::l,x,accW,k,sv,hm=>aN l x.2 _ k sv hm
 | .e _ _ _::l,x,accW,k,sv,hm=>aN l x.2 _ k sv hm
 | .r _::l,x,accW,k,sv,hm=>aN l x _ k sv hm
 | .ptr _ _::l,x,accW,k,sv,hm=>aN l x _ k sv hm
 | .ic _ _::l,x,accW,k,sv,hm=>aN l x _ k sv hm
 | .c _::l,x,accW,k,sv,hm=>aN l x _ k sv hm
 | .ld _ _::l,x,accW,k,sv,hm=>aN l x _ k sv hm
 | .ldr::l,x,accW,k,sv,hm=>aN l x _ k sv hm
 | .slot k0 agg::l,x,accW,k,sv,hm=>by
  have hm:(k,sv)∈(k0,onS ro (bif agg then .agg accW else xW accW))::mkE ro b l x []:=hm
  show k∈k0::bu l
  rcases List.mem_cons.1 hm with hq | hq
  ·cases hq; exact List.mem_cons_self ..
  exact List.mem_cons_of_mem _ (aN l x _ k sv hq)
 | .row::l,x,accW,k,sv,hm=>aN l x _ k sv hm
 | .sl _::l,x,accW,k,sv,hm=>aN l x.2 _ k sv hm
 | .po _::l,x,accW,k,sv,hm=>aN l x.2 _ k sv hm
 | .pr _::l,x,accW,k,sv,hm=>aN l x.2 _ k sv hm
 | .mp _ _::l,x,accW,k,sv,hm=>aN l x.2 _ k sv hm
 | .io _ _::l,x,accW,k,sv,hm=>aN l x.2 _ k sv hm
theorem VSim.mk1 {Δ:List Ch} {s:VS T} {ms:List AV} {e:Env} {h:Heap} {am:Nat→AV} {Γ:List Ch} {l:List In} {x:T.H (DS l)} {ro:Bool} (S:VSim g M (Γ++Δ) s ms e h) (hM:Mat (Bo g M) am e h l x 0 [] Γ) (ho:okI (cU l) l=true) (hd:kM l s=true) :
  VSim g M Δ (cH ro l x s) (ms++amL am 0 (cU l)) e h∧Ro s (cH ro l x s):=by
 have hF:∀ j,j < cU l→nth (ms++amL am 0 (cU l)) (s.ps.length+j)=some (am j):=fun j hj=>by
  have:=lS am 0 (cU l) j hj
  rw [Nat.zero_add] at this
  rw [aM] at this ⊢
  rw [List.getElem?_append_right (by rw [S.len]; omega),S.len,show s.ps.length+j - s.ps.length=j by omega,this]
 obtain ⟨k1,k2⟩:=bL (ro:=ro) hF l x 0 [] [] Γ ho hM .nil
 refine ⟨⟨?_,?_,fun k sv hk=>?_⟩,⟨fun k y hk=>?_,fun k p hp=>aH hp⟩⟩
 ·show (ms++amL am 0 (cU l)).length=(s.ps++mkP ro s.ps.length l x []).length
  rw [List.length_append,List.length_append,mw,S.len]
  exact congrArg _ k1.symm
 ·show St g M (Δ++chs (Bo g M) (ms++amL am 0 (cU l)) (ms++amL am 0 (cU l)) (s.ps++mkP ro s.ps.length l x [])) h
  rw [dF _ _ S.len]
  have S1:St g M (Γ++(Δ++chs (Bo g M) (ms++amL am 0 (cU l)) ms s.ps)) h:=by
   have:=S.st
   rw [List.append_assoc,← List.append_assoc] at this
   rw [← List.append_assoc]
   exact St.more (Γ:=Γ++Δ) _ this
  have S2:=(St.impR (S1.perm List.perm_append_comm) k2)
  rw [List.append_assoc] at S2
  exact S2
 ·have hk:lk (mkE ro s.ps.length l x []++s.e) k=some sv:=hk
  rw [gA] at hk
  split at hk
  ·rename_i y hy
   cases hk
   obtain ⟨v,y,h1,rfl,h3⟩:=bJ hF l x 0 [] [] Γ ho hM .nil k _ (j8 hy)
   refine ⟨v,h1,?_⟩
   cases ro
   ·exact i0 h3
   exact h3
  obtain ⟨v,h1,h2⟩:=S.env k sv hk
  exact ⟨v,h1,ji (fun w a r=>aE (HZ.refl _) w r) (fun w a r=>sK r) h2⟩
 show lk (mkE ro s.ps.length l x []++s.e) k=_
 rw [gA,lO fun z hz=>?_]
 ·exact hk
 unfold kM at hd
 rw [List.all_eq_true] at hd
 have:=hd k (aN l x [] k z hz)
 rw [hk] at this
 cases this
end
end Go.Am
namespace Go.Am
open Go
structure LP where
 f:∀ {σ ρ:Type},(σ→Option (σ⊕ρ))→σ→Option ρ
 ok:∀ {σ ρ:Type} {g:σ→Option (σ⊕ρ)} {s:σ} {r:ρ},f g s=some r→∃ n,iter g n s=some r
noncomputable def lpC:LP:=⟨fun g s=>oo g s,fun h=>eE.1 h⟩
def aq {σ ρ:Type} (f:σ→Option (σ⊕ρ)) (s:σ):Option ρ:=iter f 1099511627776 s
def lpK:LP:=⟨fun g s=>aq g s,fun h=>⟨_,h⟩⟩
abbrev rL:=List (Option Nat×List In)
inductive VC where
 | skip
 | seq (a b:VC)
 | sj (l:List In) (a b:VC)
 | cond (c:Opd) (t f:VC)
 | block (id:Nat) (b:VC)
 | loop (c l:List In) (o:rL) (b:VC)
 | exit (id:Nat)
 | ret
 | region (ops:List AOper)
 | dreg (ops:List AOper) (ps:List (Nat×Nat))
def VC.er:VC→ACode
 | .skip=>.skip
 | .seq a b=>.seq a.er b.er
 | .sj _ a b=>.seq a.er b.er
 | .cond c t f=>.cond c t.er f.er
 | .block id b=>.block id b.er
 | .loop _ _ _ b=>.loop b.er
 | .exit id=>.exit id
 | .ret=>.ret
 | .region ops=>.region ops
 | .dreg ops ps=>.dregion ops ps
@[reducible] def sH (S:Nat→Type):rL→Type
 | []=>Unit
 | [o]=>DN S (DS o.2)
 | o::o'::l=>DN S (DS o.2)⊕sH S (o'::l)
def kEq:Option Nat→Option Nat→Bool
 | none,none=>true
 | some i,some j=>Nat.beq i j
 | _,_=>false
theorem tp {a b:Option Nat} (h:kEq a b=true):a=b:=by
 cases a<;>cases b<;>first | rfl | cases h | skip
 rw [Nat.eq_of_beq_eq_true h]
section
variable {T:TE}
def oD {R:Type}:(o:rL)→Option Nat→VS T→(sH T.S o→Option R)→Option R
 | [],_,_,_=>none
 | [o],k,s,K=>bif kEq o.1 k then oz o.2 s fun x _=>K (toN _ x) else none
 | o::o'::l,k,s,K=>bif kEq o.1 k then oz o.2 s fun x _=>K (.inl (toN _ x)) else oD (o'::l) k s fun q=>K (.inr q)
def xF {R:Type}:(o:rL)→sH T.S o→(Option Nat→(l:List In)→T.H (DS l)→Option R)→Option R
 | [],_,_=>none
 | [o],q,f=>f o.1 o.2 (ofN _ q)
 | o::o'::l,q,f=>match q with
  | .inl x=>f o.1 o.2 (ofN _ x)
  | .inr y=>xF (o'::l) y f
def clB (s:VS T):Bool:=s.e.all (fun x=>iy (some x.2)&&x.2.cl s.ps.length)&&s.ps.all (fun p=>dS p&&p.cl s.ps.length)
def vy {R:Type} (w:SV T) (A B:Option R):Option R:=match w with
 | .v (.w (.b p i))=>@ite _ p i A B
 | .v (.w (.d _ .bool b))=>if b=true then A else B
 | .v (.w (.c (.bool b)))=>bif b then A else B
 | _=>none
def oV {α R:Type} (o:Option α) (K:α→Option R):Option R:=match o with
 | some x=>K x
 | none=>none
def pd (o:rL) (s:VS T):Bool:=o.all fun p=>okI (cU p.2) p.2&&kM p.2 s
noncomputable def vc (Lp:LP) (H:List (Nat×VT)) (C:cC T):VC→(R:Type)→VS T→(N Rt:VS T→Option R)→(X:Nat→VS T→Option R)→Option R
 | .skip,_,s,N,_,_=>N s
 | .ret,_,s,_,Rt,_=>Rt s
 | .exit i,_,s,_,_,X=>X i s
 | .seq a b,R,s,N,Rt,X=>vc Lp H C a R s (fun s=>vc Lp H C b R s N Rt X) Rt X
 | .sj l a b,R,s,N,Rt,X=>bif clS s&&clB (roS s)&&okI (cU l) l&&kM l (roS s) then
   (vc Lp H C a (DN T.S (DS l)⊕R) s (fun s=>oz l s fun x _=>some (.inl (toN _ x))) (fun s=>(Rt s).map .inr) (fun i s=>(X i s).map .inr)).bind fun q=>match q with
   | .inl x=>vc Lp H C b R (cH false l (ofN _ x) (roS s)) N Rt X
   | .inr r=>some r
  else none
 | .cond c t f,R,s,N,Rt,X=>oV (lx s.e c) fun w=>vy w (vc Lp H C t R s N Rt X) (vc Lp H C f R s N Rt X)
 | .block id b,R,s,N,Rt,X=>vc Lp H C b R s N Rt (fun i s=>bif Nat.beq i id then N s else X i s)
 | .region ops,_,s,N,_,_=>zF H C ops s N
 | .dreg ops ps,_,s,N,_,_=>bif ps.isEmpty then zF H C ops s N else xM H C ps ops [] s N
 | .loop c l o b,R,s,N,Rt,X=>bif clS s&&clB (roS s)&&okI (cU c) c&&okI (cU l) l&&kM c (roS s) then
   oz c s fun y s1=>oz l s1 fun x _=>bif clB (cH true c y (roS s))&&kM l (cH true c y (roS s))&&pd o (cH false c y (roS s)) then
    (Lp.f (fun d=>vc Lp H C b (DN T.S (DS l)⊕sH T.S o) (cH false l (ofN _ d) (cH true c y (roS s))) (fun s=>oz l s fun x _=>some (.inl (toN _ x))) (fun s=>oD o none s fun q=>some (.inr q)) (fun i s=>oD o (some i) s fun q=>some (.inr q))) (toN _ x)).bind fun q=>xF o q fun k l' x=>match k with
     | none=>Rt (cH false l' x (cH false c y (roS s)))
     | some i=>X i (cH false l' x (cH false c y (roS s)))
   else none
  else none
variable {F:Nat→Option AFn} {g:Heap} {M:Nat→Prop}
theorem VSim.base {Δ:List Ch} {sb s:VS T} {ms:List AV} {e:Env} {h:Heap} (S:VSim g M Δ s ms e h) (hr:Ro sb s) (hc:clB sb=true):VSim g M Δ sb (ms.take sb.ps.length) e h:=by
 unfold clB at hc
 rw [Bool.and_eq_true,List.all_eq_true,List.all_eq_true] at hc
 have hps:s.ps.take sb.ps.length=sb.ps:=by
  apply List.ext_getElem?
  intro i
  rw [List.getElem?_take]
  split
  ·rename_i hi
   have h1:nth sb.ps i=some sb.ps[i]:=by rw [aM,List.getElem?_eq_getElem hi]
   have h2:=hc.2 _ (List.getElem_mem hi)
   rw [Bool.and_eq_true] at h2
   cases hp:sb.ps[i] with
   | ro p=>
    rw [hp] at h1
    have:=hr.p _ _ h1
    rw [aM] at this h1
    rw [this,h1]
   | _=>rw [hp] at h2; cases h2.1
  rename_i hi
  rw [List.getElem?_eq_none (by omega)]
 have hle:sb.ps.length≤s.ps.length:=by
  have:=congrArg List.length hps
  rw [List.length_take] at this
  omega
 refine ⟨by rw [List.length_take,S.len]; omega,?_,fun k sv hk=>?_⟩
 ·have h3:=dF (B:=Bo g M) (ms:=ms) (as:=ms.take sb.ps.length) (ps:=s.ps.take sb.ps.length) (ms.drop sb.ps.length) (s.ps.drop sb.ps.length) (by rw [List.length_take,List.length_take,S.len])
  rw [List.take_append_drop,List.take_append_drop,hps] at h3
  have S1:=S.st
  rw [h3,← List.append_assoc] at S1
  refine St.impR S1.dropR (jW _ _ _ fun p hp=>?_)
  have:=hc.2 p hp
  rw [Bool.and_eq_true] at this
  exact this
 have h1:=hc.1 _ (j8 hk)
 rw [Bool.and_eq_true] at h1
 cases sv with
 | ro x=>
  obtain ⟨v,h2,h3⟩:=S.env k _ (hr.e k x hk)
  exact ⟨v,h2,ln h1.2 h3⟩
 | _=>cases h1.1
theorem pH (s:VS T):Ro (roS s) s:=⟨fun k x h=>oQ h,fun k p h=>(p8 h).1⟩
structure RoM (s:VS T) (ms:List AV) (s':VS T) (ms':List AV):Prop where
 ro:Ro s s'
 m:∀ j p,nth s.ps j=some (.ro p)→nth ms' j=nth ms j
theorem RoM.refl (s:VS T) (ms:List AV):RoM s ms s ms:=⟨Ro.refl s,fun _ _ _=>rfl⟩
theorem RoM.trans {a b c:VS T} {x y z:List AV} (h:RoM a x b y) (k:RoM b y c z):RoM a x c z:=⟨h.ro.trans k.ro,fun j p hj=>(k.m j p (h.ro.p j p hj)).trans (h.m j p hj)⟩
theorem RoM.app {s s':VS T} {ms xs:List AV} (hr:Ro s s') (hl:ms.length=s.ps.length):RoM s ms s' (ms++xs):=⟨hr,fun j p hj=>by
 obtain ⟨y,hy⟩:=bv hl hj
 rw [aH hy,hy]⟩
theorem dB {R:Type} {l:List In} {s:VS T} {K:T.H (DS l)→VS T→Option R} {r:R} (hK:oz l s K=some r) {Δ:List Ch} {ms:List AV} {e:Env} {h:Heap} (S:VSim g M Δ s ms e h) :
  ∃ x s' h' am Γ,K x s'=some r∧Fz h h'∧VSim g M (Γ++Δ) s' ms e h'∧Mat (Bo g M) am e h' l x 0 [] Γ∧Trk s s':=by
 obtain ⟨x,s',h',am,Γ,q1,q2,q3,q4,q5,q6⟩:=ch l [] 0 .no [] s K r hK (Γ0:=[]) (acc:=[]) (rest:=[]) (am:=fun _=>.nilPtr) S .nil rfl (fun j w hj=>by cases hj)
 exact ⟨x,s',h',am,Γ,q1,q2,q3,q5,q6⟩
theorem jM {R:Type}:∀ (o:rL) {k:Option Nat} {s:VS T} {K:sH T.S o→Option R} {r:R},oD o k s K=some r→∀ {Δ:List Ch} {ms:List AV} {e:Env} {h:Heap},VSim g M Δ s ms e h→
  ∃ l q x s' h' am Γ,K q=some r∧(∀ {R':Type} (f:Option Nat→(l:List In)→T.H (DS l)→Option R'),xF o q f=f k l x)∧(k,l)∈o∧Fz h h'∧VSim g M (Γ++Δ) s' ms e h'∧Mat (Bo g M) am e h' l x 0 [] Γ∧Trk s s'
 | [],k,s,K,r,hK,_,_,_,_,_=>by simp only [oD] at hK; cases hK
 | [o],k,s,K,r,hK,Δ,ms,e,h,S=>by
  simp only [oD] at hK
  cases hk:kEq o.1 k with
  | false=>rw [hk] at hK; cases hK
  | true=>
   rw [hk,cond_true] at hK
   obtain rfl:=tp hk
   obtain ⟨x,s',h',am,Γ,q1,q2,q3,q4,q5⟩:=dB hK S
   exact ⟨o.2,_,x,s',h',am,Γ,q1,fun f=>by simp only [xF,ft],List.mem_singleton.2 rfl,q2,q3,q4,q5⟩
 | o::o'::os,k,s,K,r,hK,Δ,ms,e,h,S=>by
  simp only [oD] at hK
  cases hk:kEq o.1 k with
  | false=>
   rw [hk,cond_false] at hK
   obtain ⟨l,q,x,s',h',am,Γ,q1,q2,q3,q4,q5,q6,q7⟩:=jM (o'::os) hK S
   exact ⟨l,_,x,s',h',am,Γ,q1,fun f=>q2 f,List.mem_cons_of_mem _ q3,q4,q5,q6,q7⟩
  | true=>
   rw [hk,cond_true] at hK
   obtain rfl:=tp hk
   obtain ⟨x,s',h',am,Γ,q1,q2,q3,q4,q5⟩:=dB hK S
   exact ⟨o.2,_,x,s',h',am,Γ,q1,fun f=>by simp only [xF,ft],List.mem_cons_self ..,q2,q3,q4,q5⟩
def VQ {R:Type} (F:Nat→Option AFn) (g:Heap) (M:Nat→Prop) (c:ACode) (N Rt:VS T→Option R) (X:Nat→VS T→Option R) (r:R) (s:VS T) (ms:List AV) (e:Env) (g0:Heap):Prop:=
 ∃ x s' n e' g1 h' ms',run F n c e g0=some (x,e',g1)∧Fz g1 h'∧VSim g M [] s' ms' e' h'∧RoM s ms s' ms'∧(match x with
  | .normal=>N s'=some r
  | .ret=>Rt s'=some r
  | .exit i=>X i s'=some r)
theorem rQ {R:Type} {B:Hp} {ps:List (Part T)} {ms:List AV} {h:Heap} {w:SV T} {a:AV} {A D:Option R} {r:R} (hK:vy w A D=some r) (hr:cM B ps ms h w a):∃ b:Bool,a=.bool b∧(if b=true then A else D)=some r:=by
 unfold vy at hK
 split at hK
 ·rename_i p i
  have hr:a=.bool (@decide p i):=hr.1
  subst hr
  split at hK
  ·rename_i hp; exact ⟨_,rfl,by rw [decide_eq_true hp]; exact hK⟩
  rename_i hp; exact ⟨_,rfl,by rw [decide_eq_false hp]; exact hK⟩
 ·exact ⟨_,eH hr.1,hK⟩
 ·rename_i b
  have hr:a=.bool b:=hr.1
  subst hr
  refine ⟨b,rfl,?_⟩
  cases b<;>exact hK
 cases hK
theorem VSim.label {sb s:VS T} {ms:List AV} {e:Env} {h:Heap} {Γ:List Ch} {am:Nat→AV} {l:List In} {x:T.H (DS l)} (S:VSim g M Γ s ms e h) (hr:Ro sb s) (hc:clB sb=true) (hM:Mat (Bo g M) am e h l x 0 [] Γ) (ho:okI (cU l) l=true) (hd:kM l sb=true) (ro:Bool) :
  VSim g M [] (cH ro l x sb) (ms.take sb.ps.length++amL am 0 (cU l)) e h∧RoM sb ms (cH ro l x sb) (ms.take sb.ps.length++amL am 0 (cU l)):=by
 have S1:=S.base hr hc
 have S2:VSim g M (Γ++[]) sb (ms.take sb.ps.length) e h:=by rw [List.append_nil]; exact S1
 obtain ⟨k1,k2⟩:=S2.mk1 (ro:=ro) hM ho hd
 refine ⟨k1,k2,fun j p hj=>?_⟩
 obtain ⟨y,hy⟩:=bv S1.len hj
 have hlt:=iu hj
 rw [aH hy]
 rw [aM,List.getElem?_take_of_lt hlt,← aM] at hy
 exact hy.symm
end
end Go.Am
namespace Go.Am
open Go
section
variable {T:TE} {F:Nat→Option AFn} {g:Heap} {M:Nat→Prop}
theorem Mat.mono {B:Hp} {am:Nat→AV} {e:Env} {h h':Heap} (hz:HZ h h'):∀ {l:List In} {x:T.H (DS l)} {n:Nat} {acc:List AV} {Γ:List Ch},Mat B am e h l x n acc Γ→Mat B am e h' l x n acc Γ
 | [],x,n,acc,Γ,hM=>hM
 | .d z t::l,x,n,acc,Γ,⟨a,h1,h2,h3⟩=>⟨a,h1,(T.r t).mono (hZ hz z) h2,Mat.mono hz h3⟩
 | .e z t o::l,x,n,acc,Γ,⟨a,h1,h2,h3⟩=>⟨a,h1,cA (ms:=[]) hz (.ed z t x.1 o) h2,Mat.mono hz h3⟩
 | .r j::l,x,n,acc,Γ,⟨h1,h2⟩=>⟨h1,Mat.mono hz h2⟩
 | .ptr j off::l,x,n,acc,Γ,⟨o,v,h1,h2⟩=>⟨o,v,h1,Mat.mono hz h2⟩
 | .ic m j::l,x,n,acc,Γ,⟨h1,h2⟩=>⟨h1,Mat.mono hz h2⟩
 | .c v::l,x,n,acc,Γ,⟨h1,h2⟩=>⟨h1,Mat.mono hz h2⟩
 | .ld _ _::l,x,n,acc,Γ,hM=>Mat.mono (l:=l) hz hM
 | .ldr::l,x,n,acc,Γ,hM=>Mat.mono (l:=l) hz hM
 | .slot k false::l,x,n,acc,Γ,⟨h1,h2⟩=>⟨h1,Mat.mono hz h2⟩
 | .slot k true::l,x,n,acc,Γ,⟨h1,h2⟩=>⟨h1,Mat.mono hz h2⟩
 | .row::l,x,n,acc,Γ,⟨o,v,Γ',h1,h2,h3⟩=>⟨o,v,Γ',h1,h2,Mat.mono hz h3⟩
 | .sl t::l,x,n,acc,Γ,⟨Γ',h1,h2⟩=>⟨Γ',h1,Mat.mono hz h2⟩
 | .po t::l,x,n,acc,Γ,⟨Γ',h1,h2⟩=>⟨Γ',h1,Mat.mono hz h2⟩
 | .pr t::l,x,n,acc,Γ,⟨Γ',h1,h2⟩=>⟨Γ',h1,Mat.mono hz h2⟩
 | .mp a b::l,x,n,acc,Γ,⟨Γ',h1,h2⟩=>⟨Γ',h1,Mat.mono hz h2⟩
 | .io a b::l,x,n,acc,Γ,⟨Γ',h1,h2⟩=>⟨Γ',h1,Mat.mono hz h2⟩
theorem Ro.mk1 {l:List In} {x:T.H (DS l)} {ro:Bool} {s:VS T} (hd:kM l s=true):Ro s (cH ro l x s):=by
 refine ⟨fun k y hk=>?_,fun k p hp=>aH hp⟩
 show lk (mkE ro s.ps.length l x []++s.e) k=_
 rw [gA,lO fun z hz=>?_]
 ·exact hk
 unfold kM at hd
 rw [List.all_eq_true] at hd
 have:=hd k (aN l x [] k z hz)
 rw [hk] at this
 cases this
def roV:Nat×SV T→Nat×SV T
 | (k,.v x)=>(k,.ro x)
 | y=>y
theorem cb {b:Nat}:∀ (l:List In) (x:T.H (DS l)) (acc:List (W T)),mkE true b l x acc=(mkE false b l x acc).map roV
 | [],x,acc=>rfl
 | .d z t::l,x,acc=>cb l x.2 _
 | .e z t _::l,x,acc=>cb l x.2 _
 | .r j::l,x,acc=>cb l x _
 | .ptr j off::l,x,acc=>cb l x _
 | .ic m j::l,x,acc=>cb l x _
 | .c v::l,x,acc=>cb l x _
 | .ld _ _::l,x,acc=>cb l x _
 | .ldr::l,x,acc=>cb l x _
 | .slot k agg::l,x,acc=>by
  show _::mkE true b l x []=_::(mkE false b l x []).map roV
  rw [cb l x []]
  rfl
 | .row::l,x,acc=>cb l x _
 | .sl t::l,x,acc=>cb l x.2 _
 | .po t::l,x,acc=>cb l x.2 _
 | .pr t::l,x,acc=>cb l x.2 _
 | .mp a c::l,x,acc=>cb l x.2 _
 | .io a c::l,x,acc=>cb l x.2 _
theorem bH {b:Nat}:∀ (l:List In) (x:T.H (DS l)) (acc:List (W T)),mkP true b l x acc=(mkP false b l x acc).map Part.ro
 | [],x,acc=>rfl
 | .d z t::l,x,acc=>bH l x.2 _
 | .e z t _::l,x,acc=>bH l x.2 _
 | .r j::l,x,acc=>bH l x _
 | .ptr j off::l,x,acc=>bH l x _
 | .ic m j::l,x,acc=>bH l x _
 | .c v::l,x,acc=>bH l x _
 | .ld _ _::l,x,acc=>bH l x _
 | .ldr::l,x,acc=>bH l x _
 | .slot k agg::l,x,acc=>bH l x _
 | .row::l,x,acc=>by
  show _::mkP true b l x []=_::(mkP false b l x []).map Part.ro
  rw [bH l x []]; rfl
 | .sl t::l,x,acc=>by
  show _::mkP true b l x.2 []=_::(mkP false b l x.2 []).map Part.ro
  rw [bH l x.2 []]; rfl
 | .po t::l,x,acc=>by
  show _::mkP true b l x.2 []=_::(mkP false b l x.2 []).map Part.ro
  rw [bH l x.2 []]; rfl
 | .pr t::l,x,acc=>by
  show _::mkP true b l x.2 []=_::(mkP false b l x.2 []).map Part.ro
  rw [bH l x.2 []]; rfl
 | .mp a c::l,x,acc=>by
  show _::mkP true b l x.2 []=_::(mkP false b l x.2 []).map Part.ro
  rw [bH l x.2 []]; rfl
 | .io a c::l,x,acc=>by
  show _::mkP true b l x.2 []=_::(mkP false b l x.2 []).map Part.ro
  rw [bH l x.2 []]; rfl
theorem dT {b:Nat}:∀ (l:List In) (x:T.H (DS l)) (acc:List (W T)) (y:Nat×SV T),y∈mkE false b l x acc→∃ k z,y=(k,.v z)
 | [],x,acc,y,h=>by cases h
 | .d z t::l,x,acc,y,h=>dT l x.2 _ y h
 | .e z t _::l,x,acc,y,h=>dT l x.2 _ y h
 | .r j::l,x,acc,y,h=>dT l x _ y h
 | .ptr j off::l,x,acc,y,h=>dT l x _ y h
 | .ic m j::l,x,acc,y,h=>dT l x _ y h
 | .c v::l,x,acc,y,h=>dT l x _ y h
 | .ld _ _::l,x,acc,y,h=>dT l x _ y h
 | .ldr::l,x,acc,y,h=>dT l x _ y h
 | .slot k agg::l,x,acc,y,h=>by
  have h:y∈(k,onS false (bif agg then .agg acc else xW acc))::mkE false b l x []:=h
  rcases List.mem_cons.1 h with rfl | h
  ·exact ⟨_,_,rfl⟩
  exact dT l x _ y h
 | .row::l,x,acc,y,h=>dT l x _ y h
 | .sl t::l,x,acc,y,h=>dT l x.2 _ y h
 | .po t::l,x,acc,y,h=>dT l x.2 _ y h
 | .pr t::l,x,acc,y,h=>dT l x.2 _ y h
 | .mp a c::l,x,acc,y,h=>dT l x.2 _ y h
 | .io a c::l,x,acc,y,h=>dT l x.2 _ y h
theorem tZ {B:Hp} {ms:List AV}:∀ (as:List AV) (ps:List (Part T)),chs B ms as (ps.map Part.ro)=chs B ms as ps
 | [],_=>rfl
 | _::_,[]=>rfl
 | a::as,p::ps=>by
  show dt B ms a (.ro p)::chs B ms as (ps.map Part.ro)=_
  rw [tZ as ps]; rfl
theorem tv:∀ (l:nA T) (hl:∀ y,y∈l→∃ k z,y=(k,SV.v z)) {k:Nat} {sv:SV T},lk l k=some sv→∃ z,sv=.v z∧lk (l.map roV) k=some (.ro z)
 | [],_,k,sv,h=>by cases h
 | y::l,hl,k,sv,h=>by
  obtain ⟨j,z,rfl⟩:=hl y (List.mem_cons_self ..)
  have h:(bif Nat.beq j k then some (SV.v z) else lk l k)=some sv:=h
  cases hb:Nat.beq j k with
  | true=>
   rw [hb] at h
   cases h
   refine ⟨z,rfl,?_⟩
   show (bif Nat.beq j k then some (SV.ro z) else lk (l.map roV) k)=_
   rw [hb]; rfl
  | false=>
   rw [hb] at h
   obtain ⟨z',h1,h2⟩:=tv l (fun y hy=>hl y (List.mem_cons_of_mem _ hy)) h
   refine ⟨z',h1,?_⟩
   show (bif Nat.beq j k then some (SV.ro z) else lk (l.map roV) k)=_
   rw [hb]; exact h2
theorem qA:∀ (l:nA T) (hl:∀ y,y∈l→∃ k z,y=(k,SV.v z)) {k:Nat},lk l k=none→lk (l.map roV) k=none
 | [],_,k,h=>rfl
 | y::l,hl,k,h=>by
  obtain ⟨j,z,rfl⟩:=hl y (List.mem_cons_self ..)
  have h:(bif Nat.beq j k then some (SV.v z) else lk l k)=none:=h
  cases hb:Nat.beq j k with
  | true=>rw [hb] at h; cases h
  | false=>
   rw [hb] at h
   show (bif Nat.beq j k then some (SV.ro z) else lk (l.map roV) k)=_
   rw [hb]; exact qA l (fun y hy=>hl y (List.mem_cons_of_mem _ hy)) h
theorem VSim.unro {Δ:List Ch} {sb:VS T} {ms:List AV} {e:Env} {h:Heap} {c:List In} {y:T.H (DS c)} (S:VSim g M Δ (cH true c y sb) ms e h):VSim g M Δ (cH false c y sb) ms e h:=by
 refine ⟨?_,?_,fun k sv hk=>?_⟩
 ·have:=S.len
  simp only [cH,bH,List.length_append,List.length_map] at this ⊢
  exact this
 ·have h1:=S.st
  have hb:sb.ps.length≤ms.length:=by
   have:=S.len
   simp only [cH,List.length_append] at this
   omega
  have key:∀ qs:List (Part T),chs (Bo g M) ms ms (sb.ps++qs)=chs (Bo g M) ms (ms.take sb.ps.length) sb.ps++chs (Bo g M) ms (ms.drop sb.ps.length) qs:=fun qs=>by
   have:=dF (B:=Bo g M) (ms:=ms) (as:=ms.take sb.ps.length) (ps:=sb.ps) (ms.drop sb.ps.length) qs (by rw [List.length_take]; omega)
   rw [List.take_append_drop] at this
   exact this
  show St g M (Δ++chs (Bo g M) ms ms (sb.ps++mkP false sb.ps.length c y [])) h
  have h1:St g M (Δ++chs (Bo g M) ms ms (sb.ps++mkP true sb.ps.length c y [])) h:=h1
  rw [key,bH,tZ,← key] at h1
  exact h1
 have hk:lk (mkE false sb.ps.length c y []++sb.e) k=some sv:=hk
 rw [gA] at hk
 have hv:=dT (b:=sb.ps.length) c y []
 cases hl:lk (mkE false sb.ps.length c y []) k with
 | some z=>
  rw [hl] at hk
  cases hk
  obtain ⟨z,rfl,h2⟩:=tv _ hv hl
  have h3:lk (cH true c y sb).e k=some (.ro z):=by
   show lk (mkE true sb.ps.length c y []++sb.e) k=_
   rw [gA,cb,h2]
  obtain ⟨v,q1,q2⟩:=S.env k _ h3
  exact ⟨v,q1,i0 q2⟩
 | none=>
  rw [hl] at hk
  have h3:lk (cH true c y sb).e k=some sv:=by
   show lk (mkE true sb.ps.length c y []++sb.e) k=_
   rw [gA,cb,qA _ hv hl]
   exact hk
  obtain ⟨v,q1,q2⟩:=S.env k _ h3
  refine ⟨v,q1,?_⟩
  have hw:∀ (w:W T) (a:AV),bZ (Bo g M) (cH true c y sb).ps ms h w a→bZ (Bo g M) (cH false c y sb).ps ms h w a:=fun w a r=>by
   refine df (f:=id) r (fun _ _ r=>r) fun k t i x off a ⟨b,l,r1,r2,r3⟩=>⟨b,l,r1,?_,r3⟩
   obtain ⟨p0,r2,hs0⟩:=r2
   refine ⟨p0,?_,hs0⟩
   have r2:lkP (sb.ps++mkP true sb.ps.length c y []) k=some p0:=r2
   show lkP (sb.ps++mkP false sb.ps.length c y []) k=some p0
   unfold lkP at r2 ⊢
   by_cases hj:k < sb.ps.length
   ·have e1:∀ qs,nth (sb.ps++qs) k=nth sb.ps k:=fun qs=>by rw [aM,aM,List.getElem?_append_left hj]
    rw [e1] at r2 ⊢
    exact r2
   have e1:∀ qs,nth (sb.ps++qs) k=nth qs (k - sb.ps.length):=fun qs=>by rw [aM,aM,List.getElem?_append_right (by omega)]
   rw [e1,bH,d6] at r2
   rw [e1]
   cases hn:nth (mkP false sb.ps.length c y []) (k - sb.ps.length) with
   | none=>rw [hn] at r2; cases r2
   | some p=>
    rw [hn] at r2
    have r2:some p=some p0:=r2
    cases r2
    rcases hs0 with rfl | ⟨_,rfl⟩<;>rfl
  exact ji (fun _ _ r=>r) hw q2
end
end Go.Am
namespace Go.Am
open Go
section
variable {T:TE} {F:Nat→Option AFn} {g:Heap} {M:Nat→Prop}
theorem vN {α R:Type} {o:Option α} {K:α→Option R} {r:R} (h:oV o K=some r):∃ a,o=some a∧K a=some r:=by
 cases o with
 | none=>cases h
 | some a=>exact ⟨a,rfl,h⟩
noncomputable def lpF (Lp:LP) (H:List (Nat×VT)) (C:cC T) (l:List In) (o:rL) (b:VC) (sc:VS T) (d:DN T.S (DS l)):Option (DN T.S (DS l)⊕sH T.S o):=
 vc Lp H C b (DN T.S (DS l)⊕sH T.S o) (cH false l (ofN _ d) sc) (fun s=>oz l s fun x _=>some (.inl (toN _ x))) (fun s=>oD o none s fun q=>some (.inr q)) (fun i s=>oD o (some i) s fun q=>some (.inr q))
def VOk (Lp:LP) (F:Nat→Option AFn) (T:TE) (H:List (Nat×VT)) (C:cC T) (c:VC):Prop:=∀ (g:Heap) (M:Nat→Prop) (R:Type) (s:VS T) (N Rt:VS T→Option R) (X:Nat→VS T→Option R) (r:R),vc Lp H C c R s N Rt X=some r→∀ (ms:List AV) (e:Env) (h g0:Heap),VSim g M [] s ms e h→Fz g0 h→VQ F g M c.er N Rt X r s ms e g0
theorem ke {o:rL} {s:VS T} (h:pd o s=true) {k:Option Nat} {l:List In} (hm:(k,l)∈o):okI (cU l) l=true∧kM l s=true:=by
 unfold pd at h
 rw [List.all_eq_true] at h
 have:=h _ hm
 rw [Bool.and_eq_true] at this
 exact this
theorem pw {Lp:LP} {H:List (Nat×VT)} {C:cC T} {c l:List In} {o:rL} {b:VC} {y:T.H (DS c)} {sb:VS T} (hb:VOk Lp F T H C b) (hcl:clB sb=true) (hcs:clB (cH true c y sb)=true) (hol:okI (cU l) l=true) (hdc:kM c sb=true) (hdl:kM l (cH true c y sb)=true) (hoo:pd o (cH false c y sb)=true) {q:sH T.S o} :
  ∀ (n:Nat) (d:T.H (DS l)) (ms:List AV) (e:Env) (h g0:Heap),iter (lpF Lp H C l o b (cH true c y sb)) n (toN _ d)=some q→VSim g M [] (cH false l d (cH true c y sb)) ms e h→Fz g0 h→
   ∃ (k:Option Nat) (l':List In) (x:T.H (DS l')) (xx:AX) (m:Nat) (e':Env) (g1 h':Heap) (ms':List AV),run F m (.loop b.er) e g0=some (xx,e',g1)∧Fz g1 h'∧VSim g M [] (cH false l' x (cH false c y sb)) ms' e' h'∧(∀ {R':Type} (f:Option Nat→(l:List In)→T.H (DS l)→Option R'),xF o q f=f k l' x)∧(k,l')∈o∧xx=(match k with
    | none=>AX.ret
    | some i=>AX.exit i)∧∀ j p,nth sb.ps j=some (.ro p)→nth ms' j=nth ms j
 | 0,d,ms,e,h,g0,hi,S,hz=>by cases hi
 | n+1,d,ms,e,h,g0,hi,S,hz=>by
  obtain ⟨n',w,e1,hf,hk⟩:=gQ hi
  cases e1
  unfold lpF at hf
  rw [ft] at hf
  obtain ⟨xx,s',m,e',g1,h',ms',k1,k2,k3,k4,k5⟩:=hb _ _ _ _ _ _ _ _ hf ms e h g0 S hz
  have r1:Ro (cH true c y sb) (cH false l d (cH true c y sb)):=Ro.mk1 hdl
  have r0:Ro sb (cH true c y sb):=Ro.mk1 hdc
  have mj:∀ j p,nth sb.ps j=some (.ro p)→nth ms' j=nth ms j:=fun j p hj=>k4.m j p (r1.p j p (r0.p j p hj))
  have leave:∀ (k:Option Nat) (q0:sH T.S o),w=.inr q0→oD o k s' (fun q=>some (Sum.inr (α:=DN T.S (DS l)) q))=some w→xx=(match k with
    | none=>AX.ret
    | some i=>AX.exit i)→run F m b.er e g0=some (xx,e',g1)→(∃ (k:Option Nat) (l':List In) (x:T.H (DS l')) (xx:AX) (m:Nat) (e':Env) (g1 h':Heap) (ms':List AV),run F m (.loop b.er) e g0=some (xx,e',g1)∧Fz g1 h'∧VSim g M [] (cH false l' x (cH false c y sb)) ms' e' h'∧(∀ {R':Type} (f:Option Nat→(l:List In)→T.H (DS l)→Option R'),xF o q f=f k l' x)∧(k,l')∈o∧xx=(match k with
    | none=>AX.ret
    | some i=>AX.exit i)∧∀ j p,nth sb.ps j=some (.ro p)→nth ms' j=nth ms j):=by
   intro k q0 hq0 hen hxx hrun
   subst hq0
   have hk:q0=q:=hk
   subst hk
   obtain ⟨l',q',x,s2,h2,am,Γ,w1,w2,w3,w4,w5,w6,w7⟩:=jM o hen k3
   cases w1
   rw [List.append_nil] at w5
   have S1:=w5.base (((r1.trans k4.ro)).trans w7.ro) hcs
   have S2:=S1.unro
   obtain ⟨o1,o2⟩:=ke hoo w3
   have S3:VSim g M (Γ++[]) (cH false c y sb) (ms'.take (cH true c y sb).ps.length) e' h2:=by rw [List.append_nil]; exact S2
   obtain ⟨S4,_⟩:=S3.mk1 (ro:=false) w6 o1 o2
   refine ⟨k,l',x,xx,m+1,e',g1,h2,_,?_,k2.trans w4,S4,w2,w3,hxx,fun j p hj=>?_⟩
   ·rw [ak]
    simp only [hrun]
    subst hxx
    cases k<;>rfl
   have hj2:=r0.p j p hj
   obtain ⟨z,hz⟩:=bv S1.len hj2
   rw [aH hz]
   rw [aM,List.getElem?_take_of_lt (iu hj2),← aM] at hz
   rw [← mj j p hj,hz]
  cases xx with
  | normal=>
   have k5:oz l s' (fun x _=>some (Sum.inl (toN _ x)))=some w:=k5
   obtain ⟨x',s2,h2,am,Γ,w1,w2,w3,w4,w5⟩:=dB k5 k3
   cases w1
   rw [List.append_nil] at w3
   obtain ⟨S4,hm⟩:=w3.label ((r1.trans k4.ro).trans w5.ro) hcs w4 hol hdl false
   obtain ⟨k,l',x,xx,m',e'',g2,h3,ms2,q1,q2,q3,q4,q5,q6,q7⟩:=pw hb hcl hcs hol hdc hdl hoo n x' _ e' h2 g1 hk S4 (k2.trans w2)
   refine ⟨k,l',x,xx,max m m'+1,e'',g2,h3,ms2,?_,q2,q3,q4,q5,q6,fun j p hj=>?_⟩
   ·rw [ak]
    simp only [dr (Nat.le_max_left m m') k1,dr (Nat.le_max_right m m') q1]
   rw [q7 j p hj,hm.m j p (r0.p j p hj),mj j p hj]
  | ret=>
   have k5:oD o none s' (fun q=>some (Sum.inr q))=some w:=k5
   obtain ⟨_,q0,_,_,_,_,_,w1,_⟩:=jM o k5 k3
   exact leave none q0 (Option.some.inj w1).symm k5 rfl k1
  | exit i=>
   have k5:oD o (some i) s' (fun q=>some (Sum.inr q))=some w:=k5
   obtain ⟨_,q0,_,_,_,_,_,w1,_⟩:=jM o k5 k3
   exact leave (some i) q0 (Option.some.inj w1).symm k5 rfl k1
theorem AW {Lp:LP} {H:List (Nat×VT)} {C:cC T} (hC:cI F C):∀ c:VC,VOk Lp F T H C c:=by
 intro c
 induction c with
 | skip=>intro g M R s N Rt X r hK ms e h g0 S hz; exact ⟨.normal,s,1,e,g0,h,ms,rfl,hz,S,RoM.refl _ _,hK⟩
 | ret=>intro g M R s N Rt X r hK ms e h g0 S hz; exact ⟨.ret,s,1,e,g0,h,ms,rfl,hz,S,RoM.refl _ _,hK⟩
 | exit i=>intro g M R s N Rt X r hK ms e h g0 S hz; exact ⟨.exit i,s,1,e,g0,h,ms,rfl,hz,S,RoM.refl _ _,hK⟩
 | seq a b iha ihb=>
  intro g M R s N Rt X r hK ms e h g0 S hz
  obtain ⟨x,s1,n,e1,g1,h1,ms1,k1,k2,k3,k4,k5⟩:=iha _ _ _ _ _ _ _ _ hK ms e h g0 S hz
  cases x with
  | normal=>
   obtain ⟨x,s2,m,e2,g2,h2,ms2,q1,q2,q3,q4,q5⟩:=ihb _ _ _ _ _ _ _ _ k5 ms1 e1 h1 g1 k3 k2
   refine ⟨x,s2,max n m+1,e2,g2,h2,ms2,?_,q2,q3,k4.trans q4,q5⟩
   show run F (max n m+1) (.seq a.er b.er) e g0=_
   rw [ak]
   simp only [dr (Nat.le_max_left n m) k1,dr (Nat.le_max_right n m) q1]
  | ret=>exact ⟨.ret,s1,n+1,e1,g1,h1,ms1,by show run F (n+1) (.seq a.er b.er) e g0=_; rw [ak]; simp only [k1],k2,k3,k4,k5⟩
  | exit i=>exact ⟨.exit i,s1,n+1,e1,g1,h1,ms1,by show run F (n+1) (.seq a.er b.er) e g0=_; rw [ak]; simp only [k1],k2,k3,k4,k5⟩
 | sj l a b iha ihb=>
  intro g M R s N Rt X r hK ms e h g0 S hz
  simp only [vc] at hK
  cases hc:(clS s&&clB (roS s)&&okI (cU l) l&&kM l (roS s)) with
  | false=>rw [hc] at hK; cases hK
  | true=>
   rw [hc,cond_true] at hK
   simp only [Bool.and_eq_true] at hc
   obtain ⟨⟨⟨c1,c2⟩,c3⟩,c4⟩:=hc
   obtain ⟨q,hq,hK⟩:=obI hK
   obtain ⟨x,s1,n,e1,g1,h1,ms1,k1,k2,k3,k4,k5⟩:=iha _ _ _ _ _ _ _ _ hq ms e h g0 S hz
   have ro1:Ro s (roS s):=(S.roS c1).2
   cases x with
   | normal=>
    have k5:oz l s1 (fun x _=>some (Sum.inl (toN _ x)))=some q:=k5
    obtain ⟨x',s2,h2,am,Γ,w1,w2,w3,w4,w5⟩:=dB k5 k3
    cases w1
    rw [List.append_nil] at w3
    have hK:vc Lp H C b R (cH false l (ofN _ (toN _ x')) (roS s)) N Rt X=some r:=hK
    rw [ft] at hK
    obtain ⟨S4,hm⟩:=w3.label (((pH s).trans k4.ro).trans w5.ro) c2 w4 c3 c4 false
    obtain ⟨x,s3,m,e2,g2,h3,ms2,q1,q2,q3,q4,q5⟩:=ihb _ _ _ _ _ _ _ _ hK _ e1 h2 g1 S4 (k2.trans w2)
    refine ⟨x,s3,max n m+1,e2,g2,h3,ms2,?_,q2,q3,⟨(ro1.trans hm.ro).trans q4.ro,fun j p hj=>?_⟩,q5⟩
    ·show run F (max n m+1) (.seq a.er b.er) e g0=_
     rw [ak]
     simp only [dr (Nat.le_max_left n m) k1,dr (Nat.le_max_right n m) q1]
    rw [q4.m j p (hm.ro.p j p (ro1.p j p hj)),hm.m j p (ro1.p j p hj),k4.m j p hj]
   | ret=>
    have k5:(Rt s1).map Sum.inr=some q:=k5
    cases hr:Rt s1 with
    | none=>rw [hr] at k5; cases k5
    | some r0=>
     rw [hr] at k5
     cases k5
     cases hK
     exact ⟨.ret,s1,n+1,e1,g1,h1,ms1,by show run F (n+1) (.seq a.er b.er) e g0=_; rw [ak]; simp only [k1],k2,k3,k4,hr⟩
   | exit i=>
    have k5:(X i s1).map Sum.inr=some q:=k5
    cases hr:X i s1 with
    | none=>rw [hr] at k5; cases k5
    | some r0=>
     rw [hr] at k5
     cases k5
     cases hK
     exact ⟨.exit i,s1,n+1,e1,g1,h1,ms1,by show run F (n+1) (.seq a.er b.er) e g0=_; rw [ak]; simp only [k1],k2,k3,k4,hr⟩
 | cond c t f iht ihf=>
  intro g M R s N Rt X r hK ms e h g0 S hz
  obtain ⟨w,hw,hK⟩:=vN hK
  obtain ⟨a,h1,h2⟩:=cm S hw
  obtain ⟨b,rfl,hK⟩:=rQ hK h2
  cases b with
  | true=>
   obtain ⟨x,s1,n,e1,g1,h1',ms1,k1,k2,k3,k4,k5⟩:=iht _ _ _ _ _ _ _ _ hK ms e h g0 S hz
   exact ⟨x,s1,n+1,e1,g1,h1',ms1,by show run F (n+1) (.cond c t.er f.er) e g0=_; rw [ak]; simp only [h1,cond_true,k1],k2,k3,k4,k5⟩
  | false=>
   obtain ⟨x,s1,n,e1,g1,h1',ms1,k1,k2,k3,k4,k5⟩:=ihf _ _ _ _ _ _ _ _ hK ms e h g0 S hz
   exact ⟨x,s1,n+1,e1,g1,h1',ms1,by show run F (n+1) (.cond c t.er f.er) e g0=_; rw [ak]; simp only [h1,cond_false,k1],k2,k3,k4,k5⟩
 | block id b ih=>
  intro g M R s N Rt X r hK ms e h g0 S hz
  obtain ⟨x,s1,n,e1,g1,h1,ms1,k1,k2,k3,k4,k5⟩:=ih _ _ _ _ _ _ _ _ hK ms e h g0 S hz
  cases x with
  | normal=>exact ⟨.normal,s1,n+1,e1,g1,h1,ms1,by show run F (n+1) (.block id b.er) e g0=_; rw [ak]; simp only [k1],k2,k3,k4,k5⟩
  | ret=>exact ⟨.ret,s1,n+1,e1,g1,h1,ms1,by show run F (n+1) (.block id b.er) e g0=_; rw [ak]; simp only [k1],k2,k3,k4,k5⟩
  | exit i=>
   have k5:(bif Nat.beq i id then N s1 else X i s1)=some r:=k5
   cases hb:Nat.beq i id with
   | true=>
    obtain rfl:=Nat.eq_of_beq_eq_true hb
    rw [hb,cond_true] at k5
    exact ⟨.normal,s1,n+1,e1,g1,h1,ms1,by show run F (n+1) (.block i b.er) e g0=_; rw [ak]; simp only [k1,if_true],k2,k3,k4,k5⟩
   | false=>
    rw [hb,cond_false] at k5
    exact ⟨.exit i,s1,n+1,e1,g1,h1,ms1,by show run F (n+1) (.block id b.er) e g0=_; rw [ak]; simp only [k1,if_neg (Nat.ne_of_beq_eq_false hb)],k2,k3,k4,k5⟩
 | region ops=>
  intro g M R s N Rt X r hK ms e h g0 S hz
  obtain ⟨s',xs,n,e',h1,h',k1,k2,k3,k4,k5⟩:=mu hC ops S hz hK
  exact ⟨.normal,s',n+1,e',h1,h',_,by show run F (n+1) (.region ops) e g0=_; rw [ak]; simp only [k2],k3,k4,RoM.app k5 S.len,k1⟩
 | dreg ops ps=>
  intro g M R s N Rt X r hK ms e h g0 S hz
  have hK:(bif ps.isEmpty then zF H C ops s N else xM H C ps ops [] s N)=some r:=hK
  cases hp:ps.isEmpty with
  | true=>
   rw [hp,cond_true] at hK
   obtain rfl:=List.isEmpty_iff.1 hp
   obtain ⟨s',xs,n,e',h1,h',k1,k2,k3,k4,k5⟩:=mu hC ops S hz hK
   exact ⟨.normal,s',n+1,e',h1,h',_,by show run F (n+1) (.dregion ops []) e g0=_; rw [ak]; simp only [k2,List.all_nil,cond_true],k3,k4,RoM.app k5 S.len,k1⟩
  | false=>
   rw [hp,cond_false] at hK
   obtain ⟨s',xs,n,e',h1,h',en,bs,k1,k2,k3,k4,k5,k6,k7⟩:=qt hC ops [] S hz hK
   have hall:ps.all (aQ ops (trace (aI F n) ops e g0))=true:=by
    rw [List.all_eq_true] at k7 ⊢
    exact fun p hp=>k6.chk (k7 p hp)
   exact ⟨.normal,s',n+1,e',h1,h',_,by show run F (n+1) (.dregion ops ps) e g0=_; rw [ak]; simp only [k2,hall,cond_true],k3,k4,RoM.app k5 S.len,k1⟩
 | loop c l o b ih=>
  intro g M R s N Rt X r hK ms e h g0 S hz
  simp only [vc] at hK
  cases hc:(clS s&&clB (roS s)&&okI (cU c) c&&okI (cU l) l&&kM c (roS s)) with
  | false=>rw [hc] at hK; cases hK
  | true=>
   rw [hc,cond_true] at hK
   simp only [Bool.and_eq_true] at hc
   obtain ⟨⟨⟨⟨c1,c2⟩,c3⟩,c4⟩,c5⟩:=hc
   have ro1:Ro s (roS s):=(S.roS c1).2
   obtain ⟨y,s1,h1,amc,Γc,hK,u2,u3,u4,u5⟩:=dB hK S
   obtain ⟨x,s2,h2,aml,Γl,hK,v2,v3,v4,v5⟩:=dB hK u3
   rw [List.append_nil] at v3
   cases hd:(clB (cH true c y (roS s))&&kM l (cH true c y (roS s))&&pd o (cH false c y (roS s))) with
   | false=>rw [hd] at hK; cases hK
   | true=>
    rw [hd,cond_true] at hK
    simp only [Bool.and_eq_true] at hd
    obtain ⟨⟨d1,d2⟩,d3⟩:=hd
    obtain ⟨q,hq,hK⟩:=obI hK
    obtain ⟨n,hq⟩:=Lp.ok hq
    have S1:=v3.base (((pH s).trans u5.ro).trans v5.ro) c2
    have S2:VSim g M (Γc++(Γl++[])) (roS s) (ms.take (roS s).ps.length) e h2:=S1.with (by
     rw [List.append_nil]
     exact S1.st.perm (List.perm_append_comm.append_right _))
    obtain ⟨S3,r3⟩:=S2.mk1 (ro:=true) (Mat.mono v2.hz u4) c3 c5
    obtain ⟨S4,r4⟩:=S3.mk1 (ro:=false) v4 c4 d2
    obtain ⟨k,l',x',xx,m,e',g1,h',ms',q1,q2,q3,q4,q5,q6,q7⟩:=pw (F:=F) ih c2 d1 c4 c5 d2 d3 n x _ e h2 g0 hq S4 ((hz.trans u2).trans v2)
    rw [q4] at hK
    refine ⟨xx,_,m,e',g1,h',ms',q1,q2,q3,⟨(ro1.trans (Ro.mk1 c5)).trans (Ro.mk1 (ke d3 q5).2),fun j p hj=>?_⟩,?_⟩
    ·rw [q7 j p (ro1.p j p hj)]
     have hj2:=ro1.p j p hj
     obtain ⟨z,hz⟩:=bv S1.len hj2
     rw [aH (aH hz)]
     rw [aM,List.getElem?_take_of_lt (iu hj2),← aM] at hz
     exact hz.symm
    subst q6
    cases k with
    | none=>exact hK
    | some i=>exact hK
end
end Go.Am
namespace Go.Am
open Go
structure FSp where
 pr:List (Bool×List In)
 pt:List In
 io:List Nat
 lr:List In
def prL:Nat→List (Bool×List In)→List In
 | _,[]=>[]
 | i,(a,ls)::l=>.ld i a::(ls++(.slot i a::prL (i+1) l))
def FSp.lp (p:FSp):List In:=prL 0 p.pr++p.pt
def wrO (t:Nat):List AOper→Bool
 | []=>false
 | o::os=>(match o.dst with
  | some d=>Nat.beq d t
  | none=>false)||wrO t os
def wrC (t:Nat):ACode→Bool
 | .seq a b=>wrC t a||wrC t b
 | .cond _ a b=>wrC t a||wrC t b
 | .block _ b=>wrC t b
 | .loop b=>wrC t b
 | .region ops=>wrO t ops
 | .dregion ops _=>wrO t ops
 | _=>false
theorem jJ {cf:aR} {t:Nat}:∀ (os:List AOper) {e e':Env} {h h':Heap},wrO t os=false→ay cf os e h=some (e',h')→e'.get t=e.get t
 | [],e,e',h,h',_,hr=>by cases hr; rfl
 | o::os,e,e',h,h',hw,hr=>by
  simp only [wrO,Bool.or_eq_false_iff] at hw
  simp only [ay] at hr
  cases hs:aF cf o e h with
  | none=>rw [hs] at hr; cases hr
  | some p=>
   obtain ⟨e1,h1⟩:=p
   rw [hs] at hr
   rw [jJ os hw.2 hr]
   have put:∀ v,(putE e o.dst v).get t=e.get t:=fun v=>by
    cases hd:o.dst with
    | none=>rfl
    | some d=>
     have hw1:=hw.1
     rw [hd] at hw1
     have hw1:Nat.beq d t=false:=hw1
     show (e.set d v).get t=_
     rw [T.get_set,if_neg fun e=>Nat.ne_of_beq_eq_false hw1 e.symm]
   unfold aF at hs
   split at hs
   ·cases hs
   ·cases hs; exact put _
   split at hs
   ·cases hs
   split at hs
   ·cases hs
   cases hs; exact put _
theorem cL {F:Nat→Option AFn} {t:Nat}:∀ (n:Nat) (c:ACode) {e e':Env} {h h':Heap} {x:AX},wrC t c=false→run F n c e h=some (x,e',h')→e'.get t=e.get t
 | 0,c,e,e',h,h',x,_,hr=>by cases hr
 | n+1,c,e,e',h,h',x,hw,hr=>by
  rw [ak] at hr
  cases c with
  | skip=>cases hr; rfl
  | exit i=>cases hr; rfl
  | ret=>cases hr; rfl
  | seq a b=>
   simp only [wrC,Bool.or_eq_false_iff] at hw
   simp only at hr
   cases h1:run F n a e h with
   | none=>rw [h1] at hr; cases hr
   | some q=>
    obtain ⟨y,e1,h2⟩:=q
    rw [h1] at hr
    have k1:=cL n a hw.1 h1
    cases y with
    | normal=>rw [cL n b hw.2 hr,k1]
    | ret=>cases hr; exact k1
    | exit i=>cases hr; exact k1
  | cond c a b=>
   simp only [wrC,Bool.or_eq_false_iff] at hw
   simp only at hr
   split at hr
   ·rename_i d _
    cases d
    ·exact cL n b hw.2 hr
    exact cL n a hw.1 hr
   cases hr
  | block i b=>
   simp only [wrC] at hw
   simp only at hr
   cases h1:run F n b e h with
   | none=>rw [h1] at hr; cases hr
   | some q=>
    obtain ⟨y,e1,h2⟩:=q
    rw [h1] at hr
    have k1:=cL n b hw h1
    cases y with
    | normal=>cases hr; exact k1
    | ret=>cases hr; exact k1
    | exit j=>
     simp only at hr
     split at hr<;>cases hr<;>exact k1
  | loop b=>
   simp only at hr
   cases h1:run F n b e h with
   | none=>rw [h1] at hr; cases hr
   | some q=>
    obtain ⟨y,e1,h2⟩:=q
    rw [h1] at hr
    have k1:=cL n b (by simpa only [wrC] using hw) h1
    cases y with
    | normal=>rw [cL n (.loop b) hw hr,k1]
    | ret=>cases hr; exact k1
    | exit i=>cases hr; exact k1
  | region ops=>
   simp only at hr
   split at hr
   ·rename_i e1 h1 ho
    cases hr
    exact jJ ops hw ho
   cases hr
  | dregion ops ps=>
   simp only at hr
   split at hr
   ·rename_i e1 h1 ho
    cases hb:ps.all (aQ ops (trace (aI F n) ops e h)) with
    | false=>rw [hb] at hr; cases hr
    | true=>
     rw [hb] at hr
     cases hr
     exact jJ ops hw ho
   cases hr
section
variable {T:TE} {R:Type}
def tR (s:VS T):List ARes→(List (V1 T)→Option R)→Option R
 | [],K=>K []
 | .tmp t::rs,K=>match lx s.e (.tmp t) with
  | some (.v x)=>tR s rs fun l=>K (x::l)
  | _=>none
 | .cell1 t::rs,K=>match lx s.e (.tmp t) with
  | some (.v (.w w))=>ldA s (fun sv _=>match sv with
   | .v x=>tR s rs fun l=>K (x::l)
   | _=>none) w
  | _=>none
 | .cellN t n::rs,K=>match lx s.e (.tmp t) with
  | some (.v (.w w))=>ldN s n (fun sv _=>match sv with
   | .v x=>tR s rs fun l=>K (x::l)
   | _=>none) w
  | _=>none
def ioV (s:VS T):List Nat→(List (V1 T)→Option R)→Option R
 | [],K=>K []
 | i::is,K=>match lx s.e (.tmp i) with
  | some (.v x)=>ioV s is fun l=>K (x::l)
  | _=>none
def numb:Nat→List (V1 T)→nA T
 | _,[]=>[]
 | i,x::l=>(i,.v x)::numb (i+1) l
def yS (p:FSp) (res:List ARes) (s:VS T):Option (DN T.S (DS p.lr)):=tR s res fun vs=>ioV s p.io fun ws=>oz p.lr ⟨numb 0 (vs++ws),s.ps⟩ fun y _=>some (toN _ y)
noncomputable def vfn (Lp:LP) (H:List (Nat×VT)) (C:cC T) (p:FSp) (res:List ARes) (c:VC) (x:DN T.S (DS p.lp)):Option (DN T.S (DS p.lr)):=
 bif okI (cU p.lp) p.lp&&p.io.all (fun t=>!wrC t c.er)&&Nat.beq (res.length+p.io.length) (bu p.lr).length then vc Lp H C c (DN T.S (DS p.lr)) (cH false p.lp (ofN _ x) ⟨[],[]⟩) (yS p res) (yS p res) (fun _ _=>none) else none
variable {F:Nat→Option AFn} {g:Heap} {M:Nat→Prop}
theorem oU {B:Hp} {ps:List (Part T)} {ms:List AV} {h:Heap}:∀ (l:List (V1 T)) (as:List AV) (i:Nat),All2 (fR B ps ms h) l as→∀ k sv,lk (numb i l) k=some sv→∃ v x,i≤k∧as[k - i]? = some v∧sv=.v x∧fR B ps ms h x v
 | [],as,i,hr,k,sv,hk=>by cases hk
 | x::l,as,i,hr,k,sv,hk=>by
  cases hr with
  | cons p q=>
   rename_i a as
   have hk:(bif Nat.beq i k then some (SV.v x) else lk (numb (i+1) l) k)=some sv:=hk
   cases hb:Nat.beq i k with
   | true=>
    obtain rfl:=Nat.eq_of_beq_eq_true hb
    rw [hb] at hk
    cases hk
    exact ⟨a,x,Nat.le_refl _,by simp,rfl,p⟩
   | false=>
    rw [hb] at hk
    obtain ⟨v,y,h1,h2,h3,h4⟩:=oU l as (i+1) q k sv hk
    refine ⟨v,y,by omega,?_,h3,h4⟩
    rw [show k - i=(k - (i+1))+1 by omega,List.getElem?_cons_succ]
    exact h2
theorem jy {s:VS T} {ms:List AV} {e:Env} {h:Heap} (S:VSim g M [] s ms e h):∀ (rs:List ARes) {K:List (V1 T)→Option R} {r:R},tR s rs K=some r→∃ l as,K l=some r∧resAll e h rs=some as∧All2 (fR (Bo g M) s.ps ms h) l as
 | [],K,r,hK=>⟨[],[],hK,rfl,.nil⟩
 | .tmp t::rs,K,r,hK=>by
  simp only [tR] at hK
  split at hK
  ·rename_i x hx
   obtain ⟨a,h1,h2⟩:=cm S hx
   obtain ⟨l,as,k1,k2,k3⟩:=jy S rs hK
   exact ⟨x::l,a::as,k1,by simp only [resAll,resOne,show e.get t=some a from h1,k2],.cons h2 k3⟩
  cases hK
 | .cell1 t::rs,K,r,hK=>by
  simp only [tR] at hK
  split at hK
  ·rename_i w hx
   obtain ⟨a,h1,h2⟩:=cm S hx
   obtain ⟨sv,v,k1,k2,k3⟩:=qW S h2.1 hK
   cases sv with
   | v x=>
    obtain ⟨l,as,q1,q2,q3⟩:=jy S rs k1
    exact ⟨x::l,v::as,q1,by simp only [resAll,resOne,show e.get t=some a from h1,k2,q2],.cons k3 q3⟩
   | _=>cases k1
  cases hK
 | .cellN t n::rs,K,r,hK=>by
  simp only [tR] at hK
  split at hK
  ·rename_i w hx
   obtain ⟨a,h1,h2⟩:=cm S hx
   obtain ⟨sv,v,k1,k2,k3⟩:=oO S h2.1 hK
   cases sv with
   | v x=>
    obtain ⟨l,as,q1,q2,q3⟩:=jy S rs k1
    exact ⟨x::l,v::as,q1,by simp only [resAll,resOne,show e.get t=some a from h1,k2,q2],.cons k3 q3⟩
   | _=>cases k1
  cases hK
theorem tN {s:VS T} {ms:List AV} {e:Env} {h:Heap} (S:VSim g M [] s ms e h):∀ (is:List Nat) {K:List (V1 T)→Option R} {r:R},ioV s is K=some r→∃ l as,K l=some r∧All2 (fun i a=>e.get i=some a) is as∧All2 (fR (Bo g M) s.ps ms h) l as
 | [],K,r,hK=>⟨[],[],hK,.nil,.nil⟩
 | i::is,K,r,hK=>by
  simp only [ioV] at hK
  split at hK
  ·rename_i x hx
   obtain ⟨a,h1,h2⟩:=cm S hx
   obtain ⟨l,as,k1,k2,k3⟩:=tN S is hK
   exact ⟨x::l,a::as,k1,.cons h1 k2,.cons h2 k3⟩
  cases hK
theorem VSim.numb {Γ:List Ch} {s:VS T} {ms:List AV} {e:Env} {h:Heap} (S:VSim g M Γ s ms e h) {l:List (V1 T)} {as:List AV} (hr:All2 (fR (Bo g M) s.ps ms h) l as):VSim g M Γ ⟨Am.numb 0 l,s.ps⟩ ms (cG 0 as .nil) h:=by
 refine ⟨S.len,S.st,fun k sv hk=>?_⟩
 obtain ⟨v,x,h1,h2,rfl,h4⟩:=oU l as 0 hr k sv hk
 rw [Nat.sub_zero] at h2
 refine ⟨v,?_,h4⟩
 rw [bo,if_pos ⟨Nat.zero_le _,by have:=(List.getElem?_eq_some_iff.1 h2).1; omega⟩,Nat.sub_zero]
 exact h2
theorem vT {p:FSp} {res:List ARes} {s:VS T} {ms:List AV} {e:Env} {h:Heap} (S:VSim g M [] s ms e h) {y:DN T.S (DS p.lr)} (hK:yS p res s=some y) :
  ∃ as ws am Γ h',resAll e h res=some as∧All2 (fun i a=>e.get i=some a) p.io ws∧Fz h h'∧St g M Γ h'∧Mat (Bo g M) am (cG 0 (as++ws) .nil) h' p.lr (ofN _ y) 0 [] Γ:=by
 unfold yS at hK
 obtain ⟨l,as,hK,k2,k3⟩:=jy S _ hK
 obtain ⟨l2,ws,hK,q2,q3⟩:=tN S _ hK
 obtain ⟨x,s',h',am,Γ,w1,w2,w3,w4,w5⟩:=dB hK (S.numb (k3.append' q3))
 cases w1
 rw [List.append_nil] at w3
 exact ⟨as,ws,am,Γ,h',k2,q2,w2,w3.st.dropR,by rw [ft]; exact w4⟩
theorem nb {α β:Type} {P:α→β→Prop}:∀ {l:List α} {m:List β},All2 P l m→All2 (fun a b=>a∈l∧P a b) l m
 | _,_,.nil=>.nil
 | _,_,.cons p q=>.cons ⟨List.mem_cons_self ..,p⟩ ((nb q).imp fun a b k=>⟨List.mem_cons_of_mem _ k.1,k.2⟩)
theorem iQ {e:Env} {h:Heap}:∀ (rs:List ARes) {as:List AV},resAll e h rs=some as→as.length=rs.length
 | [],as,hr=>by cases hr; rfl
 | r::rs,as,hr=>by
  simp only [resAll] at hr
  split at hr
  ·cases hr
  split at hr
  ·cases hr
  rename_i vs hv
  cases hr
  rw [List.length_cons,List.length_cons,iQ rs hv]
def aC (F:Nat→Option AFn) (T:TE) (f:Nat) (p:FSp) (np:Nat) (fn:DN T.S (DS p.lp)→Option (DN T.S (DS p.lr))):Prop:=
 ∀ (x:T.H (DS p.lp)) (y:DN T.S (DS p.lr)),fn (toN _ x)=some y→∀ (g:Heap) (M:Nat→Prop) (h g0:Heap) (xs:List AV) (am:Nat→AV) (Γ:List Ch),xs.length=np→St g M Γ h→Mat (Bo g M) am (cG 0 xs .nil) h p.lp x 0 [] Γ→Fz g0 h→
  ∃ n v g1 h' as ws am' Γ',aI F n f xs g0=some (v,g1)∧Fz g1 h'∧v=one as∧as.length+ws.length=(bu p.lr).length∧All2 (fun i a=>xs[i]? = some a) p.io ws∧St g M Γ' h'∧Mat (Bo g M) am' (cG 0 (as++ws) .nil) h' p.lr (ofN _ y) 0 [] Γ'
theorem au {Lp:LP} {H:List (Nat×VT)} {C:cC T} (hC:cI F C) {f:Nat} {fn:AFn} {p:FSp} {c:VC} (hF:F f=some fn) (hc:fn.code=c.er):aC F T f p fn.np (vfn Lp H C p fn.res c):=by
 intro x y hK g M h g0 xs am Γ hl S hM hz
 unfold vfn at hK
 cases hb:(okI (cU p.lp) p.lp&&p.io.all (fun t=>!wrC t c.er)&&Nat.beq (fn.res.length+p.io.length) (bu p.lr).length) with
 | false=>rw [hb] at hK; cases hK
 | true=>
  rw [hb,cond_true,ft] at hK
  rw [Bool.and_eq_true,Bool.and_eq_true,List.all_eq_true] at hb
  obtain ⟨hb,hb3⟩:=hb
  have hb3:=Nat.eq_of_beq_eq_true hb3
  have S0:VSim g M (Γ++[]) (⟨[],[]⟩:VS T) [] (cG 0 xs .nil) h:=⟨rfl,by rw [List.append_nil]; exact S.perm (by simp [chs]),fun k sv hk=>by cases hk⟩
  have hd:kM p.lp (⟨[],[]⟩:VS T)=true:=by
   unfold kM
   rw [List.all_eq_true]
   intro k _
   rfl
  obtain ⟨S1,_⟩:=S0.mk1 (ro:=false) hM hb.1 hd
  obtain ⟨xx,s',n,e',g1,h',ms',k1,k2,k3,k4,k5⟩:=AW hC c _ _ _ _ _ _ _ _ hK _ _ h g0 S1 hz
  have key:yS p fn.res s'=some y→∃ n v g1 h' as ws am' Γ',aI F n f xs g0=some (v,g1)∧Fz g1 h'∧v=one as∧as.length+ws.length=(bu p.lr).length∧All2 (fun i a=>xs[i]? = some a) p.io ws∧St g M Γ' h'∧Mat (Bo g M) am' (cG 0 (as++ws) .nil) h' p.lr (ofN _ y) 0 [] Γ':=by
   intro hf
   obtain ⟨as,ws,am',Γ',h2,w1,w2,w3,w4,w5⟩:=vT k3 hf
   have hres:resAll e' g1 fn.res=some as:=by rw [k2.resAll]; exact w1
   have hro:resOf e' g1 fn.res=some (one as):=by
    unfold resOf
    rw [hres]
    cases as with
    | nil=>rfl
    | cons a as=>cases as<;>rfl
   refine ⟨n,one as,g1,h2,as,ws,am',Γ',?_,k2.trans w3,rfl,by rw [iQ _ hres,← w2.len,hb3],?_,w4,w5⟩
   ·unfold aI
    rw [hF]
    simp only [if_pos hl,hc,k1]
    cases xx with
    | normal=>simp only [hro]
    | ret=>simp only [hro]
    | exit i=>cases k5
   have:∀ i,i∈p.io→e'.get i=(cG 0 xs .nil).get i:=fun i hi=>cL n c.er (by simpa using hb.2 i hi) k1
   refine (nb w2).imp fun i a ⟨hi,ha⟩=>?_
   rw [this i hi,bo] at ha
   split at ha
   ·rw [Nat.sub_zero] at ha; exact ha
   rw [Go.Am.T.get_nil] at ha; cases ha
  cases xx with
  | normal=>exact key k5
  | ret=>exact key k5
  | exit i=>cases k5
end
end Go.Am
namespace Go.Am
open Go
section
variable {T:TE} {R:Type}
def te:W T→List Nat
 | .r k=>[k]
 | .ptr k _=>[k]
 | .ic _ k=>[k]
 | _=>[]
def pc:List In→List (W T)→List Nat
 | .r _::l,w::ws=>te w++pc l ws
 | .ptr _ _::l,w::ws=>te w++pc l ws
 | .ic _ _::l,w::ws=>te w++pc l ws
 | _::l,_::ws=>pc l ws
 | _,_=>[]
def yd:List (Bool×List In)→List (V1 T)→List Nat
 | p::ps,x::xs=>pc p.2 (ci x)++yd ps xs
 | _,_=>[]
def qQ (ps:List (Part T)):List Nat→List Nat
 | []=>[]
 | k::ks=>(match nth ps k with
  | some (.row ws)=>ws.flatMap te
  | _=>[])++qQ ps ks
def Ag (ps:List (Part T)):Nat→List Nat→List Nat
 | 0,_=>[]
 | _+1,[]=>[]
 | n+1,ks=>ks++Ag ps n (qQ ps ks)
def nY:List Nat→VS T→List (Nat×Part T)→(VS T→List (Nat×Part T)→Option R)→Option R
 | [],s,acc,K=>K s acc
 | k::L,s,acc,K=>match nth s.ps k with
  | none=>none
  | some .dead=>nY L s acc K
  | some (.ro _)=>none
  | some p=>nY L (s.kill k) ((k,p)::acc) K
def frP:Nat→List (Nat×Part T)→List (Part T)
 | n,[]=>List.replicate n .dead
 | n,(k,p)::acc=>(frP n acc).set k p
def rJ (gg:(t:VT)→Nat→(Option (T.D t)→Option R)→Option R) (s:VS T):(t:VT)→W T→(T.D t→Option R)→Option R
 | .int k,w,K=>match w with
  | .d _ t x=>cast1 x (.int k) K
  | _=>none
 | .bool,w,K=>match w with
  | .d _ t x=>cast1 x .bool K
  | .b p i=>K (@decide p i)
  | .c (.bool b)=>K b
  | _=>none
 | .str,w,K=>match w with
  | .d _ t x=>cast1 x .str K
  | _=>none
 | .sl o u,w,K=>match w with
  | .d _ (.sl _ t) x=>fc x u K
  | .c .nilSlice=>K []
  | .r k=>match lkP s.ps k with
   | some (.sl t l)=>fc l u K
   | _=>none
  | _=>none
 | .pt u,w,K=>match w with
  | .c .nilPtr=>K none
  | .d _ (.pt t) q=>kW q u K
  | .r k=>gg u k K
  | .ptr k 0=>gg u k K
  | _=>none
 | .ic n u,w,K=>match w with
  | .c .nilIface=>K none
  | .ic m k=>bif Nat.beq m n then gg u k K else none
  | .r k=>match lkP s.ps k with
   | some (.io m t q)=>bif Nat.beq m n then kW q u K else none
   | _=>none
  | _=>none
 | .mp a b,w,K=>match w with
  | .c .nilMap=>bif a.mpOk b then K none else none
  | .r k=>match lkP s.ps k with
   | some (.mp a' b' m)=>cast1 (t:=.mp a' b') m (.mp a b) K
   | _=>none
  | _=>none
 | .st _,_,_=>none
end
section
variable {T:TE}
mutual
def sJ {R:Type} (s:VS T):Nat→(ts:List VT)→List (W T)→(T.H ts→Option R)→Option R
 | 0,_,_,_=>none
 | _+1,[],[],K=>K ()
 | n+1,t::ts,w::ws,K=>rJ (R:=R) (fun u k K=>bclP s n u k K) s t w fun x=>sJ s n ts ws fun y=>K (x,y)
 | _+1,_,_,_=>none
def bclP {R:Type} (s:VS T):Nat→(t:VT)→Nat→(Option (T.D t)→Option R)→Option R
 | 0,_,_,_=>none
 | n+1,u,k,K=>match lkP s.ps k with
  | some (.po t q)=>kW q u K
  | some (.row ws)=>sJ s n (T.lv u) ws fun x=>K (some (T.re u x))
  | _=>none
end
variable {R:Type}
def bcl (s:VS T) (t:VT) (w:W T) (K:T.D t→Option R):Option R:=sJ s fuel [t] [w] fun x=>K x.1
def AS (s:VS T) (t:VT) (k off:Nat) (K:W T→Option R):Option R:=bclP s fuel t k fun q=>q.bind fun x=>K (.ed false t x off)
def brW (s:VS T):In→W T→(W T→Option R)→Option R
 | .d false t,w,K=>bcl s t w fun x=>K (.d false t x)
 | .e false t off,w,K=>match w with
  | .r k=>AS s t k 0 K
  | .ptr k o=>AS s t k o K
  | .ed _ t' x o=>K (.ed false t' x o)
  | .d _ (.pt t') q=>q.bind fun x=>K (.ed false t' x 0)
  | _=>none
 | _,.el _ _ _ _ _,K=>K .bad
 | _,w,K=>K w
def brL (s:VS T):List In→List (W T)→(List (W T)→Option R)→Option R
 | [],[],K=>K []
 | i::l,w::ws,K=>brW s i w fun w=>brL s l ws fun ws=>K (w::ws)
 | _,_,_=>none
def brA (s:VS T):List (Bool×List In)→List (V1 T)→(List (V1 T)→Option R)→Option R
 | [],[],K=>K []
 | p::ps,x::xs,K=>match x with
  | .w w=>brL s p.2 [w] fun ws=>brA s ps xs fun xs=>K (xW ws::xs)
  | .agg l=>brL s p.2 l fun ws=>brA s ps xs fun xs=>K (.agg ws::xs)
 | _,_,_=>none
def W.ren (k k':Nat):W T→W T
 | .r j=>.r (bif Nat.beq j k then k' else j)
 | .ptr j o=>.ptr (bif Nat.beq j k then k' else j) o
 | .ic n j=>.ic n (bif Nat.beq j k then k' else j)
 | w=>w
def sM:List (SV T)→Option (List (V1 T))
 | []=>some []
 | .v x::xs=>match sM xs with
  | some l=>some (x::l)
  | none=>none
 | _=>none
def ul:W T→W T→Option (Nat×Nat)
 | .r k,.r k'=>some (k,k')
 | .ptr k _,.ptr k' _=>some (k,k')
 | .ic _ k,.ic _ k'=>some (k,k')
 | .r k,.ptr k' 0=>some (k,k')
 | .ptr k 0,.r k'=>some (k,k')
 | _,_=>none
def tY (s:VS T):List (V1 T)→List (V1 T)→(VS T→Option R)→Option R
 | [],[],K=>K s
 | .w a::xs,.w b::ys,K=>match ul a b with
  | some (k,k')=>tY (s.sub (W.ren k k')) xs ys K
  | none=>none
 | _,_,_=>none
def AM:List (Nat×SV T)→Option (List (V1 T))
 | []=>some []
 | (_,.v x)::l=>match AM l with
  | some xs=>some (x::xs)
  | none=>none
 | _=>none
def Cz:List (V1 T)→SV T
 | [x]=>.v x
 | l=>.tup l
def pick:List Nat→List (V1 T)→Option (List (V1 T))
 | [],_=>some []
 | i::is,l=>match nth l i,pick is l with
  | some x,some xs=>some (x::xs)
  | _,_=>none
def tx:List In→Bool
 | []=>true
 | .d z t::l=>(z||t.flat)&&tx l
 | .e z _ _::l=>z&&tx l
 | _::l=>tx l
def xN:Nat→List In→Bool
 | _,[]=>true
 | n,.slot k _::l=>Nat.beq k n&&xN (n+1) l
 | n,_::l=>xN n l
def xn:List In→List (W T)→List Nat
 | .d true (.sl false _)::l,.r k::ws=>k::xn l ws
 | _::l,_::ws=>xn l ws
 | _,_=>[]
def yR:List (Bool×List In)→List (V1 T)→List Nat
 | p::ps,x::xs=>xn p.2 (ci x)++yR ps xs
 | _,_=>[]
def gM:List Nat→List (V1 T)→VS T→(List (V1 T)→VS T→Option R)→Option R
 | [],vs,s,K=>K vs s
 | k::ks,vs,s,K=>match nth s.ps k with
  | some (.sl t l)=>gM ks (vs.map (V1.map (W.frz k t l))) (s.frz k t l) K
  | _=>gM ks vs s K
def lR:List In→List (W T)→List Nat
 | .ptr _ 0::l,.r k::ws=>k::lR l ws
 | _::l,_::ws=>lR l ws
 | _,_=>[]
def nX:List (Bool×List In)→List (V1 T)→List Nat
 | p::ps,x::xs=>lR p.2 (ci x)++nX ps xs
 | _,_=>[]
def W.opp (k:Nat):W T→W T
 | .r j=>bif Nat.beq j k then .ptr k 0 else .r j
 | w=>w
def rP:List Nat→List (V1 T)→VS T→(List (V1 T)→VS T→Option R)→Option R
 | [],vs,s,K=>K vs s
 | k::ks,vs,s,K=>ub k s fun s=>rP ks (vs.map (V1.map (W.opp k))) s K
def qV (p:FSp) (fn:DN T.S (DS p.lp)→Option (DN T.S (DS p.lr))) (vs:List (V1 T)) (s:VS T) (K:SV T→VS T→Option R):Option R:=nY (Ag s.ps 6 (yd p.pr vs)) s [] fun s1 acc=>brA s1 p.pr vs fun ws=>oz p.lp ⟨numb 0 ws,frP s.ps.length acc⟩ fun x _=>
   (fn (toN _ x)).bind fun y=>bif okI (cU p.lr) p.lr&&tx p.lr&&xN 0 p.lr then
    match AM (mkE false s1.ps.length p.lr (ofN _ y) []),pick p.io vs with
    | some rs,some os=>tY (⟨s1.e,s1.ps++mkP false s1.ps.length p.lr (ofN _ y) []⟩) os (rs.drop (rs.length - p.io.length)) fun s2=>K (Cz (rs.take (rs.length - p.io.length))) s2
    | _,_=>none
   else none
def wZ (p:FSp) (fn:DN T.S (DS p.lp)→Option (DN T.S (DS p.lr))) (xs:List (SV T)) (s:VS T) (K:SV T→VS T→Option R):Option R:=
 match sM xs with
 | none=>none
 | some vs=>rP (nX p.pr vs) vs s fun vs s=>gM (yR p.pr vs) vs s fun vs s=>qV p fn vs s K
end
end Go.Am
namespace Go.Am
open Go
section
variable {T:TE} {g:Heap} {M:Nat→Prop} {h:Heap}
theorem uQ {B B':Hp} (hb:Hp.le B B'):∀ z,Hp.le (zG B h z) (zG B' h z)
 | true=>Hp.le_refl _
 | false=>hb
theorem qI {B B':Hp} (hb:Hp.le B B') {ms:List AV}:∀ (w:W T) {a:AV},bF B ms h w a→bF B' ms h w a
 | .bad,_,r=>r
 | .c v,_,r=>r
 | .d z t x,_,r=>(T.r t).mono (uQ hb z) r
 | .b p i,_,r=>r
 | .r k,_,r=>r
 | .ic n k,_,r=>r
 | .ptr k off,_,r=>r
 | .el _ _ _ _ _,_,r=>r.elim
 | .ed z t x off,_,⟨o,v,base,row,r1,r2,r3,r4⟩=>⟨o,v,base,row,uQ hb z _ _ _ r1,r2,(T.r t).mono (uQ hb z) r3,r4⟩
theorem t8 {B B':Hp} (hb:Hp.le B B') {ms:List AV} {a:AV}:∀ (p:Part T) (fp:List Nat),(dt B ms a p).P h fp→(dt B' ms a p).P h fp
 | .dead,fp,k=>k
 | .sl t l,fp,k=>k
 | .po t q,fp,k=>k
 | .io n t q,fp,k=>k
 | .mp _ _ _,fp,k=>k
 | .ho _ _ _,fp,k=>k
 | .ro p,fp,k=>t8 hb p fp k
 | .row ws,fp,⟨o,v,cs,e,e2,hg,hr⟩=>⟨o,v,cs,e,e2,hg,hr.imp fun w a k=>⟨qI hb w k.1,k.2⟩⟩
def kP (B B':Hp) (ms:List AV) (h:Heap) (ps:List (Part T)):Prop:=∀ k p a,lkP ps k=some p→nth ms k=some a→∃ f,(dt B ms a p).P h f∧Hp.le (Loc h f) B'
theorem CX {G:Hp} {t:VT} {cs:List AV} {x:T.H (T.lv t)} (hr:(oHL T.o (T.lv t)).rep.R G cs x):(T.r t).R G cs (T.re t x):=by
 have key:∀ {u:VT} (x:T.H [u]),(oHL T.o [u]).rep.R G cs x→(T.r u).R G cs x.1:=by
  rintro u x ⟨a,b,rfl,h1,h2⟩
  have h2:b=[]:=List.eq_nil_of_length_eq_zero ((rU).len h2)
  subst h2
  rw [List.append_nil]
  exact h1
 cases t with
 | st k=>
  show (T.w (.st k)).rep.R G cs _
  have e:T.w (.st k)=oC (oHL T.o (T.fl k)) (T.to k):=T.o_eq k
  rw [e]
  show (oHL T.o (T.fl k)).rep.R G cs (T.to k (T.of k x))
  rw [T.to_of]
  exact hr
 | _=>exact key x hr
theorem vS {a b:VT} (hk:a.mpOk b=true) (h:Heap) {G:Hp}:(T.r (.mp a b)).R G [.nilMap] none:=by
 cases a<;>cases b<;>first | (cases hk; done) | exact ⟨_,rfl,rfl⟩
theorem wQ {R:Type} {B B':Hp} {s:VS T} {ms:List AV} (hz:∀ z,Hp.le (zG B h z) B') (hA:kP B B' ms h s.ps) {gg:(t:VT)→Nat→(Option (T.D t)→Option R)→Option R}
  (hg:∀ (u:VT) (k:Nat) (K:Option (T.D u)→Option R) (r:R),gg u k K=some r→∀ {a:AV},nth ms k=some a→∃ q,K q=some r∧(T.r (.pt u)).R B' [a] q) :
  ∀ (t:VT) (w:W T) (K:T.D t→Option R) (r:R),rJ gg s t w K=some r→∀ {a:AV},f7 B ms h w a→∃ x,K x=some r∧(T.r t).R B' [a] x:=by
 intro t w K r hK a hr
 cases t with
 | int k=>
  cases w<;>simp only [rJ] at hK<;>try cases hK
  rename_i z t x
  obtain ⟨rfl,hK⟩:=a8 hK
  exact ⟨_,hK,hr⟩
 | bool=>
  cases w<;>simp only [rJ] at hK<;>try cases hK
  ·rename_i v
   cases v<;>simp only at hK<;>try cases hK
   have hr:a=.bool _:=hr
   subst hr
   exact ⟨_,hK,rfl⟩
  ·rename_i z t x
   obtain ⟨rfl,hK⟩:=a8 hK
   exact ⟨_,hK,hr⟩
  rename_i p i
  have hr:a=.bool (@decide p i):=hr
  subst hr
  exact ⟨_,hK,rfl⟩
 | str=>
  cases w<;>simp only [rJ] at hK<;>try cases hK
  rename_i z t x
  obtain ⟨rfl,hK⟩:=a8 hK
  exact ⟨_,hK,hr⟩
 | sl o u=>
  have toO:∀ {l:List (T.D u)},(rSl (T.w u).rep).R B' [a] l→(T.r (.sl o u)).R B' [a] l:=fun k=>by cases o<;>exact k
  cases w<;>simp only [rJ] at hK<;>try cases hK
  ·rename_i v
   cases v<;>simp only at hK<;>try cases hK
   have hr:a=.nilSlice:=hr
   subst hr
   exact ⟨_,hK,toO ⟨_,rfl,.inl ⟨rfl,rfl⟩⟩⟩
  ·rename_i z t x
   cases t<;>first | (exfalso; simp at hK; done) | skip
   rename_i o' t
   have hK:fc x u K=some r:=hK
   obtain ⟨rfl,hK⟩:=bk hK
   have hr:(T.r (.sl o' t)).R (zG B h z) [a] x:=hr
   refine ⟨_,hK,toO ((rSl (T.w t).rep).mono (hz z) ?_)⟩
   cases o'<;>exact hr
  rename_i k
  split at hK
  ·rename_i t l hp
   obtain ⟨rfl,hK⟩:=bk hK
   have hr:nth ms k=some a:=hr
   obtain ⟨f,k1,k2⟩:=hA k _ a hp hr
   refine ⟨_,hK,toO ?_⟩
   exact (rSl (T.w t).rep).mono k2 ((T.ogw (.sl true t)).loc k1)
  cases hK
 | st k=>simp only [rJ] at hK; cases hK
 | pt u=>
  cases w<;>simp only [rJ] at hK<;>try cases hK
  ·rename_i v
   cases v<;>simp only at hK<;>try cases hK
   have hr:a=.nilPtr:=hr
   subst hr
   exact ⟨_,hK,mE (.inl ⟨rfl,rfl⟩)⟩
  ·rename_i z t0 x0
   cases t0<;>first | (exfalso; simp at hK; done) | skip
   rename_i t
   have hK:kW x0 u K=some r:=hK
   obtain ⟨rfl,hK⟩:=cR hK
   exact ⟨_,hK,(T.r (.pt t)).mono (hz z) hr⟩
  ·exact hg _ _ _ _ hK hr
  rename_i k off
  cases off<;>simp only at hK<;>try cases hK
  obtain ⟨o,v,h1,rfl⟩:=hr
  exact hg _ _ _ _ hK h1
 | ic n u=>
  cases w<;>simp only [rJ] at hK<;>try cases hK
  ·rename_i v
   cases v<;>simp only at hK<;>try cases hK
   have hr:a=.nilIface:=hr
   subst hr
   exact ⟨_,hK,_,rfl,.inl ⟨rfl,rfl⟩⟩
  ·rename_i k
   split at hK
   ·rename_i m t q hp
    cases hm:Nat.beq m n with
    | false=>rw [hm] at hK; cases hK
    | true=>
     obtain rfl:=Nat.eq_of_beq_eq_true hm
     rw [hm,cond_true] at hK
     obtain ⟨rfl,hK⟩:=cR hK
     have hr:nth ms k=some a:=hr
     obtain ⟨f,k1,k2⟩:=hA k _ a hp hr
     exact ⟨_,hK,(T.r (.ic m t)).mono k2 ((T.ogw (.ic m t)).loc k1)⟩
   cases hK
  rename_i m k
  cases hm:Nat.beq m n with
  | false=>rw [hm] at hK; cases hK
  | true=>
   obtain rfl:=Nat.eq_of_beq_eq_true hm
   rw [hm] at hK
   obtain ⟨p,h1,_,rfl⟩:=hr
   obtain ⟨q,k1,k2⟩:=hg _ _ _ _ hK h1
   exact ⟨q,k1,_,rfl,.inr ⟨p,rfl,cF k2⟩⟩
 | mp x y=>
  cases w<;>simp only [rJ] at hK<;>try cases hK
  ·rename_i v
   cases v<;>simp only at hK<;>try cases hK
   cases hm:x.mpOk y with
   | false=>rw [hm] at hK; cases hK
   | true=>
    rw [hm] at hK
    have hr:a=.nilMap:=hr
    subst hr
    exact ⟨_,hK,vS hm h⟩
  rename_i k
  split at hK
  ·rename_i x' y' m hp
   obtain ⟨e,hK⟩:=a8 hK
   cases e
   have hr:nth ms k=some a:=hr
   obtain ⟨f,k1,k2⟩:=hA k _ a hp hr
   exact ⟨_,hK,(T.r (.mp x y)).mono k2 ((T.ogw (.mp x y)).loc k1)⟩
  cases hK
theorem mb {R:Type} {B B':Hp} {s:VS T} {ms:List AV} (hz:∀ z,Hp.le (zG B h z) B') (hA:kP B B' ms h s.ps):∀ (n:Nat),(∀ (ts:List VT) (ws:List (W T)) (K:T.H ts→Option R) (r:R),sJ s n ts ws K=some r→∀ {as:List AV},All2 (f7 B ms h) ws as→∃ x,K x=some r∧(oHL T.o ts).rep.R B' as x)
  ∧ (∀ (u:VT) (k:Nat) (K:Option (T.D u)→Option R) (r:R),bclP s n u k K=some r→∀ {a:AV},nth ms k=some a→∃ q,K q=some r∧(T.r (.pt u)).R B' [a] q)
 | 0=>⟨fun ts ws K r hK=>(by simp only [sJ] at hK; cases hK),fun u k K r hK=>(by simp only [bclP] at hK; cases hK)⟩
 | n+1=>by
  obtain ⟨ih1,ih2⟩:=mb (R:=R) hz hA n
  refine ⟨fun ts ws K r hK as hr=>?_,fun u k K r hK a ha=>?_⟩
  ·cases ts with
   | nil=>
    cases ws with
    | nil=>simp only [sJ] at hK; cases hr; exact ⟨(),hK,rfl⟩
    | cons w ws=>simp only [sJ] at hK; cases hK
   | cons t ts=>
    cases ws with
    | nil=>simp only [sJ] at hK; cases hK
    | cons w ws=>
     simp only [sJ] at hK
     cases hr with
     | cons p q=>
      obtain ⟨x,k1,k2⟩:=wQ hz hA ih2 _ _ _ _ hK p
      obtain ⟨y,q1,q2⟩:=ih1 _ _ _ _ k1 q
      exact ⟨(x,y),q1,[_],_,rfl,k2,q2⟩
  simp only [bclP] at hK
  split at hK
  ·rename_i t q hp
   obtain ⟨rfl,hK⟩:=cR hK
   obtain ⟨f,k1,k2⟩:=hA k _ a hp ha
   exact ⟨q,hK,(T.r (.pt t)).mono k2 ((T.ogw (.pt t)).loc k1)⟩
  ·rename_i ws hp
   obtain ⟨f,⟨o,v,cs,rfl,rfl,hg,hr⟩,k2⟩:=hA k _ a hp ha
   obtain ⟨x,q1,q2⟩:=ih1 _ _ _ _ hK (hr.imp fun w a k=>ng k.1)
   exact ⟨_,q1,mE (.inr ⟨o,v,cs,_,rfl,rfl,k2 _ _ _ (.inr ⟨List.mem_singleton.2 rfl,true,hg⟩),CX q2⟩)⟩
  cases hK
theorem zg {R:Type} {B B':Hp} {s:VS T} {ms:List AV} (hz:∀ z,Hp.le (zG B h z) B') (hA:kP B B' ms h s.ps) {t:VT} {w:W T} {K:T.D t→Option R} {r:R} (hK:bcl s t w K=some r) {a:AV} (hr:f7 B ms h w a):∃ x,K x=some r∧(T.r t).R B' [a] x:=by
 obtain ⟨x,k1,k2⟩:=(mb hz hA fuel).1 _ _ _ _ hK (.cons hr .nil)
 obtain ⟨a1,b,e1,h1,h2⟩:=k2
 have h2:b=[]:=List.eq_nil_of_length_eq_zero ((rU).len h2)
 subst h2
 rw [List.append_nil] at e1
 subst e1
 exact ⟨x.1,k1,h1⟩
theorem pR {R:Type} {B B':Hp} {s:VS T} {ms:List AV} (hz:∀ z,Hp.le (zG B h z) B') (hA:kP B B' ms h s.ps) {t:VT} {k off:Nat} {K:W T→Option R} {r:R} (hK:AS s t k off K=some r) {a:AV} (ha:nth ms k=some a):∃ w o v,K w=some r∧a=.ptr o v 0∧bF B' ms h w (.ptr o v off):=by
 obtain ⟨q,k1,k2⟩:=(mb hz hA fuel).2 _ _ _ _ hK ha
 obtain ⟨x,rfl,k1⟩:=obI k1
 rcases cF k2 with ⟨_,e⟩ | ⟨o,v,row,a',rfl,e,h1,h2⟩
 ·cases e
 cases e
 have hl:row.length=T.cells t:=((T.r t).len h2).trans (aS T t)
 exact ⟨_,o,v,k1,rfl,o,v,0,row,h1,by omega,by rw [List.drop_zero,← hl,List.take_length]; exact h2,by rw [Nat.zero_add]⟩
theorem z9 {B B':Hp} (hb:Hp.le B B') {ms:List AV}:∀ {w:W T} {a:AV},(∀ k t i x off,w≠.el k t i x off)→f7 B ms h w a→bF B' ms h w a
 | .el _ _ _ _ _,_,hn,r=>absurd rfl (hn _ _ _ _ _)
 | .bad,_,_,r=>trivial
 | .c v,_,_,r=>r
 | .d z t x,_,_,r=>qI (ms:=ms) hb (.d z t x) r
 | .b p i,_,_,r=>r
 | .r k,_,_,r=>r
 | .ic n k,_,_,r=>r
 | .ptr k off,_,_,r=>r
 | .ed z t x off,_,_,r=>qI (ms:=ms) hb (.ed z t x off) r
theorem yv {R:Type} {B B':Hp} {s:VS T} {ms:List AV} (hb:Hp.le B B') (hz:∀ z,Hp.le (zG B h z) B') (hA:kP B B' ms h s.ps) {i:In} {w:W T} {K:W T→Option R} {r:R} (hK:brW s i w K=some r) {a:AV} (hr:f7 B ms h w a):∃ w',K w'=some r∧bF B' ms h w' a:=by
 unfold brW at hK
 split at hK
 ·obtain ⟨x,k1,k2⟩:=zg hz hA hK hr
  exact ⟨_,k1,k2⟩
 ·split at hK
  ·obtain ⟨w,o,v,k1,rfl,k2⟩:=pR hz hA hK hr
   exact ⟨w,k1,k2⟩
  ·obtain ⟨o,v,h1,rfl⟩:=hr
   obtain ⟨w,o',v',k1,e,k2⟩:=pR hz hA hK h1
   cases e
   exact ⟨w,k1,k2⟩
  ·rename_i z t' x o
   obtain ⟨o,v,base,row,r1,r2,r3,r4⟩:=hr
   exact ⟨_,hK,o,v,base,row,hz z _ _ _ r1,r2,(T.r t').mono (hz z) r3,r4⟩
  ·rename_i z t' q
   obtain ⟨x,rfl,hK⟩:=obI hK
   have hr:(xP (T.r t')).R (zG B h z) [a] (some x):=hr
   rcases cF hr with ⟨_,e⟩ | ⟨o,v,row,b,rfl,e,h1,h2⟩
   ·cases e
   cases e
   have hl:row.length=T.cells t':=by rw [← aS]; exact (T.r t').len h2
   exact ⟨_,hK,o,v,0,row,hz z _ _ _ h1,by omega,by rw [List.drop_zero,← hl,List.take_length]; exact (T.r t').mono (hz z) h2,rfl⟩
  cases hK
 ·exact ⟨_,hK,trivial⟩
 rename_i hn1 hn2 hn3
 exact ⟨_,hK,z9 hb (fun k t j x off e=>hn3 _ _ _ _ _ e) hr⟩
theorem o7 {R:Type} {B B':Hp} {s:VS T} {ms:List AV} (hb:Hp.le B B') (hz:∀ z,Hp.le (zG B h z) B') (hA:kP B B' ms h s.ps):∀ (l:List In) (ws:List (W T)) {K:List (W T)→Option R} {r:R},brL s l ws K=some r→∀ {as:List AV},All2 (fun w a=>f7 B ms h w a∧a.flat=true) ws as→∃ ws',K ws'=some r∧All2 (fV B' ms h) ws' as
 | [],[],K,r,hK,as,hr=>by cases hr; exact ⟨[],hK,.nil⟩
 | [],w::ws,K,r,hK,as,hr=>by simp only [brL] at hK; cases hK
 | i::l,[],K,r,hK,as,hr=>by simp only [brL] at hK; cases hK
 | i::l,w::ws,K,r,hK,as,hr=>by
  simp only [brL] at hK
  cases hr with
  | cons p q=>
   obtain ⟨w',k1,k2⟩:=yv hb hz hA hK p.1
   obtain ⟨ws',q1,q2⟩:=o7 hb hz hA l ws k1 q
   exact ⟨w'::ws',q1,.cons ⟨k2,p.2⟩ q2⟩
def yf (B:Hp) (ms:List AV) (h:Heap):V1 T→AV→Prop
 | .w w,a=>f7 B ms h w a∧a.flat=true
 | .agg ws,a=>∃ cs,a=.agg cs∧All2 (fun w a=>f7 B ms h w a∧a.flat=true) ws cs
theorem xZ {B:Hp} {ps:List (Part T)} {ms:List AV}:∀ {x:V1 T} {a:AV},fR B ps ms h x a→yf B ms h x a
 | .w w,a,r=>⟨fK r.1,r.2⟩
 | .agg ws,a,⟨cs,e,r⟩=>⟨cs,e,r.imp fun w a k=>⟨fK k.1,k.2⟩⟩
theorem qU {R:Type} {B B':Hp} {s:VS T} {ms:List AV} (hb:Hp.le B B') (hz:∀ z,Hp.le (zG B h z) B') (hA:kP B B' ms h s.ps):∀ (l:List (Bool×List In)) (xs:List (V1 T)) {K:List (V1 T)→Option R} {r:R},brA s l xs K=some r→∀ {as:List AV},All2 (yf B ms h) xs as→xs.length=l.length∧∃ ys,K ys=some r∧All2 (nR B' ms h) ys as
 | [],[],K,r,hK,as,hr=>by cases hr; exact ⟨rfl,[],hK,.nil⟩
 | [],x::xs,K,r,hK,as,hr=>by simp only [brA] at hK; cases hK
 | p::l,[],K,r,hK,as,hr=>by simp only [brA] at hK; cases hK
 | p::l,x::xs,K,r,hK,as,hr=>by
  simp only [brA] at hK
  cases hr with
  | cons hx hxs=>
   cases x with
   | w w=>
    obtain ⟨ws',k1,k2⟩:=o7 hb hz hA _ _ hK (.cons hx .nil)
    obtain ⟨hl,ys,q1,q2⟩:=qU hb hz hA l xs k1 hxs
    cases k2 with
    | cons p1 p2=>
     cases p2
     exact ⟨congrArg (·+1) hl,_,q1,.cons p1 q2⟩
   | agg ws=>
    obtain ⟨cs,rfl,hx⟩:=hx
    obtain ⟨ws',k1,k2⟩:=o7 hb hz hA _ _ hK hx
    obtain ⟨hl,ys,q1,q2⟩:=qU hb hz hA l xs k1 hxs
    exact ⟨congrArg (·+1) hl,_,q1,.cons ⟨cs,rfl,k2⟩ q2⟩
end
end Go.Am
