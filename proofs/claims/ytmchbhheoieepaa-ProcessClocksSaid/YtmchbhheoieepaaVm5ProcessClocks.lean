/- A machine over typed values, and that functions do what it says. No condition. Own work. -/
import Derived.Test.YtmchbhheoieepaaVm4ProcessClocks
import Derived.Test.YtmchbhheoieepaaAm7ProcessClocks
set_option linter.unusedSimpArgs false
set_option linter.unusedVariables false
namespace Go.Am
open Go
section
variable {T:TE} {F:Nat→Option AFn} {g:Heap} {M:Nat→Prop}
def atM (ms:List AV) (k:Nat):AV:=match nth ms k with
 | some a=>a
 | none=>.undef
theorem tu {ms:List AV} {k:Nat} {a:AV} (h:nth ms k=some a):atM ms k=a:=by unfold atM; rw [h]
theorem p7 {ms:List AV} {k:Nat} (h:k < ms.length):nth ms k=some (atM ms k):=by
 have:nth ms k=some (ms[k]):=by rw [aM,List.getElem?_eq_getElem]
 rw [tu this,this]
def oH (B:Hp) (ms:List AV):List (Nat×Part T)→List Ch
 | []=>[]
 | (k,p)::l=>dt B ms (atM ms k) p::oH B ms l
def oE (ps:List (Part T)):List (Nat×Part T)→Prop
 | []=>True
 | (k,_)::l=>nth ps k=some .dead∧(∀ x,x∈l→x.1≠k)∧oE ps l
theorem oE.kill {s:VS T} {k:Nat}:∀ {acc:List (Nat×Part T)},oE s.ps acc→(∀ x,x∈acc→x.1≠k)→oE (s.kill k).ps acc
 | [],_,_=>trivial
 | (j,p)::l,⟨h1,h2,h3⟩,hn=>⟨by
  show nth (s.ps.set k .dead) j=_
  rw [cE _ _ _ _ (hn _ (List.mem_cons_self ..)),h1],h2,oE.kill h3 fun x hx=>hn x (List.mem_cons_of_mem _ hx)⟩
theorem oE.mem {ps:List (Part T)}:∀ {acc:List (Nat×Part T)},oE ps acc→∀ x,x∈acc→nth ps x.1=some .dead
 | [],_,x,hx=>by cases hx
 | (j,p)::l,⟨h1,h2,h3⟩,x,hx=>by
  rcases List.mem_cons.1 hx with rfl | hx
  ·exact h1
  exact oE.mem h3 x hx
theorem jw {R:Type}:∀ (L:List Nat) (s:VS T) (acc:List (Nat×Part T)) {K:VS T→List (Nat×Part T)→Option R} {r:R},nY L s acc K=some r→∀ {Δ:List Ch} {ms:List AV} {e:Env} {h:Heap},VSim g M (oH (Bo g M) ms acc++Δ) s ms e h→oE s.ps acc→
  ∃ s' acc',K s' acc'=some r∧VSim g M (oH (Bo g M) ms acc'++Δ) s' ms e h∧oE s'.ps acc'∧Trk s s'
 | [],s,acc,K,r,hK,Δ,ms,e,h,S,hd=>⟨s,acc,hK,S,hd,Trk.refl s⟩
 | k::L,s,acc,K,r,hK,Δ,ms,e,h,S,hd=>by
  simp only [nY] at hK
  have go:∀ p,nth s.ps k=some p→p≠.dead→(∀ q,p≠.ro q)→nY L (s.kill k) ((k,p)::acc) K=some r→∃ s' acc',K s' acc'=some r∧VSim g M (oH (Bo g M) ms acc'++Δ) s' ms e h∧oE s'.ps acc'∧Trk s s':=fun p hp hnd hnr hK=>by
   obtain ⟨a,ha⟩:=bv S.len hp
   have S1:=S.kill hp ha
   have hn:∀ x,x∈acc→x.1≠k:=fun x hx e=>by
    have:=hd.mem x hx
    rw [e,hp] at this
    cases this
    exact hnd rfl
   have S2:VSim g M (oH (Bo g M) ms ((k,p)::acc)++Δ) (s.kill k) ms e h:=by
    show VSim g M (dt (Bo g M) ms (atM ms k) p::(oH (Bo g M) ms acc++Δ)) (s.kill k) ms e h
    rw [tu ha]
    exact S1
   obtain ⟨s',acc',k1,k2,k3,k4⟩:=jw L _ _ hK S2 ⟨by
    show nth (s.ps.set k .dead) k=_
    exact aZ hp,hn,hd.kill hn⟩
   exact ⟨s',acc',k1,k2,k3,(Trk.kill hp hnr).trans k4⟩
  split at hK
  ·cases hK
  ·exact jw L s acc hK S hd
  ·cases hK
  rename_i p hn1 hn2 hp
  exact go _ hp (fun e=>hn1 (by rw [e])) (fun q e=>hn2 q (by rw [e])) hK
theorem tG {B B':Hp} (hb:Hp.le B B') {ms:List AV} {h:Heap}:∀ (acc:List (Nat×Part T)),All2 (fun (c c':Ch)=>∀ fp,c.P h fp→c'.P h fp) (oH B ms acc) (oH B' ms acc)
 | []=>.nil
 | (k,p)::l=>.cons (t8 hb p) (tG hb l)
theorem St.addEms {B:Hp} {ms:List AV} {h:Heap} {Γ:List Ch}:∀ (as:List AV) (n:Nat),St g M Γ h→St g M (Γ++chs (T:=T) B ms as (List.replicate n .dead)) h
 | [],n,S=>by simpa [chs] using S
 | a::as,0,S=>by simpa [chs] using S
 | a::as,n+1,S=>by
  show St g M (Γ++emC::chs B ms as (List.replicate n .dead)) h
  exact (St.addEms as n S).addEm.perm List.perm_middle.symm
theorem mV {n k:Nat} (hk:k < n):∀ (acc:List (Nat×Part T)),(∀ x,x∈acc→x.1≠k)→nth (frP n acc) k=some .dead
 | [],_=>by rw [aM]; simp [frP,hk]
 | (j,p)::l,hn=>by
  simp only [frP]
  rw [cE _ _ _ _ (Ne.symm (hn _ (List.mem_cons_self ..)))]
  exact mV hk l fun x hx=>hn x (List.mem_cons_of_mem _ hx)
theorem VSim.frame {ps:List (Part T)} {ms:List AV} {e:Env} {h:Heap} (hl:ms.length=ps.length):∀ {acc:List (Nat×Part T)},oE ps acc→∀ {Δ:List Ch},VSim (T:=T) g M (oH (Bo g M) ms acc++Δ) ⟨[],List.replicate ms.length .dead⟩ ms e h→VSim g M Δ ⟨[],frP ms.length acc⟩ ms e h
 | [],_,Δ,S=>S
 | (k,p)::l,⟨h1,h2,h3⟩,Δ,S=>by
  have hk:k < ms.length:=by rw [hl]; exact iu h1
  have S1:VSim g M (oH (Bo g M) ms l++dt (Bo g M) ms (atM ms k) p::Δ) ⟨[],List.replicate ms.length .dead⟩ ms e h:=S.with (S.st.perm (List.Perm.append_right _ List.perm_middle.symm))
  exact (VSim.frame hl h3 S1).put0 (mV hk l h2) (p7 hk)
theorem nw {B:Hp} {ps:List (Part T)} {ms:List AV} {h:Heap}:∀ {xs:List (SV T)} {vs:List (V1 T)},sM xs=some vs→∀ {as:List AV},All2 (cM B ps ms h) xs as→All2 (fR B ps ms h) vs as
 | [],vs,hv,as,hr=>by cases hv; cases hr; exact .nil
 | .v x::xs,vs,hv,as,hr=>by
  simp only [sM] at hv
  split at hv
  ·rename_i l hl
   cases hv
   cases hr with
   | cons p q=>exact .cons p (nw hl q)
  cases hv
 | .tup _::xs,vs,hv,as,hr=>by cases hv
 | .un::xs,vs,hv,as,hr=>by cases hv
 | .ro _::xs,vs,hv,as,hr=>by cases hv
theorem Mat.base {B B':Hp} {am:Nat→AV} {e:Env} {h:Heap}:∀ {l:List In} {x:T.H (DS l)} {n:Nat} {acc:List AV} {Γ:List Ch},tx l=true→Mat B am e h l x n acc Γ→Mat B' am e h l x n acc Γ
 | [],x,n,acc,Γ,_,hM=>hM
 | .d z t::l,x,n,acc,Γ,hf,⟨a,h1,h2,h3⟩=>by
  simp only [tx,Bool.and_eq_true,Bool.or_eq_true] at hf
  refine ⟨a,h1,?_,Mat.base hf.2 h3⟩
  rcases hf.1 with rfl | hf
  ·exact h2
  exact kU hf h2
 | .e z t o::l,x,n,acc,Γ,hf,⟨a,h1,h2,h3⟩=>by
  simp only [tx,Bool.and_eq_true] at hf
  obtain ⟨rfl,hf⟩:=hf
  exact ⟨a,h1,h2,Mat.base hf h3⟩
 | .r j::l,x,n,acc,Γ,hf,⟨h1,h2⟩=>⟨h1,Mat.base (l:=l) hf h2⟩
 | .ptr j off::l,x,n,acc,Γ,hf,⟨o,v,h1,h2⟩=>⟨o,v,h1,Mat.base (l:=l) hf h2⟩
 | .ic m j::l,x,n,acc,Γ,hf,⟨h1,h2⟩=>⟨h1,Mat.base (l:=l) hf h2⟩
 | .c v::l,x,n,acc,Γ,hf,⟨h1,h2⟩=>⟨h1,Mat.base (l:=l) hf h2⟩
 | .ld _ _::l,x,n,acc,Γ,hf,hM=>Mat.base (l:=l) hf hM
 | .ldr::l,x,n,acc,Γ,hf,hM=>Mat.base (l:=l) hf hM
 | .slot k false::l,x,n,acc,Γ,hf,⟨h1,h2⟩=>⟨h1,Mat.base (l:=l) hf h2⟩
 | .slot k true::l,x,n,acc,Γ,hf,⟨h1,h2⟩=>⟨h1,Mat.base (l:=l) hf h2⟩
 | .row::l,x,n,acc,Γ,hf,⟨o,v,Γ',h1,h2,h3⟩=>⟨o,v,Γ',h1,h2,Mat.base (l:=l) hf h3⟩
 | .sl t::l,x,n,acc,Γ,hf,⟨Γ',h1,h2⟩=>⟨Γ',h1,Mat.base (l:=l) hf h2⟩
 | .po t::l,x,n,acc,Γ,hf,⟨Γ',h1,h2⟩=>⟨Γ',h1,Mat.base (l:=l) hf h2⟩
 | .pr t::l,x,n,acc,Γ,hf,⟨Γ',h1,h2⟩=>⟨Γ',h1,Mat.base (l:=l) hf h2⟩
 | .mp a b::l,x,n,acc,Γ,hf,⟨Γ',h1,h2⟩=>⟨Γ',h1,Mat.base (l:=l) hf h2⟩
 | .io a b::l,x,n,acc,Γ,hf,⟨Γ',h1,h2⟩=>⟨Γ',h1,Mat.base (l:=l) hf h2⟩
theorem aX {ro:Bool} {b:Nat}:∀ (l:List In) (x:T.H (DS l)) (acc:List (W T)),(mkE ro b l x acc).map Prod.fst=bu l
 | [],x,acc=>rfl
 | .d _ _::l,x,acc=>aX l x.2 _
 | .e _ _ _::l,x,acc=>aX l x.2 _
 | .r _::l,x,acc=>aX l x _
 | .ptr _ _::l,x,acc=>aX l x _
 | .ic _ _::l,x,acc=>aX l x _
 | .c _::l,x,acc=>aX l x _
 | .ld _ _::l,x,acc=>aX l x _
 | .ldr::l,x,acc=>aX l x _
 | .slot k agg::l,x,acc=>by
  show k::(mkE ro b l x []).map Prod.fst=k::bu l
  rw [aX l x []]
 | .row::l,x,acc=>aX l x _
 | .sl _::l,x,acc=>aX l x.2 _
 | .po _::l,x,acc=>aX l x.2 _
 | .pr _::l,x,acc=>aX l x.2 _
 | .mp _ _::l,x,acc=>aX l x.2 _
 | .io _ _::l,x,acc=>aX l x.2 _
theorem bl:∀ (l:List In) {n:Nat},xN n l=true→bu l=List.range' n (bu l).length
 | [],n,h=>rfl
 | .slot k agg::l,n,h=>by
  have h:(Nat.beq k n&&xN (n+1) l)=true:=h
  rw [Bool.and_eq_true] at h
  obtain rfl:=Nat.eq_of_beq_eq_true h.1
  show k::bu l=List.range' k ((bu l).length+1)
  rw [List.range'_succ,← bl l h.2]
 | .d _ _::l,n,h=>bl l h
 | .e _ _ _::l,n,h=>bl l h
 | .r _::l,n,h=>bl l h
 | .ptr _ _::l,n,h=>bl l h
 | .ic _ _::l,n,h=>bl l h
 | .c _::l,n,h=>bl l h
 | .ld _ _::l,n,h=>bl l h
 | .ldr::l,n,h=>bl l h
 | .row::l,n,h=>bl l h
 | .sl _::l,n,h=>bl l h
 | .po _::l,n,h=>bl l h
 | .pr _::l,n,h=>bl l h
 | .mp _ _::l,n,h=>bl l h
 | .io _ _::l,n,h=>bl l h
theorem qe {B:Hp} {ms:List AV} {h:Heap}:∀ (as:List AV) (l:nA T) (n:Nat) {rs:List (V1 T)},l.map Prod.fst=List.range' n as.length→(∀ k sv,(k,sv)∈l→∃ v y,as[k - n]? = some v∧sv=.v y∧nR B ms h y v)→AM l=some rs→All2 (nR B ms h) rs as
 | [],[],n,rs,hl,hm,hv=>by cases hv; exact .nil
 | [],x::l,n,rs,hl,hm,hv=>by cases hl
 | a::as,[],n,rs,hl,hm,hv=>by simp [List.range'_succ] at hl
 | a::as,(k,sv)::l,n,rs,hl,hm,hv=>by
  rw [List.length_cons,List.range'_succ,List.map_cons] at hl
  injection hl with h1 h2
  have h1:k=n:=h1
  subst h1
  obtain ⟨v,y,q1,rfl,q3⟩:=hm k sv (List.mem_cons_self ..)
  simp only [AM] at hv
  split at hv
  ·rename_i xs hx
   cases hv
   rw [Nat.sub_self,List.getElem?_cons_zero] at q1
   cases q1
   refine .cons q3 (qe as l (k+1) h2 (fun j sv hj=>?_) hx)
   obtain ⟨v,y,w1,w2,w3⟩:=hm j sv (List.mem_cons_of_mem _ hj)
   have hlt:k+1≤j:=by
    have:j∈l.map Prod.fst:=List.mem_map.2 ⟨_,hj,rfl⟩
    rw [h2,List.mem_range'_1] at this
    exact this.1
   refine ⟨v,y,?_,w2,w3⟩
   rw [show j - k=(j - (k+1))+1 by omega,List.getElem?_cons_succ] at w1
   exact w1
  cases hv
theorem rx {P:V1 T→AV→Prop} {vs:List (V1 T)} {as:List AV} (hv:All2 P vs as):∀ (is:List Nat) {os:List (V1 T)} {ws:List AV},pick is vs=some os→All2 (fun i a=>as[i]? = some a) is ws→All2 P os ws
 | [],os,ws,ho,hw=>by cases ho; cases hw; exact .nil
 | i::is,os,ws,ho,hw=>by
  simp only [pick] at ho
  split at ho
  ·rename_i x xs hx hxs
   cases ho
   cases hw with
   | cons p q=>
    obtain ⟨a,h1,h2⟩:=hv.nthR hx
    rw [p] at h1
    cases h1
    exact .cons h2 (rx hv is hxs q)
  cases ho
theorem yI {B:Hp} {ms:List AV} {h:Heap} {k k':Nat} (hk:nth ms k'=nth ms k):∀ (w:W T) (a:AV),bF B ms h w a→bF B ms h (W.ren k k' w) a
 | .r j,a,r=>by
  simp only [W.ren]
  cases hb:Nat.beq j k with
  | false=>exact r
  | true=>
   obtain rfl:=Nat.eq_of_beq_eq_true hb
   show nth ms k'=_
   rw [hk]; exact r
 | .ic n j,a,⟨p,r1,r2,r3⟩=>by
  simp only [W.ren]
  cases hb:Nat.beq j k with
  | false=>exact ⟨p,r1,r2,r3⟩
  | true=>
   obtain rfl:=Nat.eq_of_beq_eq_true hb
   exact ⟨p,by rw [cond_true,hk]; exact r1,r2,r3⟩
 | .ptr j off,a,⟨o,v,r1,r2⟩=>by
  simp only [W.ren]
  cases hb:Nat.beq j k with
  | false=>exact ⟨o,v,r1,r2⟩
  | true=>
   obtain rfl:=Nat.eq_of_beq_eq_true hb
   exact ⟨o,v,by rw [cond_true,hk]; exact r1,r2⟩
 | .bad,_,r=>r
 | .c v,_,r=>r
 | .d z t x,_,r=>r
 | .b p i,_,r=>r
 | .el _ _ _ _ _,_,r=>r.elim
 | .ed z t x off,_,r=>r
theorem VSim.ren {Δ:List Ch} {s:VS T} {ms:List AV} {e:Env} {h:Heap} (S:VSim g M Δ s ms e h) {k k':Nat} (hk:nth ms k'=nth ms k):VSim g M Δ (s.sub (W.ren k k')) ms e h∧Ro s (s.sub (W.ren k k')):=by
 refine ⟨⟨by simp only [VS.sub,List.length_map]; exact S.len,?_,S.env_to (fun w a r=>r) fun w a r=>?_⟩,⟨fun j x hj=>nq hj,fun j p hj=>?_⟩⟩
 ·exact St.impR S.st (ik (fun _ _ r=>r) (yI hk) ms s.ps)
 ·refine df r (yI hk) fun j t i x off a ⟨b,l,r1,r2,r3⟩=>?_
  exact ⟨b,l,r1,eM r2,r3⟩
 show nth (s.ps.map (Part.map (W.ren k k'))) j=_
 rw [d6,hj]; rfl
theorem su {B:Hp} {ms:List AV} {h:Heap} {w w':W T} {k k':Nat} {a:AV} (hw:ul w w'=some (k,k')) (hr:f7 B ms h w a) (hr':bF B ms h w' a):nth ms k'=nth ms k:=by
 unfold ul at hw
 split at hw
 ·cases hw
  have hr:nth ms _=some a:=hr
  have hr':nth ms _=some a:=hr'
  rw [hr,hr']
 ·cases hw
  obtain ⟨o,v,h1,rfl⟩:=hr
  obtain ⟨o',v',h2,e⟩:=hr'
  cases e
  rw [h1,h2]
 ·cases hw
  obtain ⟨p,h1,_,rfl⟩:=hr
  obtain ⟨p',h2,_,e⟩:=hr'
  cases e
  rw [h1,h2]
 ·cases hw
  have hr:nth ms _=some a:=hr
  obtain ⟨o',v',h2,rfl⟩:=hr'
  rw [hr,h2]
 ·cases hw
  obtain ⟨o,v,h1,rfl⟩:=hr
  have hr':nth ms _=some _:=hr'
  rw [h1,hr']
 cases hw
theorem pT (f:W T→W T) (s:VS T):bG (s.sub f)=bG s:=by
 unfold bG VS.sub
 rw [List.map_map]
 refine List.map_congr_left fun p _=>?_
 cases p<;>rfl
theorem vh {s:VS T} {k:Nat} {p:Part T} (h:nth s.ps k=some p) (hd:dm p=false):qa (bG s) k=true:=by
 have key:∀ (ps:List (Part T)) (k:Nat),nth ps k=some p→qa (ps.map fun p=>!dm p) k=true:=by
  intro ps
  induction ps with
  | nil=>intro k h; cases h
  | cons q ps ih=>
   intro k h
   cases k with
   | zero=>cases h; show (!dm p)=true; rw [hd]; rfl
   | succ k=>exact ih k h
 exact key s.ps k h
theorem pk {R:Type}:∀ (os rs:List (V1 T)) {s:VS T} {K:VS T→Option R} {r:R},tY s os rs K=some r→∀ {Δ:List Ch} {ms:List AV} {e:Env} {h:Heap} {ws:List AV},VSim g M Δ s ms e h→All2 (yf (Bo g M) ms h) os ws→All2 (nR (Bo g M) ms h) rs ws→∃ s',K s'=some r∧VSim g M Δ s' ms e h∧Ro s s'∧bG s'=bG s
 | [],[],s,K,r,hK,Δ,ms,e,h,ws,S,h1,h2=>⟨s,hK,S,Ro.refl s,rfl⟩
 | [],_::_,s,K,r,hK,Δ,ms,e,h,ws,S,h1,h2=>by simp only [tY] at hK; cases hK
 | .agg _::_,_,s,K,r,hK,Δ,ms,e,h,ws,S,h1,h2=>by simp only [tY] at hK; cases hK
 | .w _::_,[],s,K,r,hK,Δ,ms,e,h,ws,S,h1,h2=>by simp only [tY] at hK; cases hK
 | .w _::_,.agg _::_,s,K,r,hK,Δ,ms,e,h,ws,S,h1,h2=>by simp only [tY] at hK; cases hK
 | .w a::os,.w b::rs,s,K,r,hK,Δ,ms,e,h,ws,S,h1,h2=>by
  simp only [tY] at hK
  split at hK
  ·rename_i k k' hkk
   cases h1 with
   | cons p1 q1=>
    cases h2 with
    | cons p2 q2=>
     obtain ⟨S1,r1⟩:=S.ren (su hkk p1.1 p2.1)
     obtain ⟨s',w1,w2,w3,w4⟩:=pk os rs hK S1 q1 q2
     exact ⟨s',w1,w2,r1.trans w3,w4.trans (pT _ s)⟩
  cases hK
theorem kn {B:Hp} {ms xs:List AV} {h h':Heap} (hz:HZ h h'):∀ {w:W T} {a:AV},f7 B ms h w a→f7 B (ms++xs) h' w a
 | .el _ _ _ _ _,_,_=>trivial
 | .bad,_,_=>trivial
 | .c v,_,r=>r
 | .d z t x,_,r=>aE (ms:=ms) (xs:=xs) hz (.d z t x) r
 | .b p i,_,r=>r
 | .r k,_,r=>aE (B:=B) (T:=T) (ms:=ms) (xs:=xs) hz (.r k) r
 | .ic n k,_,r=>aE (B:=B) (T:=T) (ms:=ms) (xs:=xs) hz (.ic n k) r
 | .ptr k off,_,r=>aE (B:=B) (T:=T) (ms:=ms) (xs:=xs) hz (.ptr k off) r
 | .ed z t x off,_,r=>aE (ms:=ms) (xs:=xs) hz (.ed z t x off) r
theorem pn {B:Hp} {ms xs:List AV} {h h':Heap} (hz:HZ h h'):∀ {x:V1 T} {a:AV},yf B ms h x a→yf B (ms++xs) h' x a
 | .w w,a,r=>⟨kn hz r.1,r.2⟩
 | .agg ws,a,⟨cs,e,r⟩=>⟨cs,e,r.imp fun w a k=>⟨kn hz k.1,k.2⟩⟩
theorem VSim.mkPs {Δ:List Ch} {s:VS T} {ms:List AV} {e e':Env} {h:Heap} {am:Nat→AV} {Γ:List Ch} {l:List In} {x:T.H (DS l)} (S:VSim g M (Γ++Δ) s ms e h) (hM:Mat (Bo g M) am e' h l x 0 [] Γ) (ho:okI (cU l) l=true) :
  VSim g M Δ ⟨s.e,s.ps++mkP false s.ps.length l x []⟩ (ms++amL am 0 (cU l)) e h∧∀ k sv,(k,sv)∈mkE false s.ps.length l x []→∃ v y,e'.get k=some v∧sv=.v y∧nR (Bo g M) (ms++amL am 0 (cU l)) h y v:=by
 have hF:∀ j,j < cU l→nth (ms++amL am 0 (cU l)) (s.ps.length+j)=some (am j):=fun j hj=>by
  have:=lS am 0 (cU l) j hj
  rw [Nat.zero_add] at this
  rw [aM] at this ⊢
  rw [List.getElem?_append_right (by rw [S.len]; omega),S.len,show s.ps.length+j - s.ps.length=j by omega,this]
 obtain ⟨k1,k2⟩:=bL (ro:=false) hF l x 0 [] [] Γ ho hM .nil
 refine ⟨S.news (by rw [mw]; exact k1.symm) ?_,fun k sv hm=>bJ (ro:=false) hF l x 0 [] [] Γ ho hM .nil k sv hm⟩
 have S1:St g M (Γ++(Δ++chs (Bo g M) (ms++amL am 0 (cU l)) ms s.ps)) h:=by
  have:=S.st
  rw [List.append_assoc,← List.append_assoc] at this
  rw [← List.append_assoc]
  exact St.more (Γ:=Γ++Δ) _ this
 exact (St.impR (S1.perm List.perm_append_comm) k2).perm List.perm_append_comm
theorem vg {B:Hp} {ps:List (Part T)} {ms:List AV} {h:Heap}:∀ {rs:List (V1 T)} {as:List AV},All2 (nR B ms h) rs as→cM B ps ms h (Cz rs) (one as)
 | _,_,.nil=>⟨[],rfl,.nil⟩
 | _,_,.cons p .nil=>i0 p
 | _,_,.cons p (.cons p2 q)=>⟨_,rfl,(All2.cons p (.cons p2 q)).imp fun _ _ k=>i0 k⟩
theorem All2.takeL {α β:Type} {P:α→β→Prop}:∀ {l:List α} {m m':List β},All2 P l (m++m')→All2 P (l.take (l.length - m'.length)) m∧All2 P (l.drop (l.length - m'.length)) m':=by
 intro l m m' hr
 have hl:=hr.len
 rw [List.length_append] at hl
 have e:l.length - m'.length=m.length:=by omega
 rw [e]
 clear e hl
 induction m generalizing l with
 | nil=>exact ⟨by simpa using All2.nil,by simpa using hr⟩
 | cons a m ih=>
  cases hr with
  | cons p q=>
   obtain ⟨h1,h2⟩:=ih q
   exact ⟨.cons p h1,h2⟩
theorem qR {R:Type} {f np:Nat} {p:FSp} {fn:DN T.S (DS p.lp)→Option (DN T.S (DS p.lr))} (hf:aC F T f p np fn) (hn:p.pr.length=np) {vs:List (V1 T)} {s:VS T} {K:SV T→VS T→Option R} {r:R} (hK:qV p fn vs s K=some r)
  {Δ:List Ch} {ms:List AV} {e:Env} {h:Heap} {as:List AV} (S:VSim g M Δ s ms e h) (hva0:All2 (fR (Bo g M) s.ps ms h) vs as):∃ x s' ys v n h1 h',K x s'=some r∧aI F n f as h=some (v,h1)∧Fz h1 h'∧VSim g M Δ s' (ms++ys) e h'∧cM (Bo g M) s'.ps (ms++ys) h' x v∧Ro s s'∧HZ h h'∧∀ j p' a o,nth s'.ps j=some p'→dm p'=false→nth ms j=some a→ck a=some o→h1.get o=h.get o∧∃ x,h.get o=some x∧∀ c v,x≠.row c v false:=by
 unfold qV at hK
 have hva:=hva0.imp fun _ _ k=>xZ k
 obtain ⟨s1,acc,hK,S1,hd,tr⟩:=jw _ _ [] hK S trivial
 have St1:St g M (oH (Bo g M) ms acc++(Δ++chs (Bo g M) ms ms s1.ps)) h:=by rw [← List.append_assoc]; exact S1.st
 obtain ⟨fp,f1,f2,_,c1,L,c2,d2,hfp,back⟩:=St.lend2 _ St1
 have hb:Hp.le (Bo g M) (Bo h (fun o=>o∈fp)):=by
  rintro o cs v (hq | ⟨hm,w,hw⟩)
  ·exact .inl (S.st.hz _ _ _ hq)
  refine .inr ⟨fun ho=>?_,w,S.st.old _ _ hm hw⟩
  rcases hfp o ho with hh | hh
  ·exact hm hh
  have:=get_lt hw; omega
 have hz:∀ z,Hp.le (zG (Bo g M) h z) (Bo h (fun o=>o∈fp))
  | true=>fun o cs v k=>.inl k
  | false=>hb
 have hA:kP (Bo g M) (Bo h (fun o=>o∈fp)) ms h s1.ps:=by
  intro k p0 a hp ha0
  obtain ⟨q,h1,h2⟩:=jT hp
  have h3:=gJ (B:=Bo g M) (ms:=ms) ha0 h1
  obtain ⟨f2a,f2b,rfl,_,c3⟩:=eI c2
  rw [← aM] at h3
  obtain ⟨fo,h4,h5⟩:=All2.nthR c3 h3
  rw [h2] at h5
  refine ⟨fo,h5,fun o cs v hl=>?_⟩
  rcases hl with hl | ⟨ho,hs⟩
  ·exact .inl hl
  exact .inr ⟨d2 fo (List.mem_append_right _ (List.mem_of_getElem? h4)) o ho,hs⟩
 obtain ⟨hlen,ws,hK,hws⟩:=qU hb hz hA _ _ hK hva
 have hl1:ms.length=s1.ps.length:=S1.len
 have V0:VSim (T:=T) h (fun o=>o∈fp) (oH (Bo h (fun o=>o∈fp)) ms acc++[]) ⟨[],List.replicate ms.length .dead⟩ ms .nil h:=by
  refine ⟨by simp,?_,fun k sv hk=>by cases hk⟩
  rw [List.append_nil]
  exact (L.imp (tG hb acc)).addEms ms ms.length
 have V1:=VSim.frame hl1 hd V0
 have hsl:s.ps.length=ms.length:=S.len.symm
 rw [hsl] at hK
 have V2:=V1.numb (hws.imp fun _ _ k=>i0 k)
 obtain ⟨x,s',h',am,Γ,hK,fz1,V3,mat,_⟩:=dB hK V2
 obtain ⟨y,hy,hK⟩:=obI hK
 cases hc:(okI (cU p.lr) p.lr&&tx p.lr&&xN 0 p.lr) with
 | false=>rw [hc] at hK; cases hK
 | true=>
  rw [hc,cond_true] at hK
  rw [Bool.and_eq_true,Bool.and_eq_true] at hc
  obtain ⟨⟨hc1,hc2⟩,hc3⟩:=hc
  split at hK
  ·rename_i rs os hrs hos
   have St2:St h (fun o=>o∈fp) Γ h':=by
    have:=V3.st
    rw [List.append_nil] at this
    exact this.dropR
   have hal:as.length=np:=by rw [← hn,← hlen,hva.len]
   obtain ⟨n,v,g1,h2,as',ws',am',Γ',q1,q2,q3,q4,q5,q6,q7⟩:=hf x y hy h _ h' h as am Γ hal St2 mat fz1
   have V4:VSim g M (Γ'++Δ) s1 ms e h2:=S1.heap q6.hz (by rw [List.append_assoc]; exact back Γ' h2 q6)
   obtain ⟨V5,hE⟩:=V4.mkPs (Mat.base (B':=Bo g M) hc2 q7) hc1
   have hvals:=qe (as'++ws') _ 0 (by rw [aX,List.length_append,q4]; exact bl _ hc3) (fun k sv hk=>by
    obtain ⟨v,y,w1,w2,w3⟩:=hE k sv hk
    refine ⟨v,y,?_,w2,w3⟩
    rw [bo] at w1
    split at w1
    ·exact w1
    rw [Go.Am.T.get_nil] at w1; cases w1) hrs
   obtain ⟨t1,t2⟩:=hvals.takeL
   rw [← q5.len] at t1 t2
   obtain ⟨s2,hK,V6,ro6,al6⟩:=pk _ _ hK V5 ((rx hva _ hos q5).imp fun _ _ k=>pn q6.hz k) t2
   refine ⟨_,s2,_,v,n,g1,h2,hK,q1,q2,V6,by rw [q3]; exact vg t1,(tr.ro.trans (Ro.app _ _)).trans ro6,q6.hz,fun k p' a o u3 u4 u6 u7=>?_⟩
   have b1:=vh u3 u4
   rw [al6] at b1
   obtain ⟨p1,v1,v2⟩:=gi b1
   have v1:nth (s1.ps++_) k=some p1:=v1
   obtain ⟨p1',v3⟩:=bv (by rw [← hl1]) u6 (l:=s1.ps)
   rw [aH v3] at v1
   cases v1
   have h3:=gJ (B:=Bo g M) (ms:=ms) u6 v3
   obtain ⟨f2a,f2b,rfl,_,c3⟩:=eI c2
   rw [← aM] at h3
   obtain ⟨fo,h4,h5⟩:=All2.nthR c3 h3
   have hm:=gN p1 fo v2 h5 o u7
   obtain ⟨x,hx⟩:=(dt (Bo g M) ms a p1).bd h5 o hm
   have hn:=xA p1 fo h5 o hm
   have h6:=q6.old o x (d2 fo (List.mem_append_right _ (List.mem_of_getElem? h4)) o hm) hx
   exact ⟨by rw [q2.same h6 (fun c v e=>hn c v (by rw [hx,e])),hx],x,hx,fun c v e=>hn c v (by rw [hx,e])⟩
  cases hK
theorem eZ {R:Type}:∀ (ks:List Nat) (vs:List (V1 T)) {s:VS T} {K:List (V1 T)→VS T→Option R} {r:R},gM ks vs s K=some r→∀ {Δ:List Ch} {ms:List AV} {e:Env} {h:Heap} {as:List AV},VSim g M Δ s ms e h→All2 (fR (Bo g M) s.ps ms h) vs as→
  ∃ vs' s' hz,K vs' s'=some r∧Fz h hz∧VSim g M Δ s' ms e hz∧All2 (fR (Bo g M) s'.ps ms hz) vs' as∧Ro s s'
 | [],vs,s,K,r,hK,Δ,ms,e,h,as,S,ha=>⟨vs,s,h,hK,Fz.refl h,S,ha,Ro.refl s⟩
 | k::ks,vs,s,K,r,hK,Δ,ms,e,h,as,S,ha=>by
  simp only [gM] at hK
  split at hK
  ·rename_i t l hp
   obtain ⟨a,haa⟩:=bv S.len hp
   obtain ⟨hz,k1,S1,_,hw⟩:=S.frz2 hp haa
   have ha2:All2 (fR (Bo g M) (s.frz k t l).ps ms hz) (vs.map (V1.map (W.frz k t l))) as:=by
    clear hK
    induction ha with
    | nil=>exact .nil
    | cons p q ih=>exact .cons (jv hw p) ih
   obtain ⟨vs',s',h2,q1,q2,q3,q4,q5⟩:=eZ ks _ hK S1 ha2
   exact ⟨vs',s',h2,q1,k1.trans q2,q3,q4,(Ro.frz hp).trans q5⟩
  exact eZ ks vs hK S ha
theorem nM {R:Type}:∀ (ks:List Nat) (vs:List (V1 T)) {s:VS T} {K:List (V1 T)→VS T→Option R} {r:R},rP ks vs s K=some r→∀ {Δ:List Ch} {ms:List AV} {e:Env} {h:Heap} {as:List AV},VSim g M Δ s ms e h→(∀ k,k∈ks→k < ms.length)→All2 (fR (Bo g M) s.ps ms h) vs as→
  ∃ vs' s' xs,K vs' s'=some r∧VSim g M Δ s' (ms++xs) e h∧All2 (fR (Bo g M) s'.ps (ms++xs) h) vs' as∧Ro s s'
 | [],vs,s,K,r,hK,Δ,ms,e,h,as,S,hk,ha=>⟨vs,s,[],hK,by rw [List.append_nil]; exact S,by rw [List.append_nil]; exact ha,Ro.refl s⟩
 | k::ks,vs,s,K,r,hK,Δ,ms,e,h,as,S,hk,ha=>by
  simp only [rP] at hK
  have hlt:=hk k (List.mem_cons_self ..)
  obtain ⟨s1,xs,o,v,hK,S1,e1,ro,hw⟩:=fx S (p7 hlt) hK
  have hm:=p7 hlt
  have key:∀ {vs:List (V1 T)} {as:List AV},All2 (fR (Bo g M) s.ps ms h) vs as→All2 (fR (Bo g M) s1.ps (ms++xs) h) (vs.map (V1.map (W.opp k))) as:=by
   intro vs as ha
   induction ha with
   | nil=>exact .nil
   | cons p q ih=>
    refine .cons (jv (fun w a r=>?_) p) ih
    have r2:=hw w a r
    cases w with
    | r j=>
     simp only [W.opp]
     cases hb:Nat.beq j k with
     | false=>exact r2
     | true=>
      obtain rfl:=Nat.eq_of_beq_eq_true hb
      have r:nth ms j=some a:=r
      rw [hm,e1] at r
      cases r
      exact ⟨o,v,by rw [aH hm,e1],rfl⟩
    | _=>exact r2
  obtain ⟨vs',s',ys,q1,q2,q3,q4⟩:=nM ks _ hK S1 (fun j hj=>by rw [List.length_append]; have:=hk j (List.mem_cons_of_mem _ hj); omega) (key ha)
  rw [List.append_assoc] at q2 q3
  exact ⟨vs',s',xs++ys,q1,q2,q3,ro.trans q4⟩
theorem jk {B:Hp} {ps:List (Part T)} {ms:List AV} {h:Heap}:∀ (l:List In) {ws:List (W T)} {as:List AV},All2 (jP B ps ms h) ws as→∀ k,k∈lR l ws→k < ms.length
 | [],ws,as,ha,k,hk=>by cases ws<;>simp [lR] at hk
 | i::l,[],as,ha,k,hk=>by cases i<;>simp [lR] at hk
 | i::l,w::ws,as,ha,k,hk=>by
  cases ha with
  | cons p q=>
   unfold lR at hk
   split at hk
   ·rename_i heq1 heq2
    injection heq1 with u1 u2
    injection heq2 with u3 u4
    subst u2; subst u3; subst u4
    rcases List.mem_cons.1 hk with rfl | hk
    ·exact iu (show nth ms _=some _ from p.1)
    exact jk _ q k hk
   ·rename_i heq1 heq2
    injection heq1 with u1 u2
    injection heq2 with u3 u4
    subst u2; subst u4
    exact jk _ q k hk
   cases hk
theorem nL {B:Hp} {ps:List (Part T)} {ms:List AV} {h:Heap}:∀ (pr:List (Bool×List In)) {vs:List (V1 T)} {as:List AV},All2 (fR B ps ms h) vs as→∀ k,k∈nX pr vs→k < ms.length
 | [],vs,as,ha,k,hk=>by cases vs<;>simp [nX] at hk
 | p::pr,[],as,ha,k,hk=>by simp [nX] at hk
 | p::pr,v::vs,as,ha,k,hk=>by
  cases ha with
  | cons u q=>
   simp only [nX,List.mem_append] at hk
   rcases hk with hk | hk
   ·exact jk _ (cw u).1 k hk
   exact nL pr q k hk
theorem r8 {R:Type} {f np:Nat} {p:FSp} {fn:DN T.S (DS p.lp)→Option (DN T.S (DS p.lr))} (hf:aC F T f p np fn) (hn:p.pr.length=np) {xs:List (SV T)} {s:VS T} {K:SV T→VS T→Option R} {r:R} (hK:wZ p fn xs s K=some r)
  {Δ:List Ch} {ms:List AV} {e:Env} {h:Heap} {as:List AV} (S:VSim g M Δ s ms e h) (ha:All2 (cM (Bo g M) s.ps ms h) xs as):KQ F g M Δ K r s ms e h (some []) fun c=>c f as h:=by
 unfold wZ at hK
 split at hK
 ·cases hK
 rename_i vs hvs
 have hvr:=nw hvs ha
 obtain ⟨vs0,s0,xs0,hK,S0,ha0,ro0⟩:=nM _ _ hK S (nL _ hvr) hvr
 obtain ⟨vs',s',hz,hK,k1,S1,ha1,ro1⟩:=eZ _ _ hK S0 ha0
 obtain ⟨x,s2,ys,v,n,h1,h',q1,q2,q3,q4,q5,q6,q7,q8⟩:=qR hf hn hK S1 ha1
 obtain ⟨g1,w1,w2⟩:=cJ n _ _ _ _ _ _ k1 q2
 refine ⟨x,s2,xs0++ys,v,n,g1,h',q1,w1,w2.trans q3,by rw [← List.append_assoc]; exact q4,by rw [← List.append_assoc]; exact q5,(ro0.trans ro1).trans q6,k1.hz.trans q7,fun t ht j p p' a o u1 u2 u3 u4 u5 u6 u7=>?_⟩
 obtain ⟨e1,y,y1,y2⟩:=q8 j p' a o u3 u4 (aH u6) u7
 rw [w2.same (by rw [e1]; exact y1) y2,k1.same y1 y2]
end
end Go.Am
namespace Go.Am
open Go
inductive Lb where
 | j (l:List In)
 | l (c l:List In) (o:rL)
def oA:ACode→Nat→List (Nat×Lb)→VC×Nat×List (Nat×Lb)
 | .skip,n,L=>(.skip,n,L)
 | .ret,n,L=>(.ret,n,L)
 | .exit i,n,L=>(.exit i,n,L)
 | .region ops,n,L=>(.region ops,n,L)
 | .dregion ops ps,n,L=>(.dreg ops ps,n,L)
 | .block i b,n,L=>match oA b n L with
  | (b,n,L)=>(.block i b,n,L)
 | .cond c a b,n,L=>match oA a n L with
  | (a,n,L)=>match oA b n L with
   | (b,n,L)=>(.cond c a b,n,L)
 | .seq a b,n,L=>match L with
  | (m,.j l)::L'=>bif Nat.beq m n then (match oA a (n+1) L' with
    | (a,n,L)=>match oA b n L with
     | (b,n,L)=>(.sj l a b,n,L)) else (match oA a (n+1) L with
    | (a,n,L)=>match oA b n L with
     | (b,n,L)=>(.seq a b,n,L))
  | _=>match oA a (n+1) L with
   | (a,n,L)=>match oA b n L with
    | (b,n,L)=>(.seq a b,n,L)
 | .loop b,n,L=>match L with
  | (m,.l c l o)::L'=>(match oA b (n+1) L' with
   | (b,n,L)=>(.loop c l o b,n,L))
  | L=>match oA b (n+1) L with
   | (b,n,L)=>(.loop [] [] [] b,n,L)
def vOf (c:ACode) (L:List (Nat×Lb)):VC:=(oA c 0 L).1
structure En (T:TE) where
 f:Nat
 q:List (Nat×Nat)
 p:FSp
 fn:DN T.S (DS p.lp)→Option (DN T.S (DS p.lr))
section
variable {T:TE}
def C9:SV T→Nat
 | .v (.w (.ptr _ o))=>o
 | .v (.w (.c (.func f [])))=>f
 | .v (.w (.c .nilPtr))=>1000003
 | .v (.w (.ed _ _ _ o))=>o
 | _=>0
def B9 (q:List (Nat×Nat)) (xs:List (SV T)):Bool:=q.all fun k=>match nth xs k.1 with
 | some x=>Nat.beq (C9 x) k.2
 | none=>false
noncomputable def bn:List (En T)→cC T
 | [],_,_,_,_,_=>none
 | en::l,R,f,xs,s,K=>bif Nat.beq en.f f&&B9 en.q xs then wZ en.p en.fn xs s K else bn l R f xs s K
variable {F:Nat→Option AFn}
theorem ag:cI F (bn (T:=T) []):=fun R f xs s K r hK=>by cases hK
theorem aa {l:List (En T)} (hl:cI F (bn l)) {en:En T} {np:Nat} (hf:aC F T en.f en.p np en.fn) (hn:en.p.pr.length=np):cI F (bn (en::l)):=by
 intro R f xs s K r hK g M Δ ms e h as S ha
 simp only [bn] at hK
 cases hb:(Nat.beq en.f f&&B9 en.q xs) with
 | true=>
  rw [hb] at hK
  rw [Bool.and_eq_true] at hb
  have hff:=Nat.eq_of_beq_eq_true hb.1
  subst hff
  exact r8 hf hn hK S ha
 | false=>
  rw [hb] at hK
  exact hl R f xs s K r hK g M Δ ms e h as S ha
noncomputable def EC {α β:Type} (f:Nat→α→Option β) (x:α):Option β:=open Classical in if h:∃ n y,f n x=some y then f h.choose x else none
noncomputable def AH {α β:Type} (f:(α→Option β)→α→Option β):Nat→α→Option β
 | 0,_=>none
 | n+1,x=>f (AH f n) x
end
end Go.Am
namespace Go.Am
open Go
section
variable {T:TE} {F:Nat→Option AFn}
theorem nh {α:Type} {P Q:List AV→α→List Nat→Prop} (hi:∀ c x f,P c x f→Q c x f):∀ {els:List (List AV)} {l:List α} {fps:List (List Nat)},All3 P els l fps→All3 Q els l fps
 | _,_,_,.nil=>.nil
 | _,_,_,.cons p q=>.cons (hi _ _ _ p) (nh hi q)
theorem tD {g h:Heap} {M:Nat→Prop} {Γ:List Ch} {α:Type} {r1 r2:ORep α} (hz:r1.rep.z=r2.rep.z) (hi:∀ c x f,r1.O h c x f→r2.O h c x f) {a:AV} {l:List α} (S:St g M (own (oSl r1) [a] l::Γ) h):St g M (own (oSl r2) [a] l::Γ) h:=by
 refine S.imp (.cons (fun fp hP=>?_) (All2.refl' (fun _ _ k=>k) _))
 obtain ⟨s,e,hP⟩:=hP
 refine ⟨s,e,?_⟩
 rcases hP with hP | ⟨o,v,off,row,els,fps,h1,h2,h3,h4,h5,h6,h7⟩
 ·exact .inl hP
 rw [hz] at h1 h3 h4
 exact .inr ⟨o,v,off,row,els,fps,h1,h2,h3,h4,nh hi h5,h6,h7⟩
theorem t5 {t:VT} (hd:T.dup t=true) {h:Heap} {cs:List AV} {x:T.D t} {fp:List Nat}:(T.w t).O h cs x fp↔fp=[]∧(T.r t).R (Frz h) cs x:=by
 constructor
 ·intro hO
  obtain rfl:=lC hd hO
  refine ⟨rfl,(T.r t).mono (fun o cs v hl=>?_) ((T.ogw t).loc hO)⟩
  rcases hl with hl | ⟨hm,_⟩
  ·exact hl
  cases hm
 rintro ⟨rfl,hR⟩
 exact yW hd hR
theorem sQ {t:VT} (hd:T.dup t=true) {f g0:Nat} {R1:Rep (T.D t)} (hR:∀ G cs x,R1.R G cs x↔(T.r t).R G cs x) (hz:R1.z=T.cells t) {P:List (T.D t)→Option (List (T.D t))}
  (r50:∀ {h:Heap} {M:Nat→Prop} {a0:AV} {x0 r:List (T.D t)},St h M [own (oSl (fz R1)) [a0] x0] h→P x0=some r→ZC F f [a0,.func g0 []] h fun v h'=>St h M [own (oSl (fz R1)) [v] r] h') :
  aC F T f ⟨[(false,[.r 0]),(false,[.c (.func g0 [])])],[.sl t],[],[.ld 0 false,.r 0,.slot 0 false,.sl t]⟩ 2 P:=by
 have e1:(T.w t).rep.z=(fz R1).rep.z:=(aS T t).trans hz.symm
 have to:∀ (h:Heap) c x f,(T.w t).O h c x f→(fz R1).O h c x f:=fun h c x f hO=>by
  obtain ⟨h1,h2⟩:=(t5 hd).1 hO
  exact ⟨h1,(hR _ _ _).2 h2⟩
 have of:∀ (h:Heap) c x f,(fz R1).O h c x f→(T.w t).O h c x f:=fun h c x f hO=>(t5 hd).2 ⟨hO.1,(hR _ _ _).1 hO.2⟩
 intro x y hy g M h g1 xs am Γ hl S hM hfz
 obtain ⟨f0,⟨a0,ea,ga⟩,f1,⟨a1,eb,gb⟩,Γ',rfl,e3⟩:=hM
 have e3:Γ'=[]:=e3
 subst e3
 have ea:am 0=a0:=by injection ea
 have eb:AV.func g0 []=a1:=by injection eb
 subst ea; subst eb
 have hxs:xs=[am 0,.func g0 []]:=by
  rcases xs with _ | ⟨p,_ | ⟨q,_ | ⟨r,xs⟩⟩⟩<;>simp at hl
  have h0:(cG 0 [p,q] .nil).get 0=some p:=by rw [bo]; rfl
  have h1:(cG 0 [p,q] .nil).get 1=some q:=by rw [bo]; rfl
  rw [ga] at h0
  rw [gb] at h1
  cases h0; cases h1; rfl
 subst hxs
 obtain ⟨fp,f1',f2,_,c1,L,c2,d2,hfp,back⟩:=St.lend2 (Γ:=[]) [own (T.w (.sl true t)) [am 0] x.1] S
 obtain ⟨n,v,q1,h',k1,k2,k3⟩:=r50 (tD e1 (to h) L) hy
 obtain ⟨q2,k4,k5⟩:=cJ n _ _ _ _ _ _ hfz k1
 have S3:St h (fun o=>o∈fp) [own (T.w (.sl true t)) [v] y] h':=tD e1.symm (of h') k3
 have hv:v.flat=true:=jL (S3.sl (r:=T.w t) (.head _)).is
 have S4:=back _ _ S3
 rw [List.append_nil] at S4
 refine ⟨n,v,q2,h',[v],[],fun _=>v,_,k4,k5.trans k2,rfl,rfl,.nil,S4,hv,⟨v,rfl,rfl⟩,[],?_,rfl⟩
 show [own (T.w (.sl true t)) [v] y]=_
 rfl
abbrev LB:List In:=[.ld 0 false,.d true .bool,.slot 0 false]
theorem law_bool {f np:Nat} {pr:List (Bool×List In)} {pt:List In} {fn:DN T.S (DS (FSp.lp ⟨pr,pt,[],LB⟩))→Option (DN T.S (DS LB))} (hf:aC F T f ⟨pr,pt,[],LB⟩ np fn) {x:T.H (DS (FSp.lp ⟨pr,pt,[],LB⟩))} (hx:fn (toN _ x)=some true)
  {h0 h:Heap} {xs:List AV} (hl:xs.length=np) (hz:Fz h0 h) {am:Nat→AV} (hM:Mat (Bo h eX) am (cG 0 xs .nil) h (FSp.lp ⟨pr,pt,[],LB⟩) x 0 [] []):cP F f xs h0 fun v _=>v=.bool true:=by
 obtain ⟨n,v,g1,h',as,ws,am',Γ',k1,k2,rfl,k4,k5,k6,k7⟩:=hf x true hx h eX h h0 xs am [] hl (St.refl h eX) hM hz
 cases k5
 obtain ⟨a,a1,a2,⟨b,b1,b2⟩,_⟩:=k7
 have a2:[a]=[AV.bool true]:=a2
 cases a2
 have b1:AV.bool true=b:=by injection b1
 subst b1
 refine ⟨n,_,g1,k1,?_⟩
 have k4:as.length+0=1:=k4
 rcases as with _ | ⟨p,_ | ⟨q,as⟩⟩<;>simp at k4
 rw [bo] at b2
 have b2:some p=some (.bool true):=b2
 cases b2
 rfl
theorem sI {f np:Nat} {pr:List (Bool×List In)} {pt:List In} {fn:DN T.S (DS (FSp.lp ⟨pr,pt,[],LB⟩))→Option (DN T.S (DS LB))} (hf:aC F T f ⟨pr,pt,[],LB⟩ np fn) {x:T.H (DS (FSp.lp ⟨pr,pt,[],LB⟩))} {r:Bool} (hx:fn (toN _ x)=some r)
  {h:Heap} {xs:List AV} (hl:xs.length=np) {am:Nat→AV} (hM:Mat (Bo h eX) am (cG 0 xs .nil) h (FSp.lp ⟨pr,pt,[],LB⟩) x 0 [] []):ZC F f xs h fun v h2=>v=.bool r∧St h eX [] h2:=by
 obtain ⟨n,v,g1,h',as,ws,am',Γ',k1,k2,rfl,k4,k5,k6,k7⟩:=hf x r hx h eX h h xs am [] hl (St.refl h eX) hM (Fz.refl h)
 cases k5
 obtain ⟨a,a1,a2,⟨b,b1,b2⟩,e⟩:=k7
 have e:Γ'=[]:=e
 subst e
 have a2:[a]=[AV.bool r]:=a2
 cases a2
 have b1:AV.bool r=b:=by injection b1
 subst b1
 refine ⟨n,_,g1,h',k1,k2,?_,k6⟩
 have k4:as.length+0=1:=k4
 rcases as with _ | ⟨p,_ | ⟨q,as⟩⟩<;>simp at k4
 rw [bo] at b2
 have b2:some p=some (.bool r):=b2
 cases b2
 rfl
theorem vm {Lp:LP} {H:List (Nat×VT)} {l:List (En T)} (hl:cI F (bn l)) {f:Nat} {q:List (Nat×Nat)} {p:FSp} {body:(DN T.S (DS p.lp)→Option (DN T.S (DS p.lr)))→DN T.S (DS p.lp)→Option (DN T.S (DS p.lr))} {fn:AFn} {L:List (Nat×Lb)} (hF:F f=some fn) (hc:fn.code=(vOf fn.code L).er) (hn:p.pr.length=fn.np)
  (he:(fun g=>vfn Lp H (bn (⟨f,q,p,g⟩::l)) p fn.res (vOf fn.code L))=body):∀ n,aC F T f p fn.np (AH body n):=by
 intro n
 subst he
 induction n with
 | zero=>intro x y hK; cases hK
 | succ n ih=>exact au (H:=H) (p:=p) (aa hl (en:=⟨f,q,p,AH _ n⟩) ih hn) hF hc
def Ole {α:Type} (a b:Option α):Prop:=∀ r,a=some r→b=some r
theorem Ole.refl {α:Type} (a:Option α):Ole a a:=fun _ h=>h
theorem Ole.bind {α β:Type} {a b:Option α} {f g:α→Option β} (h:Ole a b) (k:∀ x,Ole (f x) (g x)):Ole (a.bind f) (b.bind g):=fun r hr=>by
 obtain ⟨x,h1,h2⟩:=obI hr
 rw [h x h1]
 exact k x r h2
theorem Ole.ite {α:Type} {c:Prop} [Decidable c] {a b a' b':Option α} (h:Ole a a') (k:Ole b b'):Ole (if c then a else b) (if c then a' else b'):=by
 split<;>assumption
theorem Ole.iter {σ ρ:Type} {f g:σ→Option (σ⊕ρ)} (h:∀ s,Ole (f s) (g s)):∀ (n:Nat) (s:σ),Ole (iter f n s) (iter g n s)
 | 0,s=>Ole.refl _
 | n+1,s=>fun r hr=>by
  unfold Am.iter at hr ⊢
  split at hr
  ·cases hr
  ·rename_i s' e; rw [h s _ e]; exact Ole.iter h n s' r hr
  rename_i r' e; rw [h s _ e]; exact hr
theorem Ole.loop {σ ρ:Type} {f g:σ→Option (σ⊕ρ)} (h:∀ s,Ole (f s) (g s)) (s:σ):Ole (aq f s) (oo g s):=fun r hr=>eE.2 ⟨_,Ole.iter h _ s r hr⟩
end
end Go.Am
