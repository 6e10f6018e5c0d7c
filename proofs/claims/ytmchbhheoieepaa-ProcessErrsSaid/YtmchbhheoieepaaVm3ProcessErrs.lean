/- A machine over typed values, and that functions do what it says. No condition. Own work. -/
import Derived.Test.YtmchbhheoieepaaVm2ProcessErrs
set_option linter.unusedSimpArgs false
set_option linter.unusedVariables false
namespace Go.Am
open Go
section
variable {T:TE} {g:Heap} {M:Nat→Prop} {h:Heap}
theorem VSim.act {Δ:List Ch} {s:VS T} {ms:List AV} {e:Env} {Γ1:List Ch} {Γ2:AV→List Ch} {o:Option (AV×Heap)} (S:VSim g M (Γ1++Δ) s ms e h) (op:∀ M',St h M' Γ1 h→∃ v h',o=some (v,h')∧St h M' (Γ2 v) h'):∃ v h',o=some (v,h')∧HZ h h'∧VSim g M (Γ2 v++Δ) s ms e h':=by
 have S1:=S.st
 rw [List.append_assoc] at S1
 obtain ⟨fp,f1,f2,_,_,L,_,_,_,back⟩:=St.lend2 Γ1 S1
 obtain ⟨v,h',k1,k2⟩:=op _ L
 refine ⟨v,h',k1,k2.hz,S.heap k2.hz ?_⟩
 rw [List.append_assoc]
 exact back _ _ k2
theorem VSim.pull {Δ:List Ch} {s:VS T} {ms:List AV} {e:Env} (S:VSim g M Δ s ms e h) {k:Nat} {p:Part T} {a:AV} (hp:nth s.ps k=some p) (ha:nth ms k=some a) (hn:∀ t l,¬ slq t l p) (hr:∀ q,p≠.ro q):VSim g M (df (Bo g M) ms a p::Δ) (s.set k .dead) ms e h:=
 ⟨by simp only [VS.set,List.length_set]; exact S.len,S.st.pull ha hp,S.env_id (fun _ _ r=>r) fun w a r=>vm (bi hp hr) hn r⟩
def apC {α:Type} (r:ORep α) (els:List (List AV)) (l:List α):Ch where
 P h fp:=∃ fps,All3 (r.O h) els l fps∧fp=fps.flatten∧fp.Nodup
 nd:=by rintro _ _ ⟨_,_,_,h⟩; exact h
 bd:=by rintro h fp ⟨fps,a,rfl,_⟩; exact a.bd
 stay:=by rintro h h' fp ⟨fps,a,rfl,hn⟩ hs hz; exact ⟨fps,a.stay hs hz,rfl,hn⟩
theorem md:∀ (ts:List VT),ts.all (fun t=>t.pure)=true→∀ {h:Heap} {cs:List AV} {x:T.H ts} {fp:List Nat},(oHL T.o ts).O h cs x fp→fp=[]
 | [],_,h,cs,x,fp,hO=>hO.1
 | t::ts,hp,h,cs,x,fp,hO=>by
  rw [List.all_cons,Bool.and_eq_true] at hp
  obtain ⟨a,b,fa,fb,_,h1,h2,rfl,_⟩:=hO
  rw [md ts hp.2 h2,List.append_nil]
  cases t with
  | int k=>exact h1.1
  | bool=>exact h1.1
  | str=>exact h1.1
  | sl o t=>
   cases o
   ·exact h1.1
   exact absurd hp.1 (by simp [VT.pure])
  | st k=>exact absurd hp.1 (by simp [VT.pure])
  | pt t=>exact absurd hp.1 (by simp [VT.pure])
  | ic n t=>exact absurd hp.1 (by simp [VT.pure])
  | mp k v=>exact absurd hp.1 (by simp [VT.pure])
theorem ux:∀ (ts:List VT),ts.all (fun t=>t.pure)=true→∀ {h:Heap} {cs:List AV} {x:T.H ts},(oHL T.o ts).rep.R (Frz h) cs x→(oHL T.o ts).O h cs x []
 | [],_,h,cs,x,hR=>⟨rfl,hR⟩
 | t::ts,hp,h,cs,x,hR=>by
  rw [List.all_cons,Bool.and_eq_true] at hp
  obtain ⟨a,b,e,h1,h2⟩:=hR
  refine ⟨a,b,[],[],e,?_,ux ts hp.2 h2,rfl,by simp⟩
  cases t with
  | int k=>exact ⟨rfl,h1⟩
  | bool=>exact ⟨rfl,h1⟩
  | str=>exact ⟨rfl,h1⟩
  | sl o t=>
   cases o
   ·exact ⟨rfl,h1⟩
   exact absurd hp.1 (by simp [VT.pure])
  | st k=>exact absurd hp.1 (by simp [VT.pure])
  | pt t=>exact absurd hp.1 (by simp [VT.pure])
  | ic n t=>exact absurd hp.1 (by simp [VT.pure])
  | mp k v=>exact absurd hp.1 (by simp [VT.pure])
theorem tz:∀ (ts:List VT),ts.all (fun t=>t.flat)=true→∀ {G G':Hp} {cs:List AV} {x:T.H ts},(oHL T.o ts).rep.R G cs x→(oHL T.o ts).rep.R G' cs x
 | [],_,_,_,_,_,hR=>hR
 | t::ts,hp,_,_,_,_,⟨a,b,e,h1,h2⟩=>by
  rw [List.all_cons,Bool.and_eq_true] at hp
  exact ⟨a,b,e,mt (T:=T) (t:=t) hp.1 h1,tz ts hp.2 h2⟩
theorem FQ {t:VT} (ht:t.leaf=true) {h:Heap} {cs:List AV} {x:T.D t} {fp:List Nat}:(T.w t).O h cs x fp↔(oHL T.o [t]).O h cs (x,()) fp:=by
 constructor
 ·intro hO
  exact ⟨cs,[],fp,[],by simp,hO,⟨rfl,rfl⟩,by simp,(T.w t).nd hO⟩
 rintro ⟨a,b,fa,fb,rfl,h1,⟨rfl,h2⟩,rfl,_⟩
 have h2:b=[]:=h2
 subst h2
 rw [List.append_nil,List.append_nil]
 exact h1
theorem unO {t:VT} {h:Heap} {cs:List AV} {x:T.D t} {fp:List Nat}:(T.w t).O h cs x fp↔(oHL T.o (T.lv t)).O h cs (T.un t x) fp:=by
 cases t with
 | st k=>
  have e:T.w (.st k)=qT (oHL T.o (T.fl k)) (T.to k):=T.o_eq k
  rw [e]
  exact Iff.rfl
 | _=>exact FQ rfl
theorem oK {t:VT} (hd:T.dup t=true) {h:Heap} {cs:List AV} {x:T.D t} {fp:List Nat} (hO:(T.w t).O h cs x fp):fp=[]:=md _ hd (unO.1 hO)
theorem DV {t:VT} (hd:T.dup t=true) {h:Heap} {cs:List AV} {x:T.D t} (hR:(T.r t).R (Frz h) cs x):(T.w t).O h cs x []:=unO.2 (ux _ hd (unR hR))
theorem reR {G:Hp} {t:VT} {cs:List AV} {x:T.D t} (hr:(oHL T.o (T.lv t)).rep.R G cs (T.un t x)):(T.r t).R G cs x:=by
 have key:∀ {t:VT} {x:T.D t},(oHL T.o [t]).rep.R G cs (x,())→(T.r t).R G cs x:=by
  rintro t x ⟨a,b,rfl,h1,h2⟩
  have h2:b=[]:=h2
  subst h2
  rw [List.append_nil]
  exact h1
 cases t with
 | st k=>
  have e:T.w (.st k)=qT (oHL T.o (T.fl k)) (T.to k):=T.o_eq k
  show (T.w (.st k)).rep.R G cs x
  rw [e]
  exact hr
 | _=>exact key hr
theorem F2 {t:VT} (hd:T.flt t=true) {G G':Hp} {cs:List AV} {x:T.D t} (hR:(T.r t).R G cs x):(T.r t).R G' cs x:=reR (tz _ hd (unR hR))
theorem lj {α:Type} {r:ORep α} {h:Heap} (hn:∀ {cs:List AV} {x:α} {fp:List Nat},r.O h cs x fp→fp=[]):∀ {els:List (List AV)} {l:List α} {fps:List (List Nat)},All3 (r.O h) els l fps→fps.flatten=[]
 | _,_,_,.nil=>rfl
 | _,_,_,.cons p q=>by rw [List.flatten_cons,hn p,lj hn q]; rfl
theorem eL {h:Heap} {o v off n z:Nat} {row:List AV} {w:Bool} {els:List (List AV)} (hg:h.get o=some (.row row v w)) (hl:off+n * z≤row.length) (he:els.flatten=(row.drop off).take (n * z)):appended h z (.slice o v off n z)=some (els.flatten,n):=by
 show (match h.rows z (.slice o v off n z) with
  | some cs=>some (cs,(AV.slice o v off n z).slen)
  | none=>none)=_
 rw [show h.rows z (.slice o v off n z)=some els.flatten by rw [he]; exact eA hg hl]
 rfl
theorem wC {R:Type} {Δ:List Ch} {s:VS T} {ms:List AV} {e:Env} (S:VSim g M Δ s ms e h) {y:W T} {a:AV} (ha:bF (Bo g M) s.ps ms h y a) {K:(t:VT)→List (T.D t)→VS T→Option R} {r:R} (hK:apY s y K=some r) :
  ∃ t l els s',K t l s'=some r∧appended h (T.cells t) a=some (els.flatten,l.length)∧VSim g M (apC (T.w t) els l::Δ) s' ms e h∧Ro s s':=by
 unfold apY at hK
 split at hK
 ·rename_i k
  have ha:nth ms k=some a:=ha
  split at hK
  ·rename_i t l hp
   cases hd:T.dup t with
   | true=>
    rw [hd,cond_true] at hK
    have e1:(VT.ow T.o t).rep.z=T.cells t:=a5 T t
    obtain ⟨fp,s0,e0,hO⟩:=(S.st.pullL ha hp).mem (.head _)
    cases e0
    rcases hO with ⟨rfl,rfl,_⟩ | ⟨o,v,off,row,els,fps,rfl,hg,h3,h4,h5,_,_⟩
    ·exact ⟨t,[],[],s,hK,rfl,S.none (c:=apC (T.w t) [] []) ⟨[],.nil,rfl,by simp⟩,Ro.refl s⟩
    rw [e1] at h3 h4
    refine ⟨t,l,els,s,hK,?_,S.none (c:=apC (T.w t) els l) ⟨fps,h5,(lj (oK hd) h5).symm,by simp⟩,Ro.refl s⟩
    rw [e1]
    exact eL hg h3 h4
   | false=>
    rw [hd,cond_false] at hK
    split at hK
    ·rename_i t l hp
     have e1:(VT.ow T.o t).rep.z=T.cells t:=a5 T t
     have S2:=S.kill hp ha
     obtain ⟨fp,⟨s0,e0,hO⟩,kk⟩:=S2.st.turn1
     cases e0
     rcases hO with ⟨rfl,rfl,rfl⟩ | ⟨o,v,off,row,els,fps,rfl,hg,h3,h4,h5,rfl,h7⟩
     ·exact ⟨t,[],[],_,hK,rfl,S2.with (kk h (apC (T.w t) [] []) [] (HZ.refl _) (Nat.le_refl _) (fun _ _ _ hy=>hy) ⟨[],.nil,rfl,by simp⟩ (fun o ho=>by cases ho)),Ro.kill hp (fun _ e=>by cases e)⟩
     rw [e1] at h3 h4
     refine ⟨t,l,els,_,hK,?_,S2.with (kk h (apC (T.w t) els l) fps.flatten (HZ.refl _) (Nat.le_refl _) (fun _ _ _ hy=>hy) ⟨fps,h5,rfl,(List.nodup_cons.1 h7).2⟩ (fun o ho=>.inl (List.mem_cons_of_mem _ ho))),Ro.kill hp (fun _ e=>by cases e)⟩
     rw [e1]
     exact eL hg h3 h4
    cases hK
  cases hK
 ·rename_i z o t l
  cases hd:(T.dup t&&(z||T.flt t)) with
  | false=>rw [hd] at hK; cases hK
  | true=>
   rw [hd] at hK
   rw [Bool.and_eq_true,Bool.or_eq_true] at hd
   have hs:=Bu ha
   rcases hs with ⟨rfl,rfl⟩ | ⟨ob,v,off,row,els,rfl,h2,h3,h4,h5⟩
   ·exact ⟨t,[],[],s,hK,rfl,S.none (c:=apC (T.w t) [] []) ⟨[],.nil,rfl,by simp⟩,Ro.refl s⟩
   obtain ⟨w,hg⟩:=zG.le S.st z _ _ _ h2
   have e1:(T.r t).z=T.cells t:=a5 T t
   rw [e1] at h3 h4
   have h6:All2 ((T.r t).R (Frz h)) els l:=h5.imp fun c x k=>by
    rcases hd.2 with hz | hf
    ·subst hz; exact k
    exact F2 hf k
   have h7:∀ {els:List (List AV)} {l:List (T.D t)},All2 ((T.r t).R (Frz h)) els l→All3 ((T.w t).O h) els l (l.map fun _=>[]):=by
    intro els l a
    induction a with
    | nil=>exact .nil
    | cons p q ih=>exact .cons (DV hd.1 p) ih
   refine ⟨t,l,els,s,hK,?_,S.none (c:=apC (T.w t) els l) ⟨_,h7 h6,(lj (oK hd.1) (h7 h6)).symm,by simp⟩,Ro.refl s⟩
   rw [e1]
   exact eL hg h3 h4
 cases hK
theorem BC {R:Type} {Δ:List Ch} {s:VS T} {ms:List AV} {e:Env} (S:VSim g M Δ s ms e h) {x:W T} {a:AV} (ha:ii (Bo g M) ms h x a) {t:VT} {K:List (T.D t)→VS T→Option R} {r:R} (hK:apX s x t K=some r) :
  ∃ l s',K l s'=some r∧VSim g M (own (oSl (T.w t)) [a] l::Δ) s' ms e h∧Ro s s':=by
 unfold apX at hK
 split at hK
 ·rename_i k
  split at hK
  ·rename_i u l hp
   obtain ⟨rfl,hK⟩:=aO hK
   have ha:nth ms k=some a:=ha
   exact ⟨l,_,hK,S.kill hp ha,Ro.kill hp (fun _ e=>by cases e)⟩
  cases hK
 ·have ha:a=.nilSlice:=ha
  subst ha
  exact ⟨[],s,hK,S.none (AC _ _),Ro.refl s⟩
 cases hK
theorem Al {α:Type} (a b c:α) (l:List α):(a::b::c::l).Perm (c::b::a::l):=(List.Perm.swap b a _).trans ((List.Perm.cons b (List.Perm.swap c a _)).trans (List.Perm.swap c b _))
theorem rR {α:Type} (a b c:α) (l:List α):(a::b::c::l).Perm (b::c::a::l):=(List.Perm.swap b a _).trans (List.Perm.cons b (List.Perm.swap c a _))
theorem nA:∀ (ts:List VT) (hl:∀ t,t∈ts→t.leaf=true) (x:T.H ts) (o n:Nat) (y:T.H (yp ts o n)) {Γ:List Ch} {c d:List AV},St g M (own (oHL T.o ts) c x::own (oHL T.o (yp ts o n)) d y::Γ) h→o+n≤ts.length→d.length=n→St g M (own (oHL T.o ts) (splice c o d) (zU ts x o n y)::Γ) h
 | ts,hl,x,o,0,y,Γ,c,d,S,hb,hd=>by
  have:d=[]:=List.eq_nil_of_length_eq_zero hd
  subst this
  have e1:splice c o ([]:List AV)=c:=by unfold splice; simp
  rw [e1]
  cases ts<;>simp only [zU]<;>exact S.swap.drop
 | [],hl,x,o,n+1,y,Γ,c,d,S,hb,hd=>by simp at hb
 | t::ts,hl,x,0,n+1,y,Γ,c,d,S,hb,hd=>by
  have ht:=hl t (List.mem_cons_self ..)
  obtain ⟨a,b,rfl,hla,_,S1⟩:=S.unpair
  obtain ⟨c0,rfl⟩:=jl (hla.trans (eI ht))
  have S2:=(S1.drop).swap
  obtain ⟨a2,b2,rfl,hla2,_,S3⟩:=S2.unpair
  obtain ⟨d0,rfl⟩:=jl (hla2.trans (eI ht))
  have S4:=S3.perm (Al _ _ _ _)
  have S5:=nA ts (fun u hu=>hl u (List.mem_cons_of_mem _ hu)) x.2 0 n y.2 S4 (by simp at hb; omega) (by simpa using hd)
  have S6:=(S5.swap).pair
  have e1:splice ([c0]++b) 0 ([d0]++b2)=[d0]++splice b 0 b2:=by unfold splice; simp
  rw [e1]
  exact S6
 | t::ts,hl,x,o+1,n+1,y,Γ,c,d,S,hb,hd=>by
  have ht:=hl t (List.mem_cons_self ..)
  obtain ⟨a,b,rfl,hla,_,S1⟩:=S.unpair
  obtain ⟨c0,rfl⟩:=jl (hla.trans (eI ht))
  have S4:=S1.perm (rR _ _ _ _)
  have S5:=nA ts (fun u hu=>hl u (List.mem_cons_of_mem _ hu)) x.2 o (n+1) y S4 (by simp at hb; omega) hd
  have S6:=(S5.swap).pair
  have e1:splice ([c0]++b) (o+1) d=[c0]++splice b o d:=by
   unfold splice
   simp only [List.singleton_append,List.take_succ_cons,List.cons_append,show o+1+d.length=(o+d.length)+1 by omega,List.drop_succ_cons]
   rfl
  rw [e1]
  exact S6
theorem eR {n:Nat} {p a v:AV} {h h':Heap} (hr:EOp.ev (.store n) [p,a] h=some (v,h')):v=.undef:=by
 cases p<;>simp only [EOp.ev,reduceCtorEq] at hr
 split at hr
 ·split at hr
  ·cases hr; rfl
  cases hr
 cases hr
theorem pM {B:Hp} {ps ps':List (Part T)} {ms:List AV} {h h':Heap} {f f':W T→W T} (hw:∀ w a,bF B ps ms h w a→bF B ps' ms h' (f w) a→bF B ps' ms h' (f' w) a):∀ {x:V1 T} {a:AV},fR B ps ms h x a→fR B ps' ms h' (x.map f) a→fR B ps' ms h' (x.map f') a
 | .w w,a,r,q=>⟨hw _ _ r.1 q.1,r.2⟩
 | .agg ws,a,⟨cs,e,r⟩,⟨cs',e',q⟩=>⟨cs,e,by
  rw [e] at e'
  cases e'
  clear e
  induction r with
  | nil=>exact .nil
  | cons p t ih=>cases q with
   | cons p' t'=>exact .cons ⟨hw _ _ p.1 p'.1,p.2⟩ (ih t')⟩
theorem uQ {B:Hp} {ps ps':List (Part T)} {ms:List AV} {h h':Heap} {f f':W T→W T} (hw:∀ w a,bF B ps ms h w a→bF B ps' ms h' (f w) a→bF B ps' ms h' (f' w) a):∀ {x:SV T} {a:AV},cJ B ps ms h x a→cJ B ps' ms h' (x.map f) a→cJ B ps' ms h' (x.map f') a
 | .v x,a,r,q=>pM hw r q
 | .un,a,r,q=>r
 | .ro x,a,r,q=>q
 | .tup l,a,⟨vs,e,r⟩,⟨vs',e',q⟩=>⟨vs,e,by
  rw [e] at e'
  cases e'
  clear e
  induction r with
  | nil=>exact .nil
  | cons p t ih=>cases q with
   | cons p' t'=>exact .cons (pM hw p p') (ih t')⟩
theorem VSim.up {Δ Δ0:List Ch} {s:VS T} {ms:List AV} {e:Env} {h h':Heap} {k:Nat} {t:VT} {l l':List (T.D t)} (S0:VSim g M Δ0 s ms e h) (S:VSim g M Δ ((s.kill k).set k (.sl t l')) ms e h') (hp:nth s.ps k=some (.sl t l)) (hl:l'.length=l.length):VSim g M Δ (s.up k (.sl t l')) ms e h':=by
 have e1:((s.kill k).set k (.sl t l')).ps=(s.up k (.sl t l')).ps:=by
  simp only [VS.kill,VS.pur,VS.set,VS.up,List.set_set]
 refine ⟨by rw [← e1]; exact S.len,by rw [← e1]; exact S.st,fun n sv hn=>?_⟩
 have hn:lk (s.e.map fun x=>(x.1,x.2.map (W.stl k))) n=some sv:=hn
 rw [mE] at hn
 cases h0:lk s.e n with
 | none=>rw [h0] at hn; cases hn
 | some sv0=>
  rw [h0] at hn
  cases hn
  obtain ⟨v,v1,v2⟩:=S0.env n sv0 h0
  obtain ⟨v',w1,w2⟩:=S.env n (sv0.map (W.pur k)) (by
   show lk (s.e.map fun x=>(x.1,x.2.map (W.pur k))) n=_
   rw [mE,h0]; rfl)
  rw [v1] at w1
  cases w1
  refine ⟨v,v1,?_⟩
  rw [← e1]
  refine uQ (f:=W.pur k) (f':=W.stl k) (fun w a r q=>?_) v2 w2
  cases w<;>first | exact q | skip
  rename_i j u i x o
  simp only [W.pur,W.stl] at q ⊢
  cases hj:Nat.beq j k with
  | false=>rw [hj] at q; exact q
  | true=>
   obtain rfl:=Nat.eq_of_beq_eq_true hj
   obtain ⟨b,l0,r1,r2,⟨y,r3,r4⟩,r5⟩:=r
   have r2:=jZ r2 (bi hp (fun _ e=>by cases e))
   rw [bi hp (fun _ e=>by cases e)] at r2
   cases r2
   have hlt:i.toNat < l'.length:=by
    rw [hl]
    exact (List.getElem?_eq_some_iff.1 (bL r3).2).1
   refine ⟨b,l',r1,⟨.sl _ l',?_,.inl rfl⟩,⟨l'[i.toNat]'hlt,?_,fun z e=>by cases e⟩,r5⟩
   ·rw [e1]
    exact bi (a8 hp) (fun _ e=>by cases e)
   unfold idx
   rw [if_pos (bL r3).1,List.getElem?_eq_getElem hlt]
theorem Ro.up {s:VS T} {k:Nat} {p p0:Part T} (h0:nth s.ps k=some p0) (hn:∀ q,p0≠.ro q):Ro s (s.up k p):=by
 exact ⟨fun j x h=>my h,fun j q h=>kd h0 hn h⟩
theorem tV {R:Type} {Δ:List Ch} {s:VS T} {ms:List AV} {e:Env} (S:VSim g M Δ s ms e h) {n:Nat} {xs:List (W T)} {p a:AV} {x:W T} (hp:kQ (Bo g M) s.ps ms h x p) (hx:All2 (kQ (Bo g M) s.ps ms h) xs a.cells) (hat:a.isTup=false) {K:SV T→VS T→Option R} {r:R} (hK:stA s n xs K x=some r) :
  HQ g M Δ K r s ms e (EOp.ev (.store n) [p,a] h):=by
 unfold stA at hK
 split at hK
 ·rename_i k o
  split at hK
  ·rename_i ws hw
   cases hb:(Nat.beq xs.length n&&Nat.ble (o+n) ws.length&&xs.all W.sto) with
   | false=>rw [hb] at hK; cases hK
   | true=>
    rw [hb] at hK
    rw [Bool.and_eq_true,Bool.and_eq_true] at hb
    obtain ⟨⟨hb1,hb2⟩,hb3⟩:=hb
    have hb1:a.cells.length=n:=by rw [← hx.len]; exact Nat.eq_of_beq_eq_true hb1
    obtain ⟨ob,v,h1,rfl⟩:=hp.1
    have S1:=S.pull hw h1 (fun _ _ e=>by rcases e with e | ⟨_,_,e⟩<;>cases e) (fun _ e=>by cases e)
    obtain ⟨ob',v',cs,e1,hr,S2⟩:=St.rowOpen S1.st
    cases e1
    have hb2:o+n≤cs.length:=by rw [← hr.len]; exact Nat.le_of_ble_eq_true hb2
    have S3:VSim g M ([fJ ob cs v]++Δ) (s.set k .dead) ms e h:=S1.with S2
    obtain ⟨w,h',k1,k2,S4⟩:=S3.act (o:=EOp.ev (.store n) [.ptr ob v o,a] h) (Γ2:=fun _=>[fJ ob (splice cs o a.cells) v]) (fun M' L=>by
     obtain ⟨h',q1,q2⟩:=L.store hb2 hb1 hat rfl
     exact ⟨_,h',q1,q2⟩)
    have hw2:=eR k1
    subst hw2
    have hr2:All2 (hY (Bo g M) ms h') (ws.take o++(xs++ws.drop (o+n))) (splice cs o a.cells):=by
     have hr':=hr.imp fun w a (k:hY (Bo g M) ms h w a)=>(show hY (Bo g M) ms h' w a from ⟨cS k2 w k.1,k.2⟩)
     have hx':=(zJ hb3 hx).imp fun w a (k:hY (Bo g M) ms h w a)=>(show hY (Bo g M) ms h' w a from ⟨cS k2 w k.1,k.2⟩)
     unfold splice
     rw [hb1]
     exact (hr'.take o).append' (hx'.append' (hr'.drop (o+n)))
    have S5:=St.rowClose hr2 S4.st
    have S6:VSim g M Δ ((s.set k .dead).set k (.row (ws.take o++(xs++ws.drop (o+n))))) ms e h':=VSim.put0 (S4.with (Δ':=D2 _ _ _ _::Δ) S5) (a8 hw) h1
    have e2:(s.set k .dead).set k (.row (ws.take o++(xs++ws.drop (o+n))))=s.set k (.row (ws.take o++(xs++ws.drop (o+n)))):=by
     simp only [VS.set,List.set_set]
    rw [e2] at S6
    exact ⟨_,_,[],_,_,h',hK,k1,Fz.refl _,by rw [List.append_nil]; exact S6,rfl,Ro.setP hw (fun _ e=>by cases e)⟩
  cases hK
 ·rename_i k t i x o
  cases hb:(Nat.beq xs.length n&&Nat.ble (o+n) (T.cells t)) with
  | false=>rw [hb] at hK; cases hK
  | true=>
   rw [hb] at hK
   rw [Bool.and_eq_true] at hb
   have hb1:a.cells.length=n:=by rw [← hx.len]; exact Nat.eq_of_beq_eq_true hb.1
   have hb2:o+n≤T.cells t:=Nat.le_of_ble_eq_true hb.2
   obtain ⟨b,l0,h1,h2,h3,rfl⟩:=hp.1
   obtain ⟨ys,s',h',q1,q2,q3,q4⟩:=(jP (T:=T) fuel).1 _ _ _ _ _ hK S (hx.imp fun w a k=>g9 k.1)
   dsimp only at q1
   split at q1
   ·rename_i t' l hw
    obtain ⟨rfl,q1⟩:=aO q1
    have h30:=h3
    have hl:l0=l:=by
     have:=bi (q4.sl _ _ _ hw) (fun _ e=>by cases e)
     have h5:=jZ h2 this
     rw [h5] at this
     cases this; rfl
    subst hl
    obtain ⟨x,h3,q1⟩:=fD q1 h3
    have q1:K .un (s'.up k (.sl t' (l0.set i.toNat (T.re t' (zU (T.lv t') (T.un t' x) o n ys)))))=some r:=q1
    have S1:=q3.kill hw h1
    obtain ⟨c,hc,S2⟩:=St.out (r:=T.w t') S1.st h3
    have S3:=St.unW S2
    have e1:(T.w t').rep.z=T.cells t':=a5 T t'
    have S4:VSim g M ([kP (T.w t') b l0 i.toNat c]++(own (oHL T.o (T.lv t')) c (T.un t' x)::own (oHL T.o (yp (T.lv t') o n)) a.cells ys::Δ)) (s'.kill k) ms e h':=S1.with S3.swap
    obtain ⟨w,h'',k1,k2,S5⟩:=S4.act (o:=EOp.ev (.store n) [(b.at (i.toNat * T.cells t')).padd o,a] h') (Γ2:=fun _=>[kP (T.w t') b l0 i.toNat (splice c o a.cells)]) (fun M' L=>by
     obtain ⟨h2,w1,w2⟩:=L.hset (k:=o) (n:=n) (y:=a) hb1 hat (by rw [e1]; exact hb2) rfl
     rw [e1] at w1
     exact ⟨_,h2,w1,w2⟩)
    have S6:=nA _ (dZ T t') _ o n ys (S5.st.perm (List.Perm.trans (rR _ _ _ _) (List.Perm.refl _))) hb2 hb1
    have S7:=St.back (St.reW S6)
    have S8:VSim g M Δ ((s'.kill k).set k (.sl t' (l0.set i.toNat (T.re t' (zU (T.lv t') (T.un t' x) o n ys))))) ms e h'':=VSim.put0 (p:=.sl t' _) (S5.with (Δ':=own (oSl (T.w t')) [b] _::Δ) S7) (a8 hw) h1
    have S9:=VSim.up q3 S8 hw (by rw [List.length_set])
    obtain ⟨g1,z1,z2⟩:=rZ q2 k1
    exact ⟨_,_,[],_,g1,h'',q1,z1,z2,by rw [List.append_nil]; exact S9,eR k1,q4.ro.trans (Ro.up hw (fun _ e=>by cases e))⟩
   cases q1
 cases hK
theorem gR {q:Nat} {p a b v:AV} {h h':Heap} (hr:EOp.ev (.mapSet q) [p,a,b] h=some (v,h')):v=.undef:=by
 cases p<;>simp only [EOp.ev,reduceCtorEq] at hr
 split at hr
 ·split at hr
  ·split at hr
   ·cases hr; rfl
   cases hr
  cases hr
 cases hr
theorem Ci {w:W T} {b:Bool} {B:Hp} {ps:List (Part T)} {ms:List AV} {h:Heap} {a:AV} (hb:bW w=some b) (hr:bF B ps ms h w a):a=.bool b:=by
 unfold bW at hb
 split at hb
 ·cases hb; exact dI hr
 ·cases hb; exact hr
 cases hb
theorem AI {R:Type} {Δ:List Ch} {s:VS T} {ms:List AV} {e:Env} (S:VSim g M Δ s ms e h) {q:EOp} {xs:List (SV T)} {as:List AV} (ha:All2 (cJ (Bo g M) s.ps ms h) xs as) {K:SV T→VS T→Option R} {r:R} (hK:Fq q xs s K=some r) :
  HQ g M Δ K r s ms e (q.ev as h):=by
 cases q<;>simp only [Fq] at hK<;>try cases hK
 case mapSet kq=>
  split at hK
  ·rename_i k z1 k1 x z2 k2 y
   cases ha with
   | cons p q=>cases q with
    | cons p2 q=>cases q with
     | cons p3 q=>
      cases q
      obtain rfl:=aV p2.1
      obtain rfl:=aV p3.1
      split at hK
      ·rename_i ka kb m hp
       split at hK
       ·rename_i hc
        obtain ⟨rfl,rfl,rfl⟩:=hc
        obtain ⟨l,hl,hK⟩:=obI hK
        have hl:m=some l:=hl
        subst hl
        have ha:nth ms k=some _:=p.1
        have S1:=S.pull hp ha (fun _ _ e=>by rcases e with e | ⟨_,_,e⟩<;>cases e) (fun _ e=>by cases e)
        have S2:=St.nmOpen (k:=keI k1) (ve:=AV.int k2) (m:=l) rfl S1.st
        have S3:VSim g M ([own (ll (keI k1) (AV.int k2)) [_] l]++Δ) (s.set k .dead) ms e h:=S1.with S2
        obtain ⟨w,h',w1,w2,S4⟩:=S3.act (o:=EOp.ev (.mapSet 1) [_,.int k1 x,.int k2 y] h) (Γ2:=fun _=>[own (ll (keI k1) (AV.int k2)) [_] (lP (keI k1) l x y)]) (fun M' L=>by
         obtain ⟨h',u1,u2⟩:=L.setM (e:=keI k1) (ve:=AV.int k2) x y
         exact ⟨_,h',u1,u2⟩)
        have hu:=gR w1
        subst hu
        have S5:VSim g M (df (Bo g M) ms _ (.mp (.int k1) (.int k2) (some (lP (keI k1) l x y)))::Δ) (s.set k .dead) ms e h':=S4.with (St.nmClose S4.st)
        have S6:=VSim.put0 S5 (a8 hp) ha
        have e2:(s.set k .dead).set k (.mp (.int k1) (.int k2) (some (lP (keI k1) l x y)))=s.set k (.mp (.int k1) (.int k2) (some (lP (keI k1) l x y))):=by
         simp only [VS.set,List.set_set]
        rw [e2] at S6
        exact ⟨_,_,[],_,_,h',hK,w1,Fz.refl _,by rw [List.append_nil]; exact S6,rfl,Ro.setP hp (fun _ e=>by cases e)⟩
       cases hK
      cases hK
  ·rename_i k z1 x y
   cases ha with
   | cons p q=>cases q with
    | cons p2 q=>cases q with
     | cons p3 q=>
      cases q
      obtain rfl:=dG p2.1
      split at hK
      ·rename_i m hp
       cases hq:Nat.beq kq 2 with
       | false=>rw [hq] at hK; cases hK
       | true=>
        obtain rfl:=Nat.eq_of_beq_eq_true hq
        rw [hq,cond_true] at hK
        obtain ⟨yb,hy,hK⟩:=obI hK
        obtain rfl:=Ci hy p3.1
        obtain ⟨l,hl,hK⟩:=obI hK
        have hl:m=some l:=hl
        subst hl
        have ha:nth ms k=some _:=p.1
        have S1:=S.pull hp ha (fun _ _ e=>by rcases e with e | ⟨_,_,e⟩<;>cases e) (fun _ e=>by cases e)
        have S2:=St.nmOpen (k:=keS) (ve:=AV.bool) (m:=l) rfl S1.st
        have S3:VSim g M ([own (ll keS AV.bool) [_] l]++Δ) (s.set k .dead) ms e h:=S1.with S2
        obtain ⟨w,h',w1,w2,S4⟩:=S3.act (o:=EOp.ev (.mapSet 2) [_,.str x,.bool yb] h) (Γ2:=fun _=>[own (ll keS AV.bool) [_] (lP keS l x yb)]) (fun M' L=>by
         obtain ⟨h',u1,u2⟩:=L.setM (e:=keS) (ve:=AV.bool) x yb
         exact ⟨_,h',u1,u2⟩)
        have hu:=gR w1
        subst hu
        have S5:VSim g M (df (Bo g M) ms _ (.mp .str .bool (some (lP keS l x yb)))::Δ) (s.set k .dead) ms e h':=S4.with (St.nmClose S4.st)
        have S6:=VSim.put0 S5 (a8 hp) ha
        have e2:(s.set k .dead).set k (.mp .str .bool (some (lP keS l x yb)))=s.set k (.mp .str .bool (some (lP keS l x yb))):=by
         simp only [VS.set,List.set_set]
        rw [e2] at S6
        exact ⟨_,_,[],_,_,h',hK,w1,Fz.refl _,by rw [List.append_nil]; exact S6,rfl,Ro.setP hp (fun _ e=>by cases e)⟩
      cases hK
  cases hK
 case append esz b=>
  split at hK
  ·rename_i x y
   obtain ⟨a,c,rfl,p,q⟩:=jM ha
   cases hn:neW x y with
   | false=>rw [hn] at hK; cases hK
   | true=>
    rw [hn,cond_true] at hK
    obtain ⟨t,l2,els,s1,k1,k2,S1,o1⟩:=wC S q.1 hK
    cases he:Nat.beq (T.cells t) esz with
    | false=>rw [he] at k1; cases k1
    | true=>
     obtain rfl:=Nat.eq_of_beq_eq_true he
     rw [he,cond_true] at k1
     obtain ⟨l,s2,k3,S2,o2⟩:=BC S1 (g9 p.1) k1
     obtain ⟨l',hl,k3⟩:=obI k3
     obtain ⟨hroom,rfl⟩:=pb hl
     have e1:(T.w t).rep.z=T.cells t:=a5 T t
     have S3:VSim g M ([own (oSl (T.w t)) [a] l,apC (T.w t) els l2]++Δ) s2 ms e h:=S2
     obtain ⟨v,h',w1,w2,S4⟩:=S3.act (o:=EOp.ev (.append (T.cells t) b) [a,c] h) (Γ2:=fun v=>[own (oSl (T.w t)) [v] (l++l2)]) (fun M' L=>by
      obtain ⟨v,h2,w1,w2⟩:=St.app_gen (els2:=els) (fps2:=[]) (fp2:=[]) (t:=c) (b:=b) L (by rw [e1]; exact k2) (fun fp hp=>by
       obtain ⟨fps,u1,u2,u3⟩:=hp
       exact ⟨fps,u1,by rw [← u2]; exact u3,fun o ho=>by rw [u2]; exact ho⟩) hroom
      rw [e1] at w1
      exact ⟨v,h2,w1,w2⟩)
     have S5:VSim g M Δ (s2.new (.sl t (l++l2))) (ms++[v]) e h':=VSim.new (p:=.sl t (l++l2)) (a:=v) S4
     have hv:v.flat=true:=by
      obtain ⟨fp,s0,e0,hO⟩:=S4.st.mem (.head _)
      cases e0
      rcases hO with ⟨rfl,_⟩ | ⟨o,v,off,row,els,fps,rfl,_⟩<;>rfl
     refine ⟨_,_,[v],v,h',h',k3,w1,Fz.refl _,S5,⟨?_,hv⟩,(o1.trans o2).trans (Ro.app _ _)⟩
     show nth (ms++[v]) s2.ps.length=_
     rw [← S2.len]; exact bn ms [] _
  cases hK
 case store n=>
  split at hK
  ·rename_i k off x
   obtain ⟨p,a,rfl,q1,q2⟩:=jM ha
   obtain ⟨o,v,h1,rfl⟩:=q1.1
   obtain ⟨s',xs,_,_,hK,S',_,ro,hw⟩:=gF S h1 hK
   obtain ⟨r1,r2⟩:=cO q2
   exact HQ.pre ro (tV (x:=.ptr k off) S' ⟨⟨o,v,aL h1,rfl⟩,rfl⟩ (r1.imp fun w a k=>⟨hw _ _ k.1,k.2⟩) r2 hK)
  ·rename_i k u i x y
   obtain ⟨p,a,rfl,q1,q2⟩:=jM ha
   obtain ⟨r1,r2⟩:=cO q2
   split at hK
   ·cases hn:Nat.beq n 1 with
    | false=>rw [hn] at hK; cases hK
    | true=>
     obtain rfl:=Nat.eq_of_beq_eq_true hn
     rw [hn,cond_true] at hK
     obtain ⟨b,l0,h1,h2,h3,rfl⟩:=q1.1
     obtain ⟨ys,s',h',k1,k2,k3,k4⟩:=(jP (T:=T) fuel).1 _ _ _ _ _ hK S (r1.imp fun w a k=>g9 k.1)
     dsimp only at k1
     split at k1
     ·rename_i t l j j2 hw
      obtain ⟨rfl,k1⟩:=aO k1
      split at k1
      ·rename_i hij
       have k1:K .un ((s'.kill k).set k (.sl (.sl true u) (l.set j ys.1)))=some r:=k1
       subst hij
       have S1:=k3.kill hw h1
       have hlen:a.cells.length=1:=by
        have:=S1.st.snap (r:=oHL T.o [.sl true u]) (.tail _ (.head _))
        have:=(oHL T.o [.sl true u]).rep.len this
        exact this
       obtain ⟨fp,⟨c1,_,hP⟩,kk⟩:=S1.st.turn1
       obtain ⟨c,hc0⟩:∃ c,c=[c1]:=⟨_,rfl⟩
       rw [← hc0] at hP
       have S2:=kk h' (kP (T.w (.sl true u)) b l i.toNat c) fp (HZ.refl _) (Nat.le_refl _) (fun _ _ _ hy=>hy) hP (fun o ho=>.inl ho)
       have S3:VSim g M ([kP (T.w (.sl true u)) b l i.toNat c]++(own (oHL T.o [.sl true u]) a.cells ys::Δ)) (s'.kill k) ms e h':=S1.with S2
       have hcl:c.length=1:=by
        obtain ⟨o,v,off,row,e1,e2,l1,x0,l2,f1,f2,_,_,_,_,_,_,_,_,hcl,_⟩:=hP
        exact hcl
       obtain ⟨w,h'',w1,w2,S5⟩:=S3.act (o:=EOp.ev (.store 1) [(b.at (i.toNat * 1)).padd 0,a] h') (Γ2:=fun _=>[kP (T.w (.sl true u)) b l i.toNat a.cells]) (fun M' L=>by
        obtain ⟨h2,z1,z2⟩:=L.hset (k:=0) (n:=1) (y:=a) (c':=a.cells) hlen r2 (by show 0+1≤1; omega) (by
         show c.take 0++(a.cells++c.drop (0+a.cells.length))=a.cells
         rw [List.drop_eq_nil_of_le (by omega)]
         simp)
        exact ⟨_,h2,z1,z2⟩)
       have S6:St g M (own (T.w (.sl true u)) a.cells ys.1::kP (T.w (.sl true u)) b l i.toNat a.cells::(Δ++chs (Bo g M) ms ms (s'.kill k).ps)) h'':=by
        have S7:=S5.st.swap
        obtain ⟨a1,b1,e1,_,hb,S8⟩:=S7.unpair
        have hb:b1=[]:=List.eq_nil_of_length_eq_zero hb
        subst hb
        rw [List.append_nil] at e1
        subst e1
        exact (S8.swap.drop)
       have S8:VSim g M Δ ((s'.kill k).set k (.sl (.sl true u) (l.set i.toNat ys.1))) ms e h'':=VSim.put0 (p:=.sl (.sl true u) _) (S5.with (Δ':=own (oSl (T.w (.sl true u))) [b] _::Δ) (St.back S6)) (a8 hw) h1
       obtain ⟨g1,z1,z2⟩:=rZ k2 w1
       exact ⟨_,_,[],_,g1,h'',k1,z1,z2,by rw [List.append_nil]; exact S8,eR w1,(k4.ro.trans (Ro.kill hw (fun _ e=>by cases e))).trans (Ro.setP (a8 hw) (fun _ e=>by cases e))⟩
      cases k1
     cases k1
   exact tV S q1 r1 r2 hK
  ·obtain ⟨p,a,rfl,q1,q2⟩:=jM ha
   obtain ⟨r1,r2⟩:=cO q2
   exact tV S q1 r1 r2 hK
  cases hK
end
end Go.Am
namespace Go.Am
open Go
section
variable {T:TE} {F:Nat→Option AFn} {g:Heap} {M:Nat→Prop}
def cC:AV→Option Nat
 | .ptr o _ _=>some o
 | .slice o _ _ _ _=>some o
 | .map o=>some o
 | .iter o=>some o
 | _=>none
def BH (ms:List AV) (s s':VS T) (tch:List Nat) (h h1:Heap):Prop:=∀ k p p' a o,nth s.ps k=some p→dm p=false→nth s'.ps k=some p'→dm p'=false→k∉tch→nth ms k=some a→cC a=some o→h1.get o=h.get o
theorem zh {a:AV} {h:Heap}:∀ {k v:VT} {x:T.D (.mp k v)} {fp:List Nat},(T.w (.mp k v)).O h [a] x fp→∀ o,cC a=some o→o∈fp:=by
 have key:∀ {κ β:Type} {e:KE κ} {ve:β→AV} {x:Option (List (κ×β))} {fp:List Nat},(ia e ve).O h [a] x fp→∀ o,cC a=some o→o∈fp:=by
  rintro κ β e ve x fp (⟨e1,_,_⟩ | ⟨m,rfl,o,e1,_,rfl⟩) p hp
  ·cases e1; cases hp
  cases e1; cases hp; exact List.mem_cons_self ..
 intro k v x fp hO
 cases k<;>cases v<;>first | exact key hO | exact hO.2.elim
theorem jv {B:Hp} {ms:List AV} {h:Heap} {a:AV}:∀ (p:Part T) (fp:List Nat),dm p=false→(df B ms a p).P h fp→∀ o,cC a=some o→o∈fp
 | .dead,fp,hd,_,_,_=>by cases hd
 | .sl t l,fp,hd,hP,o,ho=>by
  obtain ⟨s,e,⟨rfl,_,_⟩ | ⟨ob,v,off,row,els,fps,rfl,_,_,_,_,rfl,_⟩⟩:=hP
  ·cases e; cases ho
  cases e; cases ho; exact List.mem_cons_self ..
 | .row ws,fp,hd,hP,o,ho=>by
  obtain ⟨ob,v,cs,rfl,rfl,_,_⟩:=hP
  cases ho; exact List.mem_cons_self ..
 | .po t q,fp,hd,hP,o,ho=>by
  obtain ⟨s,e,⟨rfl,_,_⟩ | ⟨ob,v,row,b,f,rfl,_,_,_,rfl,_⟩⟩:=hP
  ·cases e; cases ho
  cases e; cases ho; exact List.mem_cons_self ..
 | .io n t q,fp,hd,hP,o,ho=>by
  rcases hP with ⟨e,_,_⟩ | ⟨b,e,_⟩
  ·cases e; cases ho
  cases e; cases ho
 | .mp k v m,fp,hd,hP,o,ho=>zh (T:=T) hP o ho
 | .ho t l i j,fp,hd,hP,o,ho=>by
  obtain ⟨c,_,ob,v,off,row,e1,e2,l1,x0,l2,f1,f2,_,_,rfl,_,_,_,_,_,_,rfl,_⟩:=hP
  cases ho; exact List.mem_cons_self ..
 | .ro p,fp,hd,hP,o,ho=>jv p fp hd hP o ho
theorem yu {B:Hp} {ms:List AV} {h:Heap} {a:AV}:∀ (p:Part T) (fp:List Nat),(df B ms a p).P h fp→∀ o,o∈fp→∀ c v,h.get o≠some (.row c v false)
 | .dead,fp,hP,o,ho=>by
  have hP:fp=[]:=hP
  subst hP; cases ho
 | .sl t l,fp,hP,o,ho=>(T.ogw (.sl true t)).wr hP o ho
 | .row ws,fp,hP,o,ho=>by
  obtain ⟨ob,v,cs,rfl,rfl,hg,_⟩:=hP
  rw [List.mem_singleton] at ho; subst ho
  intro c v e; rw [hg] at e; cases e
 | .po t q,fp,hP,o,ho=>(T.ogw (.pt t)).wr hP o ho
 | .io n t q,fp,hP,o,ho=>(T.ogw (.ic n t)).wr hP o ho
 | .mp k v m,fp,hP,o,ho=>(T.ogw (.mp k v)).wr hP o ho
 | .ho t l i j,fp,hP,o,ho=>by
  obtain ⟨c,_,ob,v,off,row,e1,e2,l1,x0,l2,f1,f2,_,_,_,hg,_,_,a1,a2,_,rfl,_⟩:=hP
  intro c v
  rcases List.mem_cons.1 ho with rfl | ho
  ·rw [hg]; intro e; cases e
  rcases List.mem_append.1 ho with ho | ho
  ·exact (mJ (T.ogw t) a1).2 o ho c v
  exact (mJ (T.ogw t) a2).2 o ho c v
 | .ro p,fp,hP,o,ho=>yu p fp hP o ho
theorem jf {Δ:List Ch} {s:VS T} {ms:List AV} {e:Env} {h:Heap} (S:VSim g M Δ s ms e h) {k:Nat} {p:Part T} {a:AV} {o:Nat} (hp:nth s.ps k=some p) (hd:dm p=false) (ha:nth ms k=some a) (ho:cC a=some o):∃ x,h.get o=some x∧∀ c v,x≠.row c v false:=by
 obtain ⟨fp,hP⟩:=(S.st.pull ha hp).mem (.head _)
 have hm:=jv p fp hd hP o ho
 obtain ⟨x,hx⟩:=(df (Bo g M) ms a p).bd hP o hm
 exact ⟨x,hx,fun c v e=>yu p fp hP o hm c v (by rw [hx,e])⟩
theorem vn {Δ:List Ch} {s:VS T} {ms:List AV} {e:Env} {h:Heap} (S:VSim g M Δ s ms e h) {k j:Nat} {p q:Part T} {a b:AV} {o u:Nat} (hkj:j≠k) (hp:nth s.ps k=some p) (hd:dm p=false) (ha:nth ms k=some a) (ho:cC a=some o) (hq:nth s.ps j=some q) (hd2:dm q=false) (hb:nth ms j=some b) (hu:cC b=some u):u≠o:=by
 have S1:St g M ((df (Bo g M) ms a p::Δ)++chs (Bo g M) ms ms (s.ps.set k .dead)) h:=S.st.pull ha hp
 have S2:=S1.pull hb (by rw [cR _ _ _ _ hkj]; exact hq)
 obtain ⟨fps,h1,h2,_⟩:=S2.ex
 cases h1 with
 | cons p1 t1=>cases t1 with
  | cons p2 t2=>
   intro e
   subst e
   cases h2 with
   | cons d1 d2=>exact d1 _ (List.mem_cons_self ..) _ (jv q _ hd2 p1 _ hu) (jv p _ hd p2 _ ho)
theorem kM {h:Heap} {z:Nat} {a:AV} {new:List AV} {k:Nat} {v:AV} {h1:Heap} (hr:bl h z a new k=some (v,h1)) {o:Nat} (ho:o < h.n) (hn:cC a≠some o):h1.get o=h.get o:=by
 unfold bl at hr
 split at hr
 ·split at hr
  ·cases hr; rfl
  cases hr; rw [Heap.get_push,if_neg (by omega)]
 ·rename_i o1 v1 off len z1
  split at hr
  ·rename_i cs ver wr hg
   split at hr
   ·split at hr
    ·cases hr; rfl
    cases hr
    rw [Heap.get_set h (get_lt hg),if_neg fun e=>hn (by rw [e]; rfl)]
   cases hr
  cases hr
 cases hr
theorem vB {q:EOp} {a:AV} {as:List AV} {h h1:Heap} {v:AV} (hr:q.ev (a::as) h=some (v,h1)) {o:Nat} (ho:o < h.n) (hn:cC a≠some o):h1.get o=h.get o:=by
 have st:∀ {p:Nat} {x:AObj} {y:AObj},h.get p=some y→cC a=some p→(h.set p x).get o=h.get o:=fun hg hp=>by
  rw [Heap.get_set h (get_lt hg),if_neg fun e=>hn (by rw [e]; exact hp)]
 unfold EOp.ev at hr
 split at hr
 ·rename_i heq
  injection heq with e1 e2
  subst e1
  split at hr
  ·rename_i hg
   split at hr
   ·cases hr; exact st hg rfl
   cases hr
  cases hr
 ·rename_i heq
  injection heq with e1 e2
  subst e1
  split at hr
  ·split at hr
   ·exact kM hr ho hn
   cases hr
  cases hr
 ·rename_i heq
  injection heq with e1 e2
  subst e1
  split at hr
  ·rename_i hg
   split at hr
   ·split at hr
    ·cases hr; exact st hg rfl
    cases hr
   cases hr
  cases hr
 ·rename_i heq
  injection heq with e1 e2
  subst e1
  split at hr
  ·rename_i hg
   split at hr
   ·cases hr; exact st hg rfl
   cases hr; rfl
  cases hr
 ·rename_i heq
  injection heq with e1 e2
  subst e1
  split at hr
  ·split at hr
   ·cases hr; rfl
   cases hr
  cases hr
 ·rename_i heq
  injection heq with e1 e2
  subst e1
  split at hr
  ·rename_i hg
   split at hr
   ·cases hr; exact st hg rfl
   cases hr
  cases hr
 ·rename_i heq
  injection heq with e1 e2
  subst e1
  split at hr
  ·split at hr
   ·rename_i hg
    split at hr
    ·cases hr; exact st hg rfl
    cases hr
   cases hr
  cases hr
 cases hr
theorem DJ {q:EOp} {as:List AV} {h h1:Heap} {v:AV} (hr:q.ev as h=some (v,h1)):HZ h h1:=by
 have st:∀ {p:Nat} {x:AObj} {y:AObj},h.get p=some y→(∀ c v,y≠.row c v false)→HZ h (h.set p x):=fun {p x y} hg hn o cs v hf=>by
  have hf:h.get o=some (.row cs v false):=hf
  show (h.set p x).get o=_
  rw [Heap.get_set h (get_lt hg)]
  by_cases e:o=p
  ·subst e; rw [hg] at hf; cases hf; exact absurd rfl (hn _ _)
  rw [if_neg e]; exact hf
 have ap:∀ {z:Nat} {a:AV} {new:List AV} {k:Nat},bl h z a new k=some (v,h1)→HZ h h1:=fun {z a new k} hr=>by
  unfold bl at hr
  split at hr
  ·split at hr
   ·cases hr; exact HZ.refl _
   cases hr; exact HZ.of (HLe.push h _)
  ·split at hr
   ·rename_i cs ver wr hg
    split at hr
    ·rename_i hc
     split at hr
     ·cases hr; exact HZ.refl _
     cases hr
     exact st hg (fun c v e=>by cases e; exact absurd hc.2.2.2 (by simp))
    cases hr
   cases hr
  cases hr
 unfold EOp.ev at hr
 split at hr
 ·split at hr
  ·rename_i hg
   split at hr
   ·rename_i hc
    cases hr; exact st hg (fun c v e=>by cases e; exact absurd hc.2.2.1 (by simp))
   cases hr
  cases hr
 ·split at hr
  ·split at hr
   ·exact ap hr
   cases hr
  cases hr
 ·split at hr
  ·rename_i hg
   split at hr
   ·split at hr
    ·cases hr; exact st hg (fun c v e=>by cases e)
    cases hr
   cases hr
  cases hr
 ·split at hr
  ·rename_i hg
   split at hr
   ·cases hr; exact st hg (fun c v e=>by cases e)
   cases hr; exact HZ.refl _
  cases hr
 ·split at hr
  ·split at hr
   ·cases hr; exact HZ.refl _
   cases hr
  cases hr
 ·split at hr
  ·rename_i hg
   split at hr
   ·rename_i hc
    cases hr; exact st hg (fun c v e=>by cases e; exact absurd hc.2.2.1 (by simp))
   cases hr
  cases hr
 ·split at hr
  ·split at hr
   ·rename_i hg
    split at hr
    ·rename_i hc
     cases hr; exact st hg (fun c v e=>by cases e; exact absurd hc.2.2.2.2.1 (by simp))
    cases hr
   cases hr
  cases hr
 cases hr
def KQ {R:Type} (F:Nat→Option AFn) (g:Heap) (M:Nat→Prop) (Δ:List Ch) (K:SV T→VS T→Option R) (r:R) (s:VS T) (ms:List AV) (e:Env) (h:Heap) (tch:Option (List Nat)) (f:aZ→Option (AV×Heap)):Prop:=
 ∃ x s' xs v n h1 h',K x s'=some r∧f (aQ F n)=some (v,h1)∧Fz h1 h'∧VSim g M Δ s' (ms++xs) e h'∧cJ (Bo g M) s'.ps (ms++xs) h' x v∧Ro s s'∧HZ h h'∧∀ t,tch=some t→BH ms s s' t h h1
def c9 (F:Nat→Option AFn) (C:cQ T):Prop:=∀ (R:Type) (f:Nat) (xs:List (SV T)) (s:VS T) (K:SV T→VS T→Option R) (r:R),C R f xs s K=some r→∀ (g:Heap) (M:Nat→Prop) (Δ:List Ch) (ms:List AV) (e:Env) (h:Heap) (as:List AV),VSim g M Δ s ms e h→All2 (cJ (Bo g M) s.ps ms h) xs as→KQ F g M Δ K r s ms e h (some []) fun c=>c f as h
theorem mG {h:Heap} {esz:Nat} {x:AV} {cs:List AV} {k:Nat} (ha:appended h esz x=some (cs,k)):iB x=k:=by
 cases x<;>simp only [appended] at ha<;>split at ha<;>first | (cases ha; rfl) | (cases ha; done) | (simp only [Option.some.injEq,Prod.mk.injEq] at ha; exact ha.2)
theorem zi {R:Type} {esz b:Nat} {Δ:List Ch} {s:VS T} {ms:List AV} {e:Env} {h:Heap} (S:VSim g M Δ s ms e h) {xs:List (SV T)} {as:List AV} (ha:All2 (cJ (Bo g M) s.ps ms h) xs as) {K:SV T→VS T→Option R} {r:R} (hK:EZ esz b xs s K=some r) :
  HQ g M Δ K r s ms e (((NOp.appendNil esz b).ob as h).map fun ob=>((NOp.appendNil esz b).mk as h.n,h.push ob)):=by
 unfold EZ at hK
 split at hK
 ·obtain ⟨a,rfl,p⟩:=jw ha
  obtain ⟨t,l,els,s1,k1,k2,S1,o1⟩:=wC S p.1 hK
  cases he:Nat.beq (T.cells t) esz with
  | false=>rw [he] at k1; cases k1
  | true=>
   obtain rfl:=Nat.eq_of_beq_eq_true he
   rw [he,cond_true] at k1
   obtain ⟨l',hl,k3⟩:=obI k1
   obtain ⟨hroom,hl'⟩:=pb hl
   obtain rfl:l=l':=by simpa using hl'.symm
   have hroom:l.length * b≤aE:=by simpa using hroom
   have hln:=mG k2
   have e1:(T.w t).rep.z=T.cells t:=a5 T t
   have hob:(NOp.appendNil (T.cells t) b).ob [a] h=some (.row els.flatten 0 true):=by simp only [NOp.ob,k2,if_pos hroom]
   have S2:VSim g M (own (oSl (T.w t)) [(NOp.appendNil (T.cells t) b).mk [a] h.n] l::Δ) s1 ms e (h.push (.row els.flatten 0 true)):=by
    refine (S1.pushO _).with ?_
    by_cases hz:l.length=0
    ·have:l=[]:=List.eq_nil_of_length_eq_zero hz
     subst this
     have hm:(NOp.appendNil (T.cells t) b).mk [a] h.n=.nilSlice:=by simp only [NOp.mk]; exact if_pos hln
     rw [hm]
     exact ((S1.pushO _).st.drop).addE (c:=own (oSl (T.w t)) [_] _) ⟨_,rfl,.inl ⟨rfl,rfl,rfl⟩⟩
    have hm:(NOp.appendNil (T.cells t) b).mk [a] h.n=.slice h.n 0 0 l.length (T.cells t):=by simp only [NOp.mk]; rw [hln,if_neg hz]
    rw [hm]
    have S3:=S1.st.pushRow els.flatten
    have S4:St g M (fJ h.n els.flatten 0::tj (T.w t) els.flatten l::(Δ++chs (Bo g M) ms ms s1.ps)) (h.push (.row els.flatten 0 true)):=by
     refine S3.imp (.cons (fun _ k=>k) (.cons (fun fp k=>?_) (All2.refl' (fun _ _ k=>k) _)))
     obtain ⟨fps,u1,u2,u3⟩:=k
     exact ⟨els,fps,rfl,u1,u2,u3⟩
    have S5:=St.litO S4 (n:=l.length) rfl
    rw [e1] at S5
    exact S5
   have S6:=VSim.new (p:=.sl t l) S2
   have hfl:((NOp.appendNil (T.cells t) b).mk [a] h.n).flat=true:=by
    simp only [NOp.mk]
    split<;>rfl
   refine ⟨_,_,[(NOp.appendNil (T.cells t) b).mk [a] h.n],_,_,_,k3,?_,Fz.refl _,S6,⟨?_,hfl⟩,o1.trans (Ro.app _ _)⟩
   ·rw [hob]; rfl
   show nth (ms++[_]) s1.ps.length=_
   rw [← S1.len]; exact bn ms [] _
 cases hK
theorem ig {s:VS T} {k:Nat} (h:tc (cj s) k=true):∃ p,nth s.ps k=some p∧dm p=false:=by
 have key:∀ (ps:List (Part T)) (k:Nat),tc (ps.map fun p=>!dm p) k=true→∃ p,nth ps k=some p∧dm p=false:=by
  intro ps
  induction ps with
  | nil=>intro k h; cases h
  | cons p ps ih=>
   intro k h
   cases k with
   | zero=>
    have h:(!dm p)=true:=h
    exact ⟨p,rfl,by simpa using h⟩
   | succ k=>exact ih k h
 exact key s.ps k h
theorem mX {Δ:List Ch} {s:VS T} {ms:List AV} {e:Env} {h:Heap} (S:VSim g M Δ s ms e h) {w:W T} {a:AV} (hr:bF (Bo g M) s.ps ms h w a) {k:Nat} (hk:Ej w=some k):∃ b,nth ms k=some b∧cC a=cC b:=by
 cases w<;>simp only [Ej,Option.some.injEq,reduceCtorEq] at hk
 ·subst hk; exact ⟨a,hr,rfl⟩
 ·subst hk
  obtain ⟨o,v,h1,rfl⟩:=hr
  exact ⟨_,h1,rfl⟩
 subst hk
 obtain ⟨b,l,h1,h2,h3,rfl⟩:=hr
 refine ⟨b,h1,?_⟩
 have:=(sO S h2 h1 h3.choose_spec.1).1
 cases b<;>first | rfl | cases this
theorem Fi {B:Hp} {ms xs:List AV} {h:Heap} {k n j:Nat} {p0:AV} (ha:nth ms k=some (.iface n p0)) (hj:nth (ms++xs) j=some p0) (hf:p0.flat=true):∀ (w:W T) (a:AV),cg B ms h w a→cg B (ms++xs) h (W.icr k n j w) a
 | .r i,a,r=>by
  simp only [W.icr]
  cases hb:Nat.beq i k with
  | false=>exact aL (show nth ms i=some a from r)
  | true=>
   obtain rfl:=Nat.eq_of_beq_eq_true hb
   have r:nth ms i=some a:=r
   rw [ha] at r
   cases r
   exact ⟨p0,hj,hf,rfl⟩
 | .bad,_,r=>r
 | .c v,_,r=>r
 | .d z t x,_,r=>aK (ms:=ms) (HZ.refl _) (.d z t x) r
 | .b p i,_,r=>r
 | .ic m i,_,r=>aK (T:=T) (B:=B) (ms:=ms) (HZ.refl _) (.ic m i) r
 | .ptr i off,_,r=>aK (T:=T) (B:=B) (ms:=ms) (HZ.refl _) (.ptr i off) r
 | .el _ _ _ _ _,_,r=>r.elim
 | .ed z t x off,_,r=>aK (ms:=ms) (HZ.refl _) (.ed z t x off) r
 | .fn f ks,_,r=>aK (T:=T) (B:=B) (ms:=ms) (HZ.refl _) (.fn f ks) r
theorem zV {R:Type} {Δ:List Ch} {s:VS T} {ms:List AV} {e:Env} {h:Heap} (S:VSim g M Δ s ms e h) {k:Nat} {a:AV} (ha:nth ms k=some a) {K:Nat→Nat→VS T→Option R} {r:R} (hK:E7 k s K=some r) :
  ∃ n p0 s2,a=.iface n p0∧p0.flat=true∧K n s.ps.length s2=some r∧VSim g M Δ s2 (ms++[p0]) e h∧Ro s s2∧(∀ j p,j≠k→nth s.ps j=some p→dm p=false→∃ p',nth s2.ps j=some p'∧dm p'=false)∧∀ {x:SV T} {b:AV},cJ (Bo g M) s.ps ms h x b→cJ (Bo g M) s2.ps (ms++[p0]) h x b:=by
 unfold E7 at hK
 split at hK
 ·rename_i n t q hp
  obtain ⟨x,rfl,hK⟩:=obI hK
  have S1:=S.st.pull ha hp
  obtain ⟨p0,rfl,S2⟩:=St.ifcOpen (r:=T.w t) rfl S1
  have fl:p0.flat=true:=by
   obtain ⟨fp,s0,e0,⟨_,e1,_⟩ | ⟨o,v,row,b,f,rfl,_⟩⟩:=S2.mem (.head _)
   ·cases e1
   cases e0; rfl
  have lst:nth (ms++[p0]) s.ps.length=some p0:=by rw [← S.len]; exact bn ms [] _
  have hC:=fun w a r=>Fi (T:=T) (B:=Bo g M) (ms:=ms) (xs:=[p0]) (h:=h) (n:=n) ha lst fl w a r
  have hl:ms.length=(s.ps.set k .dead).length:=by rw [List.length_set]; exact S.len
  refine ⟨n,p0,_,rfl,fl,hK,⟨?_,?_,?_⟩,⟨fun j x h=>my h,fun j p h=>?_⟩,fun j p hj h1 h2=>?_,fun {x1 b} hr=>?_⟩
  ·simp only [VS.sub,List.length_map,List.length_append,List.length_set,S.len,List.length_cons,List.length_nil]
  ·have S3:St g M ((own (T.w (.pt t)) [p0] (some x)::Δ)++chs (Bo g M) ms ms (s.ps.set k .dead)) h:=S2
   have e1:chs (Bo g M) (ms++[p0]) (ms++[p0]) ((s.ps.set k .dead++[Part.po t (some x)]).map (Part.map (W.icr k n s.ps.length)))=chs (Bo g M) (ms++[p0]) ms ((s.ps.set k .dead).map (Part.map (W.icr k n s.ps.length)))++[own (T.w (.pt t)) [p0] (some x)]:=by
    rw [List.map_append,eg _ _ (by rw [List.length_map]; exact hl)]
    rfl
   show St g M (Δ++chs (Bo g M) (ms++[p0]) (ms++[p0]) ((s.ps.set k .dead++[Part.po t (some x)]).map (Part.map (W.icr k n s.ps.length)))) h
   rw [e1,← List.append_assoc]
   have S4:St g M ((own (T.w (.pt t)) [p0] (some x)::Δ)++chs (Bo g M) (ms++[p0]) ms ((s.ps.set k .dead).map (Part.map (W.icr k n s.ps.length)))) h:=by
    refine St.imp S3 ?_
    have:=vr (B:=Bo g M) (ms:=ms) (ms':=ms++[p0]) (h:=h) (f:=W.icr k n s.ps.length) (fun w a r=>aK (HZ.refl _) w r) hC ms (s.ps.set k .dead)
    clear S S1 S2 S3 e1
    generalize own (T.w (.pt t)) [p0] (some x)::Δ=Γ
    induction Γ with
    | nil=>exact this
    | cons c Γ ih=>exact .cons (fun _ k=>k) ih
   exact S4.perm (List.perm_append_comm (l₁:=[own (T.w (.pt t)) [p0] (some x)]) (l₂:=Δ++_))
  ·refine S.env_to (fun w a r=>aK (HZ.refl _) w r) fun w a r=>dM r hC fun j u i y off a ⟨b,l,r1,r2,r3⟩=>⟨b,l,aL r1,?_,r3⟩
   have hjk:j≠k:=fun e=>by
    obtain ⟨p,r2,hs⟩:=r2
    rw [e,bi hp (fun _ e=>by cases e)] at r2; cases r2
    rcases hs with hs | ⟨_,_,hs⟩<;>cases hs
   have r4:∃ p,lkP (s.ps.set k .dead++[Part.po t (some x)]) j=some p∧slq u l p:=by
    obtain ⟨p,r2,hs⟩:=r2
    exact ⟨p,lg (by rw [di (cR _ _ _ _ hjk)]; exact r2),hs⟩
   exact fq r4
  ·show nth ((s.ps.set k .dead++[Part.po t (some x)]).map (Part.map (W.icr k n s.ps.length))) j=_
   rw [eS,aL (kd hp (fun _ e=>by cases e) h)]; rfl
  ·refine ⟨p.map (W.icr k n s.ps.length),?_,by cases p<;>first | exact h2 | rfl⟩
   show nth ((s.ps.set k .dead++[Part.po t (some x)]).map (Part.map (W.icr k n s.ps.length))) j=_
   rw [eS,aL (by rw [cR _ _ _ _ hj]; exact h1)]; rfl
  refine kY (fun w a r=>aK (HZ.refl _) w r) (fun w a r=>dM (f:=id) r (fun w a r=>aK (HZ.refl _) w r) fun j u i y off a ⟨b,l,r1,r2,r3⟩=>⟨b,l,aL r1,?_,r3⟩) hr
  have hjk:j≠k:=fun e=>by
   obtain ⟨p,r2,hs⟩:=r2
   rw [e,bi hp (fun _ e=>by cases e)] at r2; cases r2
   rcases hs with hs | ⟨_,_,hs⟩<;>cases hs
  have r4:∃ p,lkP (s.ps.set k .dead++[Part.po t (some x)]) j=some p∧slq u l p:=by
   obtain ⟨p,r2,hs⟩:=r2
   exact ⟨p,lg (by rw [di (cR _ _ _ _ hjk)]; exact r2),hs⟩
  exact fq r4
 cases hK
theorem BI {R:Type} {H:List (Nat×VT)} {C:cQ T} (hC:c9 F C) {d:Option Nat} {k:AK} {Δ:List Ch} {s:VS T} {ms:List AV} {e:Env} {h:Heap} (S:VSim g M Δ s ms e h) {xs:List (SV T)} {as:List AV} (ha:All2 (cJ (Bo g M) s.ps ms h) xs as) {K:SV T→VS T→Option R} {r:R} (hK:akV H C d k xs s K=some r):KQ F g M Δ K r s ms e h (DX k xs s) fun c=>k.ev c as h:=by
 cases k with
 | p q=>
  obtain ⟨x,s',xs,v,k1,k2,k3,k4,k5⟩:=zM S ha hK
  exact ⟨x,s',xs,v,0,h,h,k1,by simp only [AK.ev,k2],Fz.refl _,k3,k4,k5,HZ.refl _,fun _ _ _ _ _ _ _ _ _ _ _ _ _ _=>rfl⟩
 | r q=>
  obtain ⟨x,s',xs,v,k1,k2,k3,k4,k5⟩:=zk S ha hK
  exact ⟨x,s',xs,v,0,h,h,k1,by simp only [AK.ev,k2],Fz.refl _,k3,k4,k5,HZ.refl _,fun _ _ _ _ _ _ _ _ _ _ _ _ _ _=>rfl⟩
 | n q=>
  have hH:HQ g M Δ K r s ms e ((q.ob as h).map fun ob=>(q.mk as h.n,h.push ob)):=by
   cases q with
   | appendNil esz b=>exact zi S ha hK
   | _=>exact zu (H:=H) (d:=d) S ha hK
  obtain ⟨x,s',xs,v,h1,h',k1,k2,k3,k4,k5,k6⟩:=hH
  cases ho:q.ob as h with
  | none=>rw [ho] at k2; cases k2
  | some ob=>
   rw [ho] at k2
   cases k2
   refine ⟨x,s',xs,_,0,_,h',k1,by simp only [AK.ev,ho],k3,k4,k5,k6,(HZ.of (HLe.push h _)).trans k3.hz,fun _ _ j p p' a o hp hd _ _ _ ha ho=>?_⟩
   obtain ⟨y,hy,_⟩:=jf S hp hd ha ho
   have:=get_lt hy
   rw [Heap.get_push,if_neg (by omega)]
 | e q=>
  obtain ⟨x,s',ys,v,h1,h',k1,k2,k3,k4,k5,k6⟩:=AI S ha hK
  refine ⟨x,s',ys,v,0,h1,h',k1,k2,k3,k4,k5,k6,(DJ k2).trans k3.hz,fun t ht j p p' a o hp hd _ _ hj hja ho=>?_⟩
  obtain ⟨y,hy,_⟩:=jf S hp hd hja ho
  simp only [DX] at ht
  split at ht
  ·rename_i w xs
   cases ha with
   | cons u1 u2=>
    refine vB k2 (get_lt hy) ?_
    split at ht
    ·rename_i i hi
     obtain ⟨b,w1,w2⟩:=mX S u1.1 hi
     cases hb:tc (cj s) i with
     | false=>rw [hb] at ht; cases ht
     | true=>
      rw [hb] at ht
      cases ht
      obtain ⟨q0,z1,z2⟩:=ig hb
      rw [w2]
      intro e1
      exact vn S (fun e=>hj (by rw [e]; exact List.mem_cons_self ..)) hp hd hja ho z1 z2 w1 e1 rfl
    split at ht
    ·have u:_=AV.nilSlice:=u1.1
     rw [u]; intro e; cases e
    cases ht
  cases ht
 | call f=>
  obtain ⟨x,s',xs,v,n,h1,h',k1,k2,k3,k4,k5,k6,k8,k7⟩:=hC _ _ _ _ _ _ hK _ _ _ _ _ _ _ S ha
  exact ⟨x,s',xs,v,n,h1,h',k1,k2,k3,k4,k5,k6,k8,k7⟩
 | callV=>
  simp only [akV] at hK
  split at hK
  ·rename_i f xs
   cases ha with
   | cons p q=>
    have p:_=AV.func f []:=p.1
    subst p
    obtain ⟨x,s',xs,v,n,h1,h',k1,k2,k3,k4,k5,k6,k8,k7⟩:=hC _ _ _ _ _ _ hK _ _ _ _ _ _ _ S q
    refine ⟨x,s',xs,v,n,h1,h',k1,?_,k3,k4,k5,k6,k8,k7⟩
    simp only [AK.ev,target,List.append_nil]
    exact k2
  ·rename_i f ks xs
   cases ha with
   | cons p q=>
    obtain ⟨cs,rfl,hcs⟩:=p.1
    have hcl:All2 (cJ (Bo g M) s.ps ms h) (ks.map fun k=>SV.v (.w (.ptr k 0))) cs:=by
     clear hK p
     induction hcs with
     | nil=>exact .nil
     | cons u t ih=>
      obtain ⟨o,v,h1,rfl⟩:=u
      exact .cons ⟨⟨o,v,h1,rfl⟩,rfl⟩ ih
    obtain ⟨x,s',xs,v,n,h1,h',k1,k2,k3,k4,k5,k6,k8,k7⟩:=hC _ _ _ _ _ _ hK _ _ _ _ _ _ _ S (q.append' hcl)
    refine ⟨x,s',xs,v,n,h1,h',k1,?_,k3,k4,k5,k6,k8,k7⟩
    simp only [AK.ev,target]
    exact k2
  cases hK
 | callM tb=>
  simp only [akV] at hK
  split at hK
  rotate_left
  ·rename_i z n t q xs
   split at hK
   ·rename_i f hf
    obtain ⟨x0,rfl,hK⟩:=obI hK
    cases ha with
    | cons p q=>
     obtain ⟨c0,e0,hc⟩:=(show ∃ c,[_]=[c]∧IfR n (T.r t) (zG (Bo g M) h z) c (some x0) from p.1)
     cases e0
     rcases hc with ⟨_,e0⟩ | ⟨p0,rfl,hp0⟩
     ·cases e0
     have fl:p0.flat=true:=by
      rcases hp0 with ⟨rfl,_⟩ | ⟨o,v,row,b,rfl,_⟩<;>rfl
     obtain ⟨x,s',xs,v,n,h1,h',k1,k2,k3,k4,k5,k6,k8,k7⟩:=hC _ _ _ _ _ _ hK _ _ _ _ _ _ _ S (.cons (show cJ (Bo g M) s.ps ms h (.v (.w (.d z (.pt t) (some x0)))) p0 from ⟨nu (r:=T.r t) hp0,fl⟩) q)
     refine ⟨x,s',xs,v,n,h1,h',k1,?_,k3,k4,k5,k6,k8,k7⟩
     simp only [AK.ev,target,hf]
     exact k2
   cases hK
  ·rename_i k xs
   cases ha with
   | cons p q=>
    have p1:nth ms k=some _:=p.1
    obtain ⟨n,p0,s2,rfl,fl,hK,S2,ro2,al2,hrel⟩:=zV S p1 hK
    split at hK
    ·rename_i f hf
     obtain ⟨x,s',xs,v,m,h1,h',k1,k2,k3,k4,k5,k6,k8,k7⟩:=hC _ _ _ _ _ _ hK _ _ _ _ _ _ _ S2 (.cons (show cJ (Bo g M) s2.ps (ms++[p0]) h (.v (.w (.r s.ps.length))) p0 from ⟨by show nth (ms++[p0]) s.ps.length=_; rw [← S.len]; exact bn ms [] _,fl⟩) (q.imp fun _ _ r=>hrel r))
     refine ⟨x,s',[p0]++xs,v,m,h1,h',k1,?_,k3,by rw [← List.append_assoc]; exact k4,by rw [← List.append_assoc]; exact k5,ro2.trans k6,k8,fun t ht j p p' a o u1 u2 u3 u4 u5 u6 u7=>?_⟩
     ·simp only [AK.ev,target,hf]
      exact k2
     by_cases hj:j=k
     ·exfalso
      subst hj
      rw [p1] at u6
      cases u6
      cases u7
     obtain ⟨p'',w1,w2⟩:=al2 j p hj u1 u2
     exact k7 t ht j p'' p' a o w1 w2 u3 u4 u5 (aL u6) u7
    cases hK
  ·cases hK
  rename_i n k xs
  split at hK
  ·rename_i f hf
   cases ha with
   | cons p q=>
    obtain ⟨⟨a,h1,fl,rfl⟩,_⟩:=p
    obtain ⟨x,s',xs,v,n,h1,h',k1,k2,k3,k4,k5,k6,k8,k7⟩:=hC _ _ _ _ _ _ hK _ _ _ _ _ _ _ S (.cons (show cJ (Bo g M) s.ps ms h (.v (.w (.r k))) a from ⟨h1,fl⟩) q)
    refine ⟨x,s',xs,v,n,h1,h',k1,?_,k3,k4,k5,k6,k8,k7⟩
    simp only [AK.ev,target,hf]
    exact k2
  cases hK
theorem ko {B:Hp} {ps:List (Part T)} {ms:List AV} {h:Heap}:∀ {x:V1 T} {a:AV},qA B ms h x a→fR B ps ms h x a
 | .w w,a,r=>⟨d5 r.1,r.2⟩
 | .agg ws,a,⟨cs,e,r⟩=>⟨cs,e,r.imp fun w a k=>⟨d5 k.1,k.2⟩⟩
theorem cD {Δ:List Ch} {s:VS T} {ms:List AV} {e:Env} {h:Heap} (S:VSim g M Δ s ms e h) {o:Opd} {x:SV T} (hx:nb s.e o=some x):∃ a,o.ev e=some a∧cJ (Bo g M) s.ps ms h x a:=by
 cases o with
 | tmp t=>
  simp only [nb] at hx
  split at hx
  ·rename_i y hy
   cases hx
   obtain ⟨v,h1,h2⟩:=S.env t _ hy
   exact ⟨v,h1,ko h2⟩
  exact S.env t _ hx
 | const v=>
  have key:v.flat=true→∀ y:W T,cg (Bo g M) ms h y v→∃ a,(Opd.const v).ev e=some a∧cJ (Bo g M) s.ps ms h (W.sv y) a:=fun hf y hy=>⟨v,rfl,d5 hy,hf⟩
  cases v with
  | agg l=>
   simp only [nb] at hx
   split at hx
   ·rename_i ws hz
    cases hx
    exact ⟨_,rfl,_,rfl,xE hz⟩
   cases hx
  | tuple l=>simp only [nb] at hx; cases hx
  | bool b=>simp only [nb] at hx; cases hx; exact key rfl _ rfl
  | int k n=>simp only [nb] at hx; cases hx; exact key rfl _ rfl
  | str b=>simp only [nb] at hx; cases hx; exact key rfl _ rfl
  | _=>simp only [nb] at hx; cases hx; exact key rfl _ rfl
theorem oX {Δ:List Ch} {s:VS T} {ms:List AV} {e:Env} {h:Heap} (S:VSim g M Δ s ms e h):∀ {os:List Opd} {xs:List (SV T)},uP s.e os=some xs→∃ as,evs e os=some as∧All2 (cJ (Bo g M) s.ps ms h) xs as
 | [],xs,hx=>by cases hx; exact ⟨[],rfl,.nil⟩
 | o::os,xs,hx=>by
  simp only [uP] at hx
  split at hx
  ·cases hx
  rename_i v hv
  split at hx
  ·cases hx
  rename_i vs hvs
  cases hx
  obtain ⟨a,h1,h2⟩:=cD S hv
  obtain ⟨as,k1,k2⟩:=oX S hvs
  exact ⟨a::as,by simp only [evs,h1,k1],.cons h2 k2⟩
theorem VSim.env_set {Δ:List Ch} {s:VS T} {ms:List AV} {e:Env} {h:Heap} (S:VSim g M Δ s ms e h) (d:Nat) {x:SV T} {v:AV} (hr:cJ (Bo g M) s.ps ms h x v):VSim g M Δ ⟨(d,x)::s.e,s.ps⟩ ms (e.set d v) h:=by
 refine ⟨S.len,S.st,fun k sv hk=>?_⟩
 have hk:(bif Nat.beq d k then some x else lk s.e k)=some sv:=hk
 rw [Go.Am.T.get_set]
 cases hd:Nat.beq d k with
 | true=>
  obtain rfl:=Nat.eq_of_beq_eq_true hd
  rw [hd] at hk
  cases hk
  exact ⟨v,by rw [if_pos rfl],hr⟩
 | false=>
  rw [hd] at hk
  obtain ⟨a,h1,h2⟩:=S.env k sv hk
  exact ⟨a,by rw [if_neg (fun e=>Nat.ne_of_beq_eq_false hd e.symm)]; exact h1,h2⟩
theorem VSim.env_know {Δ:List Ch} {s:VS T} {ms:List AV} {e:Env} {h:Heap} (S:VSim g M Δ s ms e h) (d:Nat) {x:SV T} {v:AV} (hv:e.get d=some v) (hr:cJ (Bo g M) s.ps ms h x v):VSim g M Δ ⟨(d,x)::s.e,s.ps⟩ ms e h:=by
 refine ⟨S.len,S.st,fun k sv hk=>?_⟩
 have hk:(bif Nat.beq d k then some x else lk s.e k)=some sv:=hk
 cases hd:Nat.beq d k with
 | true=>
  obtain rfl:=Nat.eq_of_beq_eq_true hd
  rw [hd] at hk
  cases hk
  exact ⟨v,hv,hr⟩
 | false=>
  rw [hd] at hk
  exact S.env k sv hk
theorem xg {s:VS T} {d:Nat} {x:SV T} (hd:jL (lk s.e d)=false):Ro s ⟨(d,x)::s.e,s.ps⟩:=⟨fun k y hy=>by
 show (bif Nat.beq d k then some x else lk s.e k)=_
 cases hk:Nat.beq d k with
 | true=>
  obtain rfl:=Nat.eq_of_beq_eq_true hk
  rw [hy] at hd; cases hd
 | false=>exact hy,fun _ _ h=>h⟩
structure Pt (T:TE) where
 s:VS T
 ms:List AV
 e:Env
 g:Heap
 h:Heap
def BW (en:Ent) (a b:Pt T):Prop:=∀ k,ib k en=true→∃ y,nth a.ms k=some y∧∀ o,cC y=some o→b.g.get o=a.g.get o
def DY (B:Hp) (o:AOper) (en:Ent) (a b:Pt T):Prop:=match en.rd with
 | .skip=>ak a.e o.guard=some false
 | .bad=>True
 | .fix z=>∃ q x as v ob cs ver,o.k=.r q∧ak a.e o.guard=some true∧evs a.e o.xs=some (x::as)∧q.ev (x::as) a.g=some v∧cC x=some ob∧zG B a.h z ob cs ver
 | .part k=>∃ q x as v y,o.k=.r q∧ak a.e o.guard=some true∧evs a.e o.xs=some (x::as)∧q.ev (x::as) a.g=some v∧nth a.ms k=some y∧cC x=cC y
 | .mk k=>∃ q y c ver,o.k=.n q∧ak a.e o.guard=some true∧nth b.ms k=some y∧cC y=some a.g.n∧b.g.get a.g.n=some (.row c ver true)
structure PtS (B:Hp) (cf:aZ) (o:AOper) (en:Ent) (a b:Pt T):Prop where
 st:aP cf o a.e a.g=some (b.e,b.g)
 kp:BW en a b
 rd:DY B o en a b
 ms:∃ xs,b.ms=a.ms++xs
 hz:HZ a.h b.h
 fa:Fz a.g a.h
 fb:Fz b.g b.h
 ba:Hp.le B (dX a.h)
 bb:Hp.le B (dX b.h)
def OQ {R:Type} (F:Nat→Option AFn) (g:Heap) (M:Nat→Prop) (Δ:List Ch) (K:VS T→Option R) (r:R) (s:VS T) (ms:List AV) (f:aZ→Option (Env×Heap)):Prop:=
 ∃ s' xs n e' h1 h',K s'=some r∧f (aQ F n)=some (e',h1)∧Fz h1 h'∧VSim g M Δ s' (ms++xs) e' h'∧Ro s s'
def EQ {R:Type} (F:Nat→Option AFn) (g:Heap) (M:Nat→Prop) (Δ:List Ch) (K:Ent→VS T→Option R) (r:R) (s:VS T) (ms:List AV) (e:Env) (h g0:Heap) (o:AOper):Prop:=
 ∃ en s' xs n e' h1 h',K en s'=some r∧Fz h1 h'∧VSim g M Δ s' (ms++xs) e' h'∧Ro s s'∧PtS (Bo g M) (aQ F n) o en ⟨s,ms,e,g0,h⟩ ⟨s',ms++xs,e',h1,h'⟩
theorem pD {R:Type} {Δ:List Ch} {s:VS T} {ms:List AV} {e:Env} {h:Heap} (S:VSim g M Δ s ms e h) {d:Option Nat} {x:SV T} {v:AV} (hr:cJ (Bo g M) s.ps ms h x v) {K:VS T→Option R} {r:R} (hK:lQ s d x K=some r):∃ s',K s'=some r∧VSim g M Δ s' ms (putE e d v) h∧Ro s s'∧s'.ps=s.ps:=by
 cases d with
 | none=>exact ⟨s,hK,S,Ro.refl s,rfl⟩
 | some d=>
  simp only [lQ] at hK
  cases hd:jL (lk s.e d) with
  | true=>rw [hd] at hK; cases hK
  | false=>
   rw [hd] at hK
   exact ⟨_,hK,S.env_set d hr,xg hd,rfl⟩
theorem rN {k:Nat} {en:Ent} (h:ib k en=true):en.ok=true∧tc en.al k=true∧tc en.al2 k=true∧k∉en.tch:=by
 unfold ib at h
 simp only [Bool.and_eq_true,Bool.not_eq_true',List.any_eq_false] at h
 exact ⟨h.1.1.1,h.1.1.2,h.1.2,fun hm=>h.2 k hm (Nat.beq_refl k)⟩
theorem Fz.same {g h:Heap} (k:Fz g h) {o:Nat} {x:AObj} (hx:h.get o=some x) (hn:∀ c v,x≠.row c v false):g.get o=some x:=by
 rcases k.get o with e | ⟨cs,v,e1,e2⟩
 ·rw [e]; exact hx
 rw [hx] at e2; cases e2; exact absurd rfl (hn _ _)
theorem uW {q:NOp} {as:List AV} {h:Heap} {ob:AObj} (ho:q.ob as h=some ob) {x:SV T} {o:AOper} {xs:List (SV T)} {k:Nat} (hq:o.k=.n q) (hk:rdK o xs x=.mk k):cC (q.mk as h.n)=some h.n∧((x=.v (.w (.r k)))∨(x=.v (.w (.ptr k 0))))∧(q.mk as h.n).isTup=false:=by
 unfold rdK at hk
 rw [hq] at hk
 have hx:rdM x=.mk k→(x=.v (.w (.r k)))∨(x=.v (.w (.ptr k 0))):=by
  intro h1
  unfold rdM at h1
  split at h1
  ·cases h1; exact .inl rfl
  ·cases h1; exact .inr rfl
  cases h1
 cases q<;>simp only at hk<;>first | (cases hk; done) | refine ⟨?_,hx hk,?_⟩
 case strToBytes.refine_1=>
  rcases as with _ | ⟨a,_ | ⟨b,as⟩⟩<;>first | (simp [NOp.ob] at ho; done) | (cases a<;>first | rfl | (simp [NOp.ob] at ho))
 case strToBytes.refine_2=>
  rcases as with _ | ⟨a,_ | ⟨b,as⟩⟩<;>first | (simp [NOp.ob] at ho; done) | (cases a<;>first | rfl | (simp [NOp.ob] at ho))
 case mkSlice.refine_1=>
  rcases as with _ | ⟨a,_ | ⟨b,_ | ⟨c,as⟩⟩⟩<;>first | (simp [NOp.ob] at ho; done) | (cases a<;>first | rfl | (simp [NOp.ob] at ho))
 case mkSlice.refine_2=>
  rcases as with _ | ⟨a,_ | ⟨b,_ | ⟨c,as⟩⟩⟩<;>first | (simp [NOp.ob] at ho; done) | (cases a<;>first | rfl | (simp [NOp.ob] at ho))
 all_goals rfl
theorem rq {Δ:List Ch} {s s':VS T} {ms ys:List AV} {e e':Env} {h h1 h' g0 g1:Heap} (S:VSim g M Δ s ms e h) {en:Ent} {tch:Option (List Nat)} (hen:en.ok=tch.isSome∧en.tch=tch.getD []∧en.al=cj s∧en.al2=cj s') (hk:∀ t,tch=some t→BH ms s s' t h h1) (f0:Fz g0 h) (f1:Fz g1 h1):BW en ⟨s,ms,e,g0,h⟩ ⟨s',ms++ys,e',g1,h'⟩:=by
 intro k hke
 obtain ⟨a1,a2,a3,a4⟩:=rN hke
 obtain ⟨b1,b2,b3,b4⟩:=hen
 rw [b3] at a2
 rw [b4] at a3
 obtain ⟨p,p1,p2⟩:=ig a2
 obtain ⟨p',q1,q2⟩:=ig a3
 obtain ⟨y,hy⟩:=bH S.len p1
 refine ⟨y,hy,fun o ho=>?_⟩
 obtain ⟨x,hx,hn⟩:=jf S p1 p2 hy ho
 rw [b1,Option.isSome_iff_exists] at a1
 obtain ⟨t,ht⟩:=a1
 have hs:=hk t ht k p p' y o p1 p2 q1 q2 (by rw [b2,ht] at a4; exact a4) hy ho
 show g1.get o=g0.get o
 rw [f0.same hx hn,f1.same (by rw [hs]; exact hx) hn]
theorem uo {R:Type} {H:List (Nat×VT)} {C:cQ T} (hC:c9 F C) {o:AOper} {Δ:List Ch} {s:VS T} {ms:List AV} {e:Env} {h g0:Heap} (S:VSim g M Δ s ms e h) (hz:Fz g0 h) {K:Ent→VS T→Option R} {r:R} (hK:uG H C o s K=some r) (hw:ak e o.guard=some true):EQ F g M Δ K r s ms e h g0 o:=by
 unfold uG at hK
 split at hK
 ·rename_i xs hx
  obtain ⟨as,h1,h2⟩:=oX S hx
  obtain ⟨x,s',ys,v,n,h3,h4,k1,k2,k3,k4,k5,k6,k8,k7⟩:=BI hC S h2 hK
  obtain ⟨s2,q1,q2,q3,q4⟩:=pD k4 k5 k1
  obtain ⟨g1,w1,w2⟩:=CC (c7 n) hz k2
  have al2:cj s2=cj s':=by unfold cj; rw [q4]
  refine ⟨_,s2,ys,n,_,g1,h4,q1,w2.trans k3,q2,k6.trans q3,⟨by simp only [aP,hw,h1,w1],?_,?_,⟨ys,rfl⟩,?_,hz,w2.trans k3,Bo.le S.st,Bo.le q2.st⟩⟩
  ·exact rq (tch:=DX o.k xs s) S ⟨rfl,rfl,rfl,rfl⟩ (fun t ht k p p' a o1 u1 u2 u3 u4 u5 u6 u7=>k7 t ht k p p' a o1 u1 u2 (by rw [← q4]; exact u3) u4 u5 u6 u7) hz w2
  ·show DY _ _ (FC o xs s x s2) _ _
   unfold DY
   cases hr:(FC o xs s x s2).rd with
   | skip=>
    exfalso
    have hr:rdK o xs x=.skip:=hr
    unfold rdK rdM at hr
    repeat' (split at hr)
    all_goals cases hr
   | bad=>trivial
   | fix z=>
    have hr:rdK o xs x=.fix z:=hr
    unfold rdK rdM at hr
    split at hr
    ·rename_i q hq
     rw [hq] at k2
     have k2:(match q.ev as h with
      | some v=>some (v,h)
      | none=>none)=some (v,h3):=k2
     split at hr
     rotate_left
     ·rename_i z' t' q' xs' hne
      cases hr
      cases h2 with
      | @cons _ a _ as p1 p2=>
       cases hv:q.ev (a::as) h with
       | none=>rw [hv] at k2; cases k2
       | some v'=>
        have p1:(Bp (T.r t')).R (zG (Bo g M) h _) [a] q':=p1.1
        rcases cP p1 with ⟨rfl,_⟩ | ⟨ob,ver,row,b,rfl,_,u1,_⟩
        ·exfalso
         cases q<;>(rcases as with _ | ⟨_,_ | ⟨_,_⟩⟩<;>simp [ROp.ev,Heap.rows] at hv)
        exact ⟨q,_,as,v',ob,row,ver,hq,hw,h1,by rw [← hv]; exact hz.rop q _,rfl,u1⟩
     ·split at hr<;>cases hr
     ·cases hr
     rename_i z' t' x' off xs'
     cases hr
     cases h2 with
     | @cons _ a _ as p1 p2=>
      obtain ⟨ob,ver,base,row,u1,u2,u3,e1⟩:=p1.1
      cases hv:q.ev (a::as) h with
      | none=>rw [hv] at k2; cases k2
      | some v'=>exact ⟨q,a,as,v',ob,row,ver,hq,hw,h1,by rw [← hv]; exact hz.rop q _,by rw [e1]; rfl,u1⟩
    ·split at hr<;>first | (cases hr; done) | (split at hr<;>cases hr)
    cases hr
   | part k=>
    have hr:rdK o xs x=.part k:=hr
    unfold rdK rdM at hr
    split at hr
    ·rename_i q hq
     rw [hq] at k2
     have k2:(match q.ev as h with
      | some v=>some (v,h)
      | none=>none)=some (v,h3):=k2
     split at hr
     ·cases hr
     ·cases hr
     ·split at hr
      ·rename_i w xs' hne hne2 k' hk'
       cases hr
       cases h2 with
       | @cons _ a _ as p1 p2=>
        obtain ⟨y,u1,u2⟩:=mX S p1.1 hk'
        cases hv:q.ev (a::as) h with
        | none=>rw [hv] at k2; cases k2
        | some v'=>exact ⟨q,a,as,v',y,hq,hw,h1,by rw [← hv]; exact hz.rop q _,u1,u2⟩
      cases hr
     cases hr
    ·split at hr<;>first | (cases hr; done) | (split at hr<;>cases hr)
    cases hr
   | mk k=>
    have hr:rdK o xs x=.mk k:=hr
    have hq:∃ q,o.k=.n q:=by
     unfold rdK at hr
     split at hr
     ·exfalso
      repeat' (split at hr)
      all_goals cases hr
     ·exact ⟨_,by assumption⟩
     cases hr
    obtain ⟨q,hq⟩:=hq
    rw [hq] at k2
    cases ho:q.ob as h with
    | none=>simp only [AK.ev,ho] at k2; cases k2
    | some ob=>
     simp only [AK.ev,ho,Option.some.injEq,Prod.mk.injEq] at k2
     obtain ⟨rfl,rfl⟩:=k2
     obtain ⟨r1,r2,_⟩:=uW ho hq hr
     have hm:∃ y,nth (ms++ys) k=some y∧cC y=some h.n:=by
      rcases r2 with rfl | rfl
      ·exact ⟨_,k5.1,r1⟩
      obtain ⟨o1,v1,u1,u2⟩:=k5.1
      refine ⟨_,u1,?_⟩
      rw [u2] at r1
      exact r1
     obtain ⟨y,y1,y2⟩:=hm
     have hob:∃ c ver,ob=.row c ver true:=by
      have nm:(∀ z,rdK o xs x=z→z=.mk k→q≠.mkMap∧q≠.rangeStr):=by
       intro z e1 e2
       subst e2
       constructor
       ·rintro rfl; unfold rdK at e1; rw [hq] at e1; cases e1
       rintro rfl; unfold rdK at e1; rw [hq] at e1; cases e1
      obtain ⟨n1,n2⟩:=nm _ hr rfl
      unfold NOp.ob at ho
      split at ho<;>first | (cases ho; exact ⟨_,_,rfl⟩) | (exact absurd rfl n1) | (exact absurd rfl n2) | (cases ho; done) | skip
      all_goals split at ho<;>first | (cases ho; exact ⟨_,_,rfl⟩) | (cases ho; done) | skip
      all_goals split at ho<;>first | (cases ho; exact ⟨_,_,rfl⟩) | (cases ho; done)
     obtain ⟨c,ver,rfl⟩:=hob
     refine ⟨q,y,c,ver,hq,hw,y1,?_,?_⟩
     ·rw [y2]; exact congrArg some hz.n.symm
     have:(h.push (.row c ver true)).get h.n=some (.row c ver true):=by rw [Heap.get_push,if_pos rfl]
     show g1.get g0.n=_
     rw [hz.n]
     exact w2.same this (fun c v e=>by cases e)
  exact k8
 cases hK
theorem tL {R:Type} {o:AOper} {Δ:List Ch} {s:VS T} {ms:List AV} {e:Env} {h g0:Heap} (S:VSim g M Δ s ms e h) (hz:Fz g0 h) {K:Ent→VS T→Option R} {r:R} (hK:(lQ s o.dst .un fun s'=>K (vP s s') s')=some r) (hw:ak e o.guard=some false):EQ F g M Δ K r s ms e h g0 o:=by
 obtain ⟨s2,q1,q2,q3,q4⟩:=pD (x:=.un) S (show cJ (Bo g M) s.ps ms h .un AV.undef from rfl) hK
 refine ⟨_,s2,[],0,putE e o.dst .undef,g0,h,q1,hz,by rw [List.append_nil]; exact q2,q3,⟨by simp only [aP,hw],?_,hw,⟨[],rfl⟩,HZ.refl _,hz,hz,Bo.le S.st,Bo.le S.st⟩⟩
 exact rq (tch:=some []) S ⟨rfl,rfl,rfl,rfl⟩ (fun _ _ _ _ _ _ _ _ _ _ _ _ _ _=>rfl) hz hz
theorem EQ.know {R:Type} {Δ:List Ch} {K:Ent→VS T→Option R} {r:R} {s s1:VS T} {ms:List AV} {e:Env} {h g0:Heap} {o:AOper} (ro:Ro s s1) (hq:EQ F g M Δ K r s1 ms e h g0 o):EQ F g M Δ K r s ms e h g0 o:=by
 obtain ⟨en,s',xs,n,e',h1,h',k1,k2,k3,k4,k5⟩:=hq
 exact ⟨en,s',xs,n,e',h1,h',k1,k2,k3,ro.trans k4,⟨k5.st,k5.kp,k5.rd,k5.ms,k5.hz,k5.fa,k5.fb,k5.ba,k5.bb⟩⟩
theorem qd {R:Type} {H:List (Nat×VT)} {C:cQ T} (hC:c9 F C) {o:AOper} {Δ:List Ch} {s:VS T} {ms:List AV} {e:Env} {h g0:Heap} (S:VSim g M Δ s ms e h) (hz:Fz g0 h) {t:Nat} {w b:Bool} (hg:o.guard=some (t,w)) (ht:e.get t=some (.bool b)) {K:Ent→VS T→Option R} {r:R} (hK:(bif b==w then uG H C o s K else lQ s o.dst .un fun s'=>K (vP s s') s')=some r):EQ F g M Δ K r s ms e h g0 o:=by
 have hw:ak e o.guard=some (b==w):=by rw [hg]; simp only [ak,ht]
 cases hb:b==w with
 | true=>rw [hb] at hK hw; exact uo hC S hz hK hw
 | false=>rw [hb] at hK hw; exact tL S hz hK hw
theorem ie {R:Type} {H:List (Nat×VT)} {C:cQ T} (hC:c9 F C) {o:AOper} {Δ:List Ch} {s:VS T} {ms:List AV} {e:Env} {h g0:Heap} (S:VSim g M Δ s ms e h) (hz:Fz g0 h) {t:Nat} {w b:Bool} (hg:o.guard=some (t,w)) (ht:e.get t=some (.bool b)) {K:Ent→VS T→Option R} {r:R} (hK:lQ s (some t) (W.sv (.c (.bool b))) (fun s=>bif b==w then uG H C o s K else lQ s o.dst .un fun s'=>K (vP s s') s')=some r):EQ F g M Δ K r s ms e h g0 o:=by
 simp only [lQ] at hK
 cases hd:jL (lk s.e t) with
 | true=>rw [hd] at hK; cases hK
 | false=>
  rw [hd] at hK
  have S2:VSim g M Δ ⟨(t,W.sv (.c (.bool b)))::s.e,s.ps⟩ ms e h:=S.env_know t ht (show cJ (Bo g M) s.ps ms h (.v (.w (.c (.bool b)))) (.bool b) from ⟨rfl,rfl⟩)
  exact (qd hC S2 hz hg ht hK).know (xg hd)
theorem r8 {R:Type} {H:List (Nat×VT)} {C:cQ T} (hC:c9 F C) {o:AOper} {Δ:List Ch} {s:VS T} {ms:List AV} {e:Env} {h g0:Heap} (S:VSim g M Δ s ms e h) (hz:Fz g0 h) {K:Ent→VS T→Option R} {r:R} (hK:Eu H C o s K=some r):EQ F g M Δ K r s ms e h g0 o:=by
 unfold Eu at hK
 split at hK
 ·rename_i hg
  exact uo hC S hz hK (by rw [hg]; rfl)
 rename_i t w hg
 split at hK
 ·rename_i hx
  obtain ⟨a,h1,h2⟩:=cD S hx
  have h2:a=.undef:=h2
  subst h2
  exact tL S hz hK (by rw [hg]; simp only [ak]; rw [show e.get t=some AV.undef from h1]; rfl)
 ·rename_i b hx
  obtain ⟨a,h1,h2⟩:=cD S hx
  have h2:a=.bool b:=h2.1
  subst h2
  exact qd hC S hz hg h1 hK
 ·rename_i p i hx
  obtain ⟨a,h1,h2⟩:=cD S hx
  have h2:a=.bool (@decide p i):=h2.1
  subst h2
  split at hK
  ·rename_i hp
   refine ie (H:=H) (w:=w) (b:=true) hC S hz hg (by rw [show e.get t=_ from h1,decide_eq_true hp]) ?_
   cases w<;>exact hK
  rename_i hp
  refine ie (H:=H) (w:=w) (b:=false) hC S hz hg (by rw [show e.get t=_ from h1,decide_eq_false hp]) ?_
  cases w<;>exact hK
 ·rename_i z b hx
  obtain ⟨a,h1,h2⟩:=cD S hx
  obtain rfl:=dI h2.1
  split at hK
  ·rename_i hp
   subst hp
   refine ie (H:=H) (w:=w) (b:=true) hC S hz hg h1 ?_
   cases w<;>exact hK
  rename_i hp
  obtain rfl:b=false:=by cases b<;>first | rfl | exact absurd rfl hp
  refine ie (H:=H) (w:=w) (b:=false) hC S hz hg h1 ?_
  cases w<;>exact hK
 cases hK
theorem Dk {R:Type} {H:List (Nat×VT)} {C:cQ T} (hC:c9 F C) {o:AOper} {Δ:List Ch} {s:VS T} {ms:List AV} {e:Env} {h g0:Heap} (S:VSim g M Δ s ms e h) (hz:Fz g0 h) {K:VS T→Option R} {r:R} (hK:opV H C o s K=some r):OQ F g M Δ K r s ms fun c=>aP c o e g0:=by
 obtain ⟨en,s',xs,n,e',h1,h',k1,k2,k3,k4,k5⟩:=r8 (K:=fun _ s=>K s) hC S hz hK
 exact ⟨s',xs,n,e',h1,h',k1,k5.st,k2,k3,k4⟩
theorem nB {R:Type} {H:List (Nat×VT)} {C:cQ T} (hC:c9 F C):∀ (os:List AOper) {Δ:List Ch} {s:VS T} {ms:List AV} {e:Env} {h g0:Heap} (S:VSim g M Δ s ms e h) (hz:Fz g0 h) {K:VS T→Option R} {r:R} (hK:C4 H C os s K=some r),OQ F g M Δ K r s ms fun c=>aG c os e g0
 | [],Δ,s,ms,e,h,g0,S,hz,K,r,hK=>⟨s,[],0,e,g0,h,hK,rfl,hz,by rw [List.append_nil]; exact S,Ro.refl s⟩
 | o::os,Δ,s,ms,e,h,g0,S,hz,K,r,hK=>by
  obtain ⟨s1,xs,n,e1,h1,h2,k1,k2,k3,k4,k5⟩:=Dk hC S hz hK
  obtain ⟨s2,ys,m,e2,h3,h4,q1,q2,q3,q4,q5⟩:=nB hC os k4 k3 k1
  refine ⟨s2,xs++ys,max n m,e2,h3,h4,q1,?_,q3,by rw [← List.append_assoc]; exact q4,k5.trans q5⟩
  have a1:=gk (bx (F:=F) (Nat.le_max_left n m)) k2
  have a2:=(bp (bx (F:=F) (Nat.le_max_right n m)) os q2).1
  simp only [aG,a1,a2]
end
end Go.Am
namespace Go.Am
open Go
section
variable {T:TE} {F:Nat→Option AFn} {g:Heap} {M:Nat→Prop}
theorem PtS.le {B:Hp} {cf cf':aZ} (hc:xX cf cf') {o:AOper} {en:Ent} {a b:Pt T} (s:PtS B cf o en a b):PtS B cf' o en a b:=⟨gk hc s.st,s.kp,s.rd,s.ms,s.hz,s.fa,s.fb,s.ba,s.bb⟩
def dH (B:Hp) (cf:aZ):List AOper→List Ent→Pt T→List (Pt T)→Prop
 | [],[],_,[]=>True
 | o::os,en::es,a,b::bs=>PtS B cf o en a b∧dH B cf os es b bs
 | _,_,_,_=>False
theorem dH.le {B:Hp} {cf cf':aZ} (hc:xX cf cf'):∀ {os:List AOper} {es:List Ent} {a:Pt T} {bs:List (Pt T)},dH B cf os es a bs→dH B cf' os es a bs
 | [],[],a,[],h=>h
 | o::os,en::es,a,b::bs,h=>⟨h.1.le hc,h.2.le hc⟩
 | [],[],_,_::_,h=>h.elim
 | [],_::_,_,_,h=>h.elim
 | _::_,[],_,_,h=>h.elim
 | _::_,_::_,_,[],h=>h.elim
theorem dH.len {B:Hp} {cf:aZ}:∀ {os:List AOper} {es:List Ent} {a:Pt T} {bs:List (Pt T)},dH B cf os es a bs→es.length=os.length∧bs.length=os.length
 | [],[],a,[],h=>⟨rfl,rfl⟩
 | o::os,en::es,a,b::bs,h=>by
  obtain ⟨h1,h2⟩:=h.2.len
  simp only [List.length_cons,h1,h2,and_self]
 | [],[],_,_::_,h=>h.elim
 | [],_::_,_,_,h=>h.elim
 | _::_,[],_,_,h=>h.elim
 | _::_,_::_,_,[],h=>h.elim
theorem dH.trace {B:Hp} {cf:aZ}:∀ {os:List AOper} {es:List Ent} {a:Pt T} {bs:List (Pt T)},dH B cf os es a bs→Am.trace cf os a.e a.g=(a::bs).map fun p=>(p.e,p.g)
 | [],[],a,[],h=>rfl
 | o::os,en::es,a,b::bs,h=>by
  simp only [Am.trace,h.1.st,h.2.trace,List.map_cons]
 | [],[],_,_::_,h=>h.elim
 | [],_::_,_,_,h=>h.elim
 | _::_,[],_,_,h=>h.elim
 | _::_,_::_,_,[],h=>h.elim
theorem dH.get {B:Hp} {cf:aZ}:∀ {os:List AOper} {es:List Ent} {a:Pt T} {bs:List (Pt T)},dH B cf os es a bs→∀ {i:Nat} {en:Ent},es[i]? = some en→∃ o p q,os[i]? = some o∧(a::bs)[i]? = some p∧(a::bs)[i+1]? = some q∧PtS B cf o en p q
 | o::os,en::es,a,b::bs,h,0,e,hi=>by cases hi; exact ⟨o,a,b,rfl,rfl,rfl,h.1⟩
 | o::os,en::es,a,b::bs,h,i+1,e,hi=>by
  obtain ⟨o',p,q,h1,h2,h3,h4⟩:=h.2.get (i:=i) hi
  exact ⟨o',p,q,h1,h2,h3,h4⟩
 | [],[],a,[],h,i,e,hi=>by cases hi
 | [],[],_,_::_,h,_,_,_=>h.elim
 | [],_::_,_,_,h,_,_,_=>h.elim
 | _::_,[],_,_,h,_,_,_=>h.elim
 | _::_,_::_,_,[],h,_,_,_=>h.elim
theorem dH.keep {B:Hp} {cf:aZ} {os:List AOper} {es:List Ent} {a:Pt T} {bs:List (Pt T)} (h:dH B cf os es a bs) {k:Nat} {y:AV}:∀ (m i:Nat),((es.drop i).take m).all (ib k)=true→i+m≤es.length→∀ {p:Pt T},(a::bs)[i]? = some p→nth p.ms k=some y→∀ j,j≤m→∃ q,(a::bs)[i+j]? = some q∧nth q.ms k=some y∧∀ o,cC y=some o→q.g.get o=p.g.get o
 | m,i,hk,hl,p,hp,hy,0,hj=>⟨p,hp,hy,fun _ _=>rfl⟩
 | m,i,hk,hl,p,hp,hy,j+1,hj=>by
  obtain ⟨q,h1,h2,h3⟩:=h.keep m i hk hl hp hy j (by omega)
  have hlt:i+j < es.length:=by omega
  obtain ⟨o,p',q',w1,w2,w3,w4⟩:=h.get (i:=i+j) (List.getElem?_eq_getElem hlt)
  rw [h1] at w2
  cases w2
  have hke:ib k es[i+j]=true:=by
   rw [List.all_eq_true] at hk
   refine hk _ (List.mem_of_getElem? (i:=j) ?_)
   rw [List.getElem?_take_of_lt (by omega),List.getElem?_drop,List.getElem?_eq_getElem hlt]
  obtain ⟨y',z1,z2⟩:=w4.kp k hke
  rw [h2] at z1
  cases z1
  obtain ⟨xs,hx⟩:=w4.ms
  exact ⟨q',w3,by rw [hx]; exact aL h2,fun o ho=>(z2 o ho).trans (h3 o ho)⟩
theorem dH.back {B:Hp} {cf:aZ} {os:List AOper} {es:List Ent} {a:Pt T} {bs:List (Pt T)} (h:dH B cf os es a bs):∀ (m i:Nat) {p q:Pt T},(a::bs)[i]? = some p→(a::bs)[i+m]? = some q→∃ xs,q.ms=p.ms++xs
 | 0,i,p,q,hp,hq=>by rw [Nat.add_zero,hp] at hq; cases hq; exact ⟨[],by simp⟩
 | m+1,i,p,q,hp,hq=>by
  have hl:i+m < es.length:=by
   have:=h.len
   have h1:=(List.getElem?_eq_some_iff.1 hq).1
   simp only [List.length_cons] at h1
   omega
  obtain ⟨o,p',q',w1,w2,w3,w4⟩:=h.get (i:=i+m) (List.getElem?_eq_getElem hl)
  obtain ⟨xs,hx⟩:=h.back m i hp w2
  rw [show i+(m+1)=i+m+1 by omega,w3] at hq
  cases hq
  obtain ⟨ys,hy⟩:=w4.ms
  exact ⟨xs++ys,by rw [hy,hx,List.append_assoc]⟩
theorem dH.hz {B:Hp} {cf:aZ} {os:List AOper} {es:List Ent} {a:Pt T} {bs:List (Pt T)} (h:dH B cf os es a bs):∀ (m i:Nat) {p q:Pt T},(a::bs)[i]? = some p→(a::bs)[i+m]? = some q→HZ p.h q.h
 | 0,i,p,q,hp,hq=>by rw [Nat.add_zero,hp] at hq; cases hq; exact HZ.refl _
 | m+1,i,p,q,hp,hq=>by
  have hl:i+m < es.length:=by
   have:=h.len
   have h1:=(List.getElem?_eq_some_iff.1 hq).1
   simp only [List.length_cons] at h1
   omega
  obtain ⟨o,p',q',w1,w2,w3,w4⟩:=h.get (i:=i+m) (List.getElem?_eq_getElem hl)
  rw [show i+(m+1)=i+m+1 by omega,w3] at hq
  cases hq
  exact (h.hz m i hp w2).trans w4.hz
def CEq (x y:Option AObj):Prop:=x=y∨∃ cs v w w',x=some (.row cs v w)∧y=some (.row cs v w')
theorem iL {h h':Heap} {o v off n:Nat} (hc:CEq (h.get o) (h'.get o)):h.cells o v off n=h'.cells o v off n:=by
 unfold Heap.cells
 rcases hc with e | ⟨cs,ver,w,w',e1,e2⟩
 ·rw [e]
 rw [e1,e2]
theorem oY {q:ROp} {x:AV} {as:List AV} {h h':Heap} (hc:∀ o,cC x=some o→CEq (h.get o) (h'.get o)):q.ev (x::as) h=q.ev (x::as) h':=by
 have rows:∀ z,h.rows z x=h'.rows z x:=fun z=>by
  cases x<;>first | rfl | exact iL (hc _ rfl)
 have map:∀ o,cC x=some o→((∃ es,h.get o=some (.map es)∧h'.get o=some (.map es))∨((∀ es,h.get o≠some (.map es))∧∀ es,h'.get o≠some (.map es))):=fun o ho=>by
  rcases hc o ho with e | ⟨cs,ver,w,w',e1,e2⟩
  ·by_cases hh:∃ es,h.get o=some (.map es)
   ·obtain ⟨es,he⟩:=hh; exact .inl ⟨es,he,by rw [← e]; exact he⟩
   exact .inr ⟨fun es he=>hh ⟨es,he⟩,fun es he=>hh ⟨es,by rw [e]; exact he⟩⟩
  exact .inr ⟨fun es he=>(by rw [e1] at he; cases he),fun es he=>(by rw [e2] at he; cases he)⟩
 cases q with
 | load1=>cases x<;>cases as<;>first | rfl | (simp only [ROp.ev,iL (hc _ rfl)])
 | loadN n=>cases x<;>cases as<;>first | rfl | (simp only [ROp.ev,iL (hc _ rfl)])
 | bytesToStr=>cases as<;>first | (simp only [ROp.ev,rows 1]) | rfl
 | lookup kq ok zero=>
  cases x<;>first | rfl | (rcases as with _ | ⟨a,_ | ⟨b,as⟩⟩<;>rfl) | skip
  rename_i o
  rcases as with _ | ⟨a,_ | ⟨b,as⟩⟩<;>first | rfl | skip
  rcases map o rfl with ⟨es,e1,e2⟩ | ⟨e1,e2⟩
  ·simp only [ROp.ev,e1,e2]
  simp only [ROp.ev]
  first | done | skip
 | lenMap=>
  cases x<;>cases as<;>first | rfl | skip
  rename_i o
  rcases map o rfl with ⟨es,e1,e2⟩ | ⟨e1,e2⟩
  ·simp only [ROp.ev,e1,e2]
  simp only [ROp.ev]
  first | done | skip
theorem pk {h h':Heap} {o:Nat} {cs:List AV} {v:Nat} (a:dX h o cs v) (b:dX h' o cs v):CEq (h.get o) (h'.get o):=by
 obtain ⟨w,e1⟩:=a
 obtain ⟨w',e2⟩:=b
 exact .inr ⟨cs,v,w,w',e1,e2⟩
theorem mV {g h:Heap} (k:Fz g h) {o:Nat} {cs:List AV} {v:Nat} (a:dX h o cs v):dX g o cs v:=by
 obtain ⟨w,e⟩:=a
 rcases k.get o with e1 | ⟨cs',v',e1,e2⟩
 ·exact ⟨w,by rw [e1]; exact e⟩
 rw [e] at e2; cases e2; exact ⟨_,e1⟩
theorem dH.chk {B:Hp} {cf:aZ} {os:List AOper} {es:List Ent} {a:Pt T} {bs:List (Pt T)} (h:dH B cf os es a bs) {p:Nat×Nat} (hc:CQ es p=true):aY os (Am.trace cf os a.e a.g) p=true:=by
 obtain ⟨r,x⟩:=p
 unfold CQ at hc
 rw [Bool.and_eq_true] at hc
 obtain ⟨hx,hc⟩:=hc
 have hx:x < es.length:=by simpa [Nat.blt_eq] using hx
 cases hn:nth es r with
 | none=>rw [hn] at hc; cases hc
 | some en=>
  rw [hn] at hc
  dsimp only at hc
  rw [aW] at hn
  obtain ⟨o,pr,qr,h1,h2,h3,h4⟩:=h.get hn
  obtain ⟨o',px,qx,k1,k2,k3,k4⟩:=h.get (i:=x) (List.getElem?_eq_getElem hx)
  have t:∀ (i:Nat) (q:Pt T),(a::bs)[i]? = some q→((a::bs).map fun p=>(p.e,p.g))[i]? = some (q.e,q.g):=fun i q hq=>by rw [List.getElem?_map,hq]; rfl
  rw [h.trace]
  have hr:DY B o en pr qr:=h4.rd
  unfold aY
  simp only [h1,t _ _ h2,t _ _ k2,t _ _ k3]
  have rdg:∀ {q:ROp} {y:AV} {as:List AV} {v:AV},o.k=.r q→ak pr.e o.guard=some true→evs pr.e o.xs=some (y::as)→q.ev (y::as) pr.g=some v→(∀ ob,cC y=some ob→CEq (px.g.get ob) (pr.g.get ob))→(∀ ob,cC y=some ob→CEq (qx.g.get ob) (pr.g.get ob))→(match ak pr.e o.guard with
    | none=>false
    | some false=>true
    | some true=>match o.k,evs pr.e o.xs with
     | .r q,some xs=>match q.ev xs pr.g with
      | some v=>jx v (q.ev xs px.g)&&jx v (q.ev xs qx.g)
      | none=>false
     | .n _,_=>br (px.g.get pr.g.n) (qx.g.get pr.g.n)
     | _,_=>false)=true:=fun {q y as v} e1 e2 e3 e4 c1 c2=>by
   rw [e2,e1,e3]
   simp only [e4,oY (q:=q) (as:=as) c1,oY (q:=q) (as:=as) c2,jx,AV.beq_refl,Bool.and_self]
  unfold DY at hr
  cases hrd:en.rd with
  | skip=>rw [hrd] at hr; have hr:ak pr.e o.guard=some false:=hr; rw [hr]
  | bad=>rw [hrd] at hc; cases hc
  | fix z=>
   rw [hrd] at hr hc
   obtain ⟨q,y,as,v,ob,cs,ver,e1,e2,e3,e4,e5,e6⟩:=hr
   have sr:dX pr.g ob cs ver:=mV h4.fa (by cases z; exact h4.ba _ _ _ e6; exact ⟨_,e6⟩)
   have sp:dX px.g ob cs ver∧dX qx.g ob cs ver:=by
    cases z with
    | false=>exact ⟨mV k4.fa (k4.ba _ _ _ e6),mV k4.fb (k4.bb _ _ _ e6)⟩
    | true=>
     have hle:r≤x:=by simpa using hc
     have w1:=h.hz (x - r) r h2 (by rw [show r+(x - r)=x by omega]; exact k2)
     exact ⟨mV k4.fa ⟨_,w1 _ _ _ e6⟩,mV k4.fb ⟨_,k4.hz _ _ _ (w1 _ _ _ e6)⟩⟩
   exact rdg e1 e2 e3 e4 (fun o1 ho=>by rw [e5] at ho; cases ho; exact pk sp.1 sr) (fun o1 ho=>by rw [e5] at ho; cases ho; exact pk sp.2 sr)
  | part k=>
   rw [hrd] at hr hc
   obtain ⟨q,y,as,v,b,e1,e2,e3,e4,e5,e6⟩:=hr
   have hc:(bif Nat.ble r x then ((es.drop r).take (x+1 - r)).all (ib k) else ((es.drop x).take (r - x)).all (ib k))=true:=hc
   have rlt:r < es.length:=(List.getElem?_eq_some_iff.1 hn).1
   cases hb:Nat.ble r x with
   | true=>
    rw [hb,cond_true] at hc
    have hle:=Nat.le_of_ble_eq_true hb
    obtain ⟨q1,w1,w2,w3⟩:=h.keep _ r hc (by omega) h2 e5 (x - r) (by omega)
    obtain ⟨q2,z1,z2,z3⟩:=h.keep _ r hc (by omega) h2 e5 (x+1 - r) (by omega)
    rw [show r+(x - r)=x by omega,k2] at w1
    rw [show r+(x+1 - r)=x+1 by omega,k3] at z1
    cases w1
    cases z1
    exact rdg e1 e2 e3 e4 (fun o1 ho=>.inl (w3 o1 (by rw [← e6]; exact ho))) (fun o1 ho=>.inl (z3 o1 (by rw [← e6]; exact ho)))
   | false=>
    rw [hb,cond_false] at hc
    have hlt:x < r:=by
     rcases Nat.lt_or_ge x r with hh | hh
     ·exact hh
     rw [show Nat.ble r x=true from Nat.ble_eq_true_of_le hh] at hb; cases hb
    have hy:nth px.ms k=some b:=by
     have h0:ib k es[x]=true:=by
      rw [List.all_eq_true] at hc
      refine hc _ (List.mem_of_getElem? (i:=0) ?_)
      rw [List.getElem?_take_of_lt (by omega),List.getElem?_drop,Nat.add_zero,List.getElem?_eq_getElem hx]
     obtain ⟨b',u1,_⟩:=k4.kp k h0
     obtain ⟨xs,hxs⟩:=h.back (r - x) x k2 (by rw [show x+(r - x)=r by omega]; exact h2)
     rw [hxs,aL u1] at e5
     rw [u1,e5]
    obtain ⟨q1,w1,w2,w3⟩:=h.keep _ x hc (by omega) k2 hy (r - x) (by omega)
    obtain ⟨q2,z1,z2,z3⟩:=h.keep _ x hc (by omega) k2 hy 1 (by omega)
    rw [show x+(r - x)=r by omega,h2] at w1
    rw [k3] at z1
    cases w1
    cases z1
    exact rdg e1 e2 e3 e4 (fun o1 ho=>.inl (w3 o1 (by rw [← e6]; exact ho)).symm) (fun o1 ho=>.inl ((z3 o1 (by rw [← e6]; exact ho)).trans (w3 o1 (by rw [← e6]; exact ho)).symm))
  | mk k=>
   rw [hrd] at hr hc
   obtain ⟨q,y,c,ver,e1,e2,e3,e4,e5⟩:=hr
   have hc:(Nat.blt r x&&((es.drop (r+1)).take (x - r)).all (ib k))=true:=hc
   rw [Bool.and_eq_true] at hc
   have hlt:r < x:=by simpa [Nat.blt_eq] using hc.1
   obtain ⟨q1,w1,w2,w3⟩:=h.keep _ (r+1) hc.2 (by omega) h3 e3 (x - (r+1)) (by omega)
   obtain ⟨q2,z1,z2,z3⟩:=h.keep _ (r+1) hc.2 (by omega) h3 e3 (x - r) (by omega)
   rw [show r+1+(x - (r+1))=x by omega,k2] at w1
   rw [show r+1+(x - r)=x+1 by omega,k3] at z1
   cases w1
   cases z1
   rw [e2,e1]
   show br (px.g.get pr.g.n) (qx.g.get pr.g.n)=true
   rw [w3 _ e4,z3 _ e4,e5]
   simp [br,AV.beqs_refl]
theorem uj {R:Type} {H:List (Nat×VT)} {C:cQ T} (hC:c9 F C) {ps:List (Nat×Nat)}:∀ (os:List AOper) (es:List Ent) {Δ:List Ch} {s:VS T} {ms:List AV} {e:Env} {h g0:Heap} (S:VSim g M Δ s ms e h) (hz:Fz g0 h) {K:VS T→Option R} {r:R} (hK:Br H C ps os es s K=some r),
  ∃ s' xs n e' h1 h' en bs,K s'=some r∧aG (aQ F n) os e g0=some (e',h1)∧Fz h1 h'∧VSim g M Δ s' (ms++xs) e' h'∧Ro s s'∧dH (Bo g M) (aQ F n) os en ⟨s,ms,e,g0,h⟩ bs∧ps.all (CQ (es++en))=true
 | [],es,Δ,s,ms,e,h,g0,S,hz,K,r,hK=>by
  simp only [Br] at hK
  cases hc:ps.all (CQ es) with
  | false=>rw [hc] at hK; cases hK
  | true=>rw [hc] at hK; exact ⟨s,[],0,e,g0,h,[],[],hK,rfl,hz,by rw [List.append_nil]; exact S,Ro.refl s,trivial,by rw [List.append_nil]; exact hc⟩
 | o::os,es,Δ,s,ms,e,h,g0,S,hz,K,r,hK=>by
  simp only [Br] at hK
  obtain ⟨en,s1,xs,n,e1,h1,h2,k1,k2,k3,k4,k5⟩:=r8 hC S hz hK
  obtain ⟨s2,ys,m,e2,h3,h4,en2,bs,q1,q2,q3,q4,q5,q6,q7⟩:=uj hC os _ k3 k2 k1
  have l1:=bx (F:=F) (Nat.le_max_left n m)
  have l2:=bx (F:=F) (Nat.le_max_right n m)
  refine ⟨s2,xs++ys,max n m,e2,h3,h4,en::en2,_::bs,q1,?_,q3,by rw [← List.append_assoc]; exact q4,k4.trans q5,⟨k5.le l1,q6.le l2⟩,by rw [List.append_assoc] at q7; exact q7⟩
  have a1:=gk l1 k5.st
  have a2:=(bp l2 os q2).1
  simp only [aG,a1,a2]
end
end Go.Am
