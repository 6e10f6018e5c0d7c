/- A machine over typed values, and that functions do what it says. No condition. Own work. -/
import Derived.Test.YtmchbhheoieepaaVm2ProcessClocks
set_option linter.unusedSimpArgs false
set_option linter.unusedVariables false
namespace Go.Am
open Go
section
variable {T:TE} {F:Nat→Option AFn} {g:Heap} {M:Nat→Prop}
def ck:AV→Option Nat
 | .ptr o _ _=>some o
 | .slice o _ _ _ _=>some o
 | .map o=>some o
 | .iter o=>some o
 | _=>none
def zm (ms:List AV) (s s':VS T) (tch:List Nat) (h h1:Heap):Prop:=∀ k p p' a o,nth s.ps k=some p→dm p=false→nth s'.ps k=some p'→dm p'=false→k∉tch→nth ms k=some a→ck a=some o→h1.get o=h.get o
theorem wk {a:AV} {h:Heap}:∀ {k v:VT} {x:T.D (.mp k v)} {fp:List Nat},(T.w (.mp k v)).O h [a] x fp→∀ o,ck a=some o→o∈fp:=by
 have key:∀ {κ β:Type} {e:KE κ} {ve:β→AV} {x:Option (List (κ×β))} {fp:List Nat},(fT e ve).O h [a] x fp→∀ o,ck a=some o→o∈fp:=by
  rintro κ β e ve x fp (⟨e1,_,_⟩ | ⟨m,rfl,o,e1,_,rfl⟩) p hp
  ·cases e1; cases hp
  cases e1; cases hp; exact List.mem_cons_self ..
 intro k v x fp hO
 cases k<;>cases v<;>first | exact key hO | exact hO.2.elim
theorem gN {B:Hp} {ms:List AV} {h:Heap} {a:AV}:∀ (p:Part T) (fp:List Nat),dm p=false→(dt B ms a p).P h fp→∀ o,ck a=some o→o∈fp
 | .dead,fp,hd,_,_,_=>by cases hd
 | .sl t l,fp,hd,hP,o,ho=>by
  obtain ⟨s,e,⟨rfl,_,_⟩ | ⟨ob,v,off,row,els,fps,rfl,_,_,_,_,rfl,_⟩⟩:=hP
  ·cases e; cases ho
  cases e; cases ho; exact List.mem_cons_self ..
 | .row ws,fp,hd,hP,o,ho=>by
  obtain ⟨ob,v,cs,rfl,rfl,_,_⟩:=hP
  cases ho; exact List.mem_cons_self ..
 | .po t q,fp,hd,hP,o,ho=>by
  obtain ⟨s,e,⟨rfl,_,_⟩ | ⟨ob,v,row,b,f,rfl,_,_,_,rfl,_⟩⟩:=hP
  ·cases e; cases ho
  cases e; cases ho; exact List.mem_cons_self ..
 | .io n t q,fp,hd,hP,o,ho=>by
  rcases hP with ⟨e,_,_⟩ | ⟨b,e,_⟩
  ·cases e; cases ho
  cases e; cases ho
 | .mp k v m,fp,hd,hP,o,ho=>wk (T:=T) hP o ho
 | .ho t l i,fp,hd,hP,o,ho=>by
  obtain ⟨c,ob,v,off,row,e1,e2,l1,x0,l2,f1,f2,_,_,rfl,_,_,_,_,_,_,rfl,_⟩:=hP
  cases ho; exact List.mem_cons_self ..
 | .ro p,fp,hd,hP,o,ho=>gN p fp hd hP o ho
theorem xA {B:Hp} {ms:List AV} {h:Heap} {a:AV}:∀ (p:Part T) (fp:List Nat),(dt B ms a p).P h fp→∀ o,o∈fp→∀ c v,h.get o≠some (.row c v false)
 | .dead,fp,hP,o,ho=>by
  have hP:fp=[]:=hP
  subst hP; cases ho
 | .sl t l,fp,hP,o,ho=>(T.ogw (.sl true t)).wr hP o ho
 | .row ws,fp,hP,o,ho=>by
  obtain ⟨ob,v,cs,rfl,rfl,hg,_⟩:=hP
  rw [List.mem_singleton] at ho; subst ho
  intro c v e; rw [hg] at e; cases e
 | .po t q,fp,hP,o,ho=>(T.ogw (.pt t)).wr hP o ho
 | .io n t q,fp,hP,o,ho=>(T.ogw (.ic n t)).wr hP o ho
 | .mp k v m,fp,hP,o,ho=>(T.ogw (.mp k v)).wr hP o ho
 | .ho t l i,fp,hP,o,ho=>by
  obtain ⟨c,ob,v,off,row,e1,e2,l1,x0,l2,f1,f2,_,_,_,hg,_,_,a1,a2,_,rfl,_⟩:=hP
  intro c v
  rcases List.mem_cons.1 ho with rfl | ho
  ·rw [hg]; intro e; cases e
  rcases List.mem_append.1 ho with ho | ho
  ·exact (k9 (T.ogw t) a1).2 o ho c v
  exact (k9 (T.ogw t) a2).2 o ho c v
 | .ro p,fp,hP,o,ho=>xA p fp hP o ho
theorem ii {Δ:List Ch} {s:VS T} {ms:List AV} {e:Env} {h:Heap} (S:VSim g M Δ s ms e h) {k:Nat} {p:Part T} {a:AV} {o:Nat} (hp:nth s.ps k=some p) (hd:dm p=false) (ha:nth ms k=some a) (ho:ck a=some o):∃ x,h.get o=some x∧∀ c v,x≠.row c v false:=by
 obtain ⟨fp,hP⟩:=(S.st.pull ha hp).mem (.head _)
 have hm:=gN p fp hd hP o ho
 obtain ⟨x,hx⟩:=(dt (Bo g M) ms a p).bd hP o hm
 exact ⟨x,hx,fun c v e=>xA p fp hP o hm c v (by rw [hx,e])⟩
theorem r6 {Δ:List Ch} {s:VS T} {ms:List AV} {e:Env} {h:Heap} (S:VSim g M Δ s ms e h) {k j:Nat} {p q:Part T} {a b:AV} {o u:Nat} (hkj:j≠k) (hp:nth s.ps k=some p) (hd:dm p=false) (ha:nth ms k=some a) (ho:ck a=some o) (hq:nth s.ps j=some q) (hd2:dm q=false) (hb:nth ms j=some b) (hu:ck b=some u):u≠o:=by
 have S1:St g M ((dt (Bo g M) ms a p::Δ)++chs (Bo g M) ms ms (s.ps.set k .dead)) h:=S.st.pull ha hp
 have S2:=S1.pull hb (by rw [cE _ _ _ _ hkj]; exact hq)
 obtain ⟨fps,h1,h2,_⟩:=S2.ex
 cases h1 with
 | cons p1 t1=>cases t1 with
  | cons p2 t2=>
   intro e
   subst e
   cases h2 with
   | cons d1 d2=>exact d1 _ (List.mem_cons_self ..) _ (gN q _ hd2 p1 _ hu) (gN p _ hd p2 _ ho)
theorem jr {h:Heap} {z:Nat} {a:AV} {new:List AV} {k:Nat} {v:AV} {h1:Heap} (hr:a9 h z a new k=some (v,h1)) {o:Nat} (ho:o < h.n) (hn:ck a≠some o):h1.get o=h.get o:=by
 unfold a9 at hr
 split at hr
 ·split at hr
  ·cases hr; rfl
  cases hr; rw [Heap.get_push,if_neg (by omega)]
 ·rename_i o1 v1 off len z1
  split at hr
  ·rename_i cs ver wr hg
   split at hr
   ·split at hr
    ·cases hr; rfl
    cases hr
    rw [Heap.get_set h (get_lt hg),if_neg fun e=>hn (by rw [e]; rfl)]
   cases hr
  cases hr
 cases hr
theorem sG {q:EOp} {a:AV} {as:List AV} {h h1:Heap} {v:AV} (hr:q.ev (a::as) h=some (v,h1)) {o:Nat} (ho:o < h.n) (hn:ck a≠some o):h1.get o=h.get o:=by
 have st:∀ {p:Nat} {x:AObj} {y:AObj},h.get p=some y→ck a=some p→(h.set p x).get o=h.get o:=fun hg hp=>by
  rw [Heap.get_set h (get_lt hg),if_neg fun e=>hn (by rw [e]; exact hp)]
 unfold EOp.ev at hr
 split at hr
 ·rename_i heq
  injection heq with e1 e2
  subst e1
  split at hr
  ·rename_i hg
   split at hr
   ·cases hr; exact st hg rfl
   cases hr
  cases hr
 ·rename_i heq
  injection heq with e1 e2
  subst e1
  split at hr
  ·split at hr
   ·exact jr hr ho hn
   cases hr
  cases hr
 ·rename_i heq
  injection heq with e1 e2
  subst e1
  split at hr
  ·rename_i hg
   split at hr
   ·split at hr
    ·cases hr; exact st hg rfl
    cases hr
   cases hr
  cases hr
 ·rename_i heq
  injection heq with e1 e2
  subst e1
  split at hr
  ·rename_i hg
   split at hr
   ·cases hr; exact st hg rfl
   cases hr; rfl
  cases hr
 ·rename_i heq
  injection heq with e1 e2
  subst e1
  split at hr
  ·split at hr
   ·cases hr; rfl
   cases hr
  cases hr
 ·rename_i heq
  injection heq with e1 e2
  subst e1
  split at hr
  ·rename_i hg
   split at hr
   ·cases hr; exact st hg rfl
   cases hr
  cases hr
 ·rename_i heq
  injection heq with e1 e2
  subst e1
  split at hr
  ·split at hr
   ·rename_i hg
    split at hr
    ·cases hr; exact st hg rfl
    cases hr
   cases hr
  cases hr
 cases hr
theorem Ai {q:EOp} {as:List AV} {h h1:Heap} {v:AV} (hr:q.ev as h=some (v,h1)):HZ h h1:=by
 have st:∀ {p:Nat} {x:AObj} {y:AObj},h.get p=some y→(∀ c v,y≠.row c v false)→HZ h (h.set p x):=fun {p x y} hg hn o cs v hf=>by
  have hf:h.get o=some (.row cs v false):=hf
  show (h.set p x).get o=_
  rw [Heap.get_set h (get_lt hg)]
  by_cases e:o=p
  ·subst e; rw [hg] at hf; cases hf; exact absurd rfl (hn _ _)
  rw [if_neg e]; exact hf
 have ap:∀ {z:Nat} {a:AV} {new:List AV} {k:Nat},a9 h z a new k=some (v,h1)→HZ h h1:=fun {z a new k} hr=>by
  unfold a9 at hr
  split at hr
  ·split at hr
   ·cases hr; exact HZ.refl _
   cases hr; exact HZ.of (HLe.push h _)
  ·split at hr
   ·rename_i cs ver wr hg
    split at hr
    ·rename_i hc
     split at hr
     ·cases hr; exact HZ.refl _
     cases hr
     exact st hg (fun c v e=>by cases e; exact absurd hc.2.2.2 (by simp))
    cases hr
   cases hr
  cases hr
 unfold EOp.ev at hr
 split at hr
 ·split at hr
  ·rename_i hg
   split at hr
   ·rename_i hc
    cases hr; exact st hg (fun c v e=>by cases e; exact absurd hc.2.2.1 (by simp))
   cases hr
  cases hr
 ·split at hr
  ·split at hr
   ·exact ap hr
   cases hr
  cases hr
 ·split at hr
  ·rename_i hg
   split at hr
   ·split at hr
    ·cases hr; exact st hg (fun c v e=>by cases e)
    cases hr
   cases hr
  cases hr
 ·split at hr
  ·rename_i hg
   split at hr
   ·cases hr; exact st hg (fun c v e=>by cases e)
   cases hr; exact HZ.refl _
  cases hr
 ·split at hr
  ·split at hr
   ·cases hr; exact HZ.refl _
   cases hr
  cases hr
 ·split at hr
  ·rename_i hg
   split at hr
   ·rename_i hc
    cases hr; exact st hg (fun c v e=>by cases e; exact absurd hc.2.2.1 (by simp))
   cases hr
  cases hr
 ·split at hr
  ·split at hr
   ·rename_i hg
    split at hr
    ·rename_i hc
     cases hr; exact st hg (fun c v e=>by cases e; exact absurd hc.2.2.2.2.1 (by simp))
    cases hr
   cases hr
  cases hr
 cases hr
def KQ {R:Type} (F:Nat→Option AFn) (g:Heap) (M:Nat→Prop) (Δ:List Ch) (K:SV T→VS T→Option R) (r:R) (s:VS T) (ms:List AV) (e:Env) (h:Heap) (tch:Option (List Nat)) (f:aR→Option (AV×Heap)):Prop:=
 ∃ x s' xs v n h1 h',K x s'=some r∧f (aI F n)=some (v,h1)∧Fz h1 h'∧VSim g M Δ s' (ms++xs) e h'∧cM (Bo g M) s'.ps (ms++xs) h' x v∧Ro s s'∧HZ h h'∧∀ t,tch=some t→zm ms s s' t h h1
def cI (F:Nat→Option AFn) (C:cC T):Prop:=∀ (R:Type) (f:Nat) (xs:List (SV T)) (s:VS T) (K:SV T→VS T→Option R) (r:R),C R f xs s K=some r→∀ (g:Heap) (M:Nat→Prop) (Δ:List Ch) (ms:List AV) (e:Env) (h:Heap) (as:List AV),VSim g M Δ s ms e h→All2 (cM (Bo g M) s.ps ms h) xs as→KQ F g M Δ K r s ms e h (some []) fun c=>c f as h
theorem kK {h:Heap} {esz:Nat} {x:AV} {cs:List AV} {k:Nat} (ha:appended h esz x=some (cs,k)):gB x=k:=by
 cases x<;>simp only [appended] at ha<;>split at ha<;>first | (cases ha; rfl) | (cases ha; done) | (simp only [Option.some.injEq,Prod.mk.injEq] at ha; exact ha.2)
theorem xp {R:Type} {esz b:Nat} {Δ:List Ch} {s:VS T} {ms:List AV} {e:Env} {h:Heap} (S:VSim g M Δ s ms e h) {xs:List (SV T)} {as:List AV} (ha:All2 (cM (Bo g M) s.ps ms h) xs as) {K:SV T→VS T→Option R} {r:R} (hK:Bg esz b xs s K=some r) :
  HQ g M Δ K r s ms e (((NOp.appendNil esz b).ob as h).map fun ob=>((NOp.appendNil esz b).mk as h.n,h.push ob)):=by
 unfold Bg at hK
 split at hK
 ·obtain ⟨a,rfl,p⟩:=iw ha
  obtain ⟨t,l,els,s1,k1,k2,S1,o1⟩:=tj S p.1 hK
  cases he:Nat.beq (T.cells t) esz with
  | false=>rw [he] at k1; cases k1
  | true=>
   obtain rfl:=Nat.eq_of_beq_eq_true he
   rw [he,cond_true] at k1
   obtain ⟨l',hl,k3⟩:=obI k1
   obtain ⟨hroom,hl'⟩:=ni hl
   obtain rfl:l=l':=by simpa using hl'.symm
   have hroom:l.length * b≤aA:=by simpa using hroom
   have hln:=kK k2
   have e1:(T.w t).rep.z=T.cells t:=aS T t
   have hob:(NOp.appendNil (T.cells t) b).ob [a] h=some (.row els.flatten 0 true):=by simp only [NOp.ob,k2,if_pos hroom]
   have S2:VSim g M (own (oSl (T.w t)) [(NOp.appendNil (T.cells t) b).mk [a] h.n] l::Δ) s1 ms e (h.push (.row els.flatten 0 true)):=by
    refine (S1.pushO _).with ?_
    by_cases hz:l.length=0
    ·have:l=[]:=List.eq_nil_of_length_eq_zero hz
     subst this
     have hm:(NOp.appendNil (T.cells t) b).mk [a] h.n=.nilSlice:=by simp only [NOp.mk]; exact if_pos hln
     rw [hm]
     exact ((S1.pushO _).st.drop).addE (c:=own (oSl (T.w t)) [_] _) ⟨_,rfl,.inl ⟨rfl,rfl,rfl⟩⟩
    have hm:(NOp.appendNil (T.cells t) b).mk [a] h.n=.slice h.n 0 0 l.length (T.cells t):=by simp only [NOp.mk]; rw [hln,if_neg hz]
    rw [hm]
    have S3:=S1.st.pushRow els.flatten
    have S4:St g M (eT h.n els.flatten 0::rF (T.w t) els.flatten l::(Δ++chs (Bo g M) ms ms s1.ps)) (h.push (.row els.flatten 0 true)):=by
     refine S3.imp (.cons (fun _ k=>k) (.cons (fun fp k=>?_) (All2.refl' (fun _ _ k=>k) _)))
     obtain ⟨fps,u1,u2,u3⟩:=k
     exact ⟨els,fps,rfl,u1,u2,u3⟩
    have S5:=St.litO S4 (n:=l.length) rfl
    rw [e1] at S5
    exact S5
   have S6:=VSim.new (p:=.sl t l) S2
   have hfl:((NOp.appendNil (T.cells t) b).mk [a] h.n).flat=true:=by
    simp only [NOp.mk]
    split<;>rfl
   refine ⟨_,_,[(NOp.appendNil (T.cells t) b).mk [a] h.n],_,_,_,k3,?_,Fz.refl _,S6,⟨?_,hfl⟩,o1.trans (Ro.app _ _)⟩
   ·rw [hob]; rfl
   show nth (ms++[_]) s1.ps.length=_
   rw [← S1.len]; exact bp ms [] _
 cases hK
theorem gi {s:VS T} {k:Nat} (h:qa (bG s) k=true):∃ p,nth s.ps k=some p∧dm p=false:=by
 have key:∀ (ps:List (Part T)) (k:Nat),qa (ps.map fun p=>!dm p) k=true→∃ p,nth ps k=some p∧dm p=false:=by
  intro ps
  induction ps with
  | nil=>intro k h; cases h
  | cons p ps ih=>
   intro k h
   cases k with
   | zero=>
    have h:(!dm p)=true:=h
    exact ⟨p,rfl,by simpa using h⟩
   | succ k=>exact ih k h
 exact key s.ps k h
theorem lm {Δ:List Ch} {s:VS T} {ms:List AV} {e:Env} {h:Heap} (S:VSim g M Δ s ms e h) {w:W T} {a:AV} (hr:bZ (Bo g M) s.ps ms h w a) {k:Nat} (hk:AB w=some k):∃ b,nth ms k=some b∧ck a=ck b:=by
 cases w<;>simp only [AB,Option.some.injEq,reduceCtorEq] at hk
 ·subst hk; exact ⟨a,hr,rfl⟩
 ·subst hk
  obtain ⟨o,v,h1,rfl⟩:=hr
  exact ⟨_,h1,rfl⟩
 subst hk
 obtain ⟨b,l,h1,h2,h3,rfl⟩:=hr
 refine ⟨b,h1,?_⟩
 have:=(qH S h2 h1 h3).1
 cases b<;>first | rfl | cases this
theorem B3 {B:Hp} {ms xs:List AV} {h:Heap} {k n j:Nat} {p0:AV} (ha:nth ms k=some (.iface n p0)) (hj:nth (ms++xs) j=some p0) (hf:p0.flat=true):∀ (w:W T) (a:AV),bF B ms h w a→bF B (ms++xs) h (W.icr k n j w) a
 | .r i,a,r=>by
  simp only [W.icr]
  cases hb:Nat.beq i k with
  | false=>exact aH (show nth ms i=some a from r)
  | true=>
   obtain rfl:=Nat.eq_of_beq_eq_true hb
   have r:nth ms i=some a:=r
   rw [ha] at r
   cases r
   exact ⟨p0,hj,hf,rfl⟩
 | .bad,_,r=>r
 | .c v,_,r=>r
 | .d z t x,_,r=>aE (ms:=ms) (HZ.refl _) (.d z t x) r
 | .b p i,_,r=>r
 | .ic m i,_,r=>aE (T:=T) (B:=B) (ms:=ms) (HZ.refl _) (.ic m i) r
 | .ptr i off,_,r=>aE (T:=T) (B:=B) (ms:=ms) (HZ.refl _) (.ptr i off) r
 | .el _ _ _ _ _,_,r=>r.elim
 | .ed z t x off,_,r=>aE (ms:=ms) (HZ.refl _) (.ed z t x off) r
theorem vL {R:Type} {Δ:List Ch} {s:VS T} {ms:List AV} {e:Env} {h:Heap} (S:VSim g M Δ s ms e h) {k:Nat} {a:AV} (ha:nth ms k=some a) {K:Nat→Nat→VS T→Option R} {r:R} (hK:Bd k s K=some r) :
  ∃ n p0 s2,a=.iface n p0∧p0.flat=true∧K n s.ps.length s2=some r∧VSim g M Δ s2 (ms++[p0]) e h∧Ro s s2∧(∀ j p,j≠k→nth s.ps j=some p→dm p=false→∃ p',nth s2.ps j=some p'∧dm p'=false)∧∀ {x:SV T} {b:AV},cM (Bo g M) s.ps ms h x b→cM (Bo g M) s2.ps (ms++[p0]) h x b:=by
 unfold Bd at hK
 split at hK
 ·rename_i n t q hp
  obtain ⟨x,rfl,hK⟩:=obI hK
  have S1:=S.st.pull ha hp
  obtain ⟨p0,rfl,S2⟩:=St.ifcOpen (r:=T.w t) rfl S1
  have fl:p0.flat=true:=by
   obtain ⟨fp,s0,e0,⟨_,e1,_⟩ | ⟨o,v,row,b,f,rfl,_⟩⟩:=S2.mem (.head _)
   ·cases e1
   cases e0; rfl
  have lst:nth (ms++[p0]) s.ps.length=some p0:=by rw [← S.len]; exact bp ms [] _
  have hC:=fun w a r=>B3 (T:=T) (B:=Bo g M) (ms:=ms) (xs:=[p0]) (h:=h) (n:=n) ha lst fl w a r
  have hl:ms.length=(s.ps.set k .dead).length:=by rw [List.length_set]; exact S.len
  refine ⟨n,p0,_,rfl,fl,hK,⟨?_,?_,?_⟩,⟨fun j x h=>nq h,fun j p h=>?_⟩,fun j p hj h1 h2=>?_,fun {x1 b} hr=>?_⟩
  ·simp only [VS.sub,List.length_map,List.length_append,List.length_set,S.len,List.length_cons,List.length_nil]
  ·have S3:St g M ((own (T.w (.pt t)) [p0] (some x)::Δ)++chs (Bo g M) ms ms (s.ps.set k .dead)) h:=S2
   have e1:chs (Bo g M) (ms++[p0]) (ms++[p0]) ((s.ps.set k .dead++[Part.po t (some x)]).map (Part.map (W.icr k n s.ps.length)))=chs (Bo g M) (ms++[p0]) ms ((s.ps.set k .dead).map (Part.map (W.icr k n s.ps.length)))++[own (T.w (.pt t)) [p0] (some x)]:=by
    rw [List.map_append,dF _ _ (by rw [List.length_map]; exact hl)]
    rfl
   show St g M (Δ++chs (Bo g M) (ms++[p0]) (ms++[p0]) ((s.ps.set k .dead++[Part.po t (some x)]).map (Part.map (W.icr k n s.ps.length)))) h
   rw [e1,← List.append_assoc]
   have S4:St g M ((own (T.w (.pt t)) [p0] (some x)::Δ)++chs (Bo g M) (ms++[p0]) ms ((s.ps.set k .dead).map (Part.map (W.icr k n s.ps.length)))) h:=by
    refine St.imp S3 ?_
    have:=rZ (B:=Bo g M) (ms:=ms) (ms':=ms++[p0]) (h:=h) (f:=W.icr k n s.ps.length) (fun w a r=>aE (HZ.refl _) w r) hC ms (s.ps.set k .dead)
    clear S S1 S2 S3 e1
    generalize own (T.w (.pt t)) [p0] (some x)::Δ=Γ
    induction Γ with
    | nil=>exact this
    | cons c Γ ih=>exact .cons (fun _ k=>k) ih
   exact S4.perm (List.perm_append_comm (l₁:=[own (T.w (.pt t)) [p0] (some x)]) (l₂:=Δ++_))
  ·refine S.env_to (fun w a r=>aE (HZ.refl _) w r) fun w a r=>df r hC fun j u i y off a ⟨b,l,r1,r2,r3⟩=>⟨b,l,aH r1,?_,r3⟩
   have hjk:j≠k:=fun e=>by
    obtain ⟨p,r2,hs⟩:=r2
    rw [e,bW hp (fun _ e=>by cases e)] at r2; cases r2
    rcases hs with hs | ⟨_,hs⟩<;>cases hs
   have r4:∃ p,lkP (s.ps.set k .dead++[Part.po t (some x)]) j=some p∧slq u l p:=by
    obtain ⟨p,r2,hs⟩:=r2
    exact ⟨p,i9 (by rw [cZ (cE _ _ _ _ hjk)]; exact r2),hs⟩
   exact eM r4
  ·show nth ((s.ps.set k .dead++[Part.po t (some x)]).map (Part.map (W.icr k n s.ps.length))) j=_
   rw [d6,aH (kj hp (fun _ e=>by cases e) h)]; rfl
  ·refine ⟨p.map (W.icr k n s.ps.length),?_,by cases p<;>first | exact h2 | rfl⟩
   show nth ((s.ps.set k .dead++[Part.po t (some x)]).map (Part.map (W.icr k n s.ps.length))) j=_
   rw [d6,aH (by rw [cE _ _ _ _ hj]; exact h1)]; rfl
  refine ji (fun w a r=>aE (HZ.refl _) w r) (fun w a r=>df (f:=id) r (fun w a r=>aE (HZ.refl _) w r) fun j u i y off a ⟨b,l,r1,r2,r3⟩=>⟨b,l,aH r1,?_,r3⟩) hr
  have hjk:j≠k:=fun e=>by
   obtain ⟨p,r2,hs⟩:=r2
   rw [e,bW hp (fun _ e=>by cases e)] at r2; cases r2
   rcases hs with hs | ⟨_,hs⟩<;>cases hs
  have r4:∃ p,lkP (s.ps.set k .dead++[Part.po t (some x)]) j=some p∧slq u l p:=by
   obtain ⟨p,r2,hs⟩:=r2
   exact ⟨p,i9 (by rw [cZ (cE _ _ _ _ hjk)]; exact r2),hs⟩
  exact eM r4
 cases hK
theorem zb {R:Type} {H:List (Nat×VT)} {C:cC T} (hC:cI F C) {d:Option Nat} {k:AK} {Δ:List Ch} {s:VS T} {ms:List AV} {e:Env} {h:Heap} (S:VSim g M Δ s ms e h) {xs:List (SV T)} {as:List AV} (ha:All2 (cM (Bo g M) s.ps ms h) xs as) {K:SV T→VS T→Option R} {r:R} (hK:akV H C d k xs s K=some r):KQ F g M Δ K r s ms e h (xX k xs s) fun c=>k.ev c as h:=by
 cases k with
 | p q=>
  obtain ⟨x,s',xs,v,k1,k2,k3,k4,k5⟩:=xd S ha hK
  exact ⟨x,s',xs,v,0,h,h,k1,by simp only [AK.ev,k2],Fz.refl _,k3,k4,k5,HZ.refl _,fun _ _ _ _ _ _ _ _ _ _ _ _ _ _=>rfl⟩
 | r q=>
  obtain ⟨x,s',xs,v,k1,k2,k3,k4,k5⟩:=wm S ha hK
  exact ⟨x,s',xs,v,0,h,h,k1,by simp only [AK.ev,k2],Fz.refl _,k3,k4,k5,HZ.refl _,fun _ _ _ _ _ _ _ _ _ _ _ _ _ _=>rfl⟩
 | n q=>
  have hH:HQ g M Δ K r s ms e ((q.ob as h).map fun ob=>(q.mk as h.n,h.push ob)):=by
   cases q with
   | appendNil esz b=>exact xp S ha hK
   | _=>exact wt (H:=H) (d:=d) S ha hK
  obtain ⟨x,s',xs,v,h1,h',k1,k2,k3,k4,k5,k6⟩:=hH
  cases ho:q.ob as h with
  | none=>rw [ho] at k2; cases k2
  | some ob=>
   rw [ho] at k2
   cases k2
   refine ⟨x,s',xs,_,0,_,h',k1,by simp only [AK.ev,ho],k3,k4,k5,k6,(HZ.of (HLe.push h _)).trans k3.hz,fun _ _ j p p' a o hp hd _ _ _ ha ho=>?_⟩
   obtain ⟨y,hy,_⟩:=ii S hp hd ha ho
   have:=get_lt hy
   rw [Heap.get_push,if_neg (by omega)]
 | e q=>
  obtain ⟨x,s',ys,v,h1,h',k1,k2,k3,k4,k5,k6⟩:=uv S ha hK
  refine ⟨x,s',ys,v,0,h1,h',k1,k2,k3,k4,k5,k6,(Ai k2).trans k3.hz,fun t ht j p p' a o hp hd _ _ hj hja ho=>?_⟩
  obtain ⟨y,hy,_⟩:=ii S hp hd hja ho
  simp only [xX] at ht
  split at ht
  ·rename_i w xs
   cases ha with
   | cons u1 u2=>
    refine sG k2 (get_lt hy) ?_
    split at ht
    ·rename_i i hi
     obtain ⟨b,w1,w2⟩:=lm S u1.1 hi
     cases hb:qa (bG s) i with
     | false=>rw [hb] at ht; cases ht
     | true=>
      rw [hb] at ht
      cases ht
      obtain ⟨q0,z1,z2⟩:=gi hb
      rw [w2]
      intro e1
      exact r6 S (fun e=>hj (by rw [e]; exact List.mem_cons_self ..)) hp hd hja ho z1 z2 w1 e1 rfl
    split at ht
    ·have u:_=AV.nilSlice:=u1.1
     rw [u]; intro e; cases e
    cases ht
  cases ht
 | call f=>
  obtain ⟨x,s',xs,v,n,h1,h',k1,k2,k3,k4,k5,k6,k8,k7⟩:=hC _ _ _ _ _ _ hK _ _ _ _ _ _ _ S ha
  exact ⟨x,s',xs,v,n,h1,h',k1,k2,k3,k4,k5,k6,k8,k7⟩
 | callV=>
  simp only [akV] at hK
  split at hK
  ·rename_i f xs
   cases ha with
   | cons p q=>
    have p:_=AV.func f []:=p.1
    subst p
    obtain ⟨x,s',xs,v,n,h1,h',k1,k2,k3,k4,k5,k6,k8,k7⟩:=hC _ _ _ _ _ _ hK _ _ _ _ _ _ _ S q
    refine ⟨x,s',xs,v,n,h1,h',k1,?_,k3,k4,k5,k6,k8,k7⟩
    simp only [AK.ev,target,List.append_nil]
    exact k2
  cases hK
 | callM tb=>
  simp only [akV] at hK
  split at hK
  rotate_left
  ·rename_i z n t q xs
   split at hK
   ·rename_i f hf
    obtain ⟨x0,rfl,hK⟩:=obI hK
    cases ha with
    | cons p q=>
     obtain ⟨c0,e0,hc⟩:=(show ∃ c,[_]=[c]∧IfR n (T.r t) (zG (Bo g M) h z) c (some x0) from p.1)
     cases e0
     rcases hc with ⟨_,e0⟩ | ⟨p0,rfl,hp0⟩
     ·cases e0
     have fl:p0.flat=true:=by
      rcases hp0 with ⟨rfl,_⟩ | ⟨o,v,row,b,rfl,_⟩<;>rfl
     obtain ⟨x,s',xs,v,n,h1,h',k1,k2,k3,k4,k5,k6,k8,k7⟩:=hC _ _ _ _ _ _ hK _ _ _ _ _ _ _ S (.cons (show cM (Bo g M) s.ps ms h (.v (.w (.d z (.pt t) (some x0)))) p0 from ⟨mE (r:=T.r t) hp0,fl⟩) q)
     refine ⟨x,s',xs,v,n,h1,h',k1,?_,k3,k4,k5,k6,k8,k7⟩
     simp only [AK.ev,target,hf]
     exact k2
   cases hK
  ·rename_i k xs
   cases ha with
   | cons p q=>
    have p1:nth ms k=some _:=p.1
    obtain ⟨n,p0,s2,rfl,fl,hK,S2,ro2,al2,hrel⟩:=vL S p1 hK
    split at hK
    ·rename_i f hf
     obtain ⟨x,s',xs,v,m,h1,h',k1,k2,k3,k4,k5,k6,k8,k7⟩:=hC _ _ _ _ _ _ hK _ _ _ _ _ _ _ S2 (.cons (show cM (Bo g M) s2.ps (ms++[p0]) h (.v (.w (.r s.ps.length))) p0 from ⟨by show nth (ms++[p0]) s.ps.length=_; rw [← S.len]; exact bp ms [] _,fl⟩) (q.imp fun _ _ r=>hrel r))
     refine ⟨x,s',[p0]++xs,v,m,h1,h',k1,?_,k3,by rw [← List.append_assoc]; exact k4,by rw [← List.append_assoc]; exact k5,ro2.trans k6,k8,fun t ht j p p' a o u1 u2 u3 u4 u5 u6 u7=>?_⟩
     ·simp only [AK.ev,target,hf]
      exact k2
     by_cases hj:j=k
     ·exfalso
      subst hj
      rw [p1] at u6
      cases u6
      cases u7
     obtain ⟨p'',w1,w2⟩:=al2 j p hj u1 u2
     exact k7 t ht j p'' p' a o w1 w2 u3 u4 u5 (aH u6) u7
    cases hK
  ·cases hK
  rename_i n k xs
  split at hK
  ·rename_i f hf
   cases ha with
   | cons p q=>
    obtain ⟨⟨a,h1,fl,rfl⟩,_⟩:=p
    obtain ⟨x,s',xs,v,n,h1,h',k1,k2,k3,k4,k5,k6,k8,k7⟩:=hC _ _ _ _ _ _ hK _ _ _ _ _ _ _ S (.cons (show cM (Bo g M) s.ps ms h (.v (.w (.r k))) a from ⟨h1,fl⟩) q)
    refine ⟨x,s',xs,v,n,h1,h',k1,?_,k3,k4,k5,k6,k8,k7⟩
    simp only [AK.ev,target,hf]
    exact k2
  cases hK
theorem i0 {B:Hp} {ps:List (Part T)} {ms:List AV} {h:Heap}:∀ {x:V1 T} {a:AV},nR B ms h x a→fR B ps ms h x a
 | .w w,a,r=>⟨dy r.1,r.2⟩
 | .agg ws,a,⟨cs,e,r⟩=>⟨cs,e,r.imp fun w a k=>⟨dy k.1,k.2⟩⟩
theorem cm {Δ:List Ch} {s:VS T} {ms:List AV} {e:Env} {h:Heap} (S:VSim g M Δ s ms e h) {o:Opd} {x:SV T} (hx:lx s.e o=some x):∃ a,o.ev e=some a∧cM (Bo g M) s.ps ms h x a:=by
 cases o with
 | tmp t=>
  simp only [lx] at hx
  split at hx
  ·rename_i y hy
   cases hx
   obtain ⟨v,h1,h2⟩:=S.env t _ hy
   exact ⟨v,h1,i0 h2⟩
  exact S.env t _ hx
 | const v=>
  have key:v.flat=true→∀ y:W T,bF (Bo g M) ms h y v→∃ a,(Opd.const v).ev e=some a∧cM (Bo g M) s.ps ms h (W.sv y) a:=fun hf y hy=>⟨v,rfl,dy hy,hf⟩
  cases v with
  | agg l=>
   simp only [lx] at hx
   split at hx
   ·rename_i ws hz
    cases hx
    exact ⟨_,rfl,_,rfl,wB hz⟩
   cases hx
  | tuple l=>simp only [lx] at hx; cases hx
  | bool b=>simp only [lx] at hx; cases hx; exact key rfl _ rfl
  | int k n=>simp only [lx] at hx; cases hx; exact key rfl _ rfl
  | str b=>simp only [lx] at hx; cases hx; exact key rfl _ rfl
  | _=>simp only [lx] at hx; cases hx; exact key rfl _ rfl
theorem mZ {Δ:List Ch} {s:VS T} {ms:List AV} {e:Env} {h:Heap} (S:VSim g M Δ s ms e h):∀ {os:List Opd} {xs:List (SV T)},sY s.e os=some xs→∃ as,evs e os=some as∧All2 (cM (Bo g M) s.ps ms h) xs as
 | [],xs,hx=>by cases hx; exact ⟨[],rfl,.nil⟩
 | o::os,xs,hx=>by
  simp only [sY] at hx
  split at hx
  ·cases hx
  rename_i v hv
  split at hx
  ·cases hx
  rename_i vs hvs
  cases hx
  obtain ⟨a,h1,h2⟩:=cm S hv
  obtain ⟨as,k1,k2⟩:=mZ S hvs
  exact ⟨a::as,by simp only [evs,h1,k1],.cons h2 k2⟩
theorem VSim.env_set {Δ:List Ch} {s:VS T} {ms:List AV} {e:Env} {h:Heap} (S:VSim g M Δ s ms e h) (d:Nat) {x:SV T} {v:AV} (hr:cM (Bo g M) s.ps ms h x v):VSim g M Δ ⟨(d,x)::s.e,s.ps⟩ ms (e.set d v) h:=by
 refine ⟨S.len,S.st,fun k sv hk=>?_⟩
 have hk:(bif Nat.beq d k then some x else lk s.e k)=some sv:=hk
 rw [Go.Am.T.get_set]
 cases hd:Nat.beq d k with
 | true=>
  obtain rfl:=Nat.eq_of_beq_eq_true hd
  rw [hd] at hk
  cases hk
  exact ⟨v,by rw [if_pos rfl],hr⟩
 | false=>
  rw [hd] at hk
  obtain ⟨a,h1,h2⟩:=S.env k sv hk
  exact ⟨a,by rw [if_neg (fun e=>Nat.ne_of_beq_eq_false hd e.symm)]; exact h1,h2⟩
theorem VSim.env_know {Δ:List Ch} {s:VS T} {ms:List AV} {e:Env} {h:Heap} (S:VSim g M Δ s ms e h) (d:Nat) {x:SV T} {v:AV} (hv:e.get d=some v) (hr:cM (Bo g M) s.ps ms h x v):VSim g M Δ ⟨(d,x)::s.e,s.ps⟩ ms e h:=by
 refine ⟨S.len,S.st,fun k sv hk=>?_⟩
 have hk:(bif Nat.beq d k then some x else lk s.e k)=some sv:=hk
 cases hd:Nat.beq d k with
 | true=>
  obtain rfl:=Nat.eq_of_beq_eq_true hd
  rw [hd] at hk
  cases hk
  exact ⟨v,hv,hr⟩
 | false=>
  rw [hd] at hk
  exact S.env k sv hk
theorem t7 {s:VS T} {d:Nat} {x:SV T} (hd:iy (lk s.e d)=false):Ro s ⟨(d,x)::s.e,s.ps⟩:=⟨fun k y hy=>by
 show (bif Nat.beq d k then some x else lk s.e k)=_
 cases hk:Nat.beq d k with
 | true=>
  obtain rfl:=Nat.eq_of_beq_eq_true hk
  rw [hy] at hd; cases hd
 | false=>exact hy,fun _ _ h=>h⟩
structure Pt (T:TE) where
 s:VS T
 ms:List AV
 e:Env
 g:Heap
 h:Heap
def Aa (en:Ent) (a b:Pt T):Prop:=∀ k,fU k en=true→∃ y,nth a.ms k=some y∧∀ o,ck y=some o→b.g.get o=a.g.get o
def Ah (B:Hp) (o:AOper) (en:Ent) (a b:Pt T):Prop:=match en.rd with
 | .skip=>ab a.e o.guard=some false
 | .bad=>True
 | .fix z=>∃ q x as v ob cs ver,o.k=.r q∧ab a.e o.guard=some true∧evs a.e o.xs=some (x::as)∧q.ev (x::as) a.g=some v∧ck x=some ob∧zG B a.h z ob cs ver
 | .part k=>∃ q x as v y,o.k=.r q∧ab a.e o.guard=some true∧evs a.e o.xs=some (x::as)∧q.ev (x::as) a.g=some v∧nth a.ms k=some y∧ck x=ck y
 | .mk k=>∃ q y c ver,o.k=.n q∧ab a.e o.guard=some true∧nth b.ms k=some y∧ck y=some a.g.n∧b.g.get a.g.n=some (.row c ver true)
structure PtS (B:Hp) (cf:aR) (o:AOper) (en:Ent) (a b:Pt T):Prop where
 st:aF cf o a.e a.g=some (b.e,b.g)
 kp:Aa en a b
 rd:Ah B o en a b
 ms:∃ xs,b.ms=a.ms++xs
 hz:HZ a.h b.h
 fa:Fz a.g a.h
 fb:Fz b.g b.h
 ba:Hp.le B (dH a.h)
 bb:Hp.le B (dH b.h)
def OQ {R:Type} (F:Nat→Option AFn) (g:Heap) (M:Nat→Prop) (Δ:List Ch) (K:VS T→Option R) (r:R) (s:VS T) (ms:List AV) (f:aR→Option (Env×Heap)):Prop:=
 ∃ s' xs n e' h1 h',K s'=some r∧f (aI F n)=some (e',h1)∧Fz h1 h'∧VSim g M Δ s' (ms++xs) e' h'∧Ro s s'
def EQ {R:Type} (F:Nat→Option AFn) (g:Heap) (M:Nat→Prop) (Δ:List Ch) (K:Ent→VS T→Option R) (r:R) (s:VS T) (ms:List AV) (e:Env) (h g0:Heap) (o:AOper):Prop:=
 ∃ en s' xs n e' h1 h',K en s'=some r∧Fz h1 h'∧VSim g M Δ s' (ms++xs) e' h'∧Ro s s'∧PtS (Bo g M) (aI F n) o en ⟨s,ms,e,g0,h⟩ ⟨s',ms++xs,e',h1,h'⟩
theorem nI {R:Type} {Δ:List Ch} {s:VS T} {ms:List AV} {e:Env} {h:Heap} (S:VSim g M Δ s ms e h) {d:Option Nat} {x:SV T} {v:AV} (hr:cM (Bo g M) s.ps ms h x v) {K:VS T→Option R} {r:R} (hK:j5 s d x K=some r):∃ s',K s'=some r∧VSim g M Δ s' ms (putE e d v) h∧Ro s s'∧s'.ps=s.ps:=by
 cases d with
 | none=>exact ⟨s,hK,S,Ro.refl s,rfl⟩
 | some d=>
  simp only [j5] at hK
  cases hd:iy (lk s.e d) with
  | true=>rw [hd] at hK; cases hK
  | false=>
   rw [hd] at hK
   exact ⟨_,hK,S.env_set d hr,t7 hd,rfl⟩
theorem pL {k:Nat} {en:Ent} (h:fU k en=true):en.ok=true∧qa en.al k=true∧qa en.al2 k=true∧k∉en.tch:=by
 unfold fU at h
 simp only [Bool.and_eq_true,Bool.not_eq_true',List.any_eq_false] at h
 exact ⟨h.1.1.1,h.1.1.2,h.1.2,fun hm=>h.2 k hm (Nat.beq_refl k)⟩
theorem Fz.same {g h:Heap} (k:Fz g h) {o:Nat} {x:AObj} (hx:h.get o=some x) (hn:∀ c v,x≠.row c v false):g.get o=some x:=by
 rcases k.get o with e | ⟨cs,v,e1,e2⟩
 ·rw [e]; exact hx
 rw [hx] at e2; cases e2; exact absurd rfl (hn _ _)
theorem sn {q:NOp} {as:List AV} {h:Heap} {ob:AObj} (ho:q.ob as h=some ob) {x:SV T} {o:AOper} {xs:List (SV T)} {k:Nat} (hq:o.k=.n q) (hk:rdK o xs x=.mk k):ck (q.mk as h.n)=some h.n∧((x=.v (.w (.r k)))∨(x=.v (.w (.ptr k 0))))∧(q.mk as h.n).isTup=false:=by
 unfold rdK at hk
 rw [hq] at hk
 have hx:rdM x=.mk k→(x=.v (.w (.r k)))∨(x=.v (.w (.ptr k 0))):=by
  intro h1
  unfold rdM at h1
  split at h1
  ·cases h1; exact .inl rfl
  ·cases h1; exact .inr rfl
  cases h1
 cases q<;>simp only at hk<;>first | (cases hk; done) | refine ⟨?_,hx hk,?_⟩
 case strToBytes.refine_1=>
  rcases as with _ | ⟨a,_ | ⟨b,as⟩⟩<;>first | (simp [NOp.ob] at ho; done) | (cases a<;>first | rfl | (simp [NOp.ob] at ho))
 case strToBytes.refine_2=>
  rcases as with _ | ⟨a,_ | ⟨b,as⟩⟩<;>first | (simp [NOp.ob] at ho; done) | (cases a<;>first | rfl | (simp [NOp.ob] at ho))
 case mkSlice.refine_1=>
  rcases as with _ | ⟨a,_ | ⟨b,_ | ⟨c,as⟩⟩⟩<;>first | (simp [NOp.ob] at ho; done) | (cases a<;>first | rfl | (simp [NOp.ob] at ho))
 case mkSlice.refine_2=>
  rcases as with _ | ⟨a,_ | ⟨b,_ | ⟨c,as⟩⟩⟩<;>first | (simp [NOp.ob] at ho; done) | (cases a<;>first | rfl | (simp [NOp.ob] at ho))
 all_goals rfl
theorem oT {Δ:List Ch} {s s':VS T} {ms ys:List AV} {e e':Env} {h h1 h' g0 g1:Heap} (S:VSim g M Δ s ms e h) {en:Ent} {tch:Option (List Nat)} (hen:en.ok=tch.isSome∧en.tch=tch.getD []∧en.al=bG s∧en.al2=bG s') (hk:∀ t,tch=some t→zm ms s s' t h h1) (f0:Fz g0 h) (f1:Fz g1 h1):Aa en ⟨s,ms,e,g0,h⟩ ⟨s',ms++ys,e',g1,h'⟩:=by
 intro k hke
 obtain ⟨a1,a2,a3,a4⟩:=pL hke
 obtain ⟨b1,b2,b3,b4⟩:=hen
 rw [b3] at a2
 rw [b4] at a3
 obtain ⟨p,p1,p2⟩:=gi a2
 obtain ⟨p',q1,q2⟩:=gi a3
 obtain ⟨y,hy⟩:=bv S.len p1
 refine ⟨y,hy,fun o ho=>?_⟩
 obtain ⟨x,hx,hn⟩:=ii S p1 p2 hy ho
 rw [b1,Option.isSome_iff_exists] at a1
 obtain ⟨t,ht⟩:=a1
 have hs:=hk t ht k p p' y o p1 p2 q1 q2 (by rw [b2,ht] at a4; exact a4) hy ho
 show g1.get o=g0.get o
 rw [f0.same hx hn,f1.same (by rw [hs]; exact hx) hn]
theorem qB {R:Type} {H:List (Nat×VT)} {C:cC T} (hC:cI F C) {o:AOper} {Δ:List Ch} {s:VS T} {ms:List AV} {e:Env} {h g0:Heap} (S:VSim g M Δ s ms e h) (hz:Fz g0 h) {K:Ent→VS T→Option R} {r:R} (hK:rM H C o s K=some r) (hw:ab e o.guard=some true):EQ F g M Δ K r s ms e h g0 o:=by
 unfold rM at hK
 split at hK
 ·rename_i xs hx
  obtain ⟨as,h1,h2⟩:=mZ S hx
  obtain ⟨x,s',ys,v,n,h3,h4,k1,k2,k3,k4,k5,k6,k8,k7⟩:=zb hC S h2 hK
  obtain ⟨s2,q1,q2,q3,q4⟩:=nI k4 k5 k1
  obtain ⟨g1,w1,w2⟩:=zM (cJ n) hz k2
  have al2:bG s2=bG s':=by unfold bG; rw [q4]
  refine ⟨_,s2,ys,n,_,g1,h4,q1,w2.trans k3,q2,k6.trans q3,⟨by simp only [aF,hw,h1,w1],?_,?_,⟨ys,rfl⟩,?_,hz,w2.trans k3,Bo.le S.st,Bo.le q2.st⟩⟩
  ·exact oT (tch:=xX o.k xs s) S ⟨rfl,rfl,rfl,rfl⟩ (fun t ht k p p' a o1 u1 u2 u3 u4 u5 u6 u7=>k7 t ht k p p' a o1 u1 u2 (by rw [← q4]; exact u3) u4 u5 u6 u7) hz w2
  ·show Ah _ _ (Bz o xs s x s2) _ _
   unfold Ah
   cases hr:(Bz o xs s x s2).rd with
   | skip=>
    exfalso
    have hr:rdK o xs x=.skip:=hr
    unfold rdK rdM at hr
    repeat' (split at hr)
    all_goals cases hr
   | bad=>trivial
   | fix z=>
    have hr:rdK o xs x=.fix z:=hr
    unfold rdK rdM at hr
    split at hr
    ·rename_i q hq
     rw [hq] at k2
     have k2:(match q.ev as h with
      | some v=>some (v,h)
      | none=>none)=some (v,h3):=k2
     split at hr
     rotate_left
     ·rename_i z' t' q' xs' hne
      cases hr
      cases h2 with
      | @cons _ a _ as p1 p2=>
       cases hv:q.ev (a::as) h with
       | none=>rw [hv] at k2; cases k2
       | some v'=>
        have p1:(xP (T.r t')).R (zG (Bo g M) h _) [a] q':=p1.1
        rcases cF p1 with ⟨rfl,_⟩ | ⟨ob,ver,row,b,rfl,_,u1,_⟩
        ·exfalso
         cases q<;>(rcases as with _ | ⟨_,_ | ⟨_,_⟩⟩<;>simp [ROp.ev,Heap.rows] at hv)
        exact ⟨q,_,as,v',ob,row,ver,hq,hw,h1,by rw [← hv]; exact hz.rop q _,rfl,u1⟩
     ·split at hr<;>cases hr
     ·cases hr
     rename_i z' t' x' off xs'
     cases hr
     cases h2 with
     | @cons _ a _ as p1 p2=>
      obtain ⟨ob,ver,base,row,u1,u2,u3,e1⟩:=p1.1
      cases hv:q.ev (a::as) h with
      | none=>rw [hv] at k2; cases k2
      | some v'=>exact ⟨q,a,as,v',ob,row,ver,hq,hw,h1,by rw [← hv]; exact hz.rop q _,by rw [e1]; rfl,u1⟩
    ·split at hr<;>first | (cases hr; done) | (split at hr<;>cases hr)
    cases hr
   | part k=>
    have hr:rdK o xs x=.part k:=hr
    unfold rdK rdM at hr
    split at hr
    ·rename_i q hq
     rw [hq] at k2
     have k2:(match q.ev as h with
      | some v=>some (v,h)
      | none=>none)=some (v,h3):=k2
     split at hr
     ·cases hr
     ·cases hr
     ·split at hr
      ·rename_i w xs' hne hne2 k' hk'
       cases hr
       cases h2 with
       | @cons _ a _ as p1 p2=>
        obtain ⟨y,u1,u2⟩:=lm S p1.1 hk'
        cases hv:q.ev (a::as) h with
        | none=>rw [hv] at k2; cases k2
        | some v'=>exact ⟨q,a,as,v',y,hq,hw,h1,by rw [← hv]; exact hz.rop q _,u1,u2⟩
      cases hr
     cases hr
    ·split at hr<;>first | (cases hr; done) | (split at hr<;>cases hr)
    cases hr
   | mk k=>
    have hr:rdK o xs x=.mk k:=hr
    have hq:∃ q,o.k=.n q:=by
     unfold rdK at hr
     split at hr
     ·exfalso
      repeat' (split at hr)
      all_goals cases hr
     ·exact ⟨_,by assumption⟩
     cases hr
    obtain ⟨q,hq⟩:=hq
    rw [hq] at k2
    cases ho:q.ob as h with
    | none=>simp only [AK.ev,ho] at k2; cases k2
    | some ob=>
     simp only [AK.ev,ho,Option.some.injEq,Prod.mk.injEq] at k2
     obtain ⟨rfl,rfl⟩:=k2
     obtain ⟨r1,r2,_⟩:=sn ho hq hr
     have hm:∃ y,nth (ms++ys) k=some y∧ck y=some h.n:=by
      rcases r2 with rfl | rfl
      ·exact ⟨_,k5.1,r1⟩
      obtain ⟨o1,v1,u1,u2⟩:=k5.1
      refine ⟨_,u1,?_⟩
      rw [u2] at r1
      exact r1
     obtain ⟨y,y1,y2⟩:=hm
     have hob:∃ c ver,ob=.row c ver true:=by
      have nm:(∀ z,rdK o xs x=z→z=.mk k→q≠.mkMap∧q≠.rangeStr):=by
       intro z e1 e2
       subst e2
       constructor
       ·rintro rfl; unfold rdK at e1; rw [hq] at e1; cases e1
       rintro rfl; unfold rdK at e1; rw [hq] at e1; cases e1
      obtain ⟨n1,n2⟩:=nm _ hr rfl
      unfold NOp.ob at ho
      split at ho<;>first | (cases ho; exact ⟨_,_,rfl⟩) | (exact absurd rfl n1) | (exact absurd rfl n2) | (cases ho; done) | skip
      all_goals split at ho<;>first | (cases ho; exact ⟨_,_,rfl⟩) | (cases ho; done) | skip
      all_goals split at ho<;>first | (cases ho; exact ⟨_,_,rfl⟩) | (cases ho; done)
     obtain ⟨c,ver,rfl⟩:=hob
     refine ⟨q,y,c,ver,hq,hw,y1,?_,?_⟩
     ·rw [y2]; exact congrArg some hz.n.symm
     have:(h.push (.row c ver true)).get h.n=some (.row c ver true):=by rw [Heap.get_push,if_pos rfl]
     show g1.get g0.n=_
     rw [hz.n]
     exact w2.same this (fun c v e=>by cases e)
  exact k8
 cases hK
theorem qM {R:Type} {o:AOper} {Δ:List Ch} {s:VS T} {ms:List AV} {e:Env} {h g0:Heap} (S:VSim g M Δ s ms e h) (hz:Fz g0 h) {K:Ent→VS T→Option R} {r:R} (hK:(j5 s o.dst .un fun s'=>K (sB s s') s')=some r) (hw:ab e o.guard=some false):EQ F g M Δ K r s ms e h g0 o:=by
 obtain ⟨s2,q1,q2,q3,q4⟩:=nI (x:=.un) S (show cM (Bo g M) s.ps ms h .un AV.undef from rfl) hK
 refine ⟨_,s2,[],0,putE e o.dst .undef,g0,h,q1,hz,by rw [List.append_nil]; exact q2,q3,⟨by simp only [aF,hw],?_,hw,⟨[],rfl⟩,HZ.refl _,hz,hz,Bo.le S.st,Bo.le S.st⟩⟩
 exact oT (tch:=some []) S ⟨rfl,rfl,rfl,rfl⟩ (fun _ _ _ _ _ _ _ _ _ _ _ _ _ _=>rfl) hz hz
theorem EQ.know {R:Type} {Δ:List Ch} {K:Ent→VS T→Option R} {r:R} {s s1:VS T} {ms:List AV} {e:Env} {h g0:Heap} {o:AOper} (ro:Ro s s1) (hq:EQ F g M Δ K r s1 ms e h g0 o):EQ F g M Δ K r s ms e h g0 o:=by
 obtain ⟨en,s',xs,n,e',h1,h',k1,k2,k3,k4,k5⟩:=hq
 exact ⟨en,s',xs,n,e',h1,h',k1,k2,k3,ro.trans k4,⟨k5.st,k5.kp,k5.rd,k5.ms,k5.hz,k5.fa,k5.fb,k5.ba,k5.bb⟩⟩
theorem nD {R:Type} {H:List (Nat×VT)} {C:cC T} (hC:cI F C) {o:AOper} {Δ:List Ch} {s:VS T} {ms:List AV} {e:Env} {h g0:Heap} (S:VSim g M Δ s ms e h) (hz:Fz g0 h) {t:Nat} {w b:Bool} (hg:o.guard=some (t,w)) (ht:e.get t=some (.bool b)) {K:Ent→VS T→Option R} {r:R} (hK:(bif b==w then rM H C o s K else j5 s o.dst .un fun s'=>K (sB s s') s')=some r):EQ F g M Δ K r s ms e h g0 o:=by
 have hw:ab e o.guard=some (b==w):=by rw [hg]; simp only [ab,ht]
 cases hb:b==w with
 | true=>rw [hb] at hK hw; exact qB hC S hz hK hw
 | false=>rw [hb] at hK hw; exact qM S hz hK hw
theorem fZ {R:Type} {H:List (Nat×VT)} {C:cC T} (hC:cI F C) {o:AOper} {Δ:List Ch} {s:VS T} {ms:List AV} {e:Env} {h g0:Heap} (S:VSim g M Δ s ms e h) (hz:Fz g0 h) {t:Nat} {w b:Bool} (hg:o.guard=some (t,w)) (ht:e.get t=some (.bool b)) {K:Ent→VS T→Option R} {r:R} (hK:j5 s (some t) (W.sv (.c (.bool b))) (fun s=>bif b==w then rM H C o s K else j5 s o.dst .un fun s'=>K (sB s s') s')=some r):EQ F g M Δ K r s ms e h g0 o:=by
 simp only [j5] at hK
 cases hd:iy (lk s.e t) with
 | true=>rw [hd] at hK; cases hK
 | false=>
  rw [hd] at hK
  have S2:VSim g M Δ ⟨(t,W.sv (.c (.bool b)))::s.e,s.ps⟩ ms e h:=S.env_know t ht (show cM (Bo g M) s.ps ms h (.v (.w (.c (.bool b)))) (.bool b) from ⟨rfl,rfl⟩)
  exact (nD hC S2 hz hg ht hK).know (t7 hd)
theorem qE {R:Type} {H:List (Nat×VT)} {C:cC T} (hC:cI F C) {o:AOper} {Δ:List Ch} {s:VS T} {ms:List AV} {e:Env} {h g0:Heap} (S:VSim g M Δ s ms e h) (hz:Fz g0 h) {K:Ent→VS T→Option R} {r:R} (hK:AN H C o s K=some r):EQ F g M Δ K r s ms e h g0 o:=by
 unfold AN at hK
 split at hK
 ·rename_i hg
  exact qB hC S hz hK (by rw [hg]; rfl)
 rename_i t w hg
 split at hK
 ·rename_i hx
  obtain ⟨a,h1,h2⟩:=cm S hx
  have h2:a=.undef:=h2
  subst h2
  exact qM S hz hK (by rw [hg]; simp only [ab]; rw [show e.get t=some AV.undef from h1]; rfl)
 ·rename_i b hx
  obtain ⟨a,h1,h2⟩:=cm S hx
  have h2:a=.bool b:=h2.1
  subst h2
  exact nD hC S hz hg h1 hK
 ·rename_i p i hx
  obtain ⟨a,h1,h2⟩:=cm S hx
  have h2:a=.bool (@decide p i):=h2.1
  subst h2
  split at hK
  ·rename_i hp
   refine fZ (H:=H) (w:=w) (b:=true) hC S hz hg (by rw [show e.get t=_ from h1,decide_eq_true hp]) ?_
   cases w<;>exact hK
  rename_i hp
  refine fZ (H:=H) (w:=w) (b:=false) hC S hz hg (by rw [show e.get t=_ from h1,decide_eq_false hp]) ?_
  cases w<;>exact hK
 ·rename_i z b hx
  obtain ⟨a,h1,h2⟩:=cm S hx
  obtain rfl:=eH h2.1
  split at hK
  ·rename_i hp
   subst hp
   refine fZ (H:=H) (w:=w) (b:=true) hC S hz hg h1 ?_
   cases w<;>exact hK
  rename_i hp
  obtain rfl:b=false:=by cases b<;>first | rfl | exact absurd rfl hp
  refine fZ (H:=H) (w:=w) (b:=false) hC S hz hg h1 ?_
  cases w<;>exact hK
 cases hK
theorem yq {R:Type} {H:List (Nat×VT)} {C:cC T} (hC:cI F C) {o:AOper} {Δ:List Ch} {s:VS T} {ms:List AV} {e:Env} {h g0:Heap} (S:VSim g M Δ s ms e h) (hz:Fz g0 h) {K:VS T→Option R} {r:R} (hK:opV H C o s K=some r):OQ F g M Δ K r s ms fun c=>aF c o e g0:=by
 obtain ⟨en,s',xs,n,e',h1,h',k1,k2,k3,k4,k5⟩:=qE (K:=fun _ s=>K s) hC S hz hK
 exact ⟨s',xs,n,e',h1,h',k1,k5.st,k2,k3,k4⟩
theorem mu {R:Type} {H:List (Nat×VT)} {C:cC T} (hC:cI F C):∀ (os:List AOper) {Δ:List Ch} {s:VS T} {ms:List AV} {e:Env} {h g0:Heap} (S:VSim g M Δ s ms e h) (hz:Fz g0 h) {K:VS T→Option R} {r:R} (hK:zF H C os s K=some r),OQ F g M Δ K r s ms fun c=>ay c os e g0
 | [],Δ,s,ms,e,h,g0,S,hz,K,r,hK=>⟨s,[],0,e,g0,h,hK,rfl,hz,by rw [List.append_nil]; exact S,Ro.refl s⟩
 | o::os,Δ,s,ms,e,h,g0,S,hz,K,r,hK=>by
  obtain ⟨s1,xs,n,e1,h1,h2,k1,k2,k3,k4,k5⟩:=yq hC S hz hK
  obtain ⟨s2,ys,m,e2,h3,h4,q1,q2,q3,q4,q5⟩:=mu hC os k4 k3 k1
  refine ⟨s2,xs++ys,max n m,e2,h3,h4,q1,?_,q3,by rw [← List.append_assoc]; exact q4,k5.trans q5⟩
  have a1:=fv (bq (F:=F) (Nat.le_max_left n m)) k2
  have a2:=(bh (bq (F:=F) (Nat.le_max_right n m)) os q2).1
  simp only [ay,a1,a2]
end
end Go.Am
namespace Go.Am
open Go
section
variable {T:TE} {F:Nat→Option AFn} {g:Heap} {M:Nat→Prop}
theorem PtS.le {B:Hp} {cf cf':aR} (hc:wU cf cf') {o:AOper} {en:Ent} {a b:Pt T} (s:PtS B cf o en a b):PtS B cf' o en a b:=⟨fv hc s.st,s.kp,s.rd,s.ms,s.hz,s.fa,s.fb,s.ba,s.bb⟩
def de (B:Hp) (cf:aR):List AOper→List Ent→Pt T→List (Pt T)→Prop
 | [],[],_,[]=>True
 | o::os,en::es,a,b::bs=>PtS B cf o en a b∧de B cf os es b bs
 | _,_,_,_=>False
theorem de.le {B:Hp} {cf cf':aR} (hc:wU cf cf'):∀ {os:List AOper} {es:List Ent} {a:Pt T} {bs:List (Pt T)},de B cf os es a bs→de B cf' os es a bs
 | [],[],a,[],h=>h
 | o::os,en::es,a,b::bs,h=>⟨h.1.le hc,h.2.le hc⟩
 | [],[],_,_::_,h=>h.elim
 | [],_::_,_,_,h=>h.elim
 | _::_,[],_,_,h=>h.elim
 | _::_,_::_,_,[],h=>h.elim
theorem de.len {B:Hp} {cf:aR}:∀ {os:List AOper} {es:List Ent} {a:Pt T} {bs:List (Pt T)},de B cf os es a bs→es.length=os.length∧bs.length=os.length
 | [],[],a,[],h=>⟨rfl,rfl⟩
 | o::os,en::es,a,b::bs,h=>by
  obtain ⟨h1,h2⟩:=h.2.len
  simp only [List.length_cons,h1,h2,and_self]
 | [],[],_,_::_,h=>h.elim
 | [],_::_,_,_,h=>h.elim
 | _::_,[],_,_,h=>h.elim
 | _::_,_::_,_,[],h=>h.elim
theorem de.trace {B:Hp} {cf:aR}:∀ {os:List AOper} {es:List Ent} {a:Pt T} {bs:List (Pt T)},de B cf os es a bs→Am.trace cf os a.e a.g=(a::bs).map fun p=>(p.e,p.g)
 | [],[],a,[],h=>rfl
 | o::os,en::es,a,b::bs,h=>by
  simp only [Am.trace,h.1.st,h.2.trace,List.map_cons]
 | [],[],_,_::_,h=>h.elim
 | [],_::_,_,_,h=>h.elim
 | _::_,[],_,_,h=>h.elim
 | _::_,_::_,_,[],h=>h.elim
theorem de.get {B:Hp} {cf:aR}:∀ {os:List AOper} {es:List Ent} {a:Pt T} {bs:List (Pt T)},de B cf os es a bs→∀ {i:Nat} {en:Ent},es[i]? = some en→∃ o p q,os[i]? = some o∧(a::bs)[i]? = some p∧(a::bs)[i+1]? = some q∧PtS B cf o en p q
 | o::os,en::es,a,b::bs,h,0,e,hi=>by cases hi; exact ⟨o,a,b,rfl,rfl,rfl,h.1⟩
 | o::os,en::es,a,b::bs,h,i+1,e,hi=>by
  obtain ⟨o',p,q,h1,h2,h3,h4⟩:=h.2.get (i:=i) hi
  exact ⟨o',p,q,h1,h2,h3,h4⟩
 | [],[],a,[],h,i,e,hi=>by cases hi
 | [],[],_,_::_,h,_,_,_=>h.elim
 | [],_::_,_,_,h,_,_,_=>h.elim
 | _::_,[],_,_,h,_,_,_=>h.elim
 | _::_,_::_,_,[],h,_,_,_=>h.elim
theorem de.keep {B:Hp} {cf:aR} {os:List AOper} {es:List Ent} {a:Pt T} {bs:List (Pt T)} (h:de B cf os es a bs) {k:Nat} {y:AV}:∀ (m i:Nat),((es.drop i).take m).all (fU k)=true→i+m≤es.length→∀ {p:Pt T},(a::bs)[i]? = some p→nth p.ms k=some y→∀ j,j≤m→∃ q,(a::bs)[i+j]? = some q∧nth q.ms k=some y∧∀ o,ck y=some o→q.g.get o=p.g.get o
 | m,i,hk,hl,p,hp,hy,0,hj=>⟨p,hp,hy,fun _ _=>rfl⟩
 | m,i,hk,hl,p,hp,hy,j+1,hj=>by
  obtain ⟨q,h1,h2,h3⟩:=h.keep m i hk hl hp hy j (by omega)
  have hlt:i+j < es.length:=by omega
  obtain ⟨o,p',q',w1,w2,w3,w4⟩:=h.get (i:=i+j) (List.getElem?_eq_getElem hlt)
  rw [h1] at w2
  cases w2
  have hke:fU k es[i+j]=true:=by
   rw [List.all_eq_true] at hk
   refine hk _ (List.mem_of_getElem? (i:=j) ?_)
   rw [List.getElem?_take_of_lt (by omega),List.getElem?_drop,List.getElem?_eq_getElem hlt]
  obtain ⟨y',z1,z2⟩:=w4.kp k hke
  rw [h2] at z1
  cases z1
  obtain ⟨xs,hx⟩:=w4.ms
  exact ⟨q',w3,by rw [hx]; exact aH h2,fun o ho=>(z2 o ho).trans (h3 o ho)⟩
theorem de.back {B:Hp} {cf:aR} {os:List AOper} {es:List Ent} {a:Pt T} {bs:List (Pt T)} (h:de B cf os es a bs):∀ (m i:Nat) {p q:Pt T},(a::bs)[i]? = some p→(a::bs)[i+m]? = some q→∃ xs,q.ms=p.ms++xs
 | 0,i,p,q,hp,hq=>by rw [Nat.add_zero,hp] at hq; cases hq; exact ⟨[],by simp⟩
 | m+1,i,p,q,hp,hq=>by
  have hl:i+m < es.length:=by
   have:=h.len
   have h1:=(List.getElem?_eq_some_iff.1 hq).1
   simp only [List.length_cons] at h1
   omega
  obtain ⟨o,p',q',w1,w2,w3,w4⟩:=h.get (i:=i+m) (List.getElem?_eq_getElem hl)
  obtain ⟨xs,hx⟩:=h.back m i hp w2
  rw [show i+(m+1)=i+m+1 by omega,w3] at hq
  cases hq
  obtain ⟨ys,hy⟩:=w4.ms
  exact ⟨xs++ys,by rw [hy,hx,List.append_assoc]⟩
theorem de.hz {B:Hp} {cf:aR} {os:List AOper} {es:List Ent} {a:Pt T} {bs:List (Pt T)} (h:de B cf os es a bs):∀ (m i:Nat) {p q:Pt T},(a::bs)[i]? = some p→(a::bs)[i+m]? = some q→HZ p.h q.h
 | 0,i,p,q,hp,hq=>by rw [Nat.add_zero,hp] at hq; cases hq; exact HZ.refl _
 | m+1,i,p,q,hp,hq=>by
  have hl:i+m < es.length:=by
   have:=h.len
   have h1:=(List.getElem?_eq_some_iff.1 hq).1
   simp only [List.length_cons] at h1
   omega
  obtain ⟨o,p',q',w1,w2,w3,w4⟩:=h.get (i:=i+m) (List.getElem?_eq_getElem hl)
  rw [show i+(m+1)=i+m+1 by omega,w3] at hq
  cases hq
  exact (h.hz m i hp w2).trans w4.hz
def CEq (x y:Option AObj):Prop:=x=y∨∃ cs v w w',x=some (.row cs v w)∧y=some (.row cs v w')
theorem gv {h h':Heap} {o v off n:Nat} (hc:CEq (h.get o) (h'.get o)):h.cells o v off n=h'.cells o v off n:=by
 unfold Heap.cells
 rcases hc with e | ⟨cs,ver,w,w',e1,e2⟩
 ·rw [e]
 rw [e1,e2]
theorem nj {q:ROp} {x:AV} {as:List AV} {h h':Heap} (hc:∀ o,ck x=some o→CEq (h.get o) (h'.get o)):q.ev (x::as) h=q.ev (x::as) h':=by
 have rows:∀ z,h.rows z x=h'.rows z x:=fun z=>by
  cases x<;>first | rfl | exact gv (hc _ rfl)
 have map:∀ o,ck x=some o→((∃ es,h.get o=some (.map es)∧h'.get o=some (.map es))∨((∀ es,h.get o≠some (.map es))∧∀ es,h'.get o≠some (.map es))):=fun o ho=>by
  rcases hc o ho with e | ⟨cs,ver,w,w',e1,e2⟩
  ·by_cases hh:∃ es,h.get o=some (.map es)
   ·obtain ⟨es,he⟩:=hh; exact .inl ⟨es,he,by rw [← e]; exact he⟩
   exact .inr ⟨fun es he=>hh ⟨es,he⟩,fun es he=>hh ⟨es,by rw [e]; exact he⟩⟩
  exact .inr ⟨fun es he=>(by rw [e1] at he; cases he),fun es he=>(by rw [e2] at he; cases he)⟩
 cases q with
 | load1=>cases x<;>cases as<;>first | rfl | (simp only [ROp.ev,gv (hc _ rfl)])
 | loadN n=>cases x<;>cases as<;>first | rfl | (simp only [ROp.ev,gv (hc _ rfl)])
 | bytesToStr=>cases as<;>first | (simp only [ROp.ev,rows 1]) | rfl
 | lookup kq ok zero=>
  cases x<;>first | rfl | (rcases as with _ | ⟨a,_ | ⟨b,as⟩⟩<;>rfl) | skip
  rename_i o
  rcases as with _ | ⟨a,_ | ⟨b,as⟩⟩<;>first | rfl | skip
  rcases map o rfl with ⟨es,e1,e2⟩ | ⟨e1,e2⟩
  ·simp only [ROp.ev,e1,e2]
  simp only [ROp.ev]
  first | done | skip
 | lenMap=>
  cases x<;>cases as<;>first | rfl | skip
  rename_i o
  rcases map o rfl with ⟨es,e1,e2⟩ | ⟨e1,e2⟩
  ·simp only [ROp.ev,e1,e2]
  simp only [ROp.ev]
  first | done | skip
theorem mN {h h':Heap} {o:Nat} {cs:List AV} {v:Nat} (a:dH h o cs v) (b:dH h' o cs v):CEq (h.get o) (h'.get o):=by
 obtain ⟨w,e1⟩:=a
 obtain ⟨w',e2⟩:=b
 exact .inr ⟨cs,v,w,w',e1,e2⟩
theorem j9 {g h:Heap} (k:Fz g h) {o:Nat} {cs:List AV} {v:Nat} (a:dH h o cs v):dH g o cs v:=by
 obtain ⟨w,e⟩:=a
 rcases k.get o with e1 | ⟨cs',v',e1,e2⟩
 ·exact ⟨w,by rw [e1]; exact e⟩
 rw [e] at e2; cases e2; exact ⟨_,e1⟩
theorem de.chk {B:Hp} {cf:aR} {os:List AOper} {es:List Ent} {a:Pt T} {bs:List (Pt T)} (h:de B cf os es a bs) {p:Nat×Nat} (hc:Aq es p=true):aQ os (Am.trace cf os a.e a.g) p=true:=by
 obtain ⟨r,x⟩:=p
 unfold Aq at hc
 rw [Bool.and_eq_true] at hc
 obtain ⟨hx,hc⟩:=hc
 have hx:x < es.length:=by simpa [Nat.blt_eq] using hx
 cases hn:nth es r with
 | none=>rw [hn] at hc; cases hc
 | some en=>
  rw [hn] at hc
  dsimp only at hc
  rw [aM] at hn
  obtain ⟨o,pr,qr,h1,h2,h3,h4⟩:=h.get hn
  obtain ⟨o',px,qx,k1,k2,k3,k4⟩:=h.get (i:=x) (List.getElem?_eq_getElem hx)
  have t:∀ (i:Nat) (q:Pt T),(a::bs)[i]? = some q→((a::bs).map fun p=>(p.e,p.g))[i]? = some (q.e,q.g):=fun i q hq=>by rw [List.getElem?_map,hq]; rfl
  rw [h.trace]
  have hr:Ah B o en pr qr:=h4.rd
  unfold aQ
  simp only [h1,t _ _ h2,t _ _ k2,t _ _ k3]
  have rdg:∀ {q:ROp} {y:AV} {as:List AV} {v:AV},o.k=.r q→ab pr.e o.guard=some true→evs pr.e o.xs=some (y::as)→q.ev (y::as) pr.g=some v→(∀ ob,ck y=some ob→CEq (px.g.get ob) (pr.g.get ob))→(∀ ob,ck y=some ob→CEq (qx.g.get ob) (pr.g.get ob))→(match ab pr.e o.guard with
    | none=>false
    | some false=>true
    | some true=>match o.k,evs pr.e o.xs with
     | .r q,some xs=>match q.ev xs pr.g with
      | some v=>gp v (q.ev xs px.g)&&gp v (q.ev xs qx.g)
      | none=>false
     | .n _,_=>bi (px.g.get pr.g.n) (qx.g.get pr.g.n)
     | _,_=>false)=true:=fun {q y as v} e1 e2 e3 e4 c1 c2=>by
   rw [e2,e1,e3]
   simp only [e4,nj (q:=q) (as:=as) c1,nj (q:=q) (as:=as) c2,gp,AV.beq_refl,Bool.and_self]
  unfold Ah at hr
  cases hrd:en.rd with
  | skip=>rw [hrd] at hr; have hr:ab pr.e o.guard=some false:=hr; rw [hr]
  | bad=>rw [hrd] at hc; cases hc
  | fix z=>
   rw [hrd] at hr hc
   obtain ⟨q,y,as,v,ob,cs,ver,e1,e2,e3,e4,e5,e6⟩:=hr
   have sr:dH pr.g ob cs ver:=j9 h4.fa (by cases z; exact h4.ba _ _ _ e6; exact ⟨_,e6⟩)
   have sp:dH px.g ob cs ver∧dH qx.g ob cs ver:=by
    cases z with
    | false=>exact ⟨j9 k4.fa (k4.ba _ _ _ e6),j9 k4.fb (k4.bb _ _ _ e6)⟩
    | true=>
     have hle:r≤x:=by simpa using hc
     have w1:=h.hz (x - r) r h2 (by rw [show r+(x - r)=x by omega]; exact k2)
     exact ⟨j9 k4.fa ⟨_,w1 _ _ _ e6⟩,j9 k4.fb ⟨_,k4.hz _ _ _ (w1 _ _ _ e6)⟩⟩
   exact rdg e1 e2 e3 e4 (fun o1 ho=>by rw [e5] at ho; cases ho; exact mN sp.1 sr) (fun o1 ho=>by rw [e5] at ho; cases ho; exact mN sp.2 sr)
  | part k=>
   rw [hrd] at hr hc
   obtain ⟨q,y,as,v,b,e1,e2,e3,e4,e5,e6⟩:=hr
   have hc:(bif Nat.ble r x then ((es.drop r).take (x+1 - r)).all (fU k) else ((es.drop x).take (r - x)).all (fU k))=true:=hc
   have rlt:r < es.length:=(List.getElem?_eq_some_iff.1 hn).1
   cases hb:Nat.ble r x with
   | true=>
    rw [hb,cond_true] at hc
    have hle:=Nat.le_of_ble_eq_true hb
    obtain ⟨q1,w1,w2,w3⟩:=h.keep _ r hc (by omega) h2 e5 (x - r) (by omega)
    obtain ⟨q2,z1,z2,z3⟩:=h.keep _ r hc (by omega) h2 e5 (x+1 - r) (by omega)
    rw [show r+(x - r)=x by omega,k2] at w1
    rw [show r+(x+1 - r)=x+1 by omega,k3] at z1
    cases w1
    cases z1
    exact rdg e1 e2 e3 e4 (fun o1 ho=>.inl (w3 o1 (by rw [← e6]; exact ho))) (fun o1 ho=>.inl (z3 o1 (by rw [← e6]; exact ho)))
   | false=>
    rw [hb,cond_false] at hc
    have hlt:x < r:=by
     rcases Nat.lt_or_ge x r with hh | hh
     ·exact hh
     rw [show Nat.ble r x=true from Nat.ble_eq_true_of_le hh] at hb; cases hb
    have hy:nth px.ms k=some b:=by
     have h0:fU k es[x]=true:=by
      rw [List.all_eq_true] at hc
      refine hc _ (List.mem_of_getElem? (i:=0) ?_)
      rw [List.getElem?_take_of_lt (by omega),List.getElem?_drop,Nat.add_zero,List.getElem?_eq_getElem hx]
     obtain ⟨b',u1,_⟩:=k4.kp k h0
     obtain ⟨xs,hxs⟩:=h.back (r - x) x k2 (by rw [show x+(r - x)=r by omega]; exact h2)
     rw [hxs,aH u1] at e5
     rw [u1,e5]
    obtain ⟨q1,w1,w2,w3⟩:=h.keep _ x hc (by omega) k2 hy (r - x) (by omega)
    obtain ⟨q2,z1,z2,z3⟩:=h.keep _ x hc (by omega) k2 hy 1 (by omega)
    rw [show x+(r - x)=r by omega,h2] at w1
    rw [k3] at z1
    cases w1
    cases z1
    exact rdg e1 e2 e3 e4 (fun o1 ho=>.inl (w3 o1 (by rw [← e6]; exact ho)).symm) (fun o1 ho=>.inl ((z3 o1 (by rw [← e6]; exact ho)).trans (w3 o1 (by rw [← e6]; exact ho)).symm))
  | mk k=>
   rw [hrd] at hr hc
   obtain ⟨q,y,c,ver,e1,e2,e3,e4,e5⟩:=hr
   have hc:(Nat.blt r x&&((es.drop (r+1)).take (x - r)).all (fU k))=true:=hc
   rw [Bool.and_eq_true] at hc
   have hlt:r < x:=by simpa [Nat.blt_eq] using hc.1
   obtain ⟨q1,w1,w2,w3⟩:=h.keep _ (r+1) hc.2 (by omega) h3 e3 (x - (r+1)) (by omega)
   obtain ⟨q2,z1,z2,z3⟩:=h.keep _ (r+1) hc.2 (by omega) h3 e3 (x - r) (by omega)
   rw [show r+1+(x - (r+1))=x by omega,k2] at w1
   rw [show r+1+(x - r)=x+1 by omega,k3] at z1
   cases w1
   cases z1
   rw [e2,e1]
   show bi (px.g.get pr.g.n) (qx.g.get pr.g.n)=true
   rw [w3 _ e4,z3 _ e4,e5]
   simp [bi,AV.beqs_refl]
theorem qt {R:Type} {H:List (Nat×VT)} {C:cC T} (hC:cI F C) {ps:List (Nat×Nat)}:∀ (os:List AOper) (es:List Ent) {Δ:List Ch} {s:VS T} {ms:List AV} {e:Env} {h g0:Heap} (S:VSim g M Δ s ms e h) (hz:Fz g0 h) {K:VS T→Option R} {r:R} (hK:xM H C ps os es s K=some r),
  ∃ s' xs n e' h1 h' en bs,K s'=some r∧ay (aI F n) os e g0=some (e',h1)∧Fz h1 h'∧VSim g M Δ s' (ms++xs) e' h'∧Ro s s'∧de (Bo g M) (aI F n) os en ⟨s,ms,e,g0,h⟩ bs∧ps.all (Aq (es++en))=true
 | [],es,Δ,s,ms,e,h,g0,S,hz,K,r,hK=>by
  simp only [xM] at hK
  cases hc:ps.all (Aq es) with
  | false=>rw [hc] at hK; cases hK
  | true=>rw [hc] at hK; exact ⟨s,[],0,e,g0,h,[],[],hK,rfl,hz,by rw [List.append_nil]; exact S,Ro.refl s,trivial,by rw [List.append_nil]; exact hc⟩
 | o::os,es,Δ,s,ms,e,h,g0,S,hz,K,r,hK=>by
  simp only [xM] at hK
  obtain ⟨en,s1,xs,n,e1,h1,h2,k1,k2,k3,k4,k5⟩:=qE hC S hz hK
  obtain ⟨s2,ys,m,e2,h3,h4,en2,bs,q1,q2,q3,q4,q5,q6,q7⟩:=qt hC os _ k3 k2 k1
  have l1:=bq (F:=F) (Nat.le_max_left n m)
  have l2:=bq (F:=F) (Nat.le_max_right n m)
  refine ⟨s2,xs++ys,max n m,e2,h3,h4,en::en2,_::bs,q1,?_,q3,by rw [← List.append_assoc]; exact q4,k4.trans q5,⟨k5.le l1,q6.le l2⟩,by rw [List.append_assoc] at q7; exact q7⟩
  have a1:=fv l1 k5.st
  have a2:=(bh l2 os q2).1
  simp only [ay,a1,a2]
end
end Go.Am
namespace Go.Am
open Go
inductive In where
 | d (z:Bool) (t:VT)
 | e (z:Bool) (t:VT) (off:Nat)
 | r (j:Nat)
 | ptr (j off:Nat)
 | ic (m j:Nat)
 | c (v:AV)
 | ld (k:Nat) (agg:Bool)
 | slot (k:Nat) (agg:Bool)
 | ldr
 | row
 | sl (t:VT)
 | po (t:VT)
 | mp (a b:VT)
 | io (m:Nat) (t:VT)
 | pr (t:VT)
@[reducible] def DS:List In→List VT
 | []=>[]
 | .d _ t::l=>t::DS l
 | .e _ t _::l=>t::DS l
 | .sl t::l=>.sl true t::DS l
 | .po t::l=>.pt t::DS l
 | .pr t::l=>t::DS l
 | .mp a b::l=>.mp a b::DS l
 | .io a b::l=>.ic a b::DS l
 | .r _::l=>DS l
 | .ptr _ _::l=>DS l
 | .ic _ _::l=>DS l
 | .c _::l=>DS l
 | .ld _ _::l=>DS l
 | .slot _ _::l=>DS l
 | .ldr::l=>DS l
 | .row::l=>DS l
def cU:List In→Nat
 | []=>0
 | .row::l=>cU l+1
 | .sl _::l=>cU l+1
 | .po _::l=>cU l+1
 | .pr _::l=>cU l+1
 | .mp _ _::l=>cU l+1
 | .io _ _::l=>cU l+1
 | _::l=>cU l
def okI (n:Nat):List In→Bool
 | []=>true
 | .r j::l=>Nat.blt j n&&okI n l
 | .ptr j _::l=>Nat.blt j n&&okI n l
 | .ic _ j::l=>Nat.blt j n&&okI n l
 | _::l=>okI n l
def DNx (S:Nat→Type):Type→List VT→Type
 | A,[]=>A
 | A,t::ts=>A×DNx S (t.D S) ts
def DN (S:Nat→Type):List VT→Type
 | []=>Unit
 | t::ts=>DNx S (t.D S) ts
def toX {S:Nat→Type}:{A:Type}→(ts:List VT)→A→HL S ts→DNx S A ts
 | _,[],a,_=>a
 | _,_::ts,a,x=>(a,toX ts x.1 x.2)
def toN {S:Nat→Type}:(ts:List VT)→HL S ts→DN S ts
 | [],_=>()
 | _::ts,x=>toX ts x.1 x.2
def ofX {S:Nat→Type}:{A:Type}→(ts:List VT)→DNx S A ts→A×HL S ts
 | _,[],a=>(a,())
 | _,_::ts,a=>(a.1,ofX ts a.2)
def ofN {S:Nat→Type}:(ts:List VT)→DN S ts→HL S ts
 | [],_=>()
 | _::ts,x=>ofX ts x
theorem qC {S:Nat→Type}:∀ {A:Type} (ts:List VT) (a:A) (x:HL S ts),ofX ts (toX ts a x)=(a,x)
 | _,[],a,x=>rfl
 | _,t::ts,a,x=>by
  show (a,ofX ts (toX ts x.1 x.2))=_
  rw [qC ts x.1 x.2]
theorem ft {S:Nat→Type}:∀ (ts:List VT) (x:HL S ts),ofN ts (toN ts x)=x
 | [],x=>rfl
 | t::ts,x=>qC ts x.1 x.2
section
variable {T:TE} {R:Type}
def onS (ro:Bool) (x:V1 T):SV T:=bif ro then .ro x else .v x
def onP (ro:Bool) (p:Part T):Part T:=bif ro then .ro p else p
def xW:List (W T)→V1 T
 | [w]=>.w w
 | l=>.agg l
def mkE (ro:Bool) (b:Nat):(l:List In)→T.H (DS l)→List (W T)→nA T
 | [],_,_=>[]
 | .d z t::l,x,acc=>mkE ro b l x.2 (acc++[.d z t x.1])
 | .e z t o::l,x,acc=>mkE ro b l x.2 (acc++[.ed z t x.1 o])
 | .r j::l,x,acc=>mkE ro b l x (acc++[.r (b+j)])
 | .ptr j off::l,x,acc=>mkE ro b l x (acc++[.ptr (b+j) off])
 | .ic m j::l,x,acc=>mkE ro b l x (acc++[.ic m (b+j)])
 | .c v::l,x,acc=>mkE ro b l x (acc++[.c v])
 | .ld _ _::l,x,_=>mkE ro b l x []
 | .ldr::l,x,_=>mkE ro b l x []
 | .slot k agg::l,x,acc=>(k,onS ro (bif agg then .agg acc else xW acc))::mkE ro b l x []
 | .row::l,x,_=>mkE ro b l x []
 | .sl _::l,x,_=>mkE ro b l x.2 []
 | .po _::l,x,_=>mkE ro b l x.2 []
 | .pr _::l,x,_=>mkE ro b l x.2 []
 | .mp _ _::l,x,_=>mkE ro b l x.2 []
 | .io _ _::l,x,_=>mkE ro b l x.2 []
def mkP (ro:Bool) (b:Nat):(l:List In)→T.H (DS l)→List (W T)→List (Part T)
 | [],_,_=>[]
 | .d z t::l,x,acc=>mkP ro b l x.2 (acc++[.d z t x.1])
 | .e z t o::l,x,acc=>mkP ro b l x.2 (acc++[.ed z t x.1 o])
 | .r j::l,x,acc=>mkP ro b l x (acc++[.r (b+j)])
 | .ptr j off::l,x,acc=>mkP ro b l x (acc++[.ptr (b+j) off])
 | .ic m j::l,x,acc=>mkP ro b l x (acc++[.ic m (b+j)])
 | .c v::l,x,acc=>mkP ro b l x (acc++[.c v])
 | .ld _ _::l,x,_=>mkP ro b l x []
 | .ldr::l,x,_=>mkP ro b l x []
 | .slot _ _::l,x,_=>mkP ro b l x []
 | .row::l,x,acc=>onP ro (.row acc)::mkP ro b l x []
 | .sl t::l,x,_=>onP ro (.sl t x.1)::mkP ro b l x.2 []
 | .po t::l,x,_=>onP ro (.po t x.1)::mkP ro b l x.2 []
 | .pr t::l,x,_=>onP ro (.po t (some x.1))::mkP ro b l x.2 []
 | .mp a c::l,x,_=>onP ro (.mp a c x.1)::mkP ro b l x.2 []
 | .io a c::l,x,_=>onP ro (.io a c x.1)::mkP ro b l x.2 []
def dK (z:Bool) (t:VT) (w:W T) (s:VS T) (K:T.D t→VS T→Option R):Option R:=match z with
 | true=>bif t.pure then tk t w s K else none
 | false=>match w with
  | .d z t' x=>bif !z||t'.flat then cast1 x t fun x=>K x s else none
  | _=>none
def Co:W T→Bool
 | .r _=>true
 | .ptr _ 0=>true
 | .c .nilSlice=>true
 | .c .nilPtr=>true
 | .c .nilMap=>true
 | _=>false
def vt:W T→W T→Bool
 | .r k,.r j=>Nat.beq k j
 | .ptr k 0,.ptr j 0=>Nat.beq k j
 | _,_=>false
def cEq:AV→AV→Bool
 | .nilSlice,.nilSlice=>true
 | .nilPtr,.nilPtr=>true
 | .nilMap,.nilMap=>true
 | .nilIface,.nilIface=>true
 | .nilFunc,.nilFunc=>true
 | .bool a,.bool b=>a==b
 | .func f [],.func f' []=>Nat.beq f f'
 | _,_=>false
def Af (τ:List (Nat×W T)) (j:Nat) (w:W T) (K:List (Nat×W T)→Option R):Option R:=match lk τ j with
 | none=>bif Co w then K ((j,w)::τ) else none
 | some w'=>bif vt w w' then K τ else none
inductive Md where
 | no
 | row
 | slot (k:Nat) (agg:Bool)
def ext:(l:List In)→List (Nat×W T)→Nat→Md→List (W T)→VS T→(T.H (DS l)→VS T→Option R)→Option R
 | [],_,_,_,_,s,K=>K () s
 | .d z t::l,τ,n,cur,ws,s,K=>match ws with
  | w::ws=>dK z t w s fun x s=>ext l τ n cur ws s fun y s=>K (x,y) s
  | []=>none
 | .e z t o::l,τ,n,cur,ws,s,K=>match ws with
  | .ed z' t' x o'::ws=>bif (z'==z)&&Nat.beq o' o then cast1 x t fun x=>ext l τ n cur ws s fun y s=>K (x,y) s else none
  | _=>none
 | .r j::l,τ,n,cur,ws,s,K=>match ws with
  | w::ws=>Af τ j w fun τ=>ext l τ n cur ws s K
  | []=>none
 | .ptr j off::l,τ,n,cur,ws,s,K=>match ws with
  | .ptr k o::ws=>bif Nat.beq o off then Af τ j (.ptr k 0) fun τ=>ext l τ n cur ws s K else none
  | _=>none
 | .ic m j::l,τ,n,cur,ws,s,K=>match ws with
  | .ic m' k::ws=>bif Nat.beq m' m then Af τ j (.r k) fun τ=>ext l τ n cur ws s K else none
  | _=>none
 | .c v::l,τ,n,cur,ws,s,K=>match ws with
  | .c v'::ws=>bif cEq v' v then ext l τ n cur ws s K else none
  | _=>none
 | .ld k agg::l,τ,n,_,_,s,K=>match lx s.e (.tmp k) with
  | some (.v (.w w))=>bif agg then none else ext l τ n (.slot k agg) [w] s K
  | some (.v (.agg ws))=>bif agg then ext l τ n (.slot k agg) ws s K else none
  | _=>none
 | .slot k agg::l,τ,n,cur,ws,s,K=>match ws,cur with
  | [],.slot k' agg'=>bif Nat.beq k' k&&(agg'==agg) then ext l τ n .no [] s K else none
  | _,_=>none
 | .ldr::l,τ,n,_,_,s,K=>match lk τ n with
  | some (.r k)=>match nth s.ps k with
   | some (.row ws)=>ext l τ n .row ws (s.kill k) K
   | _=>none
  | some (.ptr k 0)=>match nth s.ps k with
   | some (.row ws)=>ext l τ n .row ws (s.kill k) K
   | _=>none
  | _=>none
 | .row::l,τ,n,cur,ws,s,K=>match ws,cur with
  | [],.row=>ext l τ (n+1) .no [] s K
  | _,_=>none
 | .sl t::l,τ,n,_,_,s,K=>match lk τ n with
  | some w=>tk (.sl true t) w s fun x s=>ext l τ (n+1) .no [] s fun y s=>K (x,y) s
  | none=>none
 | .po t::l,τ,n,_,_,s,K=>match lk τ n with
  | some w=>tk (.pt t) w s fun x s=>ext l τ (n+1) .no [] s fun y s=>K (x,y) s
  | none=>none
 | .pr t::l,τ,n,_,_,s,K=>match lk τ n with
  | some w=>tk (.pt t) w s fun q s=>q.bind fun x=>ext l τ (n+1) .no [] s fun y s=>K (x,y) s
  | none=>none
 | .mp a b::l,τ,n,_,_,s,K=>match lk τ n with
  | some w=>tk (.mp a b) w s fun x s=>ext l τ (n+1) .no [] s fun y s=>K (x,y) s
  | none=>none
 | .io a b::l,τ,n,_,_,s,K=>match lk τ n with
  | some w=>tk (.ic a b) w s fun x s=>ext l τ (n+1) .no [] s fun y s=>K (x,y) s
  | none=>none
def oz (l:List In) (s:VS T) (K:T.H (DS l)→VS T→Option R):Option R:=ext l [] 0 .no [] s K
end
section
variable {T:TE} {g:Heap} {M:Nat→Prop}
def Mat (B:Hp) (am:Nat→AV) (e:Env) (h:Heap):(l:List In)→T.H (DS l)→Nat→List AV→List Ch→Prop
 | [],_,_,_,Γ=>Γ=[]
 | .d z t::l,x,n,acc,Γ=>∃ a,a.flat=true∧(T.r t).R (zG B h z) [a] x.1∧Mat B am e h l x.2 n (acc++[a]) Γ
 | .e z t o::l,x,n,acc,Γ=>∃ a,a.flat=true∧bF B [] h (.ed z t x.1 o) a∧Mat B am e h l x.2 n (acc++[a]) Γ
 | .r j::l,x,n,acc,Γ=>(am j).flat=true∧Mat B am e h l x n (acc++[am j]) Γ
 | .ptr j off::l,x,n,acc,Γ=>∃ o v,am j=.ptr o v 0∧Mat B am e h l x n (acc++[.ptr o v off]) Γ
 | .ic m j::l,x,n,acc,Γ=>(am j).flat=true∧Mat B am e h l x n (acc++[.iface m (am j)]) Γ
 | .c v::l,x,n,acc,Γ=>v.flat=true∧Mat B am e h l x n (acc++[v]) Γ
 | .ld _ _::l,x,n,_,Γ=>Mat B am e h l x n [] Γ
 | .ldr::l,x,n,_,Γ=>Mat B am e h l x n [] Γ
 | .slot k false::l,x,n,acc,Γ=>(∃ a,acc=[a]∧e.get k=some a)∧Mat B am e h l x n [] Γ
 | .slot k true::l,x,n,acc,Γ=>e.get k=some (.agg acc)∧Mat B am e h l x n [] Γ
 | .row::l,x,n,acc,Γ=>∃ o v Γ',am n=.ptr o v 0∧Γ=eT o acc v::Γ'∧Mat B am e h l x (n+1) [] Γ'
 | .sl t::l,x,n,_,Γ=>∃ Γ',Γ=own (T.w (.sl true t)) [am n] x.1::Γ'∧Mat B am e h l x.2 (n+1) [] Γ'
 | .po t::l,x,n,_,Γ=>∃ Γ',Γ=own (T.w (.pt t)) [am n] x.1::Γ'∧Mat B am e h l x.2 (n+1) [] Γ'
 | .pr t::l,x,n,_,Γ=>∃ Γ',Γ=own (T.w (.pt t)) [am n] (some x.1)::Γ'∧Mat B am e h l x.2 (n+1) [] Γ'
 | .mp a b::l,x,n,_,Γ=>∃ Γ',Γ=own (T.w (.mp a b)) [am n] x.1::Γ'∧Mat B am e h l x.2 (n+1) [] Γ'
 | .io a b::l,x,n,_,Γ=>∃ Γ',Γ=own (T.w (.ic a b)) [am n] x.1::Γ'∧Mat B am e h l x.2 (n+1) [] Γ'
theorem ot {R:Type} {t:VT} {w:W T} {s:VS T} {K:T.D t→VS T→Option R} {r:R} (hK:tk t w s K=some r) {Δ:List Ch} {ms:List AV} {e:Env} {h:Heap} {a:AV} (S:VSim g M Δ s ms e h) (hr:f7 (Bo g M) ms h w a):TkQ g M K r Δ (own (T.w t) [a]) s ms e h:=by
 obtain ⟨x,s',h',k1,k2,k3,k4⟩:=(iH (T:=T) fuel).1 _ _ _ _ _ hK S (.cons hr .nil)
 refine ⟨x.1,s',h',k1,k2,k3.with ?_,k4⟩
 obtain ⟨a1,b,e1,_,hb,S2⟩:=k3.st.unpair
 have hb:b=[]:=List.eq_nil_of_length_eq_zero hb
 subst hb
 rw [List.append_nil] at e1
 subst e1
 exact S2.swap.drop
theorem St.dropL {Δ:List Ch} {h:Heap}:∀ {Γ0:List Ch},St g M (Γ0++Δ) h→St g M Δ h
 | [],S=>S
 | _::Γ0,S=>St.dropL (Γ0:=Γ0) S.drop
def nV (am:Nat→AV) (τ:List (Nat×W T)) (e:Env) (n:Nat):Md→List AV→List Ch→Prop
 | .no,_,Γ0=>Γ0=[]
 | .slot k false,cs,Γ0=>Γ0=[]∧∃ a,cs=[a]∧e.get k=some a
 | .slot k true,cs,Γ0=>Γ0=[]∧e.get k=some (.agg cs)
 | .row,cs,Γ0=>∃ o v,(∃ w,lk τ n=some w)∧am n=.ptr o v 0∧Γ0=[eT o cs v]
def xL (B:Hp) (ms:List AV) (h:Heap) (am:Nat→AV) (τ:List (Nat×W T)):Prop:=∀ j w,lk τ j=some w→f7 B ms h w (am j)∧(am j).flat=true
theorem nV.upd {am:Nat→AV} {τ:List (Nat×W T)} {e:Env} {n:Nat} {cur:Md} {cs:List AV} {Γ0:List Ch} (hc:nV am τ e n cur cs Γ0) {j:Nat} (hj:lk τ j=none) (w:W T) (a:AV):nV (fun i=>if i=j then a else am i) ((j,w)::τ) e n cur cs Γ0:=by
 cases cur with
 | no=>exact hc
 | slot k agg=>cases agg<;>exact hc
 | row=>
  obtain ⟨o,v,⟨w',h1⟩,h2,h3⟩:=hc
  have hn:n≠j:=fun e=>by rw [e,hj] at h1; cases h1
  refine ⟨o,v,?_,by simp only [if_neg hn]; exact h2,h3⟩
  refine ⟨w',?_⟩
  show (bif Nat.beq j n then some w else lk τ n)=_
  have:Nat.beq j n=false:=by
   cases hb:Nat.beq j n with
   | false=>rfl
   | true=>exact absurd (Nat.eq_of_beq_eq_true hb).symm hn
  rw [this]; exact h1
theorem mI {R:Type} {ms:List AV} {h:Heap} {am:Nat→AV} {τ:List (Nat×W T)} {j:Nat} {w:W T} {a:AV} {K:List (Nat×W T)→Option R} {r:R} {B:Hp} (hK:Af τ j w K=some r) (ha:xL B ms h am τ) (hr:f7 B ms h w a) (hf:a.flat=true) {e:Env} {n:Nat} {cur:Md} {cs:List AV} {Γ0:List Ch} (hc:nV am τ e n cur cs Γ0) :
  ∃ τ' am',K τ'=some r∧xL B ms h am' τ'∧am' j=a∧(∀ i w,lk τ i=some w→am' i=am i∧∃ w,lk τ' i=some w)∧nV am' τ' e n cur cs Γ0∧∃ w,lk τ' j=some w:=by
 unfold Af at hK
 split at hK
 ·rename_i hj
  cases hw:Co w with
  | false=>rw [hw] at hK; cases hK
  | true=>
   rw [hw] at hK
   have self:lk ((j,w)::τ) j=some w:=by
    show (bif Nat.beq j j then some w else lk τ j)=_
    rw [Nat.beq_refl]; rfl
   refine ⟨_,fun i=>if i=j then a else am i,hK,fun i w' hi=>?_,by simp,fun i w' hi=>?_,hc.upd hj w a,w,self⟩
   ·have hi:(bif Nat.beq j i then some w else lk τ i)=some w':=hi
    cases hb:Nat.beq j i with
    | true=>
     obtain rfl:=Nat.eq_of_beq_eq_true hb
     rw [hb] at hi
     cases hi
     simp only [if_true]
     exact ⟨hr,hf⟩
    | false=>
     rw [hb] at hi
     have hne:i≠j:=fun e=>Nat.ne_of_beq_eq_false hb e.symm
     simp only [if_neg hne]
     exact ha i w' hi
   have hne:i≠j:=fun e=>by rw [e,hj] at hi; cases hi
   refine ⟨by simp only [if_neg hne],w',?_⟩
   show (bif Nat.beq j i then some w else lk τ i)=_
   have:Nat.beq j i=false:=by
    cases hb:Nat.beq j i with
    | false=>rfl
    | true=>exact absurd (Nat.eq_of_beq_eq_true hb).symm hne
   rw [this]; exact hi
 rename_i w' hj
 cases hs:vt w w' with
 | false=>rw [hs] at hK; cases hK
 | true=>
  rw [hs] at hK
  obtain ⟨q1,q2⟩:=ha j w' hj
  refine ⟨τ,am,hK,ha,?_,fun i w hi=>⟨rfl,w,hi⟩,hc,w',hj⟩
  unfold vt at hs
  split at hs
  ·obtain rfl:=Nat.eq_of_beq_eq_true hs
   have q1:nth ms _=some (am j):=q1
   have hr:nth ms _=some a:=hr
   rw [q1] at hr
   exact Option.some.inj hr
  ·obtain rfl:=Nat.eq_of_beq_eq_true hs
   obtain ⟨o,v,q1,q3⟩:=q1
   obtain ⟨o',v',hr,hr2⟩:=hr
   rw [q1] at hr
   cases hr
   rw [q3,hr2]
  cases hs
theorem zX {a b:AV} (h:cEq a b=true):a=b:=by
 unfold cEq at h
 split at h<;>first | rfl | cases h | skip
 ·rename_i x y; simp only [beq_iff_eq] at h; rw [h]
 rename_i f f'; rw [Nat.eq_of_beq_eq_true h]
end
end Go.Am
namespace Go.Am
open Go
section
variable {T:TE} {g:Heap} {M:Nat→Prop}
def BX (B:Hp) (ms:List AV) (h:Heap) (w:W T) (a:AV):Prop:=f7 B ms h w a∧a.flat=true
theorem wF {B:Hp} {ms:List AV} {h h':Heap} (hz:HZ h h') {ws:List (W T)} {as:List AV} (hr:All2 (BX B ms h) ws as):All2 (BX B ms h') ws as:=hr.imp fun w a k=>⟨js hz k.1,k.2⟩
theorem xL.hz {B:Hp} {ms:List AV} {h h':Heap} {am:Nat→AV} {τ:List (Nat×W T)} (ha:xL B ms h am τ) (hz:HZ h h'):xL B ms h' am τ:=fun j w hj=>⟨js hz (ha j w hj).1,(ha j w hj).2⟩
def ExQ {R:Type} (l:List In) (K:T.H (DS l)→VS T→Option R) (r:R) (g:Heap) (M:Nat→Prop) (Δ:List Ch) (s:VS T) (ms:List AV) (e:Env) (h:Heap) (am:Nat→AV) (τ:List (Nat×W T)) (n:Nat) (acc:List AV):Prop:=
 ∃ x s' h' am' Γ,K x s'=some r∧Fz h h'∧VSim g M (Γ++Δ) s' ms e h'∧(∀ j w,lk τ j=some w→am' j=am j)∧Mat (Bo g M) am' e h' l x n acc Γ∧Trk s s'
theorem A4 {R:Type} {z:Bool} {t:VT} {w:W T} {s:VS T} {K:T.D t→VS T→Option R} {r:R} (hK:dK z t w s K=some r) {Δ:List Ch} {ms:List AV} {e:Env} {h:Heap} {a:AV} (S:VSim g M Δ s ms e h) (hr:f7 (Bo g M) ms h w a) :
  ∃ x s' h',K x s'=some r∧Fz h h'∧VSim g M Δ s' ms e h'∧(T.r t).R (zG (Bo g M) h' z) [a] x∧Trk s s':=by
 cases z with
 | true=>
  simp only [dK] at hK
  cases hp:t.pure with
  | false=>rw [hp] at hK; cases hK
  | true=>
   rw [hp] at hK
   obtain ⟨x,s',h',k1,k2,k3,k4⟩:=ot hK S hr
   exact ⟨x,s',h',k1,k2,k3.with k3.st.drop,ib hp k3.st,k4⟩
 | false=>
  simp only [dK] at hK
  split at hK
  ·rename_i z t' x
   cases hc:(!z||t'.flat) with
   | false=>rw [hc] at hK; cases hK
   | true=>
    rw [hc,cond_true] at hK
    obtain ⟨rfl,hK⟩:=a8 hK
    refine ⟨x,s,h,hK,Fz.refl _,S,?_,Trk.refl s⟩
    have hr:(T.r t').R (zG (Bo g M) h z) [a] x:=hr
    rw [Bool.or_eq_true] at hc
    rcases hc with hc | hc
    ·cases z
     ·exact hr
     cases hc
    exact kU hc hr
  cases hK
theorem ch {R:Type}:∀ (l:List In) (τ:List (Nat×W T)) (n:Nat) (cur:Md) (ws:List (W T)) (s:VS T) (K:T.H (DS l)→VS T→Option R) (r:R),ext l τ n cur ws s K=some r→∀ {Δ:List Ch} {ms:List AV} {e:Env} {h:Heap} {am:Nat→AV} {acc rest:List AV} {Γ0:List Ch},VSim g M (Γ0++Δ) s ms e h→All2 (BX (Bo g M) ms h) ws rest→nV am τ e n cur (acc++rest) Γ0→xL (Bo g M) ms h am τ→ExQ l K r g M Δ s ms e h am τ n acc
 | [],τ,n,cur,ws,s,K,r,hK,Δ,ms,e,h,am,acc,rest,Γ0,S,hr,hc,ha=>by
  simp only [ext] at hK
  refine ⟨(),s,h,am,[],hK,Fz.refl _,S.with (Δ':=Δ) ?_,fun _ _ _=>rfl,rfl,Trk.refl s⟩
  have:=S.st
  rw [List.append_assoc] at this
  exact St.dropL this
 | .d z t::l,τ,n,cur,ws,s,K,r,hK,Δ,ms,e,h,am,acc,rest,Γ0,S,hr,hc,ha=>by
  simp only [ext] at hK
  cases hr with
  | nil=>cases hK
  | cons p q=>
   rename_i w a ws rest
   obtain ⟨x,s1,h1,k1,k2,k3,k4,k5⟩:=A4 hK S p.1
   rw [show acc++a::rest=(acc++[a])++rest by simp] at hc
   obtain ⟨y,s2,h2,am',Γ,q1,q2,q3,q4,q5,q6⟩:=ch l _ _ _ _ _ _ _ k1 k3 (wF k2.hz q) hc (ha.hz k2.hz)
   exact ⟨(x,y),s2,h2,am',Γ,q1,k2.trans q2,q3,q4,⟨a,p.2,(T.r t).mono (hZ q2.hz z) k4,q5⟩,k5.trans q6⟩
 | .e z t o::l,τ,n,cur,ws,s,K,r,hK,Δ,ms,e,h,am,acc,rest,Γ0,S,hr,hc,ha=>by
  simp only [ext] at hK
  split at hK
  ·rename_i z' t' x o' ws
   cases hr with
   | cons p q=>
    rename_i a rest
    cases ho:(z'==z)&&Nat.beq o' o with
    | false=>rw [ho] at hK; cases hK
    | true=>
     rw [ho,cond_true] at hK
     rw [Bool.and_eq_true] at ho
     obtain rfl:z'=z:=by simpa using ho.1
     obtain rfl:=Nat.eq_of_beq_eq_true ho.2
     obtain ⟨rfl,hK⟩:=a8 hK
     rw [show acc++a::rest=(acc++[a])++rest by simp] at hc
     obtain ⟨y,s2,h2,am',Γ,q1,q2,q3,q4,q5,q6⟩:=ch l _ _ _ _ _ _ _ hK S q hc ha
     exact ⟨(x,y),s2,h2,am',Γ,q1,q2,q3,q4,⟨a,p.2,cA (ms:=[]) q2.hz (.ed z' t' x o') p.1,q5⟩,q6⟩
  cases hK
 | .r j::l,τ,n,cur,ws,s,K,r,hK,Δ,ms,e,h,am,acc,rest,Γ0,S,hr,hc,ha=>by
  simp only [ext] at hK
  cases hr with
  | nil=>cases hK
  | cons p q=>
   rename_i w a ws rest
   rw [show acc++a::rest=(acc++[a])++rest by simp] at hc
   obtain ⟨τ',am1,k1,k2,k3,k4,k5,w1,k6⟩:=mI hK ha p.1 p.2 hc
   obtain ⟨y,s2,h2,am',Γ,q1,q2,q3,q4,q5,q6⟩:=ch l _ _ _ _ _ _ _ k1 S q k5 k2
   have e1:am' j=a:=by rw [q4 j w1 k6,k3]
   exact ⟨y,s2,h2,am',Γ,q1,q2,q3,fun i w hi=>(q4 i _ (k4 i w hi).2.choose_spec).trans (k4 i w hi).1,⟨by rw [e1]; exact p.2,by rw [e1]; exact q5⟩,q6⟩
 | .ptr j off::l,τ,n,cur,ws,s,K,r,hK,Δ,ms,e,h,am,acc,rest,Γ0,S,hr,hc,ha=>by
  simp only [ext] at hK
  split at hK
  ·rename_i k o ws
   cases hr with
   | cons p q=>
    rename_i a rest
    cases ho:Nat.beq o off with
    | false=>rw [ho] at hK; cases hK
    | true=>
     obtain rfl:=Nat.eq_of_beq_eq_true ho
     rw [ho,cond_true] at hK
     obtain ⟨ob,v,h1,rfl⟩:=p.1
     rw [show acc++AV.ptr ob v o::rest=(acc++[AV.ptr ob v o])++rest by simp] at hc
     obtain ⟨τ',am1,k1,k2,k3,k4,k5,w1,k6⟩:=mI (a:=.ptr ob v 0) hK ha ⟨ob,v,h1,rfl⟩ rfl hc
     obtain ⟨y,s2,h2,am',Γ,q1,q2,q3,q4,q5,q6⟩:=ch l _ _ _ _ _ _ _ k1 S q k5 k2
     have e1:am' j=.ptr ob v 0:=by rw [q4 j w1 k6,k3]
     exact ⟨y,s2,h2,am',Γ,q1,q2,q3,fun i w hi=>(q4 i _ (k4 i w hi).2.choose_spec).trans (k4 i w hi).1,⟨ob,v,e1,q5⟩,q6⟩
  cases hK
 | .ic m j::l,τ,n,cur,ws,s,K,r,hK,Δ,ms,e,h,am,acc,rest,Γ0,S,hr,hc,ha=>by
  simp only [ext] at hK
  split at hK
  ·rename_i m' k ws
   cases hr with
   | cons p q=>
    rename_i a rest
    cases ho:Nat.beq m' m with
    | false=>rw [ho] at hK; cases hK
    | true=>
     obtain rfl:=Nat.eq_of_beq_eq_true ho
     rw [ho,cond_true] at hK
     obtain ⟨c,h1,hf,rfl⟩:=p.1
     rw [show acc++AV.iface m' c::rest=(acc++[AV.iface m' c])++rest by simp] at hc
     obtain ⟨τ',am1,k1,k2,k3,k4,k5,w1,k6⟩:=mI (a:=c) hK ha h1 hf hc
     obtain ⟨y,s2,h2,am',Γ,q1,q2,q3,q4,q5,q6⟩:=ch l _ _ _ _ _ _ _ k1 S q k5 k2
     have e1:am' j=c:=by rw [q4 j w1 k6,k3]
     exact ⟨y,s2,h2,am',Γ,q1,q2,q3,fun i w hi=>(q4 i _ (k4 i w hi).2.choose_spec).trans (k4 i w hi).1,⟨by rw [e1]; exact hf,by rw [e1]; exact q5⟩,q6⟩
  cases hK
 | .c v::l,τ,n,cur,ws,s,K,r,hK,Δ,ms,e,h,am,acc,rest,Γ0,S,hr,hc,ha=>by
  simp only [ext] at hK
  split at hK
  ·rename_i v' ws
   cases hr with
   | cons p q=>
    rename_i a rest
    cases ho:cEq v' v with
    | false=>rw [ho] at hK; cases hK
    | true=>
     obtain rfl:=zX ho
     rw [ho] at hK
     have h1:a=v':=p.1
     subst h1
     rw [show acc++a::rest=(acc++[a])++rest by simp] at hc
     obtain ⟨y,s2,h2,am',Γ,q1,q2,q3,q4,q5,q6⟩:=ch l _ _ _ _ _ _ _ hK S q hc ha
     exact ⟨y,s2,h2,am',Γ,q1,q2,q3,q4,⟨p.2,q5⟩,q6⟩
  cases hK
 | .ld k agg::l,τ,n,cur,ws,s,K,r,hK,Δ,ms,e,h,am,acc,rest,Γ0,S,hr,hc,ha=>by
  simp only [ext] at hK
  have S0:VSim g M ([]++Δ) s ms e h:=S.with (Δ':=Δ) (by have:=S.st; rw [List.append_assoc] at this; exact St.dropL this)
  split at hK
  ·rename_i w hx
   obtain ⟨a,h1,h2⟩:=cm S hx
   cases agg with
   | true=>cases hK
   | false=>exact ch l _ _ _ _ _ _ _ (acc:=[]) (rest:=[a]) hK S0 (.cons ⟨fK h2.1,h2.2⟩ .nil) ⟨rfl,a,rfl,h1⟩ ha
  ·rename_i ws2 hx
   obtain ⟨a,h1,cs,rfl,h2⟩:=cm S hx
   cases agg with
   | false=>cases hK
   | true=>exact ch l _ _ _ _ _ _ _ (acc:=[]) (rest:=cs) hK S0 (h2.imp fun w a k=>⟨fK k.1,k.2⟩) ⟨rfl,h1⟩ ha
  cases hK
 | .slot k agg::l,τ,n,cur,ws,s,K,r,hK,Δ,ms,e,h,am,acc,rest,Γ0,S,hr,hc,ha=>by
  simp only [ext] at hK
  split at hK
  ·rename_i k' agg'
   cases hr
   rw [List.append_nil] at hc
   cases ho:(Nat.beq k' k&&(agg'==agg)) with
   | false=>rw [ho] at hK; cases hK
   | true=>
    rw [ho] at hK
    rw [Bool.and_eq_true] at ho
    obtain rfl:=Nat.eq_of_beq_eq_true ho.1
    obtain rfl:agg'=agg:=by simpa using ho.2
    have S0:VSim g M ([]++Δ) s ms e h:=S.with (Δ':=Δ) (by have:=S.st; rw [List.append_assoc] at this; exact St.dropL this)
    obtain ⟨y,s2,h2,am',Γ,q1,q2,q3,q4,q5,q6⟩:=ch l _ _ _ _ _ _ _ (acc:=[]) (rest:=[]) hK S0 .nil rfl ha
    cases agg' with
    | false=>exact ⟨y,s2,h2,am',Γ,q1,q2,q3,q4,⟨hc.2,q5⟩,q6⟩
    | true=>exact ⟨y,s2,h2,am',Γ,q1,q2,q3,q4,⟨hc.2,q5⟩,q6⟩
  cases hK
 | .ldr::l,τ,n,cur,ws,s,K,r,hK,Δ,ms,e,h,am,acc,rest,Γ0,S,hr,hc,ha=>by
  simp only [ext] at hK
  have S0:VSim g M Δ s ms e h:=S.with (Δ':=Δ) (by have:=S.st; rw [List.append_assoc] at this; exact St.dropL this)
  have go:∀ (k:Nat) (w:W T) (ws:List (W T)),lk τ n=some w→nth ms k=some (am n)→nth s.ps k=some (.row ws)→ext l τ n .row ws (s.kill k) K=some r→ExQ (.ldr::l) K r g M Δ s ms e h am τ n acc:=by
   intro k w ws hl h1 hp hK
   have S1:=S0.kill hp h1
   obtain ⟨o,v,cs,e1,hr,S2⟩:=St.rowOpen S1.st
   have S3:VSim g M ([eT o cs v]++Δ) (s.kill k) ms e h:=S1.with S2
   obtain ⟨y,s2,h2,am',Γ,q1,q2,q3,q4,q5,q6⟩:=ch l _ _ _ _ _ _ _ (acc:=[]) (rest:=cs) hK S3 (hr.imp fun w a k=>⟨ng k.1,k.2⟩) ⟨o,v,⟨w,hl⟩,e1,rfl⟩ ha
   exact ⟨y,s2,h2,am',Γ,q1,q2,q3,q4,q5,(Trk.kill hp (fun _ e=>by cases e)).trans q6⟩
  split at hK
  ·rename_i k hl
   split at hK
   ·rename_i ws hp
    exact go k _ ws hl (ha n _ hl).1 hp hK
   cases hK
  ·rename_i k hl
   split at hK
   ·rename_i ws hp
    obtain ⟨o,v,h1,h2⟩:=(ha n _ hl).1
    exact go k _ ws hl (by rw [h2]; exact h1) hp hK
   cases hK
  cases hK
 | .row::l,τ,n,cur,ws,s,K,r,hK,Δ,ms,e,h,am,acc,rest,Γ0,S,hr,hc,ha=>by
  simp only [ext] at hK
  split at hK
  ·cases hr
   rw [List.append_nil] at hc
   obtain ⟨o,v,⟨w0,hl⟩,h1,rfl⟩:=hc
   have S0:VSim g M ([]++(eT o acc v::Δ)) s ms e h:=S
   obtain ⟨y,s2,h2,am',Γ,q1,q2,q3,q4,q5,q6⟩:=ch l _ _ _ _ _ _ _ (acc:=[]) (rest:=[]) hK S0 .nil rfl ha
   refine ⟨y,s2,h2,am',eT o acc v::Γ,q1,q2,q3.with (Δ':=eT o acc v::(Γ++Δ)) ?_,q4,⟨o,v,Γ,by rw [q4 n w0 hl]; exact h1,rfl,q5⟩,q6⟩
   refine q3.st.perm ?_
   exact (List.perm_middle).append_right _
  cases hK
 | .sl t::l,τ,n,cur,ws,s,K,r,hK,Δ,ms,e,h,am,acc,rest,Γ0,S,hr,hc,ha=>by
  simp only [ext] at hK
  have S0:VSim g M Δ s ms e h:=S.with (Δ':=Δ) (by have:=S.st; rw [List.append_assoc] at this; exact St.dropL this)
  split at hK
  ·rename_i w hl
   obtain ⟨x,s1,h1,k1,k2,k3,k4⟩:=ot hK S0 (ha n w hl).1
   obtain ⟨y,s2,h2,am',Γ,q1,q2,q3,q4,q5,q6⟩:=ch l _ _ _ _ _ _ _ (acc:=[]) (rest:=[]) k1 (Γ0:=[]) (Δ:=own (T.w (.sl true t)) [am n] x::Δ) k3 .nil rfl (ha.hz k2.hz)
   refine ⟨(x,y),s2,h2,am',own (T.w (.sl true t)) [am n] x::Γ,q1,k2.trans q2,q3.with (Δ':=own (T.w (.sl true t)) [am n] x::(Γ++Δ)) ?_,q4,⟨Γ,by rw [q4 n w hl],q5⟩,k4.trans q6⟩
   exact q3.st.perm ((List.perm_middle).append_right _)
  cases hK
 | .po t::l,τ,n,cur,ws,s,K,r,hK,Δ,ms,e,h,am,acc,rest,Γ0,S,hr,hc,ha=>by
  simp only [ext] at hK
  have S0:VSim g M Δ s ms e h:=S.with (Δ':=Δ) (by have:=S.st; rw [List.append_assoc] at this; exact St.dropL this)
  split at hK
  ·rename_i w hl
   obtain ⟨x,s1,h1,k1,k2,k3,k4⟩:=ot hK S0 (ha n w hl).1
   obtain ⟨y,s2,h2,am',Γ,q1,q2,q3,q4,q5,q6⟩:=ch l _ _ _ _ _ _ _ (acc:=[]) (rest:=[]) k1 (Γ0:=[]) (Δ:=own (T.w (.pt t)) [am n] x::Δ) k3 .nil rfl (ha.hz k2.hz)
   refine ⟨(x,y),s2,h2,am',own (T.w (.pt t)) [am n] x::Γ,q1,k2.trans q2,q3.with (Δ':=own (T.w (.pt t)) [am n] x::(Γ++Δ)) ?_,q4,⟨Γ,by rw [q4 n w hl],q5⟩,k4.trans q6⟩
   exact q3.st.perm ((List.perm_middle).append_right _)
  cases hK
 | .pr t::l,τ,n,cur,ws,s,K,r,hK,Δ,ms,e,h,am,acc,rest,Γ0,S,hr,hc,ha=>by
  simp only [ext] at hK
  have S0:VSim g M Δ s ms e h:=S.with (Δ':=Δ) (by have:=S.st; rw [List.append_assoc] at this; exact St.dropL this)
  split at hK
  ·rename_i w hl
   obtain ⟨x,s1,h1,k1,k2,k3,k4⟩:=ot hK S0 (ha n w hl).1
   obtain ⟨x,rfl,k1⟩:=obI k1
   obtain ⟨y,s2,h2,am',Γ,q1,q2,q3,q4,q5,q6⟩:=ch l _ _ _ _ _ _ _ (acc:=[]) (rest:=[]) k1 (Γ0:=[]) (Δ:=own (T.w (.pt t)) [am n] (some x)::Δ) k3 .nil rfl (ha.hz k2.hz)
   refine ⟨(x,y),s2,h2,am',own (T.w (.pt t)) [am n] (some x)::Γ,q1,k2.trans q2,q3.with (Δ':=own (T.w (.pt t)) [am n] (some x)::(Γ++Δ)) ?_,q4,⟨Γ,by rw [q4 n w hl],q5⟩,k4.trans q6⟩
   exact q3.st.perm ((List.perm_middle).append_right _)
  cases hK
 | .mp a b::l,τ,n,cur,ws,s,K,r,hK,Δ,ms,e,h,am,acc,rest,Γ0,S,hr,hc,ha=>by
  simp only [ext] at hK
  have S0:VSim g M Δ s ms e h:=S.with (Δ':=Δ) (by have:=S.st; rw [List.append_assoc] at this; exact St.dropL this)
  split at hK
  ·rename_i w hl
   obtain ⟨x,s1,h1,k1,k2,k3,k4⟩:=ot hK S0 (ha n w hl).1
   obtain ⟨y,s2,h2,am',Γ,q1,q2,q3,q4,q5,q6⟩:=ch l _ _ _ _ _ _ _ (acc:=[]) (rest:=[]) k1 (Γ0:=[]) (Δ:=own (T.w (.mp a b)) [am n] x::Δ) k3 .nil rfl (ha.hz k2.hz)
   refine ⟨(x,y),s2,h2,am',own (T.w (.mp a b)) [am n] x::Γ,q1,k2.trans q2,q3.with (Δ':=own (T.w (.mp a b)) [am n] x::(Γ++Δ)) ?_,q4,⟨Γ,by rw [q4 n w hl],q5⟩,k4.trans q6⟩
   exact q3.st.perm ((List.perm_middle).append_right _)
  cases hK
 | .io a b::l,τ,n,cur,ws,s,K,r,hK,Δ,ms,e,h,am,acc,rest,Γ0,S,hr,hc,ha=>by
  simp only [ext] at hK
  have S0:VSim g M Δ s ms e h:=S.with (Δ':=Δ) (by have:=S.st; rw [List.append_assoc] at this; exact St.dropL this)
  split at hK
  ·rename_i w hl
   obtain ⟨x,s1,h1,k1,k2,k3,k4⟩:=ot hK S0 (ha n w hl).1
   obtain ⟨y,s2,h2,am',Γ,q1,q2,q3,q4,q5,q6⟩:=ch l _ _ _ _ _ _ _ (acc:=[]) (rest:=[]) k1 (Γ0:=[]) (Δ:=own (T.w (.ic a b)) [am n] x::Δ) k3 .nil rfl (ha.hz k2.hz)
   refine ⟨(x,y),s2,h2,am',own (T.w (.ic a b)) [am n] x::Γ,q1,k2.trans q2,q3.with (Δ':=own (T.w (.ic a b)) [am n] x::(Γ++Δ)) ?_,q4,⟨Γ,by rw [q4 n w hl],q5⟩,k4.trans q6⟩
   exact q3.st.perm ((List.perm_middle).append_right _)
  cases hK
end
end Go.Am
