/- An abstract machine for the model's code, and that the model does what it does. No condition. Own work. -/
import Derived.Test.YtmchbhheoieepaaAm4ProcessErrs
import Derived.Deep.LoopGhost
set_option linter.unusedSimpArgs false
set_option linter.unusedVariables false
namespace Go.Am
open Go Go.RowKit
section
variable {P:Program} {cf:aZ} {nt:Nat} {ops:Array Oper} {Bm:List (List Bool)} {s:Nat→Nat} {as:List AOper} {st:Nat→Env×Heap} {V:Nat→AV} {B:Nat}
theorem DC.step_ok (d:DC P cf nt ops Bm s as st V) {K0 K:KM} {a0 a:Act} {w0 w:World} {listed:Array Bool} (hnt:nt≤a0.tmps.size) (I:Inv B ops Bm s as st V K0 a0 w0 listed K a w) {qi:Nat} (hi:qi∈Region.ready .any ops listed) (Q:Exit→Act→World→Prop) :
  wpOp P ops Q qi (fun a' w'=>∃ K',Inv B ops Bm s as st V K0 a0 w0 (listed.setIfInBounds qi true) K' a' w') a w:=by
 unfold Region.ready at hi
 obtain ⟨hir,hcond⟩:=List.mem_filter.1 hi
 obtain ⟨i,hin,rfl⟩:=d.sur qi (List.mem_range.1 hir)
 have hsn:=d.slt i hin
 have hisz:s i < listed.size:=by rw [I.size]; exact hsn
 have ho:=Array.getElem?_eq_getElem hsn
 have gs:∀ k,k < ops.size→(listed.setIfInBounds (s i) true).getD (s k) false=if k=i then true else listed.getD (s k) false:=by
  intro k hk
  rw [ip hisz]
  by_cases e:k=i
  ·rw [if_pos e,if_pos (by rw [e])]
  rw [if_neg e,if_neg (fun h=>e (d.inj k i hk hin h))]
 simp only [Bool.and_eq_true,Bool.not_eq_true'] at hcond
 obtain ⟨hnot,hafter⟩:=hcond
 rw [ho] at hafter
 simp only [Option.map_some,Option.getD_some,Array.all_eq_true,Bool.or_eq_true,Bool.not_eq_true'] at hafter
 have hnotf:listed.getD (s i) false=false:=by
  rw [Array.getD_eq_getD_getElem?,Array.getElem?_eq_getElem hisz] at hnot ⊢
  simpa using hnot
 obtain ⟨ao,hao,hco⟩:=d.co i _ hin ho
 obtain ⟨c1,c2,c3,c4⟩:=d4 hco
 have hil:i < as.length:=d.lt hao
  -- what must come ahead has come
 have lt:∀ {j aj},as[j]? = some aj→j < ops.size:=fun {j aj} h=>by have:=d.lt h; have:=d.len; omega
 have hbef:∀ k,k < ops.size→bef Bm k i=true→listed.getD (s k) false=true:=by
  intro k hkn hk
  rw [d.bm k i hkn hin] at hk
  obtain ⟨o,e,e1,e2,e3,e4⟩:=pN _ ops.toList rfl (s k) (s i) hk
  rw [Array.getElem?_toList,ho] at e1
  cases e1
  have hon:listed.getD e.on false=true:=by
   obtain ⟨j,hj,rfl⟩:=Array.mem_iff_getElem.1 e2
   rcases hafter j hj with h | h
   ·rw [e3] at h; cases h
   exact h
  rcases e4 with e4 | e4
  ·rw [← e4]; exact hon
  have hlt:=d.edge (s i) _ ho e e2 e3
  obtain ⟨m,hm,hme⟩:=d.sur e.on (by omega)
  rw [← hme] at hon e4
  rw [← d.bm k m hkn hm] at e4
  exact I.closed k m hkn hm e4 hon
 have hclosed:∀ k j,k < ops.size→j < ops.size→bef Bm k j=true→(listed.setIfInBounds (s i) true).getD (s j) false=true→(listed.setIfInBounds (s i) true).getD (s k) false=true:=by
  intro k j hkn hjn hk hj
  rw [gs j hjn] at hj
  rw [gs k hkn]
  by_cases e:j=i
  ·subst e
   by_cases e':k=j
   ·rw [if_pos e']
   rw [if_neg e']; exact hbef k hkn hk
  rw [if_neg e] at hj
  by_cases e':k=i
  ·rw [if_pos e']
  rw [if_neg e']; exact I.closed k j hkn hjn hk hj
 have notbef:∀ j,j < ops.size→listed.getD (s j) false=true→bef Bm i j=false:=by
  intro j hjn hj
  cases hb:bef Bm i j with
  | false=>rfl
  | true=>rw [I.closed i j hin hjn hb hj] at hnotf; cases hnotf
  -- at what it looks, all is as in the text's order
 have hreads:∀ t,t∈cE ao→d8 (fun j=>listed.getD (s j) false) V t as 0 ((st 0).1.get t)=(st i).1.get t:=by
  intro t ht
  rw [d.env_text t i (by omega)]
  refine cV as 0 _ fun j aj hj hdj=>?_
  rw [Nat.zero_add]
  rcases Nat.lt_trichotomy j i with h | h | h
  ·have:listed.getD (s j) false=true:=by
    rcases d.pairs hj hao h with hp | hp
    ·exact hbef j (lt hj) hp
    exact absurd ht (hp.2.2.1 t hdj)
   rw [this]; simp [h]
  ·subst h; rw [hnotf]; simp
  have:listed.getD (s j) false=false:=by
   cases hl:listed.getD (s j) false with
   | false=>rfl
   | true=>
    rcases d.pairs hao hj h with hp | hp
    ·rw [notbef j (lt hj) hl] at hp; cases hp
    exact absurd ht (hp.2.2.2.1 t hdj)
  rw [this]; simp; omega
 have hER:ER K (bz (st i).1 (cE ao)) a.tmps:=by
  intro t v htv
  obtain ⟨h1,h2⟩:=cZ _ _ _ _ htv
  exact I.env t v (by rw [hreads t h1]; exact h2)
 have hntA:nt≤a.tmps.size:=by rw [I.tsize]; exact hnt
  -- the frame behind it
 have henv:∀ (K':KM) (v':Value),KLe K K'→VR K' (V i) v'→∀ t v,d8 (fun j=>(listed.setIfInBounds (s i) true).getD (s j) false) V t as 0 ((st 0).1.get t)=some v→∃ x,(a.put (ops[s i]).dst v').tmps[t]? = some x∧VR K' v x:=by
  intro K' v' hle hv' t v hm
  by_cases hd:ao.dst=some t
  ·have:d8 (fun j=>(listed.setIfInBounds (s i) true).getD (s j) false) V t as 0 ((st 0).1.get t)=some (V (0+i)):=by
    refine fT as 0 i _ ao hao hd (by rw [Nat.zero_add,gs i hin,if_pos rfl]) fun j aj hij hj hdj=>?_
    rw [Nat.zero_add,gs j (lt hj),if_neg (by omega)]
    cases hl:listed.getD (s j) false with
    | false=>rfl
    | true=>
     rcases d.pairs hao hj hij with hp | hp
     ·rw [notbef j (lt hj) hl] at hp; cases hp
     exact absurd hdj (hp.2.2.2.2.1 t hd)
   rw [this,Nat.zero_add] at hm
   cases hm
   rw [c3] at hd
   have hlt:t < a.tmps.size:=by
    have:t < nt:=by rw [hd] at c4; exact Nat.le_of_ble_eq_true c4
    omega
   exact ⟨v',by rw [hd]; simp [Act.put,hlt],hv'⟩
  have:d8 (fun j=>(listed.setIfInBounds (s i) true).getD (s j) false) V t as 0 ((st 0).1.get t)=d8 (fun j=>listed.getD (s j) false) V t as 0 ((st 0).1.get t):=by
   refine cV as 0 _ fun j aj hj hdj=>?_
   rw [Nat.zero_add,gs j (lt hj)]
   by_cases e:j=i
   ·subst e; rw [hao] at hj; cases hj; exact absurd hdj hd
   rw [if_neg e]
  rw [this] at hm
  obtain ⟨x,h1,h2⟩:=I.env t v hm
  refine ⟨x,?_,VR.mono hle _ _ h2⟩
  rw [c3] at hd
  cases hdst:(ops[s i]).dst with
  | none=>simp [Act.put,h1]
  | some t'=>
   have:t'≠t:=fun e=>hd (by rw [hdst,e])
   simp [Act.put,this,h1]
 obtain ⟨p,p1,p2,p3,hsim⟩:=I.sim
  -- what doesn't act
 have quiet_inv:∀ (K':KM) (v':Value) (w':World),Below B w w'→KLe K K'→(K'=K∨(ao.k.isN=true∧ak (st i).1 ao.guard=some true∧∀ x,x≠(st i).2.n→K' x=K x))→Sim B K' (st p).2 w'→VR K' (V i) v'→
   (ao.k.isE=true→i≠p)→∃ K',Inv B ops Bm s as st V K0 a0 w0 (listed.setIfInBounds (s i) true) K' (a.put (ops[s i]).dst v') w':=by
  intro K' v' w' b1 b2 b3 b5 b6 hEf
  refine ⟨K',⟨by simp [I.size],hclosed,henv K' v' b2 b6,⟨p,p1,fun j aj hj haj hE=>?_,fun aj haj=>?_,b5⟩,fun j aj haj hN hwj hl=>?_,I.below.trans b1,I.le.trans b2,by rw [dg,I.defers],by rw [e9,I.tsize],fun x hx hn=>?_⟩⟩
  ·rw [gs j (lt haj)]
   by_cases e:j=i
   ·rw [if_pos e]
   rw [if_neg e]; exact p2 j aj hj haj hE
  ·obtain ⟨q1,q2⟩:=p3 aj haj
   refine ⟨q1,?_⟩
   rw [gs p (lt haj)]
   by_cases e:p=i
   ·subst e; rw [hao] at haj; cases haj; exact absurd rfl (hEf q1)
   rw [if_neg e]; exact q2
  ·rw [gs j (lt haj)] at hl
   by_cases e:j=i
   ·rw [if_pos e] at hl; cases hl
   rw [if_neg e] at hl
   have hold:=I.fresh j aj haj hN hwj hl
   rcases b3 with b3 | ⟨hNi,hwi,b3⟩
   ·rw [b3]; exact hold
   rw [b3 _ (d.ids haj hao hN hwj hNi hwi e)]; exact hold
  have hx':=I.old x hx hn
  rcases b3 with b3 | ⟨hNi,hwi,b3⟩
  ·rw [b3]; exact hx'
  have:=d.mono' i 0 (by omega)
  rw [Nat.zero_add] at this
  rw [b3 _ (by omega)]; exact hx'
 unfold wpOp
 rw [ho]
 simp only
 have hwg:∀ b,ak (st i).1 ao.guard=some b→Region.wanted ops[s i] (yielded ops a.tmps)=b:=fun b hb=>jD hER c1 (by rw [jk]; exact hb)
 rcases d.step i ao hao with ⟨hw,s1,s2,s3⟩ | ⟨hw,xs,s2,s3,s4⟩
 ·-- it isn't asked for
  rw [hwg false hw]
  simp only [Bool.false_eq_true,if_false]
  by_cases hE:ao.k.isE=true∧i=p
  ·-- an acting one that isn't asked for: the next one that acts
   obtain ⟨hE,rfl⟩:=hE
   obtain ⟨p',q1,q2,q3,q4⟩:=d.next (ops.size - (i+1)) (i+1) (by omega)
   have hs1:Sim B K (st (i+1)).2 w:=by rw [s3]; exact hsim
   have hs2:Sim B K (st p').2 w:=by
    have:=d.forward (Φ:=fun h=>Sim B K h w) (fun h ob hh=>hh.push ob) (p' - (i+1)) (i+1) (by omega) (fun j aj h1 h2 h3=>q3 j aj h1 (by omega) h3) hs1
    rwa [show i+1+(p' - (i+1))=p' by omega] at this
   refine ⟨K,⟨by simp [I.size],hclosed,henv K _ (KLe.refl _) (by rw [s2]; exact VR.undef),⟨p',q2,fun j aj hj haj hE'=>?_,fun aj haj=>⟨q4 aj haj,?_⟩,hs2⟩,fun j aj haj hN hwj hl=>?_,I.below,I.le,by rw [dg,I.defers],by rw [e9,I.tsize],I.old⟩⟩
   ·rw [gs j (lt haj)]
    by_cases e:j=i
    ·rw [if_pos e]
    rw [if_neg e]
    rcases Nat.lt_or_ge j i with h | h
    ·exact p2 j aj h haj hE'
    rw [q3 j aj (by omega) hj haj] at hE'; cases hE'
   ·rw [gs p' (lt haj),if_neg (by omega)]
    cases hl:listed.getD (s p') false with
    | false=>rfl
    | true=>
     rcases d.pairs hao haj (by omega) with hp | hp
     ·rw [notbef p' (lt haj) hl] at hp; cases hp
     exact absurd ⟨hE,q4 aj haj⟩ hp.2.2.2.2.2.1
   rw [gs j (lt haj)] at hl
   by_cases e:j=i
   ·rw [if_pos e] at hl; cases hl
   rw [if_neg e] at hl; exact I.fresh j aj haj hN hwj hl
  exact quiet_inv K _ w (Below.refl _ _) (KLe.refl _) (.inl rfl) hsim (by rw [s2]; exact VR.undef) (fun h e=>hE ⟨h,e⟩)
 rw [hwg true hw]
 simp only [if_true]
 left
 have hev:evs (bz (st i).1 (cE ao)) ao.xs=some xs:=by rw [lZ]; exact s2
   -- what acts, of what isn't listed
 have hEp:ao.k.isE=true→i=p:=by
  intro hE
  rcases Nat.lt_trichotomy i p with h | h | h
  ·rw [p2 i ao h hao hE] at hnotf; cases hnotf
  ·exact h
  have hpl:p < as.length:=by omega
  have hp0:=List.getElem?_eq_getElem hpl
  obtain ⟨q1,q2⟩:=p3 _ hp0
  rcases d.pairs hp0 hao h with hp | hp
  ·rw [hbef p (by omega) hp] at q2; cases q2
  exact absurd ⟨q1,hE⟩ hp.2.2.2.2.2.1
 by_cases hE:ao.k.isE=true
 ·have hip:=hEp hE
  subst hip
  refine wu d.cfOk hER hsim hco hntA hev hE s3 (fun K' v' w' k1 k2 k3 k4 k5=>?_)
  obtain ⟨p',q1,q2,q3,q4⟩:=d.next (ops.size - (i+1)) (i+1) (by omega)
  have hs2:Sim B K' (st p').2 w':=by
   have:=d.forward (Φ:=fun h=>Sim B K' h w') (fun h ob hh=>hh.push ob) (p' - (i+1)) (i+1) (by omega) (fun j aj h1 h2 h3=>q3 j aj h1 (by omega) h3) k3
   rwa [show i+1+(p' - (i+1))=p' by omega] at this
  refine ⟨K',⟨by simp [I.size],hclosed,henv K' v' k2 k4,⟨p',q2,fun j aj hj haj hE'=>?_,fun aj haj=>⟨q4 aj haj,?_⟩,hs2⟩,fun j aj haj hN hwj hl=>?_,I.below.trans k1,I.le.trans k2,by rw [dg,I.defers],by rw [e9,I.tsize],fun x hx hn=>?_⟩⟩
  ·rw [gs j (lt haj)]
   by_cases e:j=i
   ·rw [if_pos e]
   rw [if_neg e]
   rcases Nat.lt_or_ge j i with h | h
   ·exact p2 j aj h haj hE'
   rw [q3 j aj (by omega) hj haj] at hE'; cases hE'
  ·rw [gs p' (lt haj),if_neg (by omega)]
   cases hl:listed.getD (s p') false with
   | false=>rfl
   | true=>
    rcases d.pairs hao haj (by omega) with hp | hp
    ·rw [notbef p' (lt haj) hl] at hp; cases hp
    exact absurd ⟨hE,q4 aj haj⟩ hp.2.2.2.2.2.1
  ·rw [gs j (lt haj)] at hl
   by_cases e:j=i
   ·rw [if_pos e] at hl; cases hl
   rw [if_neg e] at hl
   rcases Nat.lt_or_ge j i with h | h
   ·rcases d.pairs haj hao h with hp | hp
    ·rw [hbef j (lt haj) hp] at hl; cases hl
    have h1:=d.mono' (i - (j+1)) (j+1) (by omega)
    rw [show j+1+(i - (j+1))=i by omega,d.grows haj hN hwj] at h1
    exact k5 _ (by omega) (I.fresh j aj haj hN hwj hl)
   have h1:=d.mono' (j - (i+1)) (i+1) (by have:=d.lt haj; have:=d.len; omega)
   rw [show i+1+(j - (i+1))=j by omega] at h1
   cases hk:K' (st j).2.n with
   | none=>rfl
   | some inf=>have:=k3.dom _ _ hk; omega
  have:=d.mono' i 0 (by omega)
  rw [Nat.zero_add] at this
  exact k5 x (by omega) (I.old x hx hn)
 -- nothing that acts stands between
 have hEf:ao.k.isE=false:=by simpa using hE
 cases hk:ao.k with
 | p q=>
  rw [hk] at s3 c2
  simp only [AK.ev] at s3
  split at s3
  ·rename_i u hu
   simp only [Option.some.injEq,Prod.mk.injEq] at s3
   obtain ⟨s5,s6⟩:=s3
   obtain ⟨v',k1,k2⟩:=xe (P:=P) (w:=w) hER c2 hev hu
   exact ct (.inl k1) (quiet_inv K v' w (Below.refl _ _) (KLe.refl _) (.inl rfl) hsim (by rw [← s5]; exact k2) (fun h=>absurd h hE))
  cases s3
 | r q=>
  rw [hk] at s3 c2
  simp only [AK.ev] at s3
  split at s3
  ·rename_i u hu
   simp only [Option.some.injEq,Prod.mk.injEq] at s3
   obtain ⟨s5,s6⟩:=s3
   obtain ⟨l,hl⟩:=nI c2
   have hops:=aD hER hl hev
   have hR:ao.k.isR=true:=by rw [hk]; rfl
   have hchk:=fun x hx=>d.chk i x hx ao q xs u hao hw hk s2 hu
   have hval:q.ev xs (st p).2=some u:=by
    rcases Nat.lt_or_ge i p with hip | hip
    ·have up:∀ m,i+m≤p→q.ev xs (st (i+m)).2=some u:=by
      intro m
      induction m with
      | zero=>intro _; exact hu
      | succ m ih=>
       intro hm
       have h1:=ih (by omega)
       have hkl:i+m < as.length:=by rw [d.len]; omega
       have h2:=List.getElem?_eq_getElem hkl
       cases hEk:as[i+m].k.isE with
       | true=>
        have hlst:=p2 (i+m) _ (by omega) h2 hEk
        have hm0:m≠0:=fun e=>by
         subst e
         simp only [Nat.add_zero] at h2 hEk
         rw [hao] at h2
         have:=Option.some.inj h2
         rw [← this] at hEk
         exact hE hEk
        have:=(fO (B:=Bm) hao h2 (by omega) (notbef _ (lt h2) hlst)).1 hR hEk
        exact (hchk _ this).2
       | false=>
        rcases d.quiet _ _ h2 hEk with h3 | ⟨_,ob,h3⟩
        ·rw [show i+(m+1)=i+m+1 by omega,h3]; exact h1
        rw [show i+(m+1)=i+m+1 by omega,h3]; exact vJ h1
     have:=up (p - i) (by omega)
     rwa [show i+(p - i)=p by omega] at this
    have down:∀ m k,k+m=i→p≤k→q.ev xs (st k).2=some u:=by
     intro m
     induction m with
     | zero=>intro k hk' _; rw [show k=i by omega]; exact hu
     | succ m ih=>
      intro k hk' hpk
      have h1:=ih (k+1) (by omega) (by omega)
      have hkl:k < as.length:=by omega
      have h2:=List.getElem?_eq_getElem hkl
      have hpl:p < as.length:=by omega
      have hp0:=List.getElem?_eq_getElem hpl
      obtain ⟨q1,q2⟩:=p3 _ hp0
      have hnl:as[k].k.isE=true∨as[k].k.isN=true→listed.getD (s k) false=false:=by
       intro hEN
       cases hlk:listed.getD (s k) false with
       | false=>rfl
       | true=>
        rcases Nat.lt_or_ge p k with h | h
        ·rcases d.pairs hp0 h2 h with hp | hp
         ·rw [I.closed p k (by omega) (lt h2) hp hlk] at q2; cases q2
         rcases hEN with hEN | hEN
         ·exact absurd ⟨q1,hEN⟩ hp.2.2.2.2.2.1
         exact absurd ⟨q1,hEN⟩ hp.2.2.2.2.2.2.1
        have:k=p:=by omega
        subst this
        rw [q2] at hlk; cases hlk
      cases hEk:as[k].k.isE with
      | true=>
       have hnk:=hnl (.inl hEk)
       have hnb:bef Bm k i=false:=by
        cases hb:bef Bm k i with
        | false=>rfl
        | true=>rw [hbef k (lt h2) hb] at hnk; cases hnk
       have:=(fO (B:=Bm) h2 hao (by omega) hnb).2 hEk hR
       exact (hchk _ this).1
      | false=>
       rcases d.quiet _ _ h2 hEk with h3 | ⟨hNk,ob,h3⟩
       ·rw [h3] at h1; exact h1
       rw [h3] at h1
       have hwk:ak (st k).1 as[k].guard=some true:=by
        rcases d.step k _ h2 with ⟨_,_,_,h4⟩ | ⟨h4,_⟩
        ·rw [h4] at h3
         have:(st k).2.n=((st k).2.push ob).n:=by rw [← h3]
         rw [Heap.n_push] at this
         omega
        exact h4
       exact qH hops (I.fresh k _ h2 hNk hwk (hnl (.inr hNk))) h1
    exact down (i - p) p (by omega) (Nat.le_refl _)
   obtain ⟨v',k1,k2⟩:=wI (P:=P) hsim hER c2 hev hval
   exact ct (.inl k1) (quiet_inv K v' w (Below.refl _ _) (KLe.refl _) (.inl rfl) hsim (by rw [← s5]; exact k2) (fun h=>absurd h hE))
  cases s3
 | n q=>
  rw [hk] at s3 c2
  simp only [AK.ev] at s3
  split at s3
  ·rename_i ob hob
   simp only [Option.some.injEq,Prod.mk.injEq] at s3
   obtain ⟨s5,s6⟩:=s3
   have hN:ao.k.isN=true:=by rw [hk]; rfl
   have hip:i < p:=by
    rcases Nat.lt_or_ge i p with h | h
    ·exact h
    exfalso
    have hpl:p < as.length:=by omega
    have hp0:=List.getElem?_eq_getElem hpl
    obtain ⟨q1,q2⟩:=p3 _ hp0
    have hne:p≠i:=fun e=>by subst e; rw [hao] at hp0; cases hp0; exact hE q1
    rcases d.pairs hp0 hao (by omega) with hp | hp
    ·rw [hbef p (by omega) hp] at q2; cases q2
    exact hp.2.2.2.2.2.2.1 ⟨q1,hN⟩
   have hbetween:ao.k.isC=true→∀ j aj,i < j→j < p→as[j]? = some aj→aj.k.isE=false:=by
    intro hC j aj h1 h2 h3
    cases hEj:aj.k.isE with
    | false=>rfl
    | true=>
     have hl:=p2 j aj h2 h3 hEj
     rcases d.pairs hao h3 h1 with hp | hp
     ·rw [notbef j (lt h3) hl] at hp; cases hp
     exact absurd ⟨hN,hC,hEj⟩ hp.2.2.2.2.2.2.2
   have hget:(st p).2.get (st i).2.n=some ob:=by
    have up:∀ m,i+1+m≤p→(st (i+1+m)).2.get (st i).2.n=some ob:=by
     intro m
     induction m with
     | zero=>intro _; rw [Nat.add_zero,← s6,Heap.get_push,if_pos rfl]
     | succ m ih=>
      intro hm
      have h1:=ih (by omega)
      have hkl:i+1+m < as.length:=by rw [d.len]; omega
      have h2:=List.getElem?_eq_getElem hkl
      cases hEk:as[i+1+m].k.isE with
      | true=>
       have hlst:=p2 (i+1+m) _ (by omega) h2 hEk
       exact d.chkN i (i+1+m) (jJ hao h2 (by omega) (notbef _ (lt h2) hlst) hN hEk) ao q hao hw hk ob h1
      | false=>
       rcases d.quiet _ _ h2 hEk with h3 | ⟨_,ob',h3⟩
       ·rw [show i+1+(m+1)=i+1+m+1 by omega,h3]; exact h1
       rw [show i+1+(m+1)=i+1+m+1 by omega,h3]; exact bg h1
    have:=up (p - (i+1)) (by omega)
    rwa [show i+1+(p - (i+1))=p by omega] at this
   have hobp:q.ob xs (st p).2=some ob:=by
    cases hC:ao.k.isC with
    | false=>rw [rX (by rw [← hk]; exact hC) xs _ (st i).2]; exact hob
    | true=>
     have:=d.forward (Φ:=fun h=>q.ob xs h=some ob) (fun h ob' hh=>pv hh) (p - i) i (by omega) (fun j aj h1 h2 h3=>by
      by_cases e:j=i
      ·subst e; rw [hao] at h3; cases h3; exact hEf
      exact hbetween hC j aj (by omega) (by omega) h3) hob
     rwa [show i+(p - i)=p by omega] at this
   have hlt:(st i).2.n < (st p).2.n:=by
    have h1:=d.mono' (p - (i+1)) (i+1) (by omega)
    rw [show i+1+(p - (i+1))=p by omega,← s6,Heap.n_push] at h1
    omega
   obtain ⟨v',w',K',k1,k2,k3,k4,k5,k6⟩:=v6 (P:=P) (id:=(st i).2.n) hsim hER c2 hev hobp (I.fresh i ao hao hN hw hnotf) hget hlt
   exact ct k1 (quiet_inv K' v' w' k2 k3 (.inr ⟨hN,hw,k4⟩) k5 (by rw [← s5]; exact k6) (fun h=>absurd h hE))
  cases s3
 | e q=>rw [hk] at hE; exact absurd rfl hE
 | call f=>rw [hk] at hE; exact absurd rfl hE
 | callV=>rw [hk] at hE; exact absurd rfl hE
 | callM tb=>rw [hk] at hE; exact absurd rfl hE
end
end Go.Am
namespace Go.Am
open Go Go.RowKit
def jO (cf:aZ):Prop:=∀ (f:Nat) (xs:List AV) (h:Heap) (v:AV) (h':Heap),cf f xs h=some (v,h')→h.n≤h'.n
theorem jq {cf:aZ} (hm:jO cf) {ao:AOper} {e e1:Env} {h h1:Heap} (hs:aP cf ao e h=some (e1,h1)):h.n≤h1.n:=by
 rcases fV hs with ⟨_,_,rfl⟩ | ⟨_,xs,v,_,hv,_⟩
 ·exact Nat.le_refl _
 have hc:(∃ f ys,cf f ys h=some (v,h1))→h.n≤h1.n:=fun ⟨f,ys,hh⟩=>hm f ys h v h1 hh
 cases hk:ao.k with
 | p q=>
  rw [hk] at hv
  simp only [AK.ev] at hv
  split at hv<;>cases hv
  exact Nat.le_refl _
 | r q=>
  rw [hk] at hv
  simp only [AK.ev] at hv
  split at hv<;>cases hv
  exact Nat.le_refl _
 | n q=>
  rw [hk] at hv
  simp only [AK.ev] at hv
  split at hv<;>cases hv
  simp [Heap.n_push]
 | e q=>rw [hk] at hv; exact Ft hv
 | call f=>
  rw [hk] at hv
  simp only [AK.ev] at hv
  split at hv
  ·exact hc ⟨_,_,hv⟩
  cases hv
 | callV=>
  rw [hk] at hv
  simp only [AK.ev] at hv
  split at hv
  ·exact hc ⟨_,_,hv⟩
  cases hv
 | callM tb=>
  rw [hk] at hv
  simp only [AK.ev] at hv
  split at hv
  ·exact hc ⟨_,_,hv⟩
  cases hv
theorem eX {cf:aZ} (hm:jO cf):∀ (as:List AOper) {e e1:Env} {h h1:Heap},aG cf as e h=some (e1,h1)→h.n≤h1.n
 | [],e,e1,h,h1,hr=>by cases hr; exact Nat.le_refl _
 | ao::as,e,e1,h,h1,hr=>by
  simp only [aG] at hr
  split at hr
  ·cases hr
  rename_i e' h' hs
  exact Nat.le_trans (jq hm hs) (eX hm as hr)
section
variable {P:Program} {B:Nat}
theorem After.trans {K K1 K2:KM} {a a1 a2:Act} {w w1 w2:World} {e1 e2:Env} {H H1 H2:Heap} (h:After B K a w e1 H H1 K1 a1 w1) (k:After B K1 a1 w1 e2 H1 H2 K2 a2 w2) (hm:H.n≤H1.n):After B K a w e2 H H2 K2 a2 w2:=
 ⟨h.below.trans k.below,h.le.trans k.le,k.er,k.sim,k.defers.trans h.defers,k.size.trans h.size,fun x hx hn=>k.fresh x (by omega) (h.fresh x hx hn)⟩
theorem After.refl {K:KM} {a:Act} {w:World} {e:Env} {H:Heap} (he:ER K e a.tmps) (hs:Sim B K H w):After B K a w e H H K a w:=
 ⟨Below.refl _ _,KLe.refl _,he,hs,rfl,rfl,fun _ _ h=>h⟩
theorem w8 {cf:aZ} (hcf:Bq P cf) (hm:jO cf) {nt:Nat} {ops:Array Oper}:∀ (l:List Oper) (as:List AOper) {e e1:Env} {H H1:Heap} {K:KM} {a:Act} {w:World} {Q:Exit→Act→World→Prop},ef P nt ops.toList l=some as→aG cf as e H=some (e1,H1)→
  ER K e a.tmps→Sim B K H w→nt≤a.tmps.size→(∀ K' a' w',After B K a w e1 H H1 K' a' w'→Q .normal a' w')→wpList P ops Q l a w
 | [],as,e,e1,H,H1,K,a,w,Q,hc,hr,he,hs,_,hQ=>by
  cases hc; cases hr
  exact hQ K a w (After.refl he hs)
 | o::l,as,e,e1,H,H1,K,a,w,Q,hc,hr,he,hs,hnt,hQ=>by
  simp only [ef] at hc
  split at hc
  ·cases hc
  rename_i ao hao
  split at hc
  ·cases hc
  rename_i as' has
  cases hc
  simp only [aG] at hr
  split at hr
  ·cases hr
  rename_i e' h' hst
  unfold wpList
  exact step_ok hcf he hs hao hnt hst (fun K' a' w' hA=>w8 hcf hm l as' has hr hA.er hA.sim (by rw [hA.size]; exact hnt) (fun K'' a'' w'' hA'=>hQ K'' a'' w'' (hA.trans hA' (jq hm hst))))
theorem ji {nt:Nat} {opsL:List Oper}:∀ (l:List Oper) (as:List AOper),ef P nt opsL l=some as→as.length=l.length∧∀ (i:Nat) (o:Oper),l[i]? = some o→∃ ao,as[i]? = some ao∧dC P nt opsL o=some ao
 | [],as,h=>by cases h; exact ⟨rfl,fun i o hi=>by simp at hi⟩
 | o::l,as,h=>by
  simp only [ef] at h
  split at h
  ·cases h
  rename_i ao hao
  split at h
  ·cases h
  rename_i as' has
  cases h
  obtain ⟨h1,h2⟩:=ji l as' has
  refine ⟨by simp [h1],fun i o' hi=>?_⟩
  cases i with
  | zero=>simp at hi; subst hi; exact ⟨ao,rfl,hao⟩
  | succ i=>exact h2 i o' (by simpa using hi)
theorem jX {cf:aZ}:∀ (as:List AOper) {e e1:Env} {h h1:Heap},aG cf as e h=some (e1,h1)→
  (trace cf as e h)[0]? = some (e,h)∧(trace cf as e h)[as.length]? = some (e1,h1)∧∀ (i:Nat) (ao:AOper),as[i]? = some ao→∃ s s',(trace cf as e h)[i]? = some s∧(trace cf as e h)[i+1]? = some s'∧aP cf ao s.1 s.2=some s'
 | [],e,e1,h,h1,hr=>by cases hr; exact ⟨rfl,rfl,fun i ao hi=>by simp at hi⟩
 | ao::as,e,e1,h,h1,hr=>by
  simp only [aG] at hr
  split at hr
  ·cases hr
  rename_i e' h' hs
  obtain ⟨t1,t2,t3⟩:=jX as hr
  simp only [trace,hs]
  refine ⟨rfl,by simpa using t2,fun i ao' hi=>?_⟩
  cases i with
  | zero=>
   simp at hi; subst hi
   exact ⟨(e,h),(e',h'),rfl,by simpa using t1,hs⟩
  | succ i=>
   obtain ⟨s,s',g1,g2,g3⟩:=t3 i ao' (by simpa using hi)
   exact ⟨s,s',by simpa using g1,by simpa using g2,g3⟩
theorem jA {v:AV} {x:Option AV} (h:jx v x=true):x=some v:=by
 cases x with
 | none=>cases h
 | some u=>rw [AV.eq_of_beq v u h]
theorem lW {as:List AOper}:∀ {o:List Nat},(∀ x,x∈o→x < as.length)→(h8 o as).length=o.length∧∀ i,i < o.length→(h8 o as)[i]? = as[o.getD i 0]?
 | [],_=>⟨rfl,fun i hi=>by cases hi⟩
 | x::o,h=>by
  have hx:=h x (by simp)
  obtain ⟨h1,h2⟩:=lW (o:=o) (fun y hy=>h y (by simp [hy]))
  have e:h8 (x::o) as=as[x]::h8 o as:=by
   unfold h8
   rw [List.filterMap_cons,List.getElem?_eq_getElem hx]
  rw [e]
  refine ⟨by simp [h1],fun i hi=>?_⟩
  cases i with
  | zero=>simp [hx]
  | succ i=>
   rw [List.getElem?_cons_succ,h2 i (by simpa using hi)]
   rfl
theorem rt {o:List Nat} {B:List (List Bool)} {i j:Nat} (hi:i < o.length) (hj:j < o.length):bef (mI o B) i j=bef B (o.getD i 0) (o.getD j 0):=by
 have e1:(o.map fun j=>o.map fun i=>bef B i j).getD j []=o.map fun i=>bef B i (o.getD j 0):=by
  rw [List.getD_eq_getElem?_getD,List.getElem?_map,List.getElem?_eq_getElem hj]
  simp [List.getD_eq_getElem?_getD,List.getElem?_eq_getElem hj]
 show ((o.map fun j=>o.map fun i=>bef B i j).getD j []).getD i false=_
 rw [e1,List.getD_eq_getElem?_getD,List.getElem?_map,List.getElem?_eq_getElem hi]
 simp [List.getD_eq_getElem?_getD,List.getElem?_eq_getElem hi]
theorem nn {o:List Nat} {n:Nat} (h:o7 o n=true):o.length=n∧(∀ q,q < n→∃ i,i < n∧o.getD i 0=q)∧(∀ i,i < n→o.getD i 0 < n)∧(∀ i j,i < n→j < n→o.getD i 0=o.getD j 0→i=j):=by
 unfold o7 at h
 simp only [Bool.and_eq_true] at h
 obtain ⟨h1,h2,h3,h4⟩:=h
 refine ⟨Nat.eq_of_beq_eq_true h1,fun q hq=>?_,fun i hi=>?_,fun i j hi hj he=>?_⟩
 ·obtain ⟨i,hi,e⟩:=List.any_eq_true.1 (List.all_eq_true.1 h2 q (List.mem_range.2 hq))
  exact ⟨i,List.mem_range.1 hi,Nat.eq_of_beq_eq_true e⟩
 ·exact Nat.le_of_ble_eq_true (List.all_eq_true.1 h3 i (List.mem_range.2 hi))
 rcases Nat.lt_trichotomy i j with h | h | h
 ·have:=dJ h4 h hj
  rw [he] at this; simp at this
 ·exact h
 have:=dJ h4 h hi
 rw [he] at this; simp at this
theorem jT {opsL:List Oper} {as:List AOper} {o:List Nat} {c:ACode} (h:kj opsL as o=some c):o7 o as.length=true∧rg opsL=true∧eZ as.length (pa (mI o (aS opsL)) (h8 o as))=true∧c=.dregion (h8 o as) (bq (mI o (aS opsL)) (h8 o as)):=by
 unfold kj at h
 split at h
 ·rename_i hb
  simp only [Bool.and_eq_true] at hb
  exact ⟨hb.1,hb.2.1,hb.2.2,(Option.some.inj h).symm⟩
 cases h
theorem mw {nt:Nat} {opsL:List Oper} {c:ACode} (h:sd P nt opsL=some c):∃ as o,ef P nt opsL opsL=some as∧kj opsL as o=some c:=by
 unfold sd at h
 split at h
 ·cases h
 rename_i as has
 split at h
 ·rename_i c' hc; cases h; exact ⟨as,_,has,hc⟩
 split at h
 ·rename_i c' hc; cases h; exact ⟨as,_,has,hc⟩
 exact ⟨as,_,has,h⟩
theorem mA {a b:Option AObj} {ob:AObj} (h:br a b=true) (ha:a=some ob):b=some ob:=by
 subst ha
 unfold br at h
 split at h
 ·rename_i cs v cs' v' e
  cases e
  simp only [Bool.and_eq_true] at h
  rw [AV.eq_of_beqs _ _ h.1,Nat.eq_of_beq_eq_true h.2]
 ·rename_i s p s' p' e
  cases e
  simp only [Bool.and_eq_true] at h
  rw [Nat.eq_of_beq_eq_true h.2,eq_of_beq h.1]
 cases h
theorem yc {cf:aZ} (hcf:Bq P cf) (hm:jO cf) (hfol:P.follows .mixedOrders=true) {nt id:Nat} {ops:Array Oper} {as:List AOper} {ps:List (Nat×Nat)} {e e1:Env} {H H1:Heap} {K:KM} {a:Act} {w:World} {Q:Exit→Act→World→Prop}
  (hc:sd P nt ops.toList=some (.dregion as ps)) (hr:aG cf as e H=some (e1,H1)) (hchk:ps.all (aY as (trace cf as e H))=true)
  (he:ER K e a.tmps) (hs:Sim B K H w) (hnt:nt≤a.tmps.size) (hQ:∀ K' a' w',After B K a w e1 H H1 K' a' w'→Q .normal a' w'):(Code.region id ops true).wp P Q a w:=by
 obtain ⟨as',o,has,hcd⟩:=mw hc
 obtain ⟨hperm,hedge,hpair,hcc⟩:=jT hcd
 simp only [ACode.dregion.injEq] at hcc
 obtain ⟨eas,eps⟩:=hcc
 obtain ⟨l1,l2⟩:=ji _ _ has
 have hnn:as'.length=ops.size:=by rw [l1]; simp
 obtain ⟨o1,o2,o3,o4⟩:=nn hperm
 rw [hnn] at o1 o2 o3 o4 hpair
 obtain ⟨g1,g2⟩:=lW (as:=as') (o:=o) (fun x hx=>by
  obtain ⟨j,hj⟩:=List.mem_iff_getElem?.1 hx
  have hjn:=(List.getElem?_eq_some_iff.1 hj).1
  have:=o3 j (by omega)
  rw [List.getD_eq_getElem?_getD,hj] at this
  rw [hnn]; exact this)
 rw [← eas] at g1 g2 hpair
 rw [← eas] at eps
 obtain ⟨t1,t2,t3⟩:=jX as hr
 let st:Nat→Env×Heap:=fun i=>((trace cf as e H)[i]?).getD (e,H)
 have hst:∀ (i:Nat) (ao:AOper),as[i]? = some ao→aP cf ao (st i).1 (st i).2=some (st (i+1)):=by
  intro i ao hi
  obtain ⟨s,s',g1,g2,g3⟩:=t3 i ao hi
  simp only [st,g1,g2,Option.getD_some]; exact g3
 have hV:∀ i,∃ v,∀ ao,as[i]? = some ao→ri cf ao (st i) v (st (i+1)):=by
  intro i
  cases hi:as[i]? with
  | none=>exact ⟨.undef,fun ao h=>by cases h⟩
  | some ao=>
   obtain ⟨v,hv⟩:=Cn (hst i ao hi)
   exact ⟨v,fun ao' h=>by cases h; exact hv⟩
 obtain ⟨V,hV⟩:=Classical.axiomOfChoice hV
 have hlen:as.length=ops.size:=by omega
 have hst0:st 0=(e,H):=by simp only [st,t1,Option.getD_some]
 have hstn:st ops.size=(e1,H1):=by rw [← hlen]; simp only [st,t2,Option.getD_some]
 have d:DC P cf nt ops (mI o (aS ops.toList)) (fun i=>o.getD i 0) as st V:={
  cfOk:=hcf
  len:=hlen
  inj:=o4
  sur:=o2
  bm:=fun i j hi hj=>rt (by omega) (by omega)
  slt:=o3
  co:=fun i op hi ho=>by
   obtain ⟨ao,q1,q2⟩:=l2 (o.getD i 0) op (by rw [Array.getElem?_toList]; exact ho)
   exact ⟨ao,by rw [g2 i (by omega)]; exact q1,q2⟩
  step:=fun i ao hi=>hV i ao hi
  mono:=fun i ao hi=>jq hm (show aP cf ao (st i).1 (st i).2=some ((st (i+1)).1,(st (i+1)).2) from hst i ao hi)
  quiet:=fun i ao hi hE=>kv (show aP cf ao (st i).1 (st i).2=some ((st (i+1)).1,(st (i+1)).2) from hst i ao hi) hE
  pair:=fun i j hij hj=>dJ hpair hij hj
  edge:=fun i o ho ed hed hbd=>by
   have hi:i < ops.toList.length:=by
    rcases Nat.lt_or_ge i ops.size with h | h
    ·simpa using h
    rw [Array.getElem?_eq_none h] at ho; cases ho
   have h1:=List.all_eq_true.1 hedge i (List.mem_range.2 hi)
   rw [Array.getElem?_toList,ho] at h1
   simp only at h1
   obtain ⟨j,hj,rfl⟩:=Array.mem_iff_getElem.1 hed
   have h2:=Array.all_eq_true.1 h1 j hj
   rw [hbd] at h2
   simp only [Bool.not_true,Bool.false_or] at h2
   exact Nat.le_of_ble_eq_true h2
  chk:=fun r x hrx ao q xs v hao hw hk hev hv=>by
   have h1:=List.all_eq_true.1 hchk (r,x) (by rw [eps]; exact hrx)
   obtain ⟨s,s',g1,g2,g3⟩:=t3 r ao hao
   have hsr:st r=s:=by simp only [st,g1,Option.getD_some]
   rw [hsr] at hw hev hv
   obtain ⟨se,sh⟩:=s
   unfold aY at h1
   simp only [hao,g1] at h1
   cases hx1:(trace cf as e H)[x]? with
   | none=>rw [hx1] at h1; cases h1
   | some sx=>
    cases hx2:(trace cf as e H)[x+1]? with
    | none=>rw [hx1,hx2] at h1; cases h1
    | some sx'=>
     have e1:st x=sx:=by simp only [st,hx1,Option.getD_some]
     have e2:st (x+1)=sx':=by simp only [st,hx2,Option.getD_some]
     rw [e1,e2]
     rw [hx1,hx2] at h1
     simp only at hw hev hv h1
     rw [hw] at h1
     simp only at h1
     rw [hk,hev] at h1
     simp only at h1
     rw [hv] at h1
     simp only [Bool.and_eq_true] at h1
     exact ⟨jA h1.1,jA h1.2⟩
  chkN:=fun r x hrx ao q hao hw hk ob hob=>by
   have h1:=List.all_eq_true.1 hchk (r,x) (by rw [eps]; exact hrx)
   obtain ⟨s,s',g1,g2,g3⟩:=t3 r ao hao
   have hsr:st r=s:=by simp only [st,g1,Option.getD_some]
   rw [hsr] at hw hob ⊢
   obtain ⟨se,sh⟩:=s
   unfold aY at h1
   simp only [hao,g1] at h1
   cases hx1:(trace cf as e H)[x]? with
   | none=>rw [hx1] at h1; cases h1
   | some sx=>
    cases hx2:(trace cf as e H)[x+1]? with
    | none=>rw [hx1,hx2] at h1; cases h1
    | some sx'=>
     have e1:st x=sx:=by simp only [st,hx1,Option.getD_some]
     have e2:st (x+1)=sx':=by simp only [st,hx2,Option.getD_some]
     rw [e1] at hob
     rw [e2]
     rw [hx1,hx2] at h1
     simp only at hw h1
     rw [hw] at h1
     simp only at h1
     rw [hk] at h1
     simp only at h1
     exact mA h1 hob }
 have fin:∀ (listed:Array Bool) (K':KM) (a':Act) (w':World),Inv B ops (mI o (aS ops.toList)) (fun i=>o.getD i 0) as st V K a w listed K' a' w'→Region.ready .any ops listed=[]→Q .normal a' w':=by
  intro listed K' a' w' I hready
  have hall:∀ m i,i < m→i < ops.size→listed.getD i false=true:=by
   intro m
   induction m with
   | zero=>intro i hi _; omega
   | succ m ih=>
    intro i hi hin
    cases hl:listed.getD i false with
    | true=>rfl
    | false=>
     exfalso
     have ho:=Array.getElem?_eq_getElem hin
     have hisz:i < listed.size:=by rw [I.size]; exact hin
     have hm:i∈Region.ready .any ops listed:=by
      unfold Region.ready
      refine List.mem_filter.2 ⟨List.mem_range.2 hin,?_⟩
      simp only [Bool.and_eq_true,Bool.not_eq_true']
      constructor
      ·rw [Array.getD_eq_getD_getElem?,Array.getElem?_eq_getElem hisz] at hl ⊢
       simpa using hl
      rw [ho]
      simp only [Option.map_some,Option.getD_some,Array.all_eq_true,Bool.or_eq_true,Bool.not_eq_true']
      intro j hj
      cases hb:Region.binds .any (ops[i].after[j]) with
      | false=>exact .inl rfl
      | true=>
       right
       have:=d.edge i _ ho _ (Array.getElem_mem hj) hb
       exact ih _ (by omega) (by omega)
     rw [hready] at hm
     cases hm
  obtain ⟨p,p1,p2,p3,hsim⟩:=I.sim
  have hpn:p=ops.size:=by
   rcases Nat.lt_or_ge p ops.size with h | h
   ·have hp0:=List.getElem?_eq_getElem (show p < as.length by omega)
    have:=(p3 _ hp0).2
    rw [hall (o.getD p 0+1) (o.getD p 0) (by omega) (o3 p h)] at this
    cases this
   omega
  subst hpn
  rw [hstn] at hsim
  refine hQ K' a' w' ⟨I.below,I.le,fun t v ht=>?_,hsim,I.defers,I.tsize,fun x hx hn=>I.old x (by rw [hst0]; exact hx) hn⟩
  refine I.env t v ?_
  have h1:(st ops.size).1.get t=some v:=by rw [hstn]; exact ht
  rw [d.env_text t ops.size (by omega)] at h1
  rw [← h1]
  refine cV as 0 _ fun j aj hj _=>?_
  have:=d.lt hj
  rw [Nat.zero_add,hall (o.getD j 0+1) (o.getD j 0) (by omega) (o3 j (by omega))]
  simp; omega
 have all:∀ (fuel:Nat) (listed:Array Bool) (K':KM) (a':Act) (w':World),Inv B ops (mI o (aS ops.toList)) (fun i=>o.getD i 0) as st V K a w listed K' a' w'→(List.range ops.size).countP (fun i=>!listed.getD i false)≤fuel→wpAny P .any ops Q fuel listed a' w':=by
  intro fuel
  induction fuel with
  | zero=>
   intro listed K' a' w' I hcnt
   have hready:Region.ready .any ops listed=[]:=by
    rw [List.eq_nil_iff_forall_not_mem]
    intro i hi
    unfold Region.ready at hi
    obtain ⟨h1,h2⟩:=List.mem_filter.1 hi
    have h3:(List.range ops.size).countP (fun i=>!listed.getD i false)=0:=by omega
    rw [List.countP_eq_zero] at h3
    have h4:=h3 i h1
    simp only [Bool.and_eq_true,Bool.not_eq_true'] at h2
    have hin:=List.mem_range.1 h1
    have hisz:i < listed.size:=by rw [I.size]; exact hin
    have h5:=h2.1
    rw [Array.getD_eq_getD_getElem?,Array.getElem?_eq_getElem hisz] at h5 h4
    simp at h5 h4
    rw [h5] at h4; cases h4
   exact ⟨hready,fin listed K' a' w' I hready⟩
  | succ fuel ih=>
   intro listed K' a' w' I hcnt
   refine ⟨fun hready=>fin listed K' a' w' I hready,fun i hi=>?_⟩
   refine wpOp_mono (fun a2 w2 h2=>?_) (d.step_ok hnt I hi Q)
   obtain ⟨K2,I2⟩:=h2
   refine ih _ K2 a2 w2 I2 ?_
   unfold Region.ready at hi
   obtain ⟨h1,h2⟩:=List.mem_filter.1 hi
   have hin:=List.mem_range.1 h1
   have hisz:i < listed.size:=by rw [I.size]; exact hin
   simp only [Bool.and_eq_true,Bool.not_eq_true'] at h2
   have hnl:listed.getD i false=false:=by
    have h5:=h2.1
    rw [Array.getD_eq_getD_getElem?,Array.getElem?_eq_getElem hisz] at h5 ⊢
    simpa using h5
   have key:∀ (l:List Nat),i∈l→l.countP (fun j=>!(listed.setIfInBounds i true).getD j false) < l.countP (fun j=>!listed.getD j false):=by
    intro l
    induction l with
    | nil=>intro h; cases h
    | cons x l ihl=>
     intro hm
     simp only [List.countP_cons]
     have hle:l.countP (fun j=>!(listed.setIfInBounds i true).getD j false)≤l.countP (fun j=>!listed.getD j false):=by
      refine List.countP_mono_left fun j _ hj=>?_
      rw [ip hisz] at hj
      by_cases e:j=i
      ·rw [if_pos e] at hj; cases hj
      rw [if_neg e] at hj; exact hj
     by_cases e:x=i
     ·subst e
      rw [ip hisz,if_pos rfl,hnl]
      simp only [Bool.not_true,Bool.not_false,Bool.false_eq_true,if_false,if_true]
      omega
     have:=ihl (by
      rcases List.mem_cons.1 hm with h | h
      ·exact absurd h.symm e
      exact h)
     rw [ip hisz,if_neg e]
     omega
   have:=key _ h1
   omega
 have hs':Sim B K H { w with drawn:=w.drawn+1 }:=hs.drew rfl
 obtain ⟨p0,q1,q2,q3,q4⟩:=d.next ops.size 0 (by omega)
 have hs0:Sim B K (st p0).2 { w with drawn:=w.drawn+1 }:=by
  have:=d.forward (Φ:=fun h=>Sim B K h { w with drawn:=w.drawn+1 }) (fun h ob hh=>hh.push ob) p0 0 (by omega) (fun j aj h1 h2 h3=>q3 j aj h1 (by omega) h3) (by rw [hst0]; exact hs')
  rwa [Nat.zero_add] at this
 have hrep:∀ j,(Array.replicate ops.size false).getD j false=false:=by
  intro j
  rw [Array.getD_eq_getD_getElem?,Array.getElem?_replicate]
  split<;>rfl
 refine wp_region_any hfol (all _ _ K a _ ⟨by simp,(fun i j _ _ _ hj=>by rw [hrep] at hj; cases hj),fun t v hm=>?_,⟨p0,q2,(fun j aj hj haj hE=>by rw [q3 j aj (by omega) hj haj] at hE; cases hE),fun aj haj=>⟨q4 aj haj,hrep _⟩,hs0⟩,fun i ai hi _ _ _=>?_,⟨rfl,rfl,rfl,Nat.le_refl _,fun _ _=>rfl⟩,KLe.refl _,rfl,rfl,fun _ _ h=>h⟩ ?_)
 ·rw [ep as 0 _ (fun j aj _ _=>by rw [Nat.zero_add]; exact hrep _),hst0] at hm
  exact he t v hm
 ·cases hk:K (st i).2.n with
  | none=>rfl
  | some inf=>
   have h1:=hs.dom _ _ hk
   have h2:=d.mono' i 0 (by have:=d.lt hi; omega)
   rw [Nat.zero_add,hst0] at h2
   simp only at h2
   omega
 exact Nat.le_trans List.countP_le_length (by simp)
end
end Go.Am
namespace Go.Am
open Go Go.RowKit
def AX.exit? : AX→Exit
 | .normal=>.normal
 | .exit id=>.exit id
 | .ret=>.ret
structure FnOk (P:Program) (f:Nat) (fn:AFn):Prop where
 ok:∃ func c,P.funcs[f]? = some func∧func.body=some c∧pO P func=some fn
 enters:∀ (ys:Array Value) (w:World),(callFunc f ys).run P w=.ok (.enter f ys) w
structure TabOk (P:Program) (F:Nat→Option AFn):Prop where
 follows:P.follows .mixedOrders=true
 fns:∀ f fn,F f=some fn→FnOk P f fn
section
variable {P:Program} {B:Nat} {F:Nat→Option AFn}
theorem ij {n f:Nat} {xs:List AV} {h h':Heap} {v:AV} (hc:aQ F n f xs h=some (v,h')):∃ fn x e',F f=some fn∧xs.length=fn.np∧(x=.normal∨x=.ret)∧run F n fn.code (cY 0 xs .nil) h=some (x,e',h')∧resOf e' h' fn.res=some v:=by
 unfold aQ at hc
 split at hc
 ·cases hc
 rename_i fn hF
 split at hc
 ·rename_i hl
  split at hc
  ·rename_i e' h2 hr
   split at hc
   ·rename_i u hu; cases hc; exact ⟨fn,_,e',hF,hl,.inl rfl,hr,hu⟩
   cases hc
  ·rename_i e' h2 hr
   split at hc
   ·rename_i u hu; cases hc; exact ⟨fn,_,e',hF,hl,.inr rfl,hr,hu⟩
   cases hc
  cases hc
 cases hc
theorem az (n:Nat) (c:ACode) (e:Env) (h:Heap):run F (n+1) c e h=match c with
  | .skip=>some (.normal,e,h)
  | .seq a b=>match run F n a e h with
   | some (.normal,e',h')=>run F n b e' h'
   | r=>r
  | .cond c t f=>match c.ev e with
   | some (.bool b)=>bif b then run F n t e h else run F n f e h
   | _=>none
  | .block id b=>match run F n b e h with
   | some (.exit id',e',h')=>if id'=id then some (.normal,e',h') else some (.exit id',e',h')
   | r=>r
  | .loop b=>match run F n b e h with
   | some (.normal,e',h')=>run F n (.loop b) e' h'
   | r=>r
  | .exit id=>some (.exit id,e,h)
  | .ret=>some (.ret,e,h)
  | .region ops=>match aG (aQ F n) ops e h with
   | some (e',h')=>some (.normal,e',h')
   | none=>none
  | .dregion ops ps=>match aG (aQ F n) ops e h with
   | some (e',h')=>bif ps.all (aY ops (trace (aQ F n) ops e h)) then some (.normal,e',h') else none
   | none=>none:=by cases c<;>rfl
theorem aX:∀ (n:Nat) (c:ACode) (e:Env) (h:Heap) (x:AX) (e':Env) (h':Heap),run F n c e h=some (x,e',h')→h.n≤h'.n
 | 0,c,e,h,x,e',h',hr=>by cases hr
 | n+1,c,e,h,x,e',h',hr=>by
  have hm:jO (aQ F n):=by
   intro f xs h v h' hc
   obtain ⟨fn,x,e',_,_,_,hr,_⟩:=ij hc
   exact aX n _ _ _ _ _ _ hr
  rw [az] at hr
  cases c with
  | skip=>cases hr; exact Nat.le_refl _
  | seq a b=>
   simp only at hr
   split at hr
   ·rename_i e1 h1 hr1
    exact Nat.le_trans (aX n _ _ _ _ _ _ hr1) (aX n _ _ _ _ _ _ hr)
   exact aX n _ _ _ _ _ _ hr
  | cond c t f=>
   simp only at hr
   split at hr
   ·rename_i b _
    cases b
    ·exact aX n _ _ _ _ _ _ hr
    exact aX n _ _ _ _ _ _ hr
   cases hr
  | block id b=>
   simp only at hr
   split at hr
   ·rename_i id' e1 h1 hr1
    split at hr<;>cases hr<;>exact aX n _ _ _ _ _ _ hr1
   exact aX n _ _ _ _ _ _ hr
  | loop b=>
   simp only at hr
   split at hr
   ·rename_i e1 h1 hr1
    exact Nat.le_trans (aX n _ _ _ _ _ _ hr1) (aX n _ _ _ _ _ _ hr)
   exact aX n _ _ _ _ _ _ hr
  | exit id=>cases hr; exact Nat.le_refl _
  | ret=>cases hr; exact Nat.le_refl _
  | region ops=>
   simp only at hr
   split at hr
   ·rename_i e1 h1 hr1; cases hr; exact eX hm _ hr1
   cases hr
  | dregion ops ps=>
   simp only at hr
   split at hr
   ·rename_i e1 h1 hr1
    cases hb:ps.all (aY ops (trace (aQ F n) ops e h)) with
    | false=>rw [hb] at hr; cases hr
    | true=>rw [hb] at hr; cases hr; exact eX hm _ hr1
   cases hr
theorem gn (n:Nat):jO (aQ F n):=by
 intro f xs h v h' hc
 obtain ⟨fn,x,e',_,_,_,hr,_⟩:=ij hc
 exact aX n _ _ _ _ _ _ hr
theorem bw:∀ (xs:List AV) (i:Nat) (e:Env) (t:Nat),(cY i xs e).get t=if i≤t∧t < i+xs.length then xs[t - i]? else e.get t
 | [],i,e,t=>by simp [cY]; intro h1 h2; omega
 | x::xs,i,e,t=>by
  rw [cY,bw xs (i+1) _ t,T.get_set]
  by_cases h:t=i
  ·subst h; rw [if_neg (by omega),if_pos rfl,if_pos (by simp),Nat.sub_self]; rfl
  by_cases h2:i+1≤t∧t < i+1+xs.length
  ·rw [if_pos h2,if_pos (by simp; omega),show t - i=(t - (i+1))+1 by omega]; simp
  rw [if_neg h2,if_neg h,if_neg (by simp; omega)]
theorem wi {K:KM} {H:Heap} {w:World} {e:Env} {tmps:Array Value} (he:ER K e tmps) (hs:Sim B K H w):∀ {rs:List ResultVar} {as:List ARes} {vs:List AV},i0 P rs=some as→resAll e H as=some vs→
  ∃ xs:List Value,(rs.mapM fun
   | .tmp t=>pure (tmps.getD t Go.undef)
   | .cell a t=>do loadVar t (← asAddr (tmps.getD a Go.undef)):Sem (List Value)).run P w=.ok xs w∧VRs K vs xs
 | [],as,vs,hc,hv=>by cases hc; cases hv; exact ⟨[],rfl,VRs.nil⟩
 | r::rs,as,vs,hc,hv=>by
  simp only [i0] at hc
  split at hc
  ·cases hc
  rename_i as' has
  have rest:∀ (a:ARes) (v:AV),as=a::as'→resOne e H a=some v→(∃ x,(match r with
    | .tmp t=>pure (tmps.getD t Go.undef)
    | .cell a t=>do loadVar t (← asAddr (tmps.getD a Go.undef)):Sem Value).run P w=.ok x w∧VR K v x)→
    ∃ xs:List Value,((r::rs).mapM fun
     | .tmp t=>pure (tmps.getD t Go.undef)
     | .cell a t=>do loadVar t (← asAddr (tmps.getD a Go.undef)):Sem (List Value)).run P w=.ok xs w∧VRs K vs xs:=by
   intro a v ha hone ⟨x,hx1,hx2⟩
   subst ha
   simp only [resAll,hone] at hv
   split at hv
   ·cases hv
   rename_i vs' hvs
   cases hv
   obtain ⟨xs,g1,g2⟩:=wi he hs has hvs
   refine ⟨x::xs,?_,VRs.cons hx2 g2⟩
   rw [List.mapM_cons,Sem.run_bind,hx1,Result.andThen_ok,Sem.run_bind,g1,Result.andThen_ok]
   rfl
  have one:∀ a,as=a::as'→∃ v,resOne e H a=some v:=by
   intro a ha
   subst ha
   simp only [resAll] at hv
   split at hv
   ·cases hv
   rename_i v hv1; exact ⟨v,hv1⟩
  have getd:∀ t v,e.get t=some v→VR K v (tmps.getD t Go.undef):=by
   intro t v ht
   obtain ⟨x,h1,h2⟩:=he t v ht
   rw [Array.getD_eq_getD_getElem?,h1]; exact h2
  split at hc
  ·rename_i t
   cases hc
   obtain ⟨v,hv1⟩:=one _ rfl
   exact rest _ v rfl hv1 ⟨_,rfl,getd t v hv1⟩
  rename_i a t
  have cellc:∀ (q:ROp) (ar:ARes) (v:AV),as=ar::as'→resOne e H ar=some v→(resOne e H ar=match e.get a with
    | some x=>q.ev [x] H
    | none=>none)→(∀ u x',VR K u x'→q.ev [u] H=some v→aM P (Instr.loadAt t x') w K v)→∃ xs:List Value,((ResultVar.cell a t::rs).mapM fun
    | .tmp t=>pure (tmps.getD t Go.undef)
    | .cell a t=>do loadVar t (← asAddr (tmps.getD a Go.undef)):Sem (List Value)).run P w=.ok xs w∧VRs K vs xs:=by
   intro q ar v ha hv1 heq hy
   rw [heq] at hv1
   cases hg:e.get a with
   | none=>rw [hg] at hv1; cases hv1
   | some u=>
    rw [hg] at hv1
    have hu:=getd a u hg
    obtain ⟨x,h1,h2⟩:=hy u _ hu hv1
    refine rest ar v ha (by rw [heq,hg]; exact hv1) ⟨x,?_,h2⟩
    simp only
    unfold Instr.loadAt at h1
    generalize tmps.getD a Go.undef=z at h1
    simp only [Sem.run_bind] at h1 ⊢
    cases z<;>first | (simp only [Instr.sureAddr,run_stuck,Result.andThen_halt] at h1; cases h1; done) | skip
    rename_i ad
    cases ad with
    | none=>simp only [Instr.sureAddr,run_stuck,Result.andThen_halt] at h1; cases h1
    | some ad=>simpa only [Instr.sureAddr,asAddr] using h1
  split at hc
  ·rename_i n ha hn
   cases hc
   obtain ⟨v,hv1⟩:=one _ rfl
   refine cellc (.loadN n) _ v rfl hv1 rfl fun u x' hu hq=>?_
   cases u<;>first | (simp only [ROp.ev] at hq; cases hq; done) | skip
   simp only [ROp.ev] at hq
   split at hq
   ·rename_i cs hcs; cases hq; exact pc hs hu hcs ha hn
   cases hq
  ·rename_i n ha hn
   cases hc
   obtain ⟨v,hv1⟩:=one _ rfl
   refine cellc .load1 _ v rfl hv1 rfl fun u x' hu hq=>?_
   cases u<;>first | (simp only [ROp.ev] at hq; cases hq; done) | skip
   simp only [ROp.ev] at hq
   split at hq
   ·rename_i x hcs; cases hq; exact pH hs hu hcs ha
   cases hq
  cases hc
def xX (c c':aZ):Prop:=∀ (f:Nat) (xs:List AV) (h:Heap) (r:AV×Heap),c f xs h=some r→c' f xs h=some r
theorem FW {c c':aZ} (hc:xX c c') {k:AK} {xs:List AV} {h:Heap} {r:AV×Heap} (hr:k.ev c xs h=some r):k.ev c' xs h=some r:=by
 cases k with
 | p q=>exact hr
 | r q=>exact hr
 | n q=>exact hr
 | e q=>exact hr
 | call f=>
  simp only [AK.ev] at hr ⊢
  split at hr
  ·exact hc _ _ _ _ hr
  cases hr
 | callV=>
  simp only [AK.ev] at hr ⊢
  split at hr
  ·exact hc _ _ _ _ hr
  cases hr
 | callM tb=>
  simp only [AK.ev] at hr ⊢
  split at hr
  ·exact hc _ _ _ _ hr
  cases hr
theorem gk {c c':aZ} (hc:xX c c') {ao:AOper} {e:Env} {h:Heap} {r:Env×Heap} (hr:aP c ao e h=some r):aP c' ao e h=some r:=by
 unfold aP at hr ⊢
 split at hr
 ·cases hr
 ·exact hr
 split at hr
 ·cases hr
 split at hr
 ·cases hr
 rename_i v h' hv
 rw [FW hc hv]; exact hr
theorem bp {c c':aZ} (hc:xX c c'):∀ (as:List AOper) {e:Env} {h:Heap} {r:Env×Heap},aG c as e h=some r→aG c' as e h=some r∧trace c' as e h=trace c as e h
 | [],_,_,_,hr=>⟨hr,rfl⟩
 | ao::as,e,h,r,hr=>by
  simp only [aG] at hr ⊢
  split at hr
  ·cases hr
  rename_i e' h' hs
  have hs':=gk hc hs
  obtain ⟨g1,g2⟩:=bp hc as hr
  simp only [trace,hs,hs',g2,and_true]
  exact g1
theorem hU {n m:Nat} (h:∀ (c:ACode) (e:Env) (h:Heap) (r:AX×Env×Heap),run F n c e h=some r→run F m c e h=some r):xX (aQ F n) (aQ F m):=by
 intro f xs hp r hc
 unfold aQ at hc ⊢
 split at hc
 ·cases hc
 rename_i fn hF
 split at hc
 ·rename_i hl
  rw [if_pos hl]
  cases hr:run F n fn.code (cY 0 xs .nil) hp with
  | none=>rw [hr] at hc; cases hc
  | some q=>rw [hr] at hc; rw [h _ _ _ _ hr]; exact hc
 cases hc
theorem pz:∀ (n:Nat) (c:ACode) (e:Env) (h:Heap) (r:AX×Env×Heap),run F n c e h=some r→run F (n+1) c e h=some r
 | 0,c,e,h,r,hr=>by cases hr
 | n+1,c,e,h,r,hr=>by
  have ih:=pz n
  have hcf:=hU ih
  rw [az] at hr
  rw [az]
  cases c with
  | skip=>exact hr
  | exit id=>exact hr
  | ret=>exact hr
  | seq a b=>
   simp only at hr ⊢
   cases h1:run F n a e h with
   | none=>rw [h1] at hr; cases hr
   | some q=>
    rw [h1] at hr
    rw [ih _ _ _ _ h1]
    obtain ⟨x,e',h'⟩:=q
    cases x with
    | normal=>exact ih _ _ _ _ hr
    | exit id=>exact hr
    | ret=>exact hr
  | cond c t f=>
   simp only at hr ⊢
   split at hr
   ·rename_i b hb
    cases b
    ·exact ih _ _ _ _ hr
    exact ih _ _ _ _ hr
   cases hr
  | block id b=>
   simp only at hr ⊢
   cases h1:run F n b e h with
   | none=>rw [h1] at hr; cases hr
   | some q=>rw [h1] at hr; rw [ih _ _ _ _ h1]; exact hr
  | loop b=>
   simp only at hr ⊢
   cases h1:run F n b e h with
   | none=>rw [h1] at hr; cases hr
   | some q=>
    rw [h1] at hr
    rw [ih _ _ _ _ h1]
    obtain ⟨x,e',h'⟩:=q
    cases x with
    | normal=>exact ih _ _ _ _ hr
    | exit id=>exact hr
    | ret=>exact hr
  | region ops=>
   simp only at hr ⊢
   cases h1:aG (aQ F n) ops e h with
   | none=>rw [h1] at hr; cases hr
   | some q=>rw [h1] at hr; rw [(bp hcf ops h1).1]; exact hr
  | dregion ops ps=>
   simp only at hr ⊢
   cases h1:aG (aQ F n) ops e h with
   | none=>rw [h1] at hr; cases hr
   | some q=>
    rw [h1] at hr
    obtain ⟨g1,g2⟩:=bp hcf ops h1
    rw [g1,g2]; exact hr
theorem dP {n m:Nat} (hnm:n≤m) {c:ACode} {e:Env} {h:Heap} {r:AX×Env×Heap} (hr:run F n c e h=some r):run F m c e h=some r:=by
 obtain ⟨k,rfl⟩:=Nat.exists_eq_add_of_le hnm
 induction k with
 | zero=>exact hr
 | succ k ih=>exact pz _ _ _ _ _ (ih (by omega))
theorem bx {n m:Nat} (hnm:n≤m):xX (aQ F n) (aQ F m):=hU fun _ _ _ _ h=>dP hnm h
end
end Go.Am
namespace Go.Am
open Go Go.RowKit
theorem run_stuck {F:Nat→Option AFn} {n:Nat} {e:Env} {h:Heap} {r:AX×Env×Heap} (hr:run F n mS e h=some r):False:=by
 cases n with
 | zero=>simp [run] at hr
 | succ n=>simp [run,mS,aG,aP,ak,evs,AK.ev,EOp.ev] at hr
theorem je {o:Option ACode} {c:ACode} (h:ot o=some c):o=some c∨c=mS:=by
 cases o with
 | none=>exact .inr (Option.some.inj h).symm
 | some c'=>exact .inl h
theorem pm {P:Program} {F:Nat→Option AFn} (hT:TabOk P F):∀ (n:Nat),Bq P (aQ F n)∧∀ (B:Nat) (nt:Nat) (cd:Code) (c:ACode) (e e1:Env) (H H1:Heap) (x:AX) (K:KM) (a:Act) (w:World) (Q:Exit→Act→World→Prop),bc P nt cd=some c→run F n c e H=some (x,e1,H1)→ER K e a.tmps→Sim B K H w→nt≤a.tmps.size→
  (∀ K' a' w',After B K a w e1 H H1 K' a' w'→Q x.exit? a' w')→cd.wp P Q a w
 | 0=>⟨(fun f xs h v h' hc=>by
   obtain ⟨fn,x,e',_,_,_,hr,_⟩:=ij hc
   exact absurd hr (by simp [run])),fun B nt cd c e e1 H H1 x K a w Q _ hr=>absurd hr (by simp [run])⟩
 | n+1=>by
  obtain ⟨ihc,ihr⟩:=pm hT n
  have hcode:∀ (B:Nat) (nt:Nat) (cd:Code) (c:ACode) (e e1:Env) (H H1:Heap) (x:AX) (K:KM) (a:Act) (w:World) (Q:Exit→Act→World→Prop),bc P nt cd=some c→run F (n+1) c e H=some (x,e1,H1)→ER K e a.tmps→Sim B K H w→nt≤a.tmps.size→
    (∀ K' a' w',After B K a w e1 H H1 K' a' w'→Q x.exit? a' w')→cd.wp P Q a w:=by
   intro B nt cd c e e1 H H1 x K a w Q hc hr he hs hnt hQ
   have hr00:=hr
   rw [az] at hr
   cases cd with
   | skip=>
    cases hc; cases hr
    exact wp_skip (hQ K a w (After.refl he hs))
   | ret=>
    cases hc; cases hr
    exact wp_ret (hQ K a w (After.refl he hs))
   | exit id=>
    cases hc; cases hr
    exact wp_exit (hQ K a w (After.refl he hs))
   | region id ops draw=>
    cases draw with
    | false=>
     simp only [bc] at hc
     rcases je hc with hc | rfl
     ·split at hc
      ·rename_i as has
       cases hc
       simp only at hr
       split at hr
       ·rename_i e2 h2 hr1
        cases hr
        exact wp_region_list (w8 ihc (gn n) ops.toList as has hr1 he hs hnt hQ)
       cases hr
      cases hc
     exact (run_stuck hr00).elim
    | true=>
     simp only [bc] at hc
     have hc:sd P nt ops.toList=some c:=by
      rcases je hc with hc | hc
      ·exact hc
      exact (run_stuck (hc▸hr00)).elim
     obtain ⟨as0,o,_,hcd⟩:=mw hc
     obtain ⟨_,_,_,hcc⟩:=jT hcd
     generalize h8 o as0=as' at hcc
     generalize bq _ as'=ps at hcc
     subst hcc
     simp only at hr
     split at hr
     ·rename_i e2 h2 hr1
      cases hb:ps.all (aY as' (trace (aQ F n) as' e H)) with
      | true=>
       rw [hb] at hr
       cases hr
       exact yc ihc (gn n) hT.follows hc hr1 hb he hs hnt hQ
      | false=>rw [hb] at hr; cases hr
     cases hr
   | seq y z=>
    simp only [bc] at hc
    split at hc
    ·rename_i cy cz hy hz
     cases hc
     simp only at hr
     refine wp_seq ?_
     split at hr
     ·rename_i e2 h2 hr1
      exact ihr B nt y cy e e2 H h2 .normal K a w _ hy hr1 he hs hnt (fun K' a' w' hA=>ihr B nt z cz e2 e1 h2 H1 x K' a' w' Q hz hr hA.er hA.sim (by rw [hA.size]; exact hnt) (fun K'' a'' w'' hA'=>hQ K'' a'' w'' (hA.trans hA' (aX n _ _ _ _ _ _ hr1))))
     rename_i hne
     refine ihr B nt y cy e e1 H H1 x K a w _ hy hr he hs hnt (fun K' a' w' hA=>?_)
     cases x with
     | normal=>exact absurd hr (hne _ _)
     | exit id=>exact hQ K' a' w' hA
     | ret=>exact hQ K' a' w' hA
    cases hc
   | cond c' y z=>
    simp only [bc] at hc
    split at hc
    ·rename_i co cy cz hco hy hz
     cases hc
     simp only at hr
     split at hr
     ·rename_i b hb
      have hv:=vX he hco hb
      simp only [VR] at hv
      refine wp_cond hv ?_
      cases b with
      | true=>exact ihr B nt y cy e e1 H H1 x K a w Q hy hr he hs hnt hQ
      | false=>exact ihr B nt z cz e e1 H H1 x K a w Q hz hr he hs hnt hQ
     cases hr
    cases hc
   | block id y=>
    simp only [bc] at hc
    split at hc
    ·rename_i cy hy
     cases hc
     simp only at hr
     refine wp_block ?_
     split at hr
     ·rename_i id' e2 h2 hr1
      refine ihr B nt y cy e e2 H h2 (.exit id') K a w _ hy hr1 he hs hnt (fun K' a' w' hA=>?_)
      simp only [AX.exit?,Exit.inBlock]
      split at hr
      ·rename_i hid
       cases hr
       rw [if_pos hid]
       exact hQ K' a' w' hA
      rename_i hid
      cases hr
      rw [if_neg hid]
      exact hQ K' a' w' hA
     rename_i hne
     refine ihr B nt y cy e e1 H H1 x K a w _ hy hr he hs hnt (fun K' a' w' hA=>?_)
     cases x with
     | normal=>exact hQ K' a' w' hA
     | exit id'=>exact absurd hr (hne _ _ _)
     | ret=>exact hQ K' a' w' hA
    cases hc
   | loop y=>
    simp only [bc] at hc
    split at hc
    ·rename_i cy hy
     cases hc
     have hr0:run F (n+1) (.loop cy) e H=some (x,e1,H1):=by rw [az]; exact hr
     refine wp_loop_ghost (fun m a' w'=>m≤n+1∧∃ e' H' K',H.n≤H'.n∧run F m (.loop cy) e' H'=some (x,e1,H1)∧After B K a w e' H H' K' a' w') (n+1) ⟨Nat.le_refl _,e,H,K,Nat.le_refl _,hr0,After.refl he hs⟩ ?_
     rintro m a' w' ⟨hm,e',H',K',hle,hr',hA⟩
     cases m with
     | zero=>cases hr'
     | succ m=>
      rw [az] at hr'
      simp only at hr'
      cases h1:run F m cy e' H' with
      | none=>rw [h1] at hr'; cases hr'
      | some q=>
       rw [h1] at hr'
       obtain ⟨x2,e2,h2⟩:=q
       have h1':run F n cy e' H'=some (x2,e2,h2):=dP (by omega) h1
       have hHn:H.n≤H'.n:=hle
       refine ihr B nt y cy e' e2 H' h2 x2 K' a' w' _ hy h1' hA.er hA.sim (by rw [hA.size]; exact hnt) (fun K2 a2 w2 hA2=>?_)
       have hA3:=hA.trans hA2 hHn
       cases x2 with
       | normal=>exact ⟨m,by omega,by omega,e2,h2,K2,Nat.le_trans hHn (aX _ _ _ _ _ _ _ h1),hr',hA3⟩
       | exit id=>cases hr'; exact hQ K2 a2 w2 hA3
       | ret=>cases hr'; exact hQ K2 a2 w2 hA3
    cases hc
   | _=>cases hc; exact (run_stuck hr00).elim
  refine ⟨?_,hcode⟩
  intro f xs h v h' hcall B K w ys hxs hs
  obtain ⟨fn,x,e',hF,hl,hx,hr,hres⟩:=ij hcall
  obtain ⟨⟨func,c,h1,h2,h3⟩,henter⟩:=hT.fns f fn hF
  refine ⟨henter _ _,gn _ _ _ _ _ _ hcall,?_⟩
  unfold pO at h3
  rw [h2] at h3
  simp only at h3
  split at h3
  ·rename_i ac rs hac hrs
   cases h3
   refine calls_of_wp h1 h2 ?_
   have hys:ys.toArray.size=xs.length:=by rw [hxs.length]; simp
   refine hcode B func.ntmps c ac (cY 0 xs .nil) e' h h' x K _ w _ hac hr (fun t u ht=>?_) hs (by simp; omega) (fun K' a' w' hA=>?_)
   ·rw [bw] at ht
    split at ht
    ·rename_i hb
     rw [Nat.sub_zero] at ht
     obtain ⟨y,g1,g2⟩:=hxs.get t u ht
     refine ⟨y,?_,g2⟩
     simp only
     rw [Array.getElem?_append_left (by omega)]
     simpa using g1
    rw [T.get_nil] at ht; cases ht
   have hres':∃ v',(results func a'.tmps).run P w'=.ok v' w'∧VR K' v v':=by
    cases hall:resAll e' h' rs with
    | none=>unfold resOf at hres; rw [hall] at hres; cases hres
    | some vs=>
     obtain ⟨zs,g1,g2⟩:=wi (P:=P) hA.er hA.sim hrs hall
     have hrun:(results func a'.tmps).run P w'=.ok (if h:zs.toArray.size=1 then zs.toArray[0] else .tuple zs.toArray) w':=by
      unfold results
      rw [Array.mapM_eq_mapM_toList]
      simp only [Sem.run_bind,Sem.run_map]
      exact congrArg (fun r=>Result.andThen (Result.andThen r (fun (a:List Value) w'=>Result.ok a.toArray w')) (fun (a:Array Value) w'=>Sem.run P (pure (if h:a.size=1 then a[0] else Value.tuple a)) w')) g1
     refine ⟨_,hrun,?_⟩
     unfold resOf at hres
     rw [hall] at hres
     match vs,hres,g2 with
     | [],hres,g2=>
      cases hres
      simp only [VRs] at g2
      subst g2
      simp only [List.size_toArray,List.length_nil,Nat.zero_ne_one,dite_false,VR]
      exact ⟨_,rfl,VRs.nil⟩
     | [v0],hres,g2=>
      cases hres
      obtain ⟨z,rfl,hz⟩:=g2.one
      exact hz
     | v0::v1::vs',hres,g2=>
      cases hres
      have hl:=g2.length
      rw [dif_neg (by simp at hl ⊢; omega)]
      simp only [VR]
      exact ⟨_,rfl,g2⟩
   obtain ⟨v',g1,g2⟩:=hres'
   rcases hx with rfl | rfl
   ·exact ⟨hA.defers,v',g1,v',K',rfl,hA.below,hA.le,hA.fresh,hA.sim,g2⟩
   exact ⟨hA.defers,v',g1,v',K',rfl,hA.below,hA.le,hA.fresh,hA.sim,g2⟩
  cases h3
theorem ag {P : Program} {f : Nat} {func : Func} {fn : AFn} (h1 : P.funcs[f]? = some func) (h2 : pO P func = some fn) (h3 : (func.name == "runtime.NumGoroutine") = false) : FnOk P f fn := by
 obtain ⟨c,hc⟩:∃ c,func.body=some c:=by
  unfold pO at h2
  cases hb:func.body with
  | none=>rw [hb] at h2; cases h2
  | some c=>exact ⟨c,rfl⟩
 refine ⟨⟨func,c,h1,hc,h2⟩,fun ys w=>?_⟩
 unfold callFunc
 have h4:¬ (func.body.isNone=true):=by rw [hc]; simp
 simp only [Sem.run_bind,run_program,Result.andThen_ok,h1,h3,Bool.false_eq_true,if_false,if_neg h4]
 rfl
end Go.Am
namespace Go.Am
open Go
def E:List (Nat×AV)→Env
 | []=>.nil
 | (t,v)::l=>(E l).set t v
def Sub (e e':Env):Prop:=∀ t v,e.get t=some v→e'.get t=some v
theorem Sub.refl (e:Env):Sub e e:=fun _ _ h=>h
theorem Sub.trans {a b c:Env} (h:Sub a b) (k:Sub b c):Sub a c:=fun t v hv=>k t v (h t v hv)
theorem Sub.set {e e':Env} (h:Sub e e') (t:Nat) (v:AV):Sub (e.set t v) (e'.set t v):=by
 intro s u hs
 rw [T.get_set] at hs ⊢
 by_cases he:s=t
 ·rw [if_pos he] at hs ⊢; exact hs
 rw [if_neg he] at hs ⊢; exact h s u hs
theorem Sub.putE {e e':Env} (h:Sub e e') (d:Option Nat) (v:AV):Sub (putE e d v) (putE e' d v):=by
 cases d with
 | none=>exact h
 | some d=>exact h.set d v
theorem Sub.nil (e:Env):Sub .nil e:=fun t v h=>by rw [T.get_nil] at h; cases h
theorem Sub.ev {e e':Env} (h:Sub e e') {x:Opd} {v:AV} (hv:x.ev e=some v):x.ev e'=some v:=by
 cases x with
 | tmp t=>exact h t v hv
 | const c=>exact hv
theorem Sub.evs {e e':Env} (h:Sub e e'):∀ {xs:List Opd} {vs:List AV},Am.evs e xs=some vs→Am.evs e' xs=some vs
 | [],vs,hv=>hv
 | x::xs,vs,hv=>by
  simp only [Am.evs] at hv ⊢
  split at hv
  ·cases hv
  rename_i v hx
  split at hv
  ·cases hv
  rename_i us hus
  rw [h.ev hx,h.evs hus]; exact hv
theorem Sub.wanted {e e':Env} (h:Sub e e') {g:Option (Nat×Bool)} {b:Bool} (hw:ak e g=some b):ak e' g=some b:=by
 unfold ak at hw ⊢
 split at hw
 ·exact hw
 split at hw
 ·rename_i b' hb; rw [h _ _ hb]; exact hw
 ·rename_i v hne hb
  rw [h _ _ hb]
  cases v<;>first | exact hw | exact absurd rfl (hne _)
 cases hw
def jt {α:Type} (o:Option α) (k:α→Prop):Prop:=∃ a,o=some a∧k a
@[congr] theorem zo {α:Type} {o o':Option α} {k:α→Prop} (h:o=o'):jt o k=jt o' k:=by rw [h]
section
variable (F:Nat→Option AFn)
def dx (f:Nat) (xs:List AV) (h:Heap) (K:AV→Heap→Prop):Prop:=∃ n v h',aQ F n f xs h=some (v,h')∧K v h'
def kwp (k:AK) (xs:List AV) (K:AV→Heap→Prop) (h:Heap):Prop:=
 match k with
 | .p q=>jt (q.ev xs) fun v=>K v h
 | .r q=>jt (q.ev xs h) fun v=>K v h
 | .n q=>jt (q.ob xs h) fun ob=>K (q.mk xs h.n) (h.push ob)
 | .e q=>jt (q.ev xs h) fun p=>K p.1 p.2
 | .call f=>dx F f xs h K
 | .callV=>jt (target .callV xs) fun p=>dx F p.1 p.2 h K
 | .callM tb=>jt (target (.callM tb) xs) fun p=>dx F p.1 p.2 h K
def swp (o:AOper) (K:Env→Heap→Prop) (e:Env) (h:Heap):Prop:=
 jt (ak e o.guard) fun b=>if b=true then jt (evs e o.xs) fun xs=>kwp F o.k xs (fun v h=>K (putE e o.dst v) h) h else K (putE e o.dst .undef) h
def owp:List AOper→(Env→Heap→Prop)→Env→Heap→Prop
 | [],K,e,h=>K e h
 | o::os,K,e,h=>swp F o (fun e h=>owp os K e h) e h
def lwp (b:ACode) (Q:AX→Env→Heap→Prop) (e:Env) (h:Heap):Prop:=
 ∀ e',Sub e e'→∃ n x e1 h1 e0,run F n (.loop b) e' h=some (x,e1,h1)∧Sub e0 e1∧Q x e0 h1
def dwp (ops:List AOper) (ps:List (Nat×Nat)) (K:Env→Heap→Prop) (e:Env) (h:Heap):Prop:=
 ∀ e',Sub e e'→∃ n e1 h1 e0,aG (aQ F n) ops e' h=some (e1,h1)∧ps.all (aY ops (trace (aQ F n) ops e' h))=true∧Sub e0 e1∧K e0 h1
def awp:ACode→(AX→Env→Heap→Prop)→Env→Heap→Prop
 | .skip,Q,e,h=>Q .normal e h
 | .seq a b,Q,e,h=>awp a (fun x e h=>match x with
  | .normal=>awp b Q e h
  | x=>Q x e h) e h
 | .cond c t f,Q,e,h=>jt (c.ev e) fun v=>match v with
  | .bool b=>if b=true then awp t Q e h else awp f Q e h
  | _=>False
 | .block id b,Q,e,h=>awp b (fun x e h=>match x with
  | .exit id'=>if id'=id then Q .normal e h else Q (.exit id') e h
  | x=>Q x e h) e h
 | .loop b,Q,e,h=>lwp F b Q e h
 | .exit id,Q,e,h=>Q (.exit id) e h
 | .ret,Q,e,h=>Q .ret e h
 | .region ops,Q,e,h=>owp F ops (Q .normal) e h
 | .dregion ops [],Q,e,h=>owp F ops (Q .normal) e h
 | .dregion ops (p::ps),Q,e,h=>dwp F ops (p::ps) (Q .normal) e h
end
variable {F:Nat→Option AFn}
theorem dx.mono {f:Nat} {xs:List AV} {h:Heap} {K K':AV→Heap→Prop} (hc:dx F f xs h K) (hk:∀ v h',K v h'→K' v h'):dx F f xs h K':=
 let ⟨n,v,h',h1,h2⟩:=hc; ⟨n,v,h',h1,hk _ _ h2⟩
theorem ww {o:AOper} {K:Env→Heap→Prop} {e:Env} {h:Heap} (hw:swp F o K e h):∀ e',Sub e e'→∃ n e1 h1 e0,aP (aQ F n) o e' h=some (e1,h1)∧Sub e0 e1∧K e0 h1:=by
 intro e' hs
 obtain ⟨b,hb,hw⟩:=hw
 have hb':=hs.wanted hb
 cases b with
 | false=>
  simp only [Bool.false_eq_true,if_false] at hw
  exact ⟨0,putE e' o.dst .undef,h,putE e o.dst .undef,by simp only [aP,hb'],hs.putE _ _,hw⟩
 | true=>
  simp only [if_true] at hw
  obtain ⟨xs,hx,hw⟩:=hw
  have hx':=hs.evs hx
  have fin:∀ n v h',o.k.ev (aQ F n) xs h=some (v,h')→K (putE e o.dst v) h'→∃ n e1 h1 e0,aP (aQ F n) o e' h=some (e1,h1)∧Sub e0 e1∧K e0 h1:=
   fun n v h' hv hK=>⟨n,putE e' o.dst v,h',putE e o.dst v,by simp only [aP,hb',hx',hv],hs.putE _ _,hK⟩
  cases hk:o.k with
  | p q=>
   rw [hk] at hw
   obtain ⟨v,hv,hK⟩:=hw
   exact fin 0 v h (by rw [hk]; simp only [AK.ev,hv]) hK
  | r q=>
   rw [hk] at hw
   obtain ⟨v,hv,hK⟩:=hw
   exact fin 0 v h (by rw [hk]; simp only [AK.ev,hv]) hK
  | n q=>
   rw [hk] at hw
   obtain ⟨ob,hv,hK⟩:=hw
   exact fin 0 _ _ (by rw [hk]; simp only [AK.ev,hv]) hK
  | e q=>
   rw [hk] at hw
   obtain ⟨p,hv,hK⟩:=hw
   exact fin 0 p.1 p.2 (by rw [hk]; exact hv) hK
  | call f=>
   rw [hk] at hw
   obtain ⟨n,v,h',hv,hK⟩:=hw
   exact fin n v h' (by rw [hk]; simp only [AK.ev,target]; exact hv) hK
  | callV=>
   rw [hk] at hw
   obtain ⟨p,hp,n,v,h',hv,hK⟩:=hw
   exact fin n v h' (by rw [hk]; simp only [AK.ev,hp]; exact hv) hK
  | callM tb=>
   rw [hk] at hw
   obtain ⟨p,hp,n,v,h',hv,hK⟩:=hw
   exact fin n v h' (by rw [hk]; simp only [AK.ev,hp]; exact hv) hK
def Has (e:Env):List (Nat×AV)→Prop
 | []=>True
 | (t,v)::l=>e.get t=some v∧Has e l
theorem Has.sub {e:Env}:∀ {l:List (Nat×AV)},Has e l→Sub (E l) e
 | [],_=>Sub.nil e
 | (t,v)::l,h=>by
  intro s u hs
  rw [E,T.get_set] at hs
  by_cases he:s=t
  ·rw [if_pos he] at hs; cases hs; rw [he]; exact h.1
  rw [if_neg he] at hs; exact h.2.sub s u hs
def AX.fin:AX→Prop
 | .normal=>True
 | .ret=>True
 | .exit _=>False
theorem Sub.resOne {e e':Env} (hs:Sub e e') {h:Heap} {r:ARes} {v:AV} (hr:Am.resOne e h r=some v):Am.resOne e' h r=some v:=by
 cases r with
 | tmp t=>exact hs t v hr
 | cell1 t=>
  simp only [Am.resOne] at hr ⊢
  split at hr
  ·rename_i x hx; rw [hs t x hx]; exact hr
  cases hr
 | cellN t n=>
  simp only [Am.resOne] at hr ⊢
  split at hr
  ·rename_i x hx; rw [hs t x hx]; exact hr
  cases hr
theorem Sub.resAll {e e':Env} (hs:Sub e e') {h:Heap}:∀ {rs:List ARes} {vs:List AV},Am.resAll e h rs=some vs→Am.resAll e' h rs=some vs
 | [],_,hr=>hr
 | r::rs,vs,hr=>by
  simp only [Am.resAll] at hr ⊢
  split at hr
  ·cases hr
  rename_i v hv
  split at hr
  ·cases hr
  rename_i us hus
  rw [hs.resOne hv,hs.resAll hus]; exact hr
theorem Sub.resOf {e e':Env} (hs:Sub e e') {h:Heap} {rs:List ARes} {v:AV} (hr:Am.resOf e h rs=some v):Am.resOf e' h rs=some v:=by
 unfold Am.resOf at hr ⊢
 cases ha:Am.resAll e h rs with
 | none=>rw [ha] at hr; cases hr
 | some vs=>rw [ha] at hr; rw [hs.resAll ha]; exact hr
def AO:Nat→List AV→List (Nat×AV)
 | _,[]=>[]
 | i,v::vs=>(i,v)::AO (i+1) vs
theorem pu:∀ (xs:List AV) (i t:Nat) (v:AV),(E (AO i xs)).get t=some v→i≤t∧xs[t - i]? = some v
 | [],i,t,v,h=>by rw [AO,E,T.get_nil] at h; cases h
 | x::xs,i,t,v,h=>by
  rw [AO,E,T.get_set] at h
  by_cases ht:t=i
  ·rw [if_pos ht] at h; cases h; subst ht; exact ⟨Nat.le_refl _,by simp⟩
  rw [if_neg ht] at h
  obtain ⟨h1,h2⟩:=pu xs (i+1) t v h
  refine ⟨by omega,?_⟩
  rw [show t - i=(t - (i+1))+1 by omega]; simpa using h2
theorem vD (xs:List AV):Sub (E (AO 0 xs)) (cY 0 xs .nil):=by
 intro t v h
 obtain ⟨_,h2⟩:=pu xs 0 t v h
 rw [Nat.sub_zero] at h2
 have hlt:t < xs.length:=by
  rcases Nat.lt_or_ge t xs.length with hh | hh
  ·exact hh
  rw [List.getElem?_eq_none hh] at h2; cases h2
 rw [bw,if_pos ⟨Nat.zero_le _,by omega⟩,Nat.sub_zero]; exact h2
@[congr] theorem Dt {c:ACode} {Q:AX→Env→Heap→Prop} {e e':Env} {h h':Heap} (he:e=e') (hh:h=h'):awp F c Q e h=awp F c Q e' h':=by rw [he,hh]
@[congr] theorem CL {os:List AOper} {K:Env→Heap→Prop} {e e':Env} {h h':Heap} (he:e=e') (hh:h=h'):owp F os K e h=owp F os K e' h':=by rw [he,hh]
@[congr] theorem BT {o:AOper} {K:Env→Heap→Prop} {e e':Env} {h h':Heap} (he:e=e') (hh:h=h'):swp F o K e h=swp F o K e' h':=by rw [he,hh]
@[congr] theorem Dm {k:AK} {xs xs':List AV} {K:AV→Heap→Prop} {h h':Heap} (hx:xs=xs') (hh:h=h'):kwp F k xs K h=kwp F k xs' K h':=by rw [hx,hh]
@[congr] theorem Eb {b:ACode} {Q:AX→Env→Heap→Prop} {e e':Env} {h h':Heap} (he:e=e') (hh:h=h'):lwp F b Q e h=lwp F b Q e' h':=by rw [he,hh]
@[congr] theorem wM {f:Nat} {xs xs':List AV} {h h':Heap} {K:AV→Heap→Prop} (hx:xs=xs') (hh:h=h'):dx F f xs h K=dx F f xs' h' K:=by rw [hx,hh]
theorem IH (t s:Nat) (v:AV) (l:List (Nat×AV)):(E ((t,v)::l)).get s=if s=t then some v else (E l).get s:=by rw [E,T.get_set]
end Go.Am
