/- A machine over typed values, and that functions do what it says. No condition. Own work. -/
import Derived.Test.YtmchbhheoieepaaVm4ProcessErrs
import Derived.Test.YtmchbhheoieepaaAm7ProcessErrs
set_option linter.unusedSimpArgs false
set_option linter.unusedVariables false
namespace Go.Am
open Go
structure FSp where
 pr:List (Bool×List In)
 pt:List In
 io:List Nat
 lr:List In
def prL:Nat→List (Bool×List In)→List In
 | _,[]=>[]
 | i,(a,ls)::l=>.ld i a::(ls++(.slot i a::prL (i+1) l))
def FSp.lp (p:FSp):List In:=prL 0 p.pr++p.pt
def wrO (t:Nat):List AOper→Bool
 | []=>false
 | o::os=>(match o.dst with
  | some d=>Nat.beq d t
  | none=>false)||wrO t os
def wrC (t:Nat):ACode→Bool
 | .seq a b=>wrC t a||wrC t b
 | .cond _ a b=>wrC t a||wrC t b
 | .block _ b=>wrC t b
 | .loop b=>wrC t b
 | .region ops=>wrO t ops
 | .dregion ops _=>wrO t ops
 | _=>false
theorem lD {cf:aZ} {t:Nat}:∀ (os:List AOper) {e e':Env} {h h':Heap},wrO t os=false→aG cf os e h=some (e',h')→e'.get t=e.get t
 | [],e,e',h,h',_,hr=>by cases hr; rfl
 | o::os,e,e',h,h',hw,hr=>by
  simp only [wrO,Bool.or_eq_false_iff] at hw
  simp only [aG] at hr
  cases hs:aP cf o e h with
  | none=>rw [hs] at hr; cases hr
  | some p=>
   obtain ⟨e1,h1⟩:=p
   rw [hs] at hr
   rw [lD os hw.2 hr]
   have put:∀ v,(putE e o.dst v).get t=e.get t:=fun v=>by
    cases hd:o.dst with
    | none=>rfl
    | some d=>
     have hw1:=hw.1
     rw [hd] at hw1
     have hw1:Nat.beq d t=false:=hw1
     show (e.set d v).get t=_
     rw [T.get_set,if_neg fun e=>Nat.ne_of_beq_eq_false hw1 e.symm]
   unfold aP at hs
   split at hs
   ·cases hs
   ·cases hs; exact put _
   split at hs
   ·cases hs
   split at hs
   ·cases hs
   cases hs; exact put _
theorem c8 {F:Nat→Option AFn} {t:Nat}:∀ (n:Nat) (c:ACode) {e e':Env} {h h':Heap} {x:AX},wrC t c=false→run F n c e h=some (x,e',h')→e'.get t=e.get t
 | 0,c,e,e',h,h',x,_,hr=>by cases hr
 | n+1,c,e,e',h,h',x,hw,hr=>by
  rw [az] at hr
  cases c with
  | skip=>cases hr; rfl
  | exit i=>cases hr; rfl
  | ret=>cases hr; rfl
  | seq a b=>
   simp only [wrC,Bool.or_eq_false_iff] at hw
   simp only at hr
   cases h1:run F n a e h with
   | none=>rw [h1] at hr; cases hr
   | some q=>
    obtain ⟨y,e1,h2⟩:=q
    rw [h1] at hr
    have k1:=c8 n a hw.1 h1
    cases y with
    | normal=>rw [c8 n b hw.2 hr,k1]
    | ret=>cases hr; exact k1
    | exit i=>cases hr; exact k1
  | cond c a b=>
   simp only [wrC,Bool.or_eq_false_iff] at hw
   simp only at hr
   split at hr
   ·rename_i d _
    cases d
    ·exact c8 n b hw.2 hr
    exact c8 n a hw.1 hr
   cases hr
  | block i b=>
   simp only [wrC] at hw
   simp only at hr
   cases h1:run F n b e h with
   | none=>rw [h1] at hr; cases hr
   | some q=>
    obtain ⟨y,e1,h2⟩:=q
    rw [h1] at hr
    have k1:=c8 n b hw h1
    cases y with
    | normal=>cases hr; exact k1
    | ret=>cases hr; exact k1
    | exit j=>
     simp only at hr
     split at hr<;>cases hr<;>exact k1
  | loop b=>
   simp only at hr
   cases h1:run F n b e h with
   | none=>rw [h1] at hr; cases hr
   | some q=>
    obtain ⟨y,e1,h2⟩:=q
    rw [h1] at hr
    have k1:=c8 n b (by simpa only [wrC] using hw) h1
    cases y with
    | normal=>rw [c8 n (.loop b) hw hr,k1]
    | ret=>cases hr; exact k1
    | exit i=>cases hr; exact k1
  | region ops=>
   simp only at hr
   split at hr
   ·rename_i e1 h1 ho
    cases hr
    exact lD ops hw ho
   cases hr
  | dregion ops ps=>
   simp only at hr
   split at hr
   ·rename_i e1 h1 ho
    cases hb:ps.all (aY ops (trace (aQ F n) ops e h)) with
    | false=>rw [hb] at hr; cases hr
    | true=>
     rw [hb] at hr
     cases hr
     exact lD ops hw ho
   cases hr
section
variable {T:TE} {R:Type}
def wY (s:VS T):List ARes→(List (V1 T)→Option R)→Option R
 | [],K=>K []
 | .tmp t::rs,K=>match nb s.e (.tmp t) with
  | some (.v x)=>wY s rs fun l=>K (x::l)
  | _=>none
 | .cell1 t::rs,K=>match nb s.e (.tmp t) with
  | some (.v (.w w))=>ldA s (fun sv _=>match sv with
   | .v x=>wY s rs fun l=>K (x::l)
   | _=>none) w
  | _=>none
 | .cellN t n::rs,K=>match nb s.e (.tmp t) with
  | some (.v (.w w))=>ldN s n (fun sv _=>match sv with
   | .v x=>wY s rs fun l=>K (x::l)
   | _=>none) w
  | _=>none
def ioV (s:VS T):List Nat→(List (V1 T)→Option R)→Option R
 | [],K=>K []
 | i::is,K=>match nb s.e (.tmp i) with
  | some (.v x)=>ioV s is fun l=>K (x::l)
  | _=>none
def numb:Nat→List (V1 T)→qa T
 | _,[]=>[]
 | i,x::l=>(i,.v x)::numb (i+1) l
def C8 (p:FSp) (res:List ARes) (s:VS T):Option (DN T.S (DS p.lr)):=wY s res fun vs=>ioV s p.io fun ws=>qW p.lr ⟨numb 0 (vs++ws),s.ps⟩ fun y _=>some (toN _ y)
noncomputable def vfn (Lp:LP) (H:List (Nat×VT)) (C:cQ T) (p:FSp) (res:List ARes) (c:VC) (x:DN T.S (DS p.lp)):Option (DN T.S (DS p.lr)):=
 bif okI (dv p.lp) p.lp&&p.io.all (fun t=>!wrC t c.er)&&Nat.beq (res.length+p.io.length) (bC p.lr).length then vc Lp H C c (DN T.S (DS p.lr)) (cX false p.lp (ofN _ x) ⟨[],[]⟩) (C8 p res) (C8 p res) (fun _ _=>none) else none
variable {F:Nat→Option AFn} {g:Heap} {M:Nat→Prop}
theorem sQ {B:Hp} {ps:List (Part T)} {ms:List AV} {h:Heap}:∀ (l:List (V1 T)) (as:List AV) (i:Nat),All2 (fR B ps ms h) l as→∀ k sv,lk (numb i l) k=some sv→∃ v x,i≤k∧as[k - i]? = some v∧sv=.v x∧fR B ps ms h x v
 | [],as,i,hr,k,sv,hk=>by cases hk
 | x::l,as,i,hr,k,sv,hk=>by
  cases hr with
  | cons p q=>
   rename_i a as
   have hk:(bif Nat.beq i k then some (SV.v x) else lk (numb (i+1) l) k)=some sv:=hk
   cases hb:Nat.beq i k with
   | true=>
    obtain rfl:=Nat.eq_of_beq_eq_true hb
    rw [hb] at hk
    cases hk
    exact ⟨a,x,Nat.le_refl _,by simp,rfl,p⟩
   | false=>
    rw [hb] at hk
    obtain ⟨v,y,h1,h2,h3,h4⟩:=sQ l as (i+1) q k sv hk
    refine ⟨v,y,by omega,?_,h3,h4⟩
    rw [show k - i=(k - (i+1))+1 by omega,List.getElem?_cons_succ]
    exact h2
theorem kC {s:VS T} {ms:List AV} {e:Env} {h:Heap} (S:VSim g M [] s ms e h):∀ (rs:List ARes) {K:List (V1 T)→Option R} {r:R},wY s rs K=some r→∃ l as,K l=some r∧resAll e h rs=some as∧All2 (fR (Bo g M) s.ps ms h) l as
 | [],K,r,hK=>⟨[],[],hK,rfl,.nil⟩
 | .tmp t::rs,K,r,hK=>by
  simp only [wY] at hK
  split at hK
  ·rename_i x hx
   obtain ⟨a,h1,h2⟩:=cD S hx
   obtain ⟨l,as,k1,k2,k3⟩:=kC S rs hK
   exact ⟨x::l,a::as,k1,by simp only [resAll,resOne,show e.get t=some a from h1,k2],.cons h2 k3⟩
  cases hK
 | .cell1 t::rs,K,r,hK=>by
  simp only [wY] at hK
  split at hK
  ·rename_i w hx
   obtain ⟨a,h1,h2⟩:=cD S hx
   obtain ⟨sv,v,k1,k2,k3⟩:=ur S h2.1 hK
   cases sv with
   | v x=>
    obtain ⟨l,as,q1,q2,q3⟩:=kC S rs k1
    exact ⟨x::l,v::as,q1,by simp only [resAll,resOne,show e.get t=some a from h1,k2,q2],.cons k3 q3⟩
   | _=>cases k1
  cases hK
 | .cellN t n::rs,K,r,hK=>by
  simp only [wY] at hK
  split at hK
  ·rename_i w hx
   obtain ⟨a,h1,h2⟩:=cD S hx
   obtain ⟨sv,v,k1,k2,k3⟩:=tv S h2.1 hK
   cases sv with
   | v x=>
    obtain ⟨l,as,q1,q2,q3⟩:=kC S rs k1
    exact ⟨x::l,v::as,q1,by simp only [resAll,resOne,show e.get t=some a from h1,k2,q2],.cons k3 q3⟩
   | _=>cases k1
  cases hK
theorem wG {s:VS T} {ms:List AV} {e:Env} {h:Heap} (S:VSim g M [] s ms e h):∀ (is:List Nat) {K:List (V1 T)→Option R} {r:R},ioV s is K=some r→∃ l as,K l=some r∧All2 (fun i a=>e.get i=some a) is as∧All2 (fR (Bo g M) s.ps ms h) l as
 | [],K,r,hK=>⟨[],[],hK,.nil,.nil⟩
 | i::is,K,r,hK=>by
  simp only [ioV] at hK
  split at hK
  ·rename_i x hx
   obtain ⟨a,h1,h2⟩:=cD S hx
   obtain ⟨l,as,k1,k2,k3⟩:=wG S is hK
   exact ⟨x::l,a::as,k1,.cons h1 k2,.cons h2 k3⟩
  cases hK
theorem VSim.numb {Γ:List Ch} {s:VS T} {ms:List AV} {e:Env} {h:Heap} (S:VSim g M Γ s ms e h) {l:List (V1 T)} {as:List AV} (hr:All2 (fR (Bo g M) s.ps ms h) l as):VSim g M Γ ⟨Am.numb 0 l,s.ps⟩ ms (cY 0 as .nil) h:=by
 refine ⟨S.len,S.st,fun k sv hk=>?_⟩
 obtain ⟨v,x,h1,h2,rfl,h4⟩:=sQ l as 0 hr k sv hk
 rw [Nat.sub_zero] at h2
 refine ⟨v,?_,h4⟩
 rw [bw,if_pos ⟨Nat.zero_le _,by have:=(List.getElem?_eq_some_iff.1 h2).1; omega⟩,Nat.sub_zero]
 exact h2
theorem AR {p:FSp} {res:List ARes} {s:VS T} {ms:List AV} {e:Env} {h:Heap} (S:VSim g M [] s ms e h) {y:DN T.S (DS p.lr)} (hK:C8 p res s=some y) :
  ∃ as ws am Γ h',resAll e h res=some as∧All2 (fun i a=>e.get i=some a) p.io ws∧Fz h h'∧St g M Γ h'∧Mat (Bo g M) am (cY 0 (as++ws) .nil) h' p.lr (ofN _ y) 0 [] Γ:=by
 unfold C8 at hK
 obtain ⟨l,as,hK,k2,k3⟩:=kC S _ hK
 obtain ⟨l2,ws,hK,q2,q3⟩:=wG S _ hK
 obtain ⟨x,s',h',am,Γ,w1,w2,w3,w4,w5⟩:=d9 hK (S.numb (k3.append' q3))
 cases w1
 rw [List.append_nil] at w3
 exact ⟨as,ws,am,Γ,h',k2,q2,w2,w3.st.dropR,by rw [gC]; exact w4⟩
theorem pC {α β:Type} {P:α→β→Prop}:∀ {l:List α} {m:List β},All2 P l m→All2 (fun a b=>a∈l∧P a b) l m
 | _,_,.nil=>.nil
 | _,_,.cons p q=>.cons ⟨List.mem_cons_self ..,p⟩ ((pC q).imp fun a b k=>⟨List.mem_cons_of_mem _ k.1,k.2⟩)
theorem kn {e:Env} {h:Heap}:∀ (rs:List ARes) {as:List AV},resAll e h rs=some as→as.length=rs.length
 | [],as,hr=>by cases hr; rfl
 | r::rs,as,hr=>by
  simp only [resAll] at hr
  split at hr
  ·cases hr
  split at hr
  ·cases hr
  rename_i vs hv
  cases hr
  rw [List.length_cons,List.length_cons,kn rs hv]
def aB (F:Nat→Option AFn) (T:TE) (f:Nat) (p:FSp) (np:Nat) (fn:DN T.S (DS p.lp)→Option (DN T.S (DS p.lr))):Prop:=
 ∀ (x:T.H (DS p.lp)) (y:DN T.S (DS p.lr)),fn (toN _ x)=some y→∀ (g:Heap) (M:Nat→Prop) (h g0:Heap) (xs:List AV) (am:Nat→AV) (Γ:List Ch),xs.length=np→St g M Γ h→Mat (Bo g M) am (cY 0 xs .nil) h p.lp x 0 [] Γ→Fz g0 h→
  ∃ n v g1 h' as ws am' Γ',aQ F n f xs g0=some (v,g1)∧Fz g1 h'∧v=one as∧as.length+ws.length=(bC p.lr).length∧All2 (fun i a=>xs[i]? = some a) p.io ws∧St g M Γ' h'∧Mat (Bo g M) am' (cY 0 (as++ws) .nil) h' p.lr (ofN _ y) 0 [] Γ'
theorem aw {Lp:LP} {H:List (Nat×VT)} {C:cQ T} (hC:c9 F C) {f:Nat} {fn:AFn} {p:FSp} {c:VC} (hF:F f=some fn) (hc:fn.code=c.er):aB F T f p fn.np (vfn Lp H C p fn.res c):=by
 intro x y hK g M h g0 xs am Γ hl S hM hz
 unfold vfn at hK
 cases hb:(okI (dv p.lp) p.lp&&p.io.all (fun t=>!wrC t c.er)&&Nat.beq (fn.res.length+p.io.length) (bC p.lr).length) with
 | false=>rw [hb] at hK; cases hK
 | true=>
  rw [hb,cond_true,gC] at hK
  rw [Bool.and_eq_true,Bool.and_eq_true,List.all_eq_true] at hb
  obtain ⟨hb,hb3⟩:=hb
  have hb3:=Nat.eq_of_beq_eq_true hb3
  have S0:VSim g M (Γ++[]) (⟨[],[]⟩:VS T) [] (cY 0 xs .nil) h:=⟨rfl,by rw [List.append_nil]; exact S.perm (by simp [chs]),fun k sv hk=>by cases hk⟩
  have hd:mM p.lp (⟨[],[]⟩:VS T)=true:=by
   unfold mM
   rw [List.all_eq_true]
   intro k _
   rfl
  obtain ⟨S1,_⟩:=S0.mk1 (ro:=false) hM hb.1 hd
  obtain ⟨xx,s',n,e',g1,h',ms',k1,k2,k3,k4,k5⟩:=EU hC c _ _ _ _ _ _ _ _ hK _ _ h g0 S1 hz
  have key:C8 p fn.res s'=some y→∃ n v g1 h' as ws am' Γ',aQ F n f xs g0=some (v,g1)∧Fz g1 h'∧v=one as∧as.length+ws.length=(bC p.lr).length∧All2 (fun i a=>xs[i]? = some a) p.io ws∧St g M Γ' h'∧Mat (Bo g M) am' (cY 0 (as++ws) .nil) h' p.lr (ofN _ y) 0 [] Γ':=by
   intro hf
   obtain ⟨as,ws,am',Γ',h2,w1,w2,w3,w4,w5⟩:=AR k3 hf
   have hres:resAll e' g1 fn.res=some as:=by rw [k2.resAll]; exact w1
   have hro:resOf e' g1 fn.res=some (one as):=by
    unfold resOf
    rw [hres]
    cases as with
    | nil=>rfl
    | cons a as=>cases as<;>rfl
   refine ⟨n,one as,g1,h2,as,ws,am',Γ',?_,k2.trans w3,rfl,by rw [kn _ hres,← w2.len,hb3],?_,w4,w5⟩
   ·unfold aQ
    rw [hF]
    simp only [if_pos hl,hc,k1]
    cases xx with
    | normal=>simp only [hro]
    | ret=>simp only [hro]
    | exit i=>cases k5
   have:∀ i,i∈p.io→e'.get i=(cY 0 xs .nil).get i:=fun i hi=>c8 n c.er (by simpa using hb.2 i hi) k1
   refine (pC w2).imp fun i a ⟨hi,ha⟩=>?_
   rw [this i hi,bw] at ha
   split at ha
   ·rw [Nat.sub_zero] at ha; exact ha
   rw [Go.Am.T.get_nil] at ha; cases ha
  cases xx with
  | normal=>exact key k5
  | ret=>exact key k5
  | exit i=>cases k5
end
end Go.Am
namespace Go.Am
open Go
section
variable {T:TE} {R:Type}
def tB:W T→List Nat
 | .r k=>[k]
 | .ptr k _=>[k]
 | .ic _ k=>[k]
 | .fn _ ks=>ks
 | _=>[]
def qD:List In→List (W T)→List Nat
 | .r _::l,w::ws=>tB w++qD l ws
 | .ptr _ _::l,w::ws=>tB w++qD l ws
 | .fn _ _::l,w::ws=>tB w++qD l ws
 | .ic _ _::l,w::ws=>tB w++qD l ws
 | _::l,_::ws=>qD l ws
 | _,_=>[]
def CG:List (Bool×List In)→List (V1 T)→List Nat
 | p::ps,x::xs=>qD p.2 (cB x)++CG ps xs
 | _,_=>[]
def uh (ps:List (Part T)):List Nat→List Nat
 | []=>[]
 | k::ks=>(match nth ps k with
  | some (.row ws)=>ws.flatMap tB
  | some (.ho _ _ _ j)=>[j]
  | _=>[])++uh ps ks
def C2 (ps:List (Part T)):Nat→List Nat→List Nat
 | 0,_=>[]
 | _+1,[]=>[]
 | n+1,ks=>ks++C2 ps n (uh ps ks)
def qB:List Nat→VS T→List (Nat×Part T)→(VS T→List (Nat×Part T)→Option R)→Option R
 | [],s,acc,K=>K s acc
 | k::L,s,acc,K=>match nth s.ps k with
  | none=>none
  | some .dead=>qB L s acc K
  | some (.ro _)=>none
  | some p=>qB L (s.kill k) ((k,p)::acc) K
def frP:Nat→List (Nat×Part T)→List (Part T)
 | n,[]=>List.replicate n .dead
 | n,(k,p)::acc=>(frP n acc).set k p
def uF (gg:(t:VT)→Nat→(Option (T.D t)→Option R)→Option R) (s:VS T):(t:VT)→W T→(T.D t→Option R)→Option R
 | .int k,w,K=>match w with
  | .d _ t x=>cast1 x (.int k) K
  | _=>none
 | .bool,w,K=>match w with
  | .d _ t x=>cast1 x .bool K
  | .b p i=>K (@decide p i)
  | .c (.bool b)=>K b
  | _=>none
 | .str,w,K=>match w with
  | .d _ t x=>cast1 x .str K
  | _=>none
 | .sl o u,w,K=>match w with
  | .d _ (.sl _ t) x=>db x u K
  | .c .nilSlice=>K []
  | .r k=>match lkP s.ps k with
   | some (.sl t l)=>db l u K
   | _=>none
  | _=>none
 | .pt u,w,K=>match w with
  | .c .nilPtr=>K none
  | .d _ (.pt t) q=>kR q u K
  | .r k=>gg u k K
  | .ptr k 0=>gg u k K
  | _=>none
 | .ic n u,w,K=>match w with
  | .c .nilIface=>K none
  | .ic m k=>bif Nat.beq m n then gg u k K else none
  | .r k=>match lkP s.ps k with
   | some (.io m t q)=>bif Nat.beq m n then kR q u K else none
   | _=>none
  | _=>none
 | .mp a b,w,K=>match w with
  | .c .nilMap=>bif a.mpOk b then K none else none
  | .r k=>match lkP s.ps k with
   | some (.mp a' b' m)=>cast1 (t:=.mp a' b') m (.mp a b) K
   | _=>none
  | _=>none
 | .st _,_,_=>none
end
section
variable {T:TE}
mutual
def vQ {R:Type} (s:VS T):Nat→(ts:List VT)→List (W T)→(T.H ts→Option R)→Option R
 | 0,_,_,_=>none
 | _+1,[],[],K=>K ()
 | n+1,t::ts,w::ws,K=>uF (R:=R) (fun u k K=>bclP s n u k K) s t w fun x=>vQ s n ts ws fun y=>K (x,y)
 | _+1,_,_,_=>none
def bclP {R:Type} (s:VS T):Nat→(t:VT)→Nat→(Option (T.D t)→Option R)→Option R
 | 0,_,_,_=>none
 | n+1,u,k,K=>match lkP s.ps k with
  | some (.po t q)=>kR q u K
  | some (.row ws)=>vQ s n (T.lv u) ws fun x=>K (some (T.re u x))
  | _=>none
end
variable {R:Type}
def bcl (s:VS T) (t:VT) (w:W T) (K:T.D t→Option R):Option R:=vQ s fuel [t] [w] fun x=>K x.1
def Fs (s:VS T) (t:VT) (k off:Nat) (K:W T→Option R):Option R:=bclP s fuel t k fun q=>q.bind fun x=>K (.ed false t x off)
def brW (s:VS T):In→W T→(W T→Option R)→Option R
 | .d false t,w,K=>bcl s t w fun x=>K (.d false t x)
 | .e false t off,w,K=>match w with
  | .r k=>Fs s t k 0 K
  | .ptr k o=>Fs s t k o K
  | .ed _ t' x o=>K (.ed false t' x o)
  | .d _ (.pt t') q=>q.bind fun x=>K (.ed false t' x 0)
  | _=>none
 | _,.el _ _ _ _ _,K=>K .bad
 | _,w,K=>K w
def brL (s:VS T):List In→List (W T)→(List (W T)→Option R)→Option R
 | [],[],K=>K []
 | i::l,w::ws,K=>brW s i w fun w=>brL s l ws fun ws=>K (w::ws)
 | _,_,_=>none
def brA (s:VS T):List (Bool×List In)→List (V1 T)→(List (V1 T)→Option R)→Option R
 | [],[],K=>K []
 | p::ps,x::xs,K=>match x with
  | .w w=>brL s p.2 [w] fun ws=>brA s ps xs fun xs=>K (CH ws::xs)
  | .agg l=>brL s p.2 l fun ws=>brA s ps xs fun xs=>K (.agg ws::xs)
 | _,_,_=>none
def W.ren (k k':Nat):W T→W T
 | .r j=>.r (bif Nat.beq j k then k' else j)
 | .ptr j o=>.ptr (bif Nat.beq j k then k' else j) o
 | .ic n j=>.ic n (bif Nat.beq j k then k' else j)
 | .fn f ks=>.fn f (ks.map fun j=>bif Nat.beq j k then k' else j)
 | w=>w
def va:List (SV T)→Option (List (V1 T))
 | []=>some []
 | .v x::xs=>match va xs with
  | some l=>some (x::l)
  | none=>none
 | _=>none
def yU:W T→W T→Option (Nat×Nat)
 | .r k,.r k'=>some (k,k')
 | .ptr k _,.ptr k' _=>some (k,k')
 | .ic _ k,.ic _ k'=>some (k,k')
 | .r k,.ptr k' 0=>some (k,k')
 | .ptr k 0,.r k'=>some (k,k')
 | _,_=>none
def wS (s:VS T):List (V1 T)→List (V1 T)→(VS T→Option R)→Option R
 | [],[],K=>K s
 | .w a::xs,.w b::ys,K=>match yU a b with
  | some (k,k')=>wS (s.sub (W.ren k k')) xs ys K
  | none=>none
 | _,_,_=>none
def Ep:List (Nat×SV T)→Option (List (V1 T))
 | []=>some []
 | (_,.v x)::l=>match Ep l with
  | some xs=>some (x::xs)
  | none=>none
 | _=>none
def F8:List (V1 T)→SV T
 | [x]=>.v x
 | l=>.tup l
def pick:List Nat→List (V1 T)→Option (List (V1 T))
 | [],_=>some []
 | i::is,l=>match nth l i,pick is l with
  | some x,some xs=>some (x::xs)
  | _,_=>none
def wP:List In→Bool
 | []=>true
 | .d z t::l=>(z||t.flat)&&wP l
 | .e z _ _::l=>z&&wP l
 | _::l=>wP l
def Bs:Nat→List In→Bool
 | _,[]=>true
 | n,.slot k _::l=>Nat.beq k n&&Bs (n+1) l
 | n,_::l=>Bs n l
def z9:List In→List (W T)→List Nat
 | .d true (.sl false _)::l,.r k::ws=>k::z9 l ws
 | _::l,_::ws=>z9 l ws
 | _,_=>[]
def Ea:List (Bool×List In)→List (V1 T)→List Nat
 | p::ps,x::xs=>z9 p.2 (cB x)++Ea ps xs
 | _,_=>[]
def iK:List Nat→List (V1 T)→VS T→(List (V1 T)→VS T→Option R)→Option R
 | [],vs,s,K=>K vs s
 | k::ks,vs,s,K=>match nth s.ps k with
  | some (.sl t l)=>iK ks (vs.map (V1.map (W.frz k t l))) (s.frz k t l) K
  | _=>iK ks vs s K
def nx:List In→List (W T)→List Nat
 | .ptr _ 0::l,.r k::ws=>k::nx l ws
 | _::l,_::ws=>nx l ws
 | _,_=>[]
def qI:List (Bool×List In)→List (V1 T)→List Nat
 | p::ps,x::xs=>nx p.2 (cB x)++qI ps xs
 | _,_=>[]
def W.opp (k:Nat):W T→W T
 | .r j=>bif Nat.beq j k then .ptr k 0 else .r j
 | w=>w
def vF:List Nat→List (V1 T)→VS T→(List (V1 T)→VS T→Option R)→Option R
 | [],vs,s,K=>K vs s
 | k::ks,vs,s,K=>wL k s fun s=>vF ks (vs.map (V1.map (W.opp k))) s K
def rC (p:FSp) (fn:DN T.S (DS p.lp)→Option (DN T.S (DS p.lr))) (vs:List (V1 T)) (s:VS T) (K:SV T→VS T→Option R):Option R:=qB (C2 s.ps 6 (CG p.pr vs)) s [] fun s1 acc=>brA s1 p.pr vs fun ws=>qW p.lp ⟨numb 0 ws,frP s.ps.length acc⟩ fun x _=>
   (fn (toN _ x)).bind fun y=>bif okI (dv p.lr) p.lr&&wP p.lr&&Bs 0 p.lr then
    match Ep (mkE false s1.ps.length p.lr (ofN _ y) []),pick p.io vs with
    | some rs,some os=>wS (⟨s1.e,s1.ps++mkP false s1.ps.length p.lr (ofN _ y) []⟩) os (rs.drop (rs.length - p.io.length)) fun s2=>K (F8 (rs.take (rs.length - p.io.length))) s2
    | _,_=>none
   else none
def yV (p:FSp) (fn:DN T.S (DS p.lp)→Option (DN T.S (DS p.lr))) (xs:List (SV T)) (s:VS T) (K:SV T→VS T→Option R):Option R:=
 match va xs with
 | none=>none
 | some vs=>vF (qI p.pr vs) vs s fun vs s=>iK (Ea p.pr vs) vs s fun vs s=>rC p fn vs s K
end
end Go.Am
namespace Go.Am
open Go
section
variable {T:TE} {g:Heap} {M:Nat→Prop} {h:Heap}
theorem Bb {B B':Hp} (hb:Hp.le B B'):∀ z,Hp.le (zG B h z) (zG B' h z)
 | true=>Hp.le_refl _
 | false=>hb
theorem tJ {B B':Hp} (hb:Hp.le B B') {ms:List AV}:∀ (w:W T) {a:AV},cg B ms h w a→cg B' ms h w a
 | .bad,_,r=>r
 | .c v,_,r=>r
 | .d z t x,_,r=>(T.r t).mono (Bb hb z) r
 | .b p i,_,r=>r
 | .r k,_,r=>r
 | .ic n k,_,r=>r
 | .ptr k off,_,r=>r
 | .el _ _ _ _ _,_,r=>r.elim
 | .ed z t x off,_,⟨o,v,base,row,r1,r2,r3,r4⟩=>⟨o,v,base,row,Bb hb z _ _ _ r1,r2,(T.r t).mono (Bb hb z) r3,r4⟩
 | .fn f ks,_,r=>r
theorem wD {B B':Hp} (hb:Hp.le B B') {ms:List AV} {a:AV}:∀ (p:Part T) (fp:List Nat),(df B ms a p).P h fp→(df B' ms a p).P h fp
 | .dead,fp,k=>k
 | .sl t l,fp,k=>k
 | .po t q,fp,k=>k
 | .io n t q,fp,k=>k
 | .mp _ _ _,fp,k=>k
 | .ho _ _ _ _,fp,k=>k
 | .ro p,fp,k=>wD hb p fp k
 | .row ws,fp,⟨o,v,cs,e,e2,hg,hr⟩=>⟨o,v,cs,e,e2,hg,hr.imp fun w a k=>⟨tJ hb w k.1,k.2⟩⟩
def mZ (B B':Hp) (ms:List AV) (h:Heap) (ps:List (Part T)):Prop:=∀ k p a,lkP ps k=some p→nth ms k=some a→∃ f,(df B ms a p).P h f∧Hp.le (Loc h f) B'
theorem HV {G:Hp} {t:VT} {cs:List AV} {x:T.H (T.lv t)} (hr:(oHL T.o (T.lv t)).rep.R G cs x):(T.r t).R G cs (T.re t x):=by
 have key:∀ {u:VT} (x:T.H [u]),(oHL T.o [u]).rep.R G cs x→(T.r u).R G cs x.1:=by
  rintro u x ⟨a,b,rfl,h1,h2⟩
  have h2:b=[]:=List.eq_nil_of_length_eq_zero ((rU).len h2)
  subst h2
  rw [List.append_nil]
  exact h1
 cases t with
 | st k=>
  show (T.w (.st k)).rep.R G cs _
  have e:T.w (.st k)=qT (oHL T.o (T.fl k)) (T.to k):=T.o_eq k
  rw [e]
  show (oHL T.o (T.fl k)).rep.R G cs (T.to k (T.of k x))
  rw [T.to_of]
  exact hr
 | _=>exact key x hr
theorem zz {a b:VT} (hk:a.mpOk b=true) (h:Heap) {G:Hp}:(T.r (.mp a b)).R G [.nilMap] none:=by
 cases a<;>cases b<;>first | (cases hk; done) | exact ⟨_,rfl,rfl⟩
theorem xy {R:Type} {B B':Hp} {s:VS T} {ms:List AV} (hz:∀ z,Hp.le (zG B h z) B') (hA:mZ B B' ms h s.ps) {gg:(t:VT)→Nat→(Option (T.D t)→Option R)→Option R}
  (hg:∀ (u:VT) (k:Nat) (K:Option (T.D u)→Option R) (r:R),gg u k K=some r→∀ {a:AV},nth ms k=some a→∃ q,K q=some r∧(T.r (.pt u)).R B' [a] q) :
  ∀ (t:VT) (w:W T) (K:T.D t→Option R) (r:R),uF gg s t w K=some r→∀ {a:AV},ii B ms h w a→∃ x,K x=some r∧(T.r t).R B' [a] x:=by
 intro t w K r hK a hr
 cases t with
 | int k=>
  cases w<;>simp only [uF] at hK<;>try cases hK
  rename_i z t x
  obtain ⟨rfl,hK⟩:=bk hK
  exact ⟨_,hK,hr⟩
 | bool=>
  cases w<;>simp only [uF] at hK<;>try cases hK
  ·rename_i v
   cases v<;>simp only at hK<;>try cases hK
   have hr:a=.bool _:=hr
   subst hr
   exact ⟨_,hK,rfl⟩
  ·rename_i z t x
   obtain ⟨rfl,hK⟩:=bk hK
   exact ⟨_,hK,hr⟩
  rename_i p i
  have hr:a=.bool (@decide p i):=hr
  subst hr
  exact ⟨_,hK,rfl⟩
 | str=>
  cases w<;>simp only [uF] at hK<;>try cases hK
  rename_i z t x
  obtain ⟨rfl,hK⟩:=bk hK
  exact ⟨_,hK,hr⟩
 | sl o u=>
  have toO:∀ {l:List (T.D u)},(rSl (T.w u).rep).R B' [a] l→(T.r (.sl o u)).R B' [a] l:=fun k=>by cases o<;>exact k
  cases w<;>simp only [uF] at hK<;>try cases hK
  ·rename_i v
   cases v<;>simp only at hK<;>try cases hK
   have hr:a=.nilSlice:=hr
   subst hr
   exact ⟨_,hK,toO ⟨_,rfl,.inl ⟨rfl,rfl⟩⟩⟩
  ·rename_i z t x
   cases t<;>first | (exfalso; simp at hK; done) | skip
   rename_i o' t
   have hK:db x u K=some r:=hK
   obtain ⟨rfl,hK⟩:=aO hK
   have hr:(T.r (.sl o' t)).R (zG B h z) [a] x:=hr
   refine ⟨_,hK,toO ((rSl (T.w t).rep).mono (hz z) ?_)⟩
   cases o'<;>exact hr
  rename_i k
  split at hK
  ·rename_i t l hp
   obtain ⟨rfl,hK⟩:=aO hK
   have hr:nth ms k=some a:=hr
   obtain ⟨f,k1,k2⟩:=hA k _ a hp hr
   refine ⟨_,hK,toO ?_⟩
   exact (rSl (T.w t).rep).mono k2 ((T.ogw (.sl true t)).loc k1)
  cases hK
 | st k=>simp only [uF] at hK; cases hK
 | pt u=>
  cases w<;>simp only [uF] at hK<;>try cases hK
  ·rename_i v
   cases v<;>simp only at hK<;>try cases hK
   have hr:a=.nilPtr:=hr
   subst hr
   exact ⟨_,hK,nu (.inl ⟨rfl,rfl⟩)⟩
  ·rename_i z t0 x0
   cases t0<;>first | (exfalso; simp at hK; done) | skip
   rename_i t
   have hK:kR x0 u K=some r:=hK
   obtain ⟨rfl,hK⟩:=cM hK
   exact ⟨_,hK,(T.r (.pt t)).mono (hz z) hr⟩
  ·exact hg _ _ _ _ hK hr
  rename_i k off
  cases off<;>simp only at hK<;>try cases hK
  obtain ⟨o,v,h1,rfl⟩:=hr
  exact hg _ _ _ _ hK h1
 | ic n u=>
  cases w<;>simp only [uF] at hK<;>try cases hK
  ·rename_i v
   cases v<;>simp only at hK<;>try cases hK
   have hr:a=.nilIface:=hr
   subst hr
   exact ⟨_,hK,_,rfl,.inl ⟨rfl,rfl⟩⟩
  ·rename_i k
   split at hK
   ·rename_i m t q hp
    cases hm:Nat.beq m n with
    | false=>rw [hm] at hK; cases hK
    | true=>
     obtain rfl:=Nat.eq_of_beq_eq_true hm
     rw [hm,cond_true] at hK
     obtain ⟨rfl,hK⟩:=cM hK
     have hr:nth ms k=some a:=hr
     obtain ⟨f,k1,k2⟩:=hA k _ a hp hr
     exact ⟨_,hK,(T.r (.ic m t)).mono k2 ((T.ogw (.ic m t)).loc k1)⟩
   cases hK
  rename_i m k
  cases hm:Nat.beq m n with
  | false=>rw [hm] at hK; cases hK
  | true=>
   obtain rfl:=Nat.eq_of_beq_eq_true hm
   rw [hm] at hK
   obtain ⟨p,h1,_,rfl⟩:=hr
   obtain ⟨q,k1,k2⟩:=hg _ _ _ _ hK h1
   exact ⟨q,k1,_,rfl,.inr ⟨p,rfl,cP k2⟩⟩
 | mp x y=>
  cases w<;>simp only [uF] at hK<;>try cases hK
  ·rename_i v
   cases v<;>simp only at hK<;>try cases hK
   cases hm:x.mpOk y with
   | false=>rw [hm] at hK; cases hK
   | true=>
    rw [hm] at hK
    have hr:a=.nilMap:=hr
    subst hr
    exact ⟨_,hK,zz hm h⟩
  rename_i k
  split at hK
  ·rename_i x' y' m hp
   obtain ⟨e,hK⟩:=bk hK
   cases e
   have hr:nth ms k=some a:=hr
   obtain ⟨f,k1,k2⟩:=hA k _ a hp hr
   exact ⟨_,hK,(T.r (.mp x y)).mono k2 ((T.ogw (.mp x y)).loc k1)⟩
  cases hK
theorem oC {R:Type} {B B':Hp} {s:VS T} {ms:List AV} (hz:∀ z,Hp.le (zG B h z) B') (hA:mZ B B' ms h s.ps):∀ (n:Nat),(∀ (ts:List VT) (ws:List (W T)) (K:T.H ts→Option R) (r:R),vQ s n ts ws K=some r→∀ {as:List AV},All2 (ii B ms h) ws as→∃ x,K x=some r∧(oHL T.o ts).rep.R B' as x)
  ∧ (∀ (u:VT) (k:Nat) (K:Option (T.D u)→Option R) (r:R),bclP s n u k K=some r→∀ {a:AV},nth ms k=some a→∃ q,K q=some r∧(T.r (.pt u)).R B' [a] q)
 | 0=>⟨fun ts ws K r hK=>(by simp only [vQ] at hK; cases hK),fun u k K r hK=>(by simp only [bclP] at hK; cases hK)⟩
 | n+1=>by
  obtain ⟨ih1,ih2⟩:=oC (R:=R) hz hA n
  refine ⟨fun ts ws K r hK as hr=>?_,fun u k K r hK a ha=>?_⟩
  ·cases ts with
   | nil=>
    cases ws with
    | nil=>simp only [vQ] at hK; cases hr; exact ⟨(),hK,rfl⟩
    | cons w ws=>simp only [vQ] at hK; cases hK
   | cons t ts=>
    cases ws with
    | nil=>simp only [vQ] at hK; cases hK
    | cons w ws=>
     simp only [vQ] at hK
     cases hr with
     | cons p q=>
      obtain ⟨x,k1,k2⟩:=xy hz hA ih2 _ _ _ _ hK p
      obtain ⟨y,q1,q2⟩:=ih1 _ _ _ _ k1 q
      exact ⟨(x,y),q1,[_],_,rfl,k2,q2⟩
  simp only [bclP] at hK
  split at hK
  ·rename_i t q hp
   obtain ⟨rfl,hK⟩:=cM hK
   obtain ⟨f,k1,k2⟩:=hA k _ a hp ha
   exact ⟨q,hK,(T.r (.pt t)).mono k2 ((T.ogw (.pt t)).loc k1)⟩
  ·rename_i ws hp
   obtain ⟨f,⟨o,v,cs,rfl,rfl,hg,hr⟩,k2⟩:=hA k _ a hp ha
   obtain ⟨x,q1,q2⟩:=ih1 _ _ _ _ hK (hr.imp fun w a k=>pF k.1)
   exact ⟨_,q1,nu (.inr ⟨o,v,cs,_,rfl,rfl,k2 _ _ _ (.inr ⟨List.mem_singleton.2 rfl,true,hg⟩),HV q2⟩)⟩
  cases hK
theorem Db {R:Type} {B B':Hp} {s:VS T} {ms:List AV} (hz:∀ z,Hp.le (zG B h z) B') (hA:mZ B B' ms h s.ps) {t:VT} {w:W T} {K:T.D t→Option R} {r:R} (hK:bcl s t w K=some r) {a:AV} (hr:ii B ms h w a):∃ x,K x=some r∧(T.r t).R B' [a] x:=by
 obtain ⟨x,k1,k2⟩:=(oC hz hA fuel).1 _ _ _ _ hK (.cons hr .nil)
 obtain ⟨a1,b,e1,h1,h2⟩:=k2
 have h2:b=[]:=List.eq_nil_of_length_eq_zero ((rU).len h2)
 subst h2
 rw [List.append_nil] at e1
 subst e1
 exact ⟨x.1,k1,h1⟩
theorem sF {R:Type} {B B':Hp} {s:VS T} {ms:List AV} (hz:∀ z,Hp.le (zG B h z) B') (hA:mZ B B' ms h s.ps) {t:VT} {k off:Nat} {K:W T→Option R} {r:R} (hK:Fs s t k off K=some r) {a:AV} (ha:nth ms k=some a):∃ w o v,K w=some r∧a=.ptr o v 0∧cg B' ms h w (.ptr o v off):=by
 obtain ⟨q,k1,k2⟩:=(oC hz hA fuel).2 _ _ _ _ hK ha
 obtain ⟨x,rfl,k1⟩:=obI k1
 rcases cP k2 with ⟨_,e⟩ | ⟨o,v,row,a',rfl,e,h1,h2⟩
 ·cases e
 cases e
 have hl:row.length=T.cells t:=((T.r t).len h2).trans (a5 T t)
 exact ⟨_,o,v,k1,rfl,o,v,0,row,h1,by omega,by rw [List.drop_zero,← hl,List.take_length]; exact h2,by rw [Nat.zero_add]⟩
theorem DQ {B B':Hp} (hb:Hp.le B B') {ms:List AV}:∀ {w:W T} {a:AV},(∀ k t i x off,w≠.el k t i x off)→ii B ms h w a→cg B' ms h w a
 | .el _ _ _ _ _,_,hn,r=>absurd rfl (hn _ _ _ _ _)
 | .bad,_,_,r=>trivial
 | .c v,_,_,r=>r
 | .d z t x,_,_,r=>tJ (ms:=ms) hb (.d z t x) r
 | .b p i,_,_,r=>r
 | .r k,_,_,r=>r
 | .ic n k,_,_,r=>r
 | .ptr k off,_,_,r=>r
 | .ed z t x off,_,_,r=>tJ (ms:=ms) hb (.ed z t x off) r
 | .fn _ _,_,_,r=>r
theorem Cg {R:Type} {B B':Hp} {s:VS T} {ms:List AV} (hb:Hp.le B B') (hz:∀ z,Hp.le (zG B h z) B') (hA:mZ B B' ms h s.ps) {i:In} {w:W T} {K:W T→Option R} {r:R} (hK:brW s i w K=some r) {a:AV} (hr:ii B ms h w a):∃ w',K w'=some r∧cg B' ms h w' a:=by
 unfold brW at hK
 split at hK
 ·obtain ⟨x,k1,k2⟩:=Db hz hA hK hr
  exact ⟨_,k1,k2⟩
 ·split at hK
  ·obtain ⟨w,o,v,k1,rfl,k2⟩:=sF hz hA hK hr
   exact ⟨w,k1,k2⟩
  ·obtain ⟨o,v,h1,rfl⟩:=hr
   obtain ⟨w,o',v',k1,e,k2⟩:=sF hz hA hK h1
   cases e
   exact ⟨w,k1,k2⟩
  ·rename_i z t' x o
   obtain ⟨o,v,base,row,r1,r2,r3,r4⟩:=hr
   exact ⟨_,hK,o,v,base,row,hz z _ _ _ r1,r2,(T.r t').mono (hz z) r3,r4⟩
  ·rename_i z t' q
   obtain ⟨x,rfl,hK⟩:=obI hK
   have hr:(Bp (T.r t')).R (zG B h z) [a] (some x):=hr
   rcases cP hr with ⟨_,e⟩ | ⟨o,v,row,b,rfl,e,h1,h2⟩
   ·cases e
   cases e
   have hl:row.length=T.cells t':=by rw [← a5]; exact (T.r t').len h2
   exact ⟨_,hK,o,v,0,row,hz z _ _ _ h1,by omega,by rw [List.drop_zero,← hl,List.take_length]; exact (T.r t').mono (hz z) h2,rfl⟩
  cases hK
 ·exact ⟨_,hK,trivial⟩
 rename_i hn1 hn2 hn3
 exact ⟨_,hK,DQ hb (fun k t j x off e=>hn3 _ _ _ _ _ e) hr⟩
theorem uf {R:Type} {B B':Hp} {s:VS T} {ms:List AV} (hb:Hp.le B B') (hz:∀ z,Hp.le (zG B h z) B') (hA:mZ B B' ms h s.ps):∀ (l:List In) (ws:List (W T)) {K:List (W T)→Option R} {r:R},brL s l ws K=some r→∀ {as:List AV},All2 (fun w a=>ii B ms h w a∧a.flat=true) ws as→∃ ws',K ws'=some r∧All2 (hY B' ms h) ws' as
 | [],[],K,r,hK,as,hr=>by cases hr; exact ⟨[],hK,.nil⟩
 | [],w::ws,K,r,hK,as,hr=>by simp only [brL] at hK; cases hK
 | i::l,[],K,r,hK,as,hr=>by simp only [brL] at hK; cases hK
 | i::l,w::ws,K,r,hK,as,hr=>by
  simp only [brL] at hK
  cases hr with
  | cons p q=>
   obtain ⟨w',k1,k2⟩:=Cg hb hz hA hK p.1
   obtain ⟨ws',q1,q2⟩:=uf hb hz hA l ws k1 q
   exact ⟨w'::ws',q1,.cons ⟨k2,p.2⟩ q2⟩
def Dx (B:Hp) (ms:List AV) (h:Heap):V1 T→AV→Prop
 | .w w,a=>ii B ms h w a∧a.flat=true
 | .agg ws,a=>∃ cs,a=.agg cs∧All2 (fun w a=>ii B ms h w a∧a.flat=true) ws cs
theorem Cx {B:Hp} {ps:List (Part T)} {ms:List AV}:∀ {x:V1 T} {a:AV},fR B ps ms h x a→Dx B ms h x a
 | .w w,a,r=>⟨g9 r.1,r.2⟩
 | .agg ws,a,⟨cs,e,r⟩=>⟨cs,e,r.imp fun w a k=>⟨g9 k.1,k.2⟩⟩
theorem tq {R:Type} {B B':Hp} {s:VS T} {ms:List AV} (hb:Hp.le B B') (hz:∀ z,Hp.le (zG B h z) B') (hA:mZ B B' ms h s.ps):∀ (l:List (Bool×List In)) (xs:List (V1 T)) {K:List (V1 T)→Option R} {r:R},brA s l xs K=some r→∀ {as:List AV},All2 (Dx B ms h) xs as→xs.length=l.length∧∃ ys,K ys=some r∧All2 (qA B' ms h) ys as
 | [],[],K,r,hK,as,hr=>by cases hr; exact ⟨rfl,[],hK,.nil⟩
 | [],x::xs,K,r,hK,as,hr=>by simp only [brA] at hK; cases hK
 | p::l,[],K,r,hK,as,hr=>by simp only [brA] at hK; cases hK
 | p::l,x::xs,K,r,hK,as,hr=>by
  simp only [brA] at hK
  cases hr with
  | cons hx hxs=>
   cases x with
   | w w=>
    obtain ⟨ws',k1,k2⟩:=uf hb hz hA _ _ hK (.cons hx .nil)
    obtain ⟨hl,ys,q1,q2⟩:=tq hb hz hA l xs k1 hxs
    cases k2 with
    | cons p1 p2=>
     cases p2
     exact ⟨congrArg (·+1) hl,_,q1,.cons p1 q2⟩
   | agg ws=>
    obtain ⟨cs,rfl,hx⟩:=hx
    obtain ⟨ws',k1,k2⟩:=uf hb hz hA _ _ hK hx
    obtain ⟨hl,ys,q1,q2⟩:=tq hb hz hA l xs k1 hxs
    exact ⟨congrArg (·+1) hl,_,q1,.cons ⟨cs,rfl,k2⟩ q2⟩
end
end Go.Am
namespace Go.Am
open Go
section
variable {T:TE} {F:Nat→Option AFn} {g:Heap} {M:Nat→Prop}
def atM (ms:List AV) (k:Nat):AV:=match nth ms k with
 | some a=>a
 | none=>.undef
theorem wh {ms:List AV} {k:Nat} {a:AV} (h:nth ms k=some a):atM ms k=a:=by unfold atM; rw [h]
theorem uE {ms:List AV} {k:Nat} (h:k < ms.length):nth ms k=some (atM ms k):=by
 have:nth ms k=some (ms[k]):=by rw [aW,List.getElem?_eq_getElem]
 rw [wh this,this]
def qU (B:Hp) (ms:List AV):List (Nat×Part T)→List Ch
 | []=>[]
 | (k,p)::l=>df B ms (atM ms k) p::qU B ms l
def qY (ps:List (Part T)):List (Nat×Part T)→Prop
 | []=>True
 | (k,_)::l=>nth ps k=some .dead∧(∀ x,x∈l→x.1≠k)∧qY ps l
theorem qY.kill {s:VS T} {k:Nat}:∀ {acc:List (Nat×Part T)},qY s.ps acc→(∀ x,x∈acc→x.1≠k)→qY (s.kill k).ps acc
 | [],_,_=>trivial
 | (j,p)::l,⟨h1,h2,h3⟩,hn=>⟨by
  show nth (s.ps.set k .dead) j=_
  rw [cR _ _ _ _ (hn _ (List.mem_cons_self ..)),h1],h2,qY.kill h3 fun x hx=>hn x (List.mem_cons_of_mem _ hx)⟩
theorem qY.mem {ps:List (Part T)}:∀ {acc:List (Nat×Part T)},qY ps acc→∀ x,x∈acc→nth ps x.1=some .dead
 | [],_,x,hx=>by cases hx
 | (j,p)::l,⟨h1,h2,h3⟩,x,hx=>by
  rcases List.mem_cons.1 hx with rfl | hx
  ·exact h1
  exact qY.mem h3 x hx
theorem kI {R:Type}:∀ (L:List Nat) (s:VS T) (acc:List (Nat×Part T)) {K:VS T→List (Nat×Part T)→Option R} {r:R},qB L s acc K=some r→∀ {Δ:List Ch} {ms:List AV} {e:Env} {h:Heap},VSim g M (qU (Bo g M) ms acc++Δ) s ms e h→qY s.ps acc→
  ∃ s' acc',K s' acc'=some r∧VSim g M (qU (Bo g M) ms acc'++Δ) s' ms e h∧qY s'.ps acc'∧Trk s s'
 | [],s,acc,K,r,hK,Δ,ms,e,h,S,hd=>⟨s,acc,hK,S,hd,Trk.refl s⟩
 | k::L,s,acc,K,r,hK,Δ,ms,e,h,S,hd=>by
  simp only [qB] at hK
  have go:∀ p,nth s.ps k=some p→p≠.dead→(∀ q,p≠.ro q)→qB L (s.kill k) ((k,p)::acc) K=some r→∃ s' acc',K s' acc'=some r∧VSim g M (qU (Bo g M) ms acc'++Δ) s' ms e h∧qY s'.ps acc'∧Trk s s':=fun p hp hnd hnr hK=>by
   obtain ⟨a,ha⟩:=bH S.len hp
   have S1:=S.kill hp ha
   have hn:∀ x,x∈acc→x.1≠k:=fun x hx e=>by
    have:=hd.mem x hx
    rw [e,hp] at this
    cases this
    exact hnd rfl
   have S2:VSim g M (qU (Bo g M) ms ((k,p)::acc)++Δ) (s.kill k) ms e h:=by
    show VSim g M (df (Bo g M) ms (atM ms k) p::(qU (Bo g M) ms acc++Δ)) (s.kill k) ms e h
    rw [wh ha]
    exact S1
   obtain ⟨s',acc',k1,k2,k3,k4⟩:=kI L _ _ hK S2 ⟨by
    show nth (s.ps.set k .dead) k=_
    exact a8 hp,hn,hd.kill hn⟩
   exact ⟨s',acc',k1,k2,k3,(Trk.kill hp hnr).trans k4⟩
  split at hK
  ·cases hK
  ·exact kI L s acc hK S hd
  ·cases hK
  rename_i p hn1 hn2 hp
  exact go _ hp (fun e=>hn1 (by rw [e])) (fun q e=>hn2 q (by rw [e])) hK
theorem wd {B B':Hp} (hb:Hp.le B B') {ms:List AV} {h:Heap}:∀ (acc:List (Nat×Part T)),All2 (fun (c c':Ch)=>∀ fp,c.P h fp→c'.P h fp) (qU B ms acc) (qU B' ms acc)
 | []=>.nil
 | (k,p)::l=>.cons (wD hb p) (wd hb l)
theorem St.addEms {B:Hp} {ms:List AV} {h:Heap} {Γ:List Ch}:∀ (as:List AV) (n:Nat),St g M Γ h→St g M (Γ++chs (T:=T) B ms as (List.replicate n .dead)) h
 | [],n,S=>by simpa [chs] using S
 | a::as,0,S=>by simpa [chs] using S
 | a::as,n+1,S=>by
  show St g M (Γ++emC::chs B ms as (List.replicate n .dead)) h
  exact (St.addEms as n S).addEm.perm List.perm_middle.symm
theorem pR {n k:Nat} (hk:k < n):∀ (acc:List (Nat×Part T)),(∀ x,x∈acc→x.1≠k)→nth (frP n acc) k=some .dead
 | [],_=>by rw [aW]; simp [frP,hk]
 | (j,p)::l,hn=>by
  simp only [frP]
  rw [cR _ _ _ _ (Ne.symm (hn _ (List.mem_cons_self ..)))]
  exact pR hk l fun x hx=>hn x (List.mem_cons_of_mem _ hx)
theorem VSim.frame {ps:List (Part T)} {ms:List AV} {e:Env} {h:Heap} (hl:ms.length=ps.length):∀ {acc:List (Nat×Part T)},qY ps acc→∀ {Δ:List Ch},VSim (T:=T) g M (qU (Bo g M) ms acc++Δ) ⟨[],List.replicate ms.length .dead⟩ ms e h→VSim g M Δ ⟨[],frP ms.length acc⟩ ms e h
 | [],_,Δ,S=>S
 | (k,p)::l,⟨h1,h2,h3⟩,Δ,S=>by
  have hk:k < ms.length:=by rw [hl]; exact gY h1
  have S1:VSim g M (qU (Bo g M) ms l++df (Bo g M) ms (atM ms k) p::Δ) ⟨[],List.replicate ms.length .dead⟩ ms e h:=S.with (S.st.perm (List.Perm.append_right _ List.perm_middle.symm))
  exact (VSim.frame hl h3 S1).put0 (pR hk l h2) (uE hk)
theorem pf {B:Hp} {ps:List (Part T)} {ms:List AV} {h:Heap}:∀ {xs:List (SV T)} {vs:List (V1 T)},va xs=some vs→∀ {as:List AV},All2 (cJ B ps ms h) xs as→All2 (fR B ps ms h) vs as
 | [],vs,hv,as,hr=>by cases hv; cases hr; exact .nil
 | .v x::xs,vs,hv,as,hr=>by
  simp only [va] at hv
  split at hv
  ·rename_i l hl
   cases hv
   cases hr with
   | cons p q=>exact .cons p (pf hl q)
  cases hv
 | .tup _::xs,vs,hv,as,hr=>by cases hv
 | .un::xs,vs,hv,as,hr=>by cases hv
 | .ro _::xs,vs,hv,as,hr=>by cases hv
theorem Mat.base {B B':Hp} {am:Nat→AV} {e:Env} {h:Heap}:∀ {l:List In} {x:T.H (DS l)} {n:Nat} {acc:List AV} {Γ:List Ch},wP l=true→Mat B am e h l x n acc Γ→Mat B' am e h l x n acc Γ
 | [],x,n,acc,Γ,_,hM=>hM
 | .d z t::l,x,n,acc,Γ,hf,⟨a,h1,h2,h3⟩=>by
  simp only [wP,Bool.and_eq_true,Bool.or_eq_true] at hf
  refine ⟨a,h1,?_,Mat.base hf.2 h3⟩
  rcases hf.1 with rfl | hf
  ·exact h2
  exact mt hf h2
 | .e z t o::l,x,n,acc,Γ,hf,⟨a,h1,h2,h3⟩=>by
  simp only [wP,Bool.and_eq_true] at hf
  obtain ⟨rfl,hf⟩:=hf
  exact ⟨a,h1,h2,Mat.base hf h3⟩
 | .r j::l,x,n,acc,Γ,hf,⟨h1,h2⟩=>⟨h1,Mat.base (l:=l) hf h2⟩
 | .ptr j off::l,x,n,acc,Γ,hf,⟨o,v,h1,h2⟩=>⟨o,v,h1,Mat.base (l:=l) hf h2⟩
 | .fn f js::l,x,n,acc,Γ,hf,⟨cs,h1,h2⟩=>⟨cs,h1,Mat.base (l:=l) hf h2⟩
 | .ic m j::l,x,n,acc,Γ,hf,⟨h1,h2⟩=>⟨h1,Mat.base (l:=l) hf h2⟩
 | .c v::l,x,n,acc,Γ,hf,⟨h1,h2⟩=>⟨h1,Mat.base (l:=l) hf h2⟩
 | .ld _ _::l,x,n,acc,Γ,hf,hM=>Mat.base (l:=l) hf hM
 | .ldr::l,x,n,acc,Γ,hf,hM=>Mat.base (l:=l) hf hM
 | .slot k false::l,x,n,acc,Γ,hf,⟨h1,h2⟩=>⟨h1,Mat.base (l:=l) hf h2⟩
 | .slot k true::l,x,n,acc,Γ,hf,⟨h1,h2⟩=>⟨h1,Mat.base (l:=l) hf h2⟩
 | .row::l,x,n,acc,Γ,hf,⟨o,v,Γ',h1,h2,h3⟩=>⟨o,v,Γ',h1,h2,Mat.base (l:=l) hf h3⟩
 | .sl t::l,x,n,acc,Γ,hf,⟨Γ',h1,h2⟩=>⟨Γ',h1,Mat.base (l:=l) hf h2⟩
 | .po t::l,x,n,acc,Γ,hf,⟨Γ',h1,h2⟩=>⟨Γ',h1,Mat.base (l:=l) hf h2⟩
 | .pr t::l,x,n,acc,Γ,hf,⟨Γ',h1,h2⟩=>⟨Γ',h1,Mat.base (l:=l) hf h2⟩
 | .mp a b::l,x,n,acc,Γ,hf,⟨Γ',h1,h2⟩=>⟨Γ',h1,Mat.base (l:=l) hf h2⟩
 | .io a b::l,x,n,acc,Γ,hf,⟨Γ',h1,h2⟩=>⟨Γ',h1,Mat.base (l:=l) hf h2⟩
theorem a9 {ro:Bool} {b:Nat}:∀ (l:List In) (x:T.H (DS l)) (acc:List (W T)),(mkE ro b l x acc).map Prod.fst=bC l
 | [],x,acc=>rfl
 | .d _ _::l,x,acc=>a9 l x.2 _
 | .e _ _ _::l,x,acc=>a9 l x.2 _
 | .r _::l,x,acc=>a9 l x _
 | .ptr _ _::l,x,acc=>a9 l x _
 | .fn _ _::l,x,acc=>a9 l x _
 | .ic _ _::l,x,acc=>a9 l x _
 | .c _::l,x,acc=>a9 l x _
 | .ld _ _::l,x,acc=>a9 l x _
 | .ldr::l,x,acc=>a9 l x _
 | .slot k agg::l,x,acc=>by
  show k::(mkE ro b l x []).map Prod.fst=k::bC l
  rw [a9 l x []]
 | .row::l,x,acc=>a9 l x _
 | .sl _::l,x,acc=>a9 l x.2 _
 | .po _::l,x,acc=>a9 l x.2 _
 | .pr _::l,x,acc=>a9 l x.2 _
 | .mp _ _::l,x,acc=>a9 l x.2 _
 | .io _ _::l,x,acc=>a9 l x.2 _
theorem bt:∀ (l:List In) {n:Nat},Bs n l=true→bC l=List.range' n (bC l).length
 | [],n,h=>rfl
 | .slot k agg::l,n,h=>by
  have h:(Nat.beq k n&&Bs (n+1) l)=true:=h
  rw [Bool.and_eq_true] at h
  obtain rfl:=Nat.eq_of_beq_eq_true h.1
  show k::bC l=List.range' k ((bC l).length+1)
  rw [List.range'_succ,← bt l h.2]
 | .d _ _::l,n,h=>bt l h
 | .e _ _ _::l,n,h=>bt l h
 | .r _::l,n,h=>bt l h
 | .ptr _ _::l,n,h=>bt l h
 | .fn _ _::l,n,h=>bt l h
 | .ic _ _::l,n,h=>bt l h
 | .c _::l,n,h=>bt l h
 | .ld _ _::l,n,h=>bt l h
 | .ldr::l,n,h=>bt l h
 | .row::l,n,h=>bt l h
 | .sl _::l,n,h=>bt l h
 | .po _::l,n,h=>bt l h
 | .pr _::l,n,h=>bt l h
 | .mp _ _::l,n,h=>bt l h
 | .io _ _::l,n,h=>bt l h
theorem rz {B:Hp} {ms:List AV} {h:Heap}:∀ (as:List AV) (l:qa T) (n:Nat) {rs:List (V1 T)},l.map Prod.fst=List.range' n as.length→(∀ k sv,(k,sv)∈l→∃ v y,as[k - n]? = some v∧sv=.v y∧qA B ms h y v)→Ep l=some rs→All2 (qA B ms h) rs as
 | [],[],n,rs,hl,hm,hv=>by cases hv; exact .nil
 | [],x::l,n,rs,hl,hm,hv=>by cases hl
 | a::as,[],n,rs,hl,hm,hv=>by simp [List.range'_succ] at hl
 | a::as,(k,sv)::l,n,rs,hl,hm,hv=>by
  rw [List.length_cons,List.range'_succ,List.map_cons] at hl
  injection hl with h1 h2
  have h1:k=n:=h1
  subst h1
  obtain ⟨v,y,q1,rfl,q3⟩:=hm k sv (List.mem_cons_self ..)
  simp only [Ep] at hv
  split at hv
  ·rename_i xs hx
   cases hv
   rw [Nat.sub_self,List.getElem?_cons_zero] at q1
   cases q1
   refine .cons q3 (rz as l (k+1) h2 (fun j sv hj=>?_) hx)
   obtain ⟨v,y,w1,w2,w3⟩:=hm j sv (List.mem_cons_of_mem _ hj)
   have hlt:k+1≤j:=by
    have:j∈l.map Prod.fst:=List.mem_map.2 ⟨_,hj,rfl⟩
    rw [h2,List.mem_range'_1] at this
    exact this.1
   refine ⟨v,y,?_,w2,w3⟩
   rw [show j - k=(j - (k+1))+1 by omega,List.getElem?_cons_succ] at w1
   exact w1
  cases hv
theorem rn {P:V1 T→AV→Prop} {vs:List (V1 T)} {as:List AV} (hv:All2 P vs as):∀ (is:List Nat) {os:List (V1 T)} {ws:List AV},pick is vs=some os→All2 (fun i a=>as[i]? = some a) is ws→All2 P os ws
 | [],os,ws,ho,hw=>by cases ho; cases hw; exact .nil
 | i::is,os,ws,ho,hw=>by
  simp only [pick] at ho
  split at ho
  ·rename_i x xs hx hxs
   cases ho
   cases hw with
   | cons p q=>
    obtain ⟨a,h1,h2⟩:=hv.nthR hx
    rw [p] at h1
    cases h1
    exact .cons h2 (rn hv is hxs q)
  cases ho
theorem DD {B:Hp} {ms:List AV} {h:Heap} {k k':Nat} (hk:nth ms k'=nth ms k):∀ (w:W T) (a:AV),cg B ms h w a→cg B ms h (W.ren k k' w) a
 | .r j,a,r=>by
  simp only [W.ren]
  cases hb:Nat.beq j k with
  | false=>exact r
  | true=>
   obtain rfl:=Nat.eq_of_beq_eq_true hb
   show nth ms k'=_
   rw [hk]; exact r
 | .ic n j,a,⟨p,r1,r2,r3⟩=>by
  simp only [W.ren]
  cases hb:Nat.beq j k with
  | false=>exact ⟨p,r1,r2,r3⟩
  | true=>
   obtain rfl:=Nat.eq_of_beq_eq_true hb
   exact ⟨p,by rw [cond_true,hk]; exact r1,r2,r3⟩
 | .ptr j off,a,⟨o,v,r1,r2⟩=>by
  simp only [W.ren]
  cases hb:Nat.beq j k with
  | false=>exact ⟨o,v,r1,r2⟩
  | true=>
   obtain rfl:=Nat.eq_of_beq_eq_true hb
   exact ⟨o,v,by rw [cond_true,hk]; exact r1,r2⟩
 | .bad,_,r=>r
 | .c v,_,r=>r
 | .d z t x,_,r=>r
 | .b p i,_,r=>r
 | .el _ _ _ _ _,_,r=>r.elim
 | .ed z t x off,_,r=>r
 | .fn f ks,a,⟨cs,e,r⟩=>⟨cs,e,by
  clear e
  induction r with
  | nil=>exact .nil
  | cons p q ih=>
   rename_i j c ks cs
   refine .cons ?_ ih
   obtain ⟨o,v,h1,h2⟩:=p
   refine ⟨o,v,?_,h2⟩
   show nth ms (bif Nat.beq j k then k' else j)=_
   cases hb:Nat.beq j k with
   | false=>exact h1
   | true=>
    obtain rfl:=Nat.eq_of_beq_eq_true hb
    rw [cond_true,hk]; exact h1⟩
theorem VSim.ren {Δ:List Ch} {s:VS T} {ms:List AV} {e:Env} {h:Heap} (S:VSim g M Δ s ms e h) {k k':Nat} (hk:nth ms k'=nth ms k):VSim g M Δ (s.sub (W.ren k k')) ms e h∧Ro s (s.sub (W.ren k k')):=by
 refine ⟨⟨by simp only [VS.sub,List.length_map]; exact S.len,?_,S.env_to (fun w a r=>r) fun w a r=>?_⟩,⟨fun j x hj=>my hj,fun j p hj=>?_⟩⟩
 ·exact St.impR S.st (jC (fun _ _ r=>r) (DD hk) ms s.ps)
 ·refine dM r (DD hk) fun j t i x off a ⟨b,l,r1,r2,r3⟩=>?_
  exact ⟨b,l,r1,fq r2,r3⟩
 show nth (s.ps.map (Part.map (W.ren k k'))) j=_
 rw [eS,hj]; rfl
theorem vM {B:Hp} {ms:List AV} {h:Heap} {w w':W T} {k k':Nat} {a:AV} (hw:yU w w'=some (k,k')) (hr:ii B ms h w a) (hr':cg B ms h w' a):nth ms k'=nth ms k:=by
 unfold yU at hw
 split at hw
 ·cases hw
  have hr:nth ms _=some a:=hr
  have hr':nth ms _=some a:=hr'
  rw [hr,hr']
 ·cases hw
  obtain ⟨o,v,h1,rfl⟩:=hr
  obtain ⟨o',v',h2,e⟩:=hr'
  cases e
  rw [h1,h2]
 ·cases hw
  obtain ⟨p,h1,_,rfl⟩:=hr
  obtain ⟨p',h2,_,e⟩:=hr'
  cases e
  rw [h1,h2]
 ·cases hw
  have hr:nth ms _=some a:=hr
  obtain ⟨o',v',h2,rfl⟩:=hr'
  rw [hr,h2]
 ·cases hw
  obtain ⟨o,v,h1,rfl⟩:=hr
  have hr':nth ms _=some _:=hr'
  rw [h1,hr']
 cases hw
theorem td (f:W T→W T) (s:VS T):cj (s.sub f)=cj s:=by
 unfold cj VS.sub
 rw [List.map_map]
 refine List.map_congr_left fun p _=>?_
 cases p<;>rfl
theorem Ac {s:VS T} {k:Nat} {p:Part T} (h:nth s.ps k=some p) (hd:dm p=false):tc (cj s) k=true:=by
 have key:∀ (ps:List (Part T)) (k:Nat),nth ps k=some p→tc (ps.map fun p=>!dm p) k=true:=by
  intro ps
  induction ps with
  | nil=>intro k h; cases h
  | cons q ps ih=>
   intro k h
   cases k with
   | zero=>cases h; show (!dm p)=true; rw [hd]; rfl
   | succ k=>exact ih k h
 exact key s.ps k h
theorem ta {R:Type}:∀ (os rs:List (V1 T)) {s:VS T} {K:VS T→Option R} {r:R},wS s os rs K=some r→∀ {Δ:List Ch} {ms:List AV} {e:Env} {h:Heap} {ws:List AV},VSim g M Δ s ms e h→All2 (Dx (Bo g M) ms h) os ws→All2 (qA (Bo g M) ms h) rs ws→∃ s',K s'=some r∧VSim g M Δ s' ms e h∧Ro s s'∧cj s'=cj s
 | [],[],s,K,r,hK,Δ,ms,e,h,ws,S,h1,h2=>⟨s,hK,S,Ro.refl s,rfl⟩
 | [],_::_,s,K,r,hK,Δ,ms,e,h,ws,S,h1,h2=>by simp only [wS] at hK; cases hK
 | .agg _::_,_,s,K,r,hK,Δ,ms,e,h,ws,S,h1,h2=>by simp only [wS] at hK; cases hK
 | .w _::_,[],s,K,r,hK,Δ,ms,e,h,ws,S,h1,h2=>by simp only [wS] at hK; cases hK
 | .w _::_,.agg _::_,s,K,r,hK,Δ,ms,e,h,ws,S,h1,h2=>by simp only [wS] at hK; cases hK
 | .w a::os,.w b::rs,s,K,r,hK,Δ,ms,e,h,ws,S,h1,h2=>by
  simp only [wS] at hK
  split at hK
  ·rename_i k k' hkk
   cases h1 with
   | cons p1 q1=>
    cases h2 with
    | cons p2 q2=>
     obtain ⟨S1,r1⟩:=S.ren (vM hkk p1.1 p2.1)
     obtain ⟨s',w1,w2,w3,w4⟩:=ta os rs hK S1 q1 q2
     exact ⟨s',w1,w2,r1.trans w3,w4.trans (td _ s)⟩
  cases hK
theorem mf {B:Hp} {ms xs:List AV} {h h':Heap} (hz:HZ h h'):∀ {w:W T} {a:AV},ii B ms h w a→ii B (ms++xs) h' w a
 | .el _ _ _ _ _,_,_=>trivial
 | .bad,_,_=>trivial
 | .c v,_,r=>r
 | .d z t x,_,r=>aK (ms:=ms) (xs:=xs) hz (.d z t x) r
 | .b p i,_,r=>r
 | .r k,_,r=>aK (B:=B) (T:=T) (ms:=ms) (xs:=xs) hz (.r k) r
 | .ic n k,_,r=>aK (B:=B) (T:=T) (ms:=ms) (xs:=xs) hz (.ic n k) r
 | .ptr k off,_,r=>aK (B:=B) (T:=T) (ms:=ms) (xs:=xs) hz (.ptr k off) r
 | .ed z t x off,_,r=>aK (ms:=ms) (xs:=xs) hz (.ed z t x off) r
 | .fn f ks,_,r=>aK (B:=B) (T:=T) (ms:=ms) (xs:=xs) hz (.fn f ks) r
theorem tw {B:Hp} {ms xs:List AV} {h h':Heap} (hz:HZ h h'):∀ {x:V1 T} {a:AV},Dx B ms h x a→Dx B (ms++xs) h' x a
 | .w w,a,r=>⟨mf hz r.1,r.2⟩
 | .agg ws,a,⟨cs,e,r⟩=>⟨cs,e,r.imp fun w a k=>⟨mf hz k.1,k.2⟩⟩
theorem VSim.mkPs {Δ:List Ch} {s:VS T} {ms:List AV} {e e':Env} {h:Heap} {am:Nat→AV} {Γ:List Ch} {l:List In} {x:T.H (DS l)} (S:VSim g M (Γ++Δ) s ms e h) (hM:Mat (Bo g M) am e' h l x 0 [] Γ) (ho:okI (dv l) l=true) :
  VSim g M Δ ⟨s.e,s.ps++mkP false s.ps.length l x []⟩ (ms++amL am 0 (dv l)) e h∧∀ k sv,(k,sv)∈mkE false s.ps.length l x []→∃ v y,e'.get k=some v∧sv=.v y∧qA (Bo g M) (ms++amL am 0 (dv l)) h y v:=by
 have hF:∀ j,j < dv l→nth (ms++amL am 0 (dv l)) (s.ps.length+j)=some (am j):=fun j hj=>by
  have:=oL am 0 (dv l) j hj
  rw [Nat.zero_add] at this
  rw [aW] at this ⊢
  rw [List.getElem?_append_right (by rw [S.len]; omega),S.len,show s.ps.length+j - s.ps.length=j by omega,this]
 obtain ⟨k1,k2⟩:=bU (ro:=false) hF l x 0 [] [] Γ ho hM .nil
 refine ⟨S.news (by rw [oe]; exact k1.symm) ?_,fun k sv hm=>bR (ro:=false) hF l x 0 [] [] Γ ho hM .nil k sv hm⟩
 have S1:St g M (Γ++(Δ++chs (Bo g M) (ms++amL am 0 (dv l)) ms s.ps)) h:=by
  have:=S.st
  rw [List.append_assoc,← List.append_assoc] at this
  rw [← List.append_assoc]
  exact St.more (Γ:=Γ++Δ) _ this
 exact (St.impR (S1.perm List.perm_append_comm) k2).perm List.perm_append_comm
theorem AD {B:Hp} {ps:List (Part T)} {ms:List AV} {h:Heap}:∀ {rs:List (V1 T)} {as:List AV},All2 (qA B ms h) rs as→cJ B ps ms h (F8 rs) (one as)
 | _,_,.nil=>⟨[],rfl,.nil⟩
 | _,_,.cons p .nil=>ko p
 | _,_,.cons p (.cons p2 q)=>⟨_,rfl,(All2.cons p (.cons p2 q)).imp fun _ _ k=>ko k⟩
theorem All2.takeL {α β:Type} {P:α→β→Prop}:∀ {l:List α} {m m':List β},All2 P l (m++m')→All2 P (l.take (l.length - m'.length)) m∧All2 P (l.drop (l.length - m'.length)) m':=by
 intro l m m' hr
 have hl:=hr.len
 rw [List.length_append] at hl
 have e:l.length - m'.length=m.length:=by omega
 rw [e]
 clear e hl
 induction m generalizing l with
 | nil=>exact ⟨by simpa using All2.nil,by simpa using hr⟩
 | cons a m ih=>
  cases hr with
  | cons p q=>
   obtain ⟨h1,h2⟩:=ih q
   exact ⟨.cons p h1,h2⟩
theorem tR {R:Type} {f np:Nat} {p:FSp} {fn:DN T.S (DS p.lp)→Option (DN T.S (DS p.lr))} (hf:aB F T f p np fn) (hn:p.pr.length=np) {vs:List (V1 T)} {s:VS T} {K:SV T→VS T→Option R} {r:R} (hK:rC p fn vs s K=some r)
  {Δ:List Ch} {ms:List AV} {e:Env} {h:Heap} {as:List AV} (S:VSim g M Δ s ms e h) (hva0:All2 (fR (Bo g M) s.ps ms h) vs as):∃ x s' ys v n h1 h',K x s'=some r∧aQ F n f as h=some (v,h1)∧Fz h1 h'∧VSim g M Δ s' (ms++ys) e h'∧cJ (Bo g M) s'.ps (ms++ys) h' x v∧Ro s s'∧HZ h h'∧∀ j p' a o,nth s'.ps j=some p'→dm p'=false→nth ms j=some a→cC a=some o→h1.get o=h.get o∧∃ x,h.get o=some x∧∀ c v,x≠.row c v false:=by
 unfold rC at hK
 have hva:=hva0.imp fun _ _ k=>Cx k
 obtain ⟨s1,acc,hK,S1,hd,tr⟩:=kI _ _ [] hK S trivial
 have St1:St g M (qU (Bo g M) ms acc++(Δ++chs (Bo g M) ms ms s1.ps)) h:=by rw [← List.append_assoc]; exact S1.st
 obtain ⟨fp,f1,f2,_,c1,L,c2,d2,hfp,back⟩:=St.lend2 _ St1
 have hb:Hp.le (Bo g M) (Bo h (fun o=>o∈fp)):=by
  rintro o cs v (hq | ⟨hm,w,hw⟩)
  ·exact .inl (S.st.hz _ _ _ hq)
  refine .inr ⟨fun ho=>?_,w,S.st.old _ _ hm hw⟩
  rcases hfp o ho with hh | hh
  ·exact hm hh
  have:=get_lt hw; omega
 have hz:∀ z,Hp.le (zG (Bo g M) h z) (Bo h (fun o=>o∈fp))
  | true=>fun o cs v k=>.inl k
  | false=>hb
 have hA:mZ (Bo g M) (Bo h (fun o=>o∈fp)) ms h s1.ps:=by
  intro k p0 a hp ha0
  obtain ⟨q,h1,h2⟩:=kH hp
  have h3:=iA (B:=Bo g M) (ms:=ms) ha0 h1
  obtain ⟨f2a,f2b,rfl,_,c3⟩:=fN c2
  rw [← aW] at h3
  obtain ⟨fo,h4,h5⟩:=All2.nthR c3 h3
  rw [h2] at h5
  refine ⟨fo,h5,fun o cs v hl=>?_⟩
  rcases hl with hl | ⟨ho,hs⟩
  ·exact .inl hl
  exact .inr ⟨d2 fo (List.mem_append_right _ (List.mem_of_getElem? h4)) o ho,hs⟩
 obtain ⟨hlen,ws,hK,hws⟩:=tq hb hz hA _ _ hK hva
 have hl1:ms.length=s1.ps.length:=S1.len
 have V0:VSim (T:=T) h (fun o=>o∈fp) (qU (Bo h (fun o=>o∈fp)) ms acc++[]) ⟨[],List.replicate ms.length .dead⟩ ms .nil h:=by
  refine ⟨by simp,?_,fun k sv hk=>by cases hk⟩
  rw [List.append_nil]
  exact (L.imp (wd hb acc)).addEms ms ms.length
 have V1:=VSim.frame hl1 hd V0
 have hsl:s.ps.length=ms.length:=S.len.symm
 rw [hsl] at hK
 have V2:=V1.numb (hws.imp fun _ _ k=>ko k)
 obtain ⟨x,s',h',am,Γ,hK,fz1,V3,mat,_⟩:=d9 hK V2
 obtain ⟨y,hy,hK⟩:=obI hK
 cases hc:(okI (dv p.lr) p.lr&&wP p.lr&&Bs 0 p.lr) with
 | false=>rw [hc] at hK; cases hK
 | true=>
  rw [hc,cond_true] at hK
  rw [Bool.and_eq_true,Bool.and_eq_true] at hc
  obtain ⟨⟨hc1,hc2⟩,hc3⟩:=hc
  split at hK
  ·rename_i rs os hrs hos
   have St2:St h (fun o=>o∈fp) Γ h':=by
    have:=V3.st
    rw [List.append_nil] at this
    exact this.dropR
   have hal:as.length=np:=by rw [← hn,← hlen,hva.len]
   obtain ⟨n,v,g1,h2,as',ws',am',Γ',q1,q2,q3,q4,q5,q6,q7⟩:=hf x y hy h _ h' h as am Γ hal St2 mat fz1
   have V4:VSim g M (Γ'++Δ) s1 ms e h2:=S1.heap q6.hz (by rw [List.append_assoc]; exact back Γ' h2 q6)
   obtain ⟨V5,hE⟩:=V4.mkPs (Mat.base (B':=Bo g M) hc2 q7) hc1
   have hvals:=rz (as'++ws') _ 0 (by rw [a9,List.length_append,q4]; exact bt _ hc3) (fun k sv hk=>by
    obtain ⟨v,y,w1,w2,w3⟩:=hE k sv hk
    refine ⟨v,y,?_,w2,w3⟩
    rw [bw] at w1
    split at w1
    ·exact w1
    rw [Go.Am.T.get_nil] at w1; cases w1) hrs
   obtain ⟨t1,t2⟩:=hvals.takeL
   rw [← q5.len] at t1 t2
   obtain ⟨s2,hK,V6,ro6,al6⟩:=ta _ _ hK V5 ((rn hva _ hos q5).imp fun _ _ k=>tw q6.hz k) t2
   refine ⟨_,s2,_,v,n,g1,h2,hK,q1,q2,V6,by rw [q3]; exact AD t1,(tr.ro.trans (Ro.app _ _)).trans ro6,q6.hz,fun k p' a o u3 u4 u6 u7=>?_⟩
   have b1:=Ac u3 u4
   rw [al6] at b1
   obtain ⟨p1,v1,v2⟩:=ig b1
   have v1:nth (s1.ps++_) k=some p1:=v1
   obtain ⟨p1',v3⟩:=bH (by rw [← hl1]) u6 (l:=s1.ps)
   rw [aL v3] at v1
   cases v1
   have h3:=iA (B:=Bo g M) (ms:=ms) u6 v3
   obtain ⟨f2a,f2b,rfl,_,c3⟩:=fN c2
   rw [← aW] at h3
   obtain ⟨fo,h4,h5⟩:=All2.nthR c3 h3
   have hm:=jv p1 fo v2 h5 o u7
   obtain ⟨x,hx⟩:=(df (Bo g M) ms a p1).bd h5 o hm
   have hn:=yu p1 fo h5 o hm
   have h6:=q6.old o x (d2 fo (List.mem_append_right _ (List.mem_of_getElem? h4)) o hm) hx
   exact ⟨by rw [q2.same h6 (fun c v e=>hn c v (by rw [hx,e])),hx],x,hx,fun c v e=>hn c v (by rw [hx,e])⟩
  cases hK
theorem gG {R:Type}:∀ (ks:List Nat) (vs:List (V1 T)) {s:VS T} {K:List (V1 T)→VS T→Option R} {r:R},iK ks vs s K=some r→∀ {Δ:List Ch} {ms:List AV} {e:Env} {h:Heap} {as:List AV},VSim g M Δ s ms e h→All2 (fR (Bo g M) s.ps ms h) vs as→
  ∃ vs' s' hz,K vs' s'=some r∧Fz h hz∧VSim g M Δ s' ms e hz∧All2 (fR (Bo g M) s'.ps ms hz) vs' as∧Ro s s'
 | [],vs,s,K,r,hK,Δ,ms,e,h,as,S,ha=>⟨vs,s,h,hK,Fz.refl h,S,ha,Ro.refl s⟩
 | k::ks,vs,s,K,r,hK,Δ,ms,e,h,as,S,ha=>by
  simp only [iK] at hK
  split at hK
  ·rename_i t l hp
   obtain ⟨a,haa⟩:=bH S.len hp
   obtain ⟨hz,k1,S1,_,hw⟩:=S.frz2 hp haa
   have ha2:All2 (fR (Bo g M) (s.frz k t l).ps ms hz) (vs.map (V1.map (W.frz k t l))) as:=by
    clear hK
    induction ha with
    | nil=>exact .nil
    | cons p q ih=>exact .cons (lc hw p) ih
   obtain ⟨vs',s',h2,q1,q2,q3,q4,q5⟩:=gG ks _ hK S1 ha2
   exact ⟨vs',s',h2,q1,k1.trans q2,q3,q4,(Ro.frz hp).trans q5⟩
  exact gG ks vs hK S ha
theorem qb {R:Type}:∀ (ks:List Nat) (vs:List (V1 T)) {s:VS T} {K:List (V1 T)→VS T→Option R} {r:R},vF ks vs s K=some r→∀ {Δ:List Ch} {ms:List AV} {e:Env} {h:Heap} {as:List AV},VSim g M Δ s ms e h→(∀ k,k∈ks→k < ms.length)→All2 (fR (Bo g M) s.ps ms h) vs as→
  ∃ vs' s' xs,K vs' s'=some r∧VSim g M Δ s' (ms++xs) e h∧All2 (fR (Bo g M) s'.ps (ms++xs) h) vs' as∧Ro s s'
 | [],vs,s,K,r,hK,Δ,ms,e,h,as,S,hk,ha=>⟨vs,s,[],hK,by rw [List.append_nil]; exact S,by rw [List.append_nil]; exact ha,Ro.refl s⟩
 | k::ks,vs,s,K,r,hK,Δ,ms,e,h,as,S,hk,ha=>by
  simp only [vF] at hK
  have hlt:=hk k (List.mem_cons_self ..)
  obtain ⟨s1,xs,o,v,hK,S1,e1,ro,hw⟩:=gF S (uE hlt) hK
  have hm:=uE hlt
  have key:∀ {vs:List (V1 T)} {as:List AV},All2 (fR (Bo g M) s.ps ms h) vs as→All2 (fR (Bo g M) s1.ps (ms++xs) h) (vs.map (V1.map (W.opp k))) as:=by
   intro vs as ha
   induction ha with
   | nil=>exact .nil
   | cons p q ih=>
    refine .cons (lc (fun w a r=>?_) p) ih
    have r2:=hw w a r
    cases w with
    | r j=>
     simp only [W.opp]
     cases hb:Nat.beq j k with
     | false=>exact r2
     | true=>
      obtain rfl:=Nat.eq_of_beq_eq_true hb
      have r:nth ms j=some a:=r
      rw [hm,e1] at r
      cases r
      exact ⟨o,v,by rw [aL hm,e1],rfl⟩
    | _=>exact r2
  obtain ⟨vs',s',ys,q1,q2,q3,q4⟩:=qb ks _ hK S1 (fun j hj=>by rw [List.length_append]; have:=hk j (List.mem_cons_of_mem _ hj); omega) (key ha)
  rw [List.append_assoc] at q2 q3
  exact ⟨vs',s',xs++ys,q1,q2,q3,ro.trans q4⟩
theorem kx {B:Hp} {ps:List (Part T)} {ms:List AV} {h:Heap}:∀ (l:List In) {ws:List (W T)} {as:List AV},All2 (kQ B ps ms h) ws as→∀ k,k∈nx l ws→k < ms.length
 | [],ws,as,ha,k,hk=>by cases ws<;>simp [nx] at hk
 | i::l,[],as,ha,k,hk=>by cases i<;>simp [nx] at hk
 | i::l,w::ws,as,ha,k,hk=>by
  cases ha with
  | cons p q=>
   unfold nx at hk
   split at hk
   ·rename_i heq1 heq2
    injection heq1 with u1 u2
    injection heq2 with u3 u4
    subst u2; subst u3; subst u4
    rcases List.mem_cons.1 hk with rfl | hk
    ·exact gY (show nth ms _=some _ from p.1)
    exact kx _ q k hk
   ·rename_i heq1 heq2
    injection heq1 with u1 u2
    injection heq2 with u3 u4
    subst u2; subst u4
    exact kx _ q k hk
   cases hk
theorem pe {B:Hp} {ps:List (Part T)} {ms:List AV} {h:Heap}:∀ (pr:List (Bool×List In)) {vs:List (V1 T)} {as:List AV},All2 (fR B ps ms h) vs as→∀ k,k∈qI pr vs→k < ms.length
 | [],vs,as,ha,k,hk=>by cases vs<;>simp [qI] at hk
 | p::pr,[],as,ha,k,hk=>by simp [qI] at hk
 | p::pr,v::vs,as,ha,k,hk=>by
  cases ha with
  | cons u q=>
   simp only [qI,List.mem_append] at hk
   rcases hk with hk | hk
   ·exact kx _ (cO u).1 k hk
   exact pe pr q k hk
theorem vx {R:Type} {f np:Nat} {p:FSp} {fn:DN T.S (DS p.lp)→Option (DN T.S (DS p.lr))} (hf:aB F T f p np fn) (hn:p.pr.length=np) {xs:List (SV T)} {s:VS T} {K:SV T→VS T→Option R} {r:R} (hK:yV p fn xs s K=some r)
  {Δ:List Ch} {ms:List AV} {e:Env} {h:Heap} {as:List AV} (S:VSim g M Δ s ms e h) (ha:All2 (cJ (Bo g M) s.ps ms h) xs as):KQ F g M Δ K r s ms e h (some []) fun c=>c f as h:=by
 unfold yV at hK
 split at hK
 ·cases hK
 rename_i vs hvs
 have hvr:=pf hvs ha
 obtain ⟨vs0,s0,xs0,hK,S0,ha0,ro0⟩:=qb _ _ hK S (pe _ hvr) hvr
 obtain ⟨vs',s',hz,hK,k1,S1,ha1,ro1⟩:=gG _ _ hK S0 ha0
 obtain ⟨x,s2,ys,v,n,h1,h',q1,q2,q3,q4,q5,q6,q7,q8⟩:=tR hf hn hK S1 ha1
 obtain ⟨g1,w1,w2⟩:=c7 n _ _ _ _ _ _ k1 q2
 refine ⟨x,s2,xs0++ys,v,n,g1,h',q1,w1,w2.trans q3,by rw [← List.append_assoc]; exact q4,by rw [← List.append_assoc]; exact q5,(ro0.trans ro1).trans q6,k1.hz.trans q7,fun t ht j p p' a o u1 u2 u3 u4 u5 u6 u7=>?_⟩
 obtain ⟨e1,y,y1,y2⟩:=q8 j p' a o u3 u4 (aL u6) u7
 rw [w2.same (by rw [e1]; exact y1) y2,k1.same y1 y2]
end
end Go.Am
namespace Go.Am
open Go
inductive Lb where
 | j (l:List In)
 | l (c l:List In) (o:uJ)
def qV:ACode→Nat→List (Nat×Lb)→VC×Nat×List (Nat×Lb)
 | .skip,n,L=>(.skip,n,L)
 | .ret,n,L=>(.ret,n,L)
 | .exit i,n,L=>(.exit i,n,L)
 | .region ops,n,L=>(.region ops,n,L)
 | .dregion ops ps,n,L=>(.dreg ops ps,n,L)
 | .block i b,n,L=>match qV b n L with
  | (b,n,L)=>(.block i b,n,L)
 | .cond c a b,n,L=>match qV a n L with
  | (a,n,L)=>match qV b n L with
   | (b,n,L)=>(.cond c a b,n,L)
 | .seq a b,n,L=>match L with
  | (m,.j l)::L'=>bif Nat.beq m n then (match qV a (n+1) L' with
    | (a,n,L)=>match qV b n L with
     | (b,n,L)=>(.sj l a b,n,L)) else (match qV a (n+1) L with
    | (a,n,L)=>match qV b n L with
     | (b,n,L)=>(.seq a b,n,L))
  | _=>match qV a (n+1) L with
   | (a,n,L)=>match qV b n L with
    | (b,n,L)=>(.seq a b,n,L)
 | .loop b,n,L=>match L with
  | (m,.l c l o)::L'=>(match qV b (n+1) L' with
   | (b,n,L)=>(.loop c l o b,n,L))
  | L=>match qV b (n+1) L with
   | (b,n,L)=>(.loop [] [] [] b,n,L)
def vOf (c:ACode) (L:List (Nat×Lb)):VC:=(qV c 0 L).1
structure En (T:TE) where
 f:Nat
 q:List (Nat×Nat)
 p:FSp
 fn:DN T.S (DS p.lp)→Option (DN T.S (DS p.lr))
section
variable {T:TE}
def IC:SV T→Nat
 | .v (.w (.ptr _ o))=>o
 | .v (.w (.c (.func f [])))=>f
 | .v (.w (.fn f _))=>f
 | .v (.w (.c .nilPtr))=>1000003
 | .v (.w (.ed _ _ _ o))=>o
 | _=>0
def G1 (q:List (Nat×Nat)) (xs:List (SV T)):Bool:=q.all fun k=>match nth xs k.1 with
 | some x=>Nat.beq (IC x) k.2
 | none=>false
noncomputable def a6:List (En T)→cQ T
 | [],_,_,_,_,_=>none
 | en::l,R,f,xs,s,K=>bif Nat.beq en.f f&&G1 en.q xs then yV en.p en.fn xs s K else a6 l R f xs s K
variable {F:Nat→Option AFn}
theorem ah:c9 F (a6 (T:=T) []):=fun R f xs s K r hK=>by cases hK
theorem af {l:List (En T)} (hl:c9 F (a6 l)) {en:En T} {np:Nat} (hf:aB F T en.f en.p np en.fn) (hn:en.p.pr.length=np):c9 F (a6 (en::l)):=by
 intro R f xs s K r hK g M Δ ms e h as S ha
 simp only [a6] at hK
 cases hb:(Nat.beq en.f f&&G1 en.q xs) with
 | true=>
  rw [hb] at hK
  rw [Bool.and_eq_true] at hb
  have hff:=Nat.eq_of_beq_eq_true hb.1
  subst hff
  exact vx hf hn hK S ha
 | false=>
  rw [hb] at hK
  exact hl R f xs s K r hK g M Δ ms e h as S ha
noncomputable def JY {α β:Type} (f:Nat→α→Option β) (x:α):Option β:=open Classical in if h:∃ n y,f n x=some y then f h.choose x else none
noncomputable def xo {α β:Type} (f:(α→Option β)→α→Option β):Nat→α→Option β
 | 0,_=>none
 | n+1,x=>f (xo f n) x
end
end Go.Am
namespace Go.Am
open Go
section
variable {T:TE} {F:Nat→Option AFn}
theorem pg {α:Type} {P Q:List AV→α→List Nat→Prop} (hi:∀ c x f,P c x f→Q c x f):∀ {els:List (List AV)} {l:List α} {fps:List (List Nat)},All3 P els l fps→All3 Q els l fps
 | _,_,_,.nil=>.nil
 | _,_,_,.cons p q=>.cons (hi _ _ _ p) (pg hi q)
theorem xf {g h:Heap} {M:Nat→Prop} {Γ:List Ch} {α:Type} {r1 r2:ORep α} (hz:r1.rep.z=r2.rep.z) (hi:∀ c x f,r1.O h c x f→r2.O h c x f) {a:AV} {l:List α} (S:St g M (own (oSl r1) [a] l::Γ) h):St g M (own (oSl r2) [a] l::Γ) h:=by
 refine S.imp (.cons (fun fp hP=>?_) (All2.refl' (fun _ _ k=>k) _))
 obtain ⟨s,e,hP⟩:=hP
 refine ⟨s,e,?_⟩
 rcases hP with hP | ⟨o,v,off,row,els,fps,h1,h2,h3,h4,h5,h6,h7⟩
 ·exact .inl hP
 rw [hz] at h1 h3 h4
 exact .inr ⟨o,v,off,row,els,fps,h1,h2,h3,h4,pg hi h5,h6,h7⟩
theorem wy {t:VT} (hd:T.dup t=true) {h:Heap} {cs:List AV} {x:T.D t} {fp:List Nat}:(T.w t).O h cs x fp↔fp=[]∧(T.r t).R (Frz h) cs x:=by
 constructor
 ·intro hO
  obtain rfl:=oK hd hO
  refine ⟨rfl,(T.r t).mono (fun o cs v hl=>?_) ((T.ogw t).loc hO)⟩
  rcases hl with hl | ⟨hm,_⟩
  ·exact hl
  cases hm
 rintro ⟨rfl,hR⟩
 exact DV hd hR
theorem u0 {t:VT} (hd:T.dup t=true) {f g0:Nat} {R1:Rep (T.D t)} (hR:∀ G cs x,R1.R G cs x↔(T.r t).R G cs x) (hz:R1.z=T.cells t) {P:List (T.D t)→Option (List (T.D t))}
  (r50:∀ {h:Heap} {M:Nat→Prop} {a0:AV} {x0 r:List (T.D t)},St h M [own (oSl (fz R1)) [a0] x0] h→P x0=some r→ZC F f [a0,.func g0 []] h fun v h'=>St h M [own (oSl (fz R1)) [v] r] h') :
  aB F T f ⟨[(false,[.r 0]),(false,[.c (.func g0 [])])],[.sl t],[],[.ld 0 false,.r 0,.slot 0 false,.sl t]⟩ 2 P:=by
 have e1:(T.w t).rep.z=(fz R1).rep.z:=(a5 T t).trans hz.symm
 have to:∀ (h:Heap) c x f,(T.w t).O h c x f→(fz R1).O h c x f:=fun h c x f hO=>by
  obtain ⟨h1,h2⟩:=(wy hd).1 hO
  exact ⟨h1,(hR _ _ _).2 h2⟩
 have of:∀ (h:Heap) c x f,(fz R1).O h c x f→(T.w t).O h c x f:=fun h c x f hO=>(wy hd).2 ⟨hO.1,(hR _ _ _).1 hO.2⟩
 intro x y hy g M h g1 xs am Γ hl S hM hfz
 obtain ⟨f0,⟨a0,ea,ga⟩,f1,⟨a1,eb,gb⟩,Γ',rfl,e3⟩:=hM
 have e3:Γ'=[]:=e3
 subst e3
 have ea:am 0=a0:=by injection ea
 have eb:AV.func g0 []=a1:=by injection eb
 subst ea; subst eb
 have hxs:xs=[am 0,.func g0 []]:=by
  rcases xs with _ | ⟨p,_ | ⟨q,_ | ⟨r,xs⟩⟩⟩<;>simp at hl
  have h0:(cY 0 [p,q] .nil).get 0=some p:=by rw [bw]; rfl
  have h1:(cY 0 [p,q] .nil).get 1=some q:=by rw [bw]; rfl
  rw [ga] at h0
  rw [gb] at h1
  cases h0; cases h1; rfl
 subst hxs
 obtain ⟨fp,f1',f2,_,c1,L,c2,d2,hfp,back⟩:=St.lend2 (Γ:=[]) [own (T.w (.sl true t)) [am 0] x.1] S
 obtain ⟨n,v,q1,h',k1,k2,k3⟩:=r50 (xf e1 (to h) L) hy
 obtain ⟨q2,k4,k5⟩:=c7 n _ _ _ _ _ _ hfz k1
 have S3:St h (fun o=>o∈fp) [own (T.w (.sl true t)) [v] y] h':=xf e1.symm (of h') k3
 have hv:v.flat=true:=iE (S3.sl (r:=T.w t) (.head _)).is
 have S4:=back _ _ S3
 rw [List.append_nil] at S4
 refine ⟨n,v,q2,h',[v],[],fun _=>v,_,k4,k5.trans k2,rfl,rfl,.nil,S4,hv,⟨v,rfl,rfl⟩,[],?_,rfl⟩
 show [own (T.w (.sl true t)) [v] y]=_
 rfl
abbrev LB:List In:=[.ld 0 false,.d true .bool,.slot 0 false]
theorem law_bool {f np:Nat} {pr:List (Bool×List In)} {pt:List In} {fn:DN T.S (DS (FSp.lp ⟨pr,pt,[],LB⟩))→Option (DN T.S (DS LB))} (hf:aB F T f ⟨pr,pt,[],LB⟩ np fn) {x:T.H (DS (FSp.lp ⟨pr,pt,[],LB⟩))} (hx:fn (toN _ x)=some true)
  {h0 h:Heap} {xs:List AV} (hl:xs.length=np) (hz:Fz h0 h) {am:Nat→AV} (hM:Mat (Bo h fr) am (cY 0 xs .nil) h (FSp.lp ⟨pr,pt,[],LB⟩) x 0 [] []):dx F f xs h0 fun v _=>v=.bool true:=by
 obtain ⟨n,v,g1,h',as,ws,am',Γ',k1,k2,rfl,k4,k5,k6,k7⟩:=hf x true hx h fr h h0 xs am [] hl (St.refl h fr) hM hz
 cases k5
 obtain ⟨a,a1,a2,⟨b,b1,b2⟩,_⟩:=k7
 have a2:[a]=[AV.bool true]:=a2
 cases a2
 have b1:AV.bool true=b:=by injection b1
 subst b1
 refine ⟨n,_,g1,k1,?_⟩
 have k4:as.length+0=1:=k4
 rcases as with _ | ⟨p,_ | ⟨q,as⟩⟩<;>simp at k4
 rw [bw] at b2
 have b2:some p=some (.bool true):=b2
 cases b2
 rfl
theorem vL {f np:Nat} {pr:List (Bool×List In)} {pt:List In} {fn:DN T.S (DS (FSp.lp ⟨pr,pt,[],LB⟩))→Option (DN T.S (DS LB))} (hf:aB F T f ⟨pr,pt,[],LB⟩ np fn) {x:T.H (DS (FSp.lp ⟨pr,pt,[],LB⟩))} {r:Bool} (hx:fn (toN _ x)=some r)
  {h:Heap} {xs:List AV} (hl:xs.length=np) {am:Nat→AV} (hM:Mat (Bo h fr) am (cY 0 xs .nil) h (FSp.lp ⟨pr,pt,[],LB⟩) x 0 [] []):ZC F f xs h fun v h2=>v=.bool r∧St h fr [] h2:=by
 obtain ⟨n,v,g1,h',as,ws,am',Γ',k1,k2,rfl,k4,k5,k6,k7⟩:=hf x r hx h fr h h xs am [] hl (St.refl h fr) hM (Fz.refl h)
 cases k5
 obtain ⟨a,a1,a2,⟨b,b1,b2⟩,e⟩:=k7
 have e:Γ'=[]:=e
 subst e
 have a2:[a]=[AV.bool r]:=a2
 cases a2
 have b1:AV.bool r=b:=by injection b1
 subst b1
 refine ⟨n,_,g1,h',k1,k2,?_,k6⟩
 have k4:as.length+0=1:=k4
 rcases as with _ | ⟨p,_ | ⟨q,as⟩⟩<;>simp at k4
 rw [bw] at b2
 have b2:some p=some (.bool r):=b2
 cases b2
 rfl
theorem AP {Lp:LP} {H:List (Nat×VT)} {l:List (En T)} (hl:c9 F (a6 l)) {f:Nat} {q:List (Nat×Nat)} {p:FSp} {body:(DN T.S (DS p.lp)→Option (DN T.S (DS p.lr)))→DN T.S (DS p.lp)→Option (DN T.S (DS p.lr))} {fn:AFn} {L:List (Nat×Lb)} (hF:F f=some fn) (hc:fn.code=(vOf fn.code L).er) (hn:p.pr.length=fn.np)
  (he:(fun g=>vfn Lp H (a6 (⟨f,q,p,g⟩::l)) p fn.res (vOf fn.code L))=body):∀ n,aB F T f p fn.np (xo body n):=by
 intro n
 subst he
 induction n with
 | zero=>intro x y hK; cases hK
 | succ n ih=>exact aw (H:=H) (p:=p) (af hl (en:=⟨f,q,p,xo _ n⟩) ih hn) hF hc
def Ole {α:Type} (a b:Option α):Prop:=∀ r,a=some r→b=some r
theorem Ole.refl {α:Type} (a:Option α):Ole a a:=fun _ h=>h
theorem Ole.bind {α β:Type} {a b:Option α} {f g:α→Option β} (h:Ole a b) (k:∀ x,Ole (f x) (g x)):Ole (a.bind f) (b.bind g):=fun r hr=>by
 obtain ⟨x,h1,h2⟩:=obI hr
 rw [h x h1]
 exact k x r h2
theorem Ole.ite {α:Type} {c:Prop} [Decidable c] {a b a' b':Option α} (h:Ole a a') (k:Ole b b'):Ole (if c then a else b) (if c then a' else b'):=by
 split<;>assumption
theorem Ole.iter {σ ρ:Type} {f g:σ→Option (σ⊕ρ)} (h:∀ s,Ole (f s) (g s)):∀ (n:Nat) (s:σ),Ole (iter f n s) (iter g n s)
 | 0,s=>Ole.refl _
 | n+1,s=>fun r hr=>by
  unfold Am.iter at hr ⊢
  split at hr
  ·cases hr
  ·rename_i s' e; rw [h s _ e]; exact Ole.iter h n s' r hr
  rename_i r' e; rw [h s _ e]; exact hr
theorem Ole.loop {σ ρ:Type} {f g:σ→Option (σ⊕ρ)} (h:∀ s,Ole (f s) (g s)) (s:σ):Ole (aq f s) (qy g s):=fun r hr=>fe.2 ⟨_,Ole.iter h _ s r hr⟩
end
end Go.Am
