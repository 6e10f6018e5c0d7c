/- A machine over typed values, and that functions do what it says. No condition. Own work. -/
import Derived.Test.YtmchbhheoieepaaVm3ProcessErrs
set_option linter.unusedSimpArgs false
set_option linter.unusedVariables false
namespace Go.Am
open Go
inductive In where
 | d (z:Bool) (t:VT)
 | e (z:Bool) (t:VT) (off:Nat)
 | r (j:Nat)
 | ptr (j off:Nat)
 | ic (m j:Nat)
 | c (v:AV)
 | ld (k:Nat) (agg:Bool)
 | slot (k:Nat) (agg:Bool)
 | ldr
 | row
 | sl (t:VT)
 | po (t:VT)
 | mp (a b:VT)
 | io (m:Nat) (t:VT)
 | fn (f:Nat) (js:List Nat)
 | pr (t:VT)
@[reducible] def DS:List In→List VT
 | []=>[]
 | .d _ t::l=>t::DS l
 | .e _ t _::l=>t::DS l
 | .sl t::l=>.sl true t::DS l
 | .po t::l=>.pt t::DS l
 | .pr t::l=>t::DS l
 | .mp a b::l=>.mp a b::DS l
 | .io a b::l=>.ic a b::DS l
 | .r _::l=>DS l
 | .ptr _ _::l=>DS l
 | .fn _ _::l=>DS l
 | .ic _ _::l=>DS l
 | .c _::l=>DS l
 | .ld _ _::l=>DS l
 | .slot _ _::l=>DS l
 | .ldr::l=>DS l
 | .row::l=>DS l
def dv:List In→Nat
 | []=>0
 | .row::l=>dv l+1
 | .sl _::l=>dv l+1
 | .po _::l=>dv l+1
 | .pr _::l=>dv l+1
 | .mp _ _::l=>dv l+1
 | .io _ _::l=>dv l+1
 | _::l=>dv l
def okI (n:Nat):List In→Bool
 | []=>true
 | .r j::l=>Nat.blt j n&&okI n l
 | .ptr j _::l=>Nat.blt j n&&okI n l
 | .fn _ js::l=>(js.all fun j=>Nat.blt j n)&&okI n l
 | .ic _ j::l=>Nat.blt j n&&okI n l
 | _::l=>okI n l
def DNx (S:Nat→Type):Type→List VT→Type
 | A,[]=>A
 | A,t::ts=>A×DNx S (t.D S) ts
def DN (S:Nat→Type):List VT→Type
 | []=>Unit
 | t::ts=>DNx S (t.D S) ts
def toX {S:Nat→Type}:{A:Type}→(ts:List VT)→A→HL S ts→DNx S A ts
 | _,[],a,_=>a
 | _,_::ts,a,x=>(a,toX ts x.1 x.2)
def toN {S:Nat→Type}:(ts:List VT)→HL S ts→DN S ts
 | [],_=>()
 | _::ts,x=>toX ts x.1 x.2
def ofX {S:Nat→Type}:{A:Type}→(ts:List VT)→DNx S A ts→A×HL S ts
 | _,[],a=>(a,())
 | _,_::ts,a=>(a.1,ofX ts a.2)
def ofN {S:Nat→Type}:(ts:List VT)→DN S ts→HL S ts
 | [],_=>()
 | _::ts,x=>ofX ts x
theorem um {S:Nat→Type}:∀ {A:Type} (ts:List VT) (a:A) (x:HL S ts),ofX ts (toX ts a x)=(a,x)
 | _,[],a,x=>rfl
 | _,t::ts,a,x=>by
  show (a,ofX ts (toX ts x.1 x.2))=_
  rw [um ts x.1 x.2]
theorem gC {S:Nat→Type}:∀ (ts:List VT) (x:HL S ts),ofN ts (toN ts x)=x
 | [],x=>rfl
 | t::ts,x=>um ts x.1 x.2
section
variable {T:TE} {R:Type}
def onS (ro:Bool) (x:V1 T):SV T:=bif ro then .ro x else .v x
def onP (ro:Bool) (p:Part T):Part T:=bif ro then .ro p else p
def CH:List (W T)→V1 T
 | [w]=>.w w
 | l=>.agg l
def mkE (ro:Bool) (b:Nat):(l:List In)→T.H (DS l)→List (W T)→qa T
 | [],_,_=>[]
 | .d z t::l,x,acc=>mkE ro b l x.2 (acc++[.d z t x.1])
 | .e z t o::l,x,acc=>mkE ro b l x.2 (acc++[.ed z t x.1 o])
 | .r j::l,x,acc=>mkE ro b l x (acc++[.r (b+j)])
 | .ptr j off::l,x,acc=>mkE ro b l x (acc++[.ptr (b+j) off])
 | .fn f js::l,x,acc=>mkE ro b l x (acc++[.fn f (js.map fun j=>b+j)])
 | .ic m j::l,x,acc=>mkE ro b l x (acc++[.ic m (b+j)])
 | .c v::l,x,acc=>mkE ro b l x (acc++[.c v])
 | .ld _ _::l,x,_=>mkE ro b l x []
 | .ldr::l,x,_=>mkE ro b l x []
 | .slot k agg::l,x,acc=>(k,onS ro (bif agg then .agg acc else CH acc))::mkE ro b l x []
 | .row::l,x,_=>mkE ro b l x []
 | .sl _::l,x,_=>mkE ro b l x.2 []
 | .po _::l,x,_=>mkE ro b l x.2 []
 | .pr _::l,x,_=>mkE ro b l x.2 []
 | .mp _ _::l,x,_=>mkE ro b l x.2 []
 | .io _ _::l,x,_=>mkE ro b l x.2 []
def mkP (ro:Bool) (b:Nat):(l:List In)→T.H (DS l)→List (W T)→List (Part T)
 | [],_,_=>[]
 | .d z t::l,x,acc=>mkP ro b l x.2 (acc++[.d z t x.1])
 | .e z t o::l,x,acc=>mkP ro b l x.2 (acc++[.ed z t x.1 o])
 | .r j::l,x,acc=>mkP ro b l x (acc++[.r (b+j)])
 | .ptr j off::l,x,acc=>mkP ro b l x (acc++[.ptr (b+j) off])
 | .fn f js::l,x,acc=>mkP ro b l x (acc++[.fn f (js.map fun j=>b+j)])
 | .ic m j::l,x,acc=>mkP ro b l x (acc++[.ic m (b+j)])
 | .c v::l,x,acc=>mkP ro b l x (acc++[.c v])
 | .ld _ _::l,x,_=>mkP ro b l x []
 | .ldr::l,x,_=>mkP ro b l x []
 | .slot _ _::l,x,_=>mkP ro b l x []
 | .row::l,x,acc=>onP ro (.row acc)::mkP ro b l x []
 | .sl t::l,x,_=>onP ro (.sl t x.1)::mkP ro b l x.2 []
 | .po t::l,x,_=>onP ro (.po t x.1)::mkP ro b l x.2 []
 | .pr t::l,x,_=>onP ro (.po t (some x.1))::mkP ro b l x.2 []
 | .mp a c::l,x,_=>onP ro (.mp a c x.1)::mkP ro b l x.2 []
 | .io a c::l,x,_=>onP ro (.io a c x.1)::mkP ro b l x.2 []
def dK (z:Bool) (t:VT) (w:W T) (s:VS T) (K:T.D t→VS T→Option R):Option R:=match z with
 | true=>bif t.pure then tk t w s K else none
 | false=>match w with
  | .d z t' x=>bif !z||t'.flat then cast1 x t fun x=>K x s else none
  | _=>none
def GU:W T→Bool
 | .r _=>true
 | .ptr _ 0=>true
 | .c .nilSlice=>true
 | .c .nilPtr=>true
 | .c .nilMap=>true
 | _=>false
def AE:W T→W T→Bool
 | .r k,.r j=>Nat.beq k j
 | .ptr k 0,.ptr j 0=>Nat.beq k j
 | _,_=>false
def cEq:AV→AV→Bool
 | .nilSlice,.nilSlice=>true
 | .nilPtr,.nilPtr=>true
 | .nilMap,.nilMap=>true
 | .nilIface,.nilIface=>true
 | .nilFunc,.nilFunc=>true
 | .bool a,.bool b=>a==b
 | .func f [],.func f' []=>Nat.beq f f'
 | _,_=>false
def Bk (τ:List (Nat×W T)) (j:Nat) (w:W T) (K:List (Nat×W T)→Option R):Option R:=match lk τ j with
 | none=>bif GU w then K ((j,w)::τ) else none
 | some w'=>bif AE w w' then K τ else none
def qS:List (Nat×W T)→List Nat→List Nat→(List (Nat×W T)→Option R)→Option R
 | τ,[],[],K=>K τ
 | τ,j::js,k::ks,K=>Bk τ j (.ptr k 0) fun τ=>qS τ js ks K
 | _,_,_,_=>none
inductive Md where
 | no
 | row
 | slot (k:Nat) (agg:Bool)
def ext:(l:List In)→List (Nat×W T)→Nat→Md→List (W T)→VS T→(T.H (DS l)→VS T→Option R)→Option R
 | [],_,_,_,_,s,K=>K () s
 | .d z t::l,τ,n,cur,ws,s,K=>match ws with
  | w::ws=>dK z t w s fun x s=>ext l τ n cur ws s fun y s=>K (x,y) s
  | []=>none
 | .e z t o::l,τ,n,cur,ws,s,K=>match ws with
  | .ed z' t' x o'::ws=>bif (z'==z)&&Nat.beq o' o then cast1 x t fun x=>ext l τ n cur ws s fun y s=>K (x,y) s else none
  | _=>none
 | .r j::l,τ,n,cur,ws,s,K=>match ws with
  | w::ws=>Bk τ j w fun τ=>ext l τ n cur ws s K
  | []=>none
 | .fn f js::l,τ,n,cur,ws,s,K=>match ws with
  | .fn f' ks::ws=>bif Nat.beq f' f then qS τ js ks fun τ=>ext l τ n cur ws s K else none
  | _=>none
 | .ptr j off::l,τ,n,cur,ws,s,K=>match ws with
  | .ptr k o::ws=>bif Nat.beq o off then Bk τ j (.ptr k 0) fun τ=>ext l τ n cur ws s K else none
  | _=>none
 | .ic m j::l,τ,n,cur,ws,s,K=>match ws with
  | .ic m' k::ws=>bif Nat.beq m' m then Bk τ j (.r k) fun τ=>ext l τ n cur ws s K else none
  | _=>none
 | .c v::l,τ,n,cur,ws,s,K=>match ws with
  | .c v'::ws=>bif cEq v' v then ext l τ n cur ws s K else none
  | _=>none
 | .ld k agg::l,τ,n,_,_,s,K=>match nb s.e (.tmp k) with
  | some (.v (.w w))=>bif agg then none else ext l τ n (.slot k agg) [w] s K
  | some (.v (.agg ws))=>bif agg then ext l τ n (.slot k agg) ws s K else none
  | _=>none
 | .slot k agg::l,τ,n,cur,ws,s,K=>match ws,cur with
  | [],.slot k' agg'=>bif Nat.beq k' k&&(agg'==agg) then ext l τ n .no [] s K else none
  | _,_=>none
 | .ldr::l,τ,n,_,_,s,K=>match lk τ n with
  | some (.r k)=>match nth s.ps k with
   | some (.row ws)=>ext l τ n .row ws (s.kill k) K
   | _=>none
  | some (.ptr k 0)=>match nth s.ps k with
   | some (.row ws)=>ext l τ n .row ws (s.kill k) K
   | _=>none
  | _=>none
 | .row::l,τ,n,cur,ws,s,K=>match ws,cur with
  | [],.row=>ext l τ (n+1) .no [] s K
  | _,_=>none
 | .sl t::l,τ,n,_,_,s,K=>match lk τ n with
  | some w=>tk (.sl true t) w s fun x s=>ext l τ (n+1) .no [] s fun y s=>K (x,y) s
  | none=>none
 | .po t::l,τ,n,_,_,s,K=>match lk τ n with
  | some w=>tk (.pt t) w s fun x s=>ext l τ (n+1) .no [] s fun y s=>K (x,y) s
  | none=>none
 | .pr t::l,τ,n,_,_,s,K=>match lk τ n with
  | some w=>tk (.pt t) w s fun q s=>q.bind fun x=>ext l τ (n+1) .no [] s fun y s=>K (x,y) s
  | none=>none
 | .mp a b::l,τ,n,_,_,s,K=>match lk τ n with
  | some w=>tk (.mp a b) w s fun x s=>ext l τ (n+1) .no [] s fun y s=>K (x,y) s
  | none=>none
 | .io a b::l,τ,n,_,_,s,K=>match lk τ n with
  | some w=>tk (.ic a b) w s fun x s=>ext l τ (n+1) .no [] s fun y s=>K (x,y) s
  | none=>none
def qW (l:List In) (s:VS T) (K:T.H (DS l)→VS T→Option R):Option R:=ext l [] 0 .no [] s K
end
section
variable {T:TE} {g:Heap} {M:Nat→Prop}
def Mat (B:Hp) (am:Nat→AV) (e:Env) (h:Heap):(l:List In)→T.H (DS l)→Nat→List AV→List Ch→Prop
 | [],_,_,_,Γ=>Γ=[]
 | .d z t::l,x,n,acc,Γ=>∃ a,a.flat=true∧(T.r t).R (zG B h z) [a] x.1∧Mat B am e h l x.2 n (acc++[a]) Γ
 | .e z t o::l,x,n,acc,Γ=>∃ a,a.flat=true∧cg B [] h (.ed z t x.1 o) a∧Mat B am e h l x.2 n (acc++[a]) Γ
 | .r j::l,x,n,acc,Γ=>(am j).flat=true∧Mat B am e h l x n (acc++[am j]) Γ
 | .fn f js::l,x,n,acc,Γ=>∃ cs,All2 (fun j c=>∃ o v,am j=.ptr o v 0∧c=.ptr o v 0) js cs∧Mat B am e h l x n (acc++[.func f cs]) Γ
 | .ptr j off::l,x,n,acc,Γ=>∃ o v,am j=.ptr o v 0∧Mat B am e h l x n (acc++[.ptr o v off]) Γ
 | .ic m j::l,x,n,acc,Γ=>(am j).flat=true∧Mat B am e h l x n (acc++[.iface m (am j)]) Γ
 | .c v::l,x,n,acc,Γ=>v.flat=true∧Mat B am e h l x n (acc++[v]) Γ
 | .ld _ _::l,x,n,_,Γ=>Mat B am e h l x n [] Γ
 | .ldr::l,x,n,_,Γ=>Mat B am e h l x n [] Γ
 | .slot k false::l,x,n,acc,Γ=>(∃ a,acc=[a]∧e.get k=some a)∧Mat B am e h l x n [] Γ
 | .slot k true::l,x,n,acc,Γ=>e.get k=some (.agg acc)∧Mat B am e h l x n [] Γ
 | .row::l,x,n,acc,Γ=>∃ o v Γ',am n=.ptr o v 0∧Γ=fJ o acc v::Γ'∧Mat B am e h l x (n+1) [] Γ'
 | .sl t::l,x,n,_,Γ=>∃ Γ',Γ=own (T.w (.sl true t)) [am n] x.1::Γ'∧Mat B am e h l x.2 (n+1) [] Γ'
 | .po t::l,x,n,_,Γ=>∃ Γ',Γ=own (T.w (.pt t)) [am n] x.1::Γ'∧Mat B am e h l x.2 (n+1) [] Γ'
 | .pr t::l,x,n,_,Γ=>∃ Γ',Γ=own (T.w (.pt t)) [am n] (some x.1)::Γ'∧Mat B am e h l x.2 (n+1) [] Γ'
 | .mp a b::l,x,n,_,Γ=>∃ Γ',Γ=own (T.w (.mp a b)) [am n] x.1::Γ'∧Mat B am e h l x.2 (n+1) [] Γ'
 | .io a b::l,x,n,_,Γ=>∃ Γ',Γ=own (T.w (.ic a b)) [am n] x.1::Γ'∧Mat B am e h l x.2 (n+1) [] Γ'
theorem qw {R:Type} {t:VT} {w:W T} {s:VS T} {K:T.D t→VS T→Option R} {r:R} (hK:tk t w s K=some r) {Δ:List Ch} {ms:List AV} {e:Env} {h:Heap} {a:AV} (S:VSim g M Δ s ms e h) (hr:ii (Bo g M) ms h w a):TkQ g M K r Δ (own (T.w t) [a]) s ms e h:=by
 obtain ⟨x,s',h',k1,k2,k3,k4⟩:=(jP (T:=T) fuel).1 _ _ _ _ _ hK S (.cons hr .nil)
 refine ⟨x.1,s',h',k1,k2,k3.with ?_,k4⟩
 obtain ⟨a1,b,e1,_,hb,S2⟩:=k3.st.unpair
 have hb:b=[]:=List.eq_nil_of_length_eq_zero hb
 subst hb
 rw [List.append_nil] at e1
 subst e1
 exact S2.swap.drop
theorem St.dropL {Δ:List Ch} {h:Heap}:∀ {Γ0:List Ch},St g M (Γ0++Δ) h→St g M Δ h
 | [],S=>S
 | _::Γ0,S=>St.dropL (Γ0:=Γ0) S.drop
def mi (am:Nat→AV) (τ:List (Nat×W T)) (e:Env) (n:Nat):Md→List AV→List Ch→Prop
 | .no,_,Γ0=>Γ0=[]
 | .slot k false,cs,Γ0=>Γ0=[]∧∃ a,cs=[a]∧e.get k=some a
 | .slot k true,cs,Γ0=>Γ0=[]∧e.get k=some (.agg cs)
 | .row,cs,Γ0=>∃ o v,(∃ w,lk τ n=some w)∧am n=.ptr o v 0∧Γ0=[fJ o cs v]
def wK (B:Hp) (ms:List AV) (h:Heap) (am:Nat→AV) (τ:List (Nat×W T)):Prop:=∀ j w,lk τ j=some w→ii B ms h w (am j)∧(am j).flat=true
theorem mi.upd {am:Nat→AV} {τ:List (Nat×W T)} {e:Env} {n:Nat} {cur:Md} {cs:List AV} {Γ0:List Ch} (hc:mi am τ e n cur cs Γ0) {j:Nat} (hj:lk τ j=none) (w:W T) (a:AV):mi (fun i=>if i=j then a else am i) ((j,w)::τ) e n cur cs Γ0:=by
 cases cur with
 | no=>exact hc
 | slot k agg=>cases agg<;>exact hc
 | row=>
  obtain ⟨o,v,⟨w',h1⟩,h2,h3⟩:=hc
  have hn:n≠j:=fun e=>by rw [e,hj] at h1; cases h1
  refine ⟨o,v,?_,by simp only [if_neg hn]; exact h2,h3⟩
  refine ⟨w',?_⟩
  show (bif Nat.beq j n then some w else lk τ n)=_
  have:Nat.beq j n=false:=by
   cases hb:Nat.beq j n with
   | false=>rfl
   | true=>exact absurd (Nat.eq_of_beq_eq_true hb).symm hn
  rw [this]; exact h1
theorem lF {R:Type} {ms:List AV} {h:Heap} {am:Nat→AV} {τ:List (Nat×W T)} {j:Nat} {w:W T} {a:AV} {K:List (Nat×W T)→Option R} {r:R} {B:Hp} (hK:Bk τ j w K=some r) (ha:wK B ms h am τ) (hr:ii B ms h w a) (hf:a.flat=true) {e:Env} {n:Nat} {cur:Md} {cs:List AV} {Γ0:List Ch} (hc:mi am τ e n cur cs Γ0) :
  ∃ τ' am',K τ'=some r∧wK B ms h am' τ'∧am' j=a∧(∀ i w,lk τ i=some w→am' i=am i∧∃ w,lk τ' i=some w)∧mi am' τ' e n cur cs Γ0∧∃ w,lk τ' j=some w:=by
 unfold Bk at hK
 split at hK
 ·rename_i hj
  cases hw:GU w with
  | false=>rw [hw] at hK; cases hK
  | true=>
   rw [hw] at hK
   have self:lk ((j,w)::τ) j=some w:=by
    show (bif Nat.beq j j then some w else lk τ j)=_
    rw [Nat.beq_refl]; rfl
   refine ⟨_,fun i=>if i=j then a else am i,hK,fun i w' hi=>?_,by simp,fun i w' hi=>?_,hc.upd hj w a,w,self⟩
   ·have hi:(bif Nat.beq j i then some w else lk τ i)=some w':=hi
    cases hb:Nat.beq j i with
    | true=>
     obtain rfl:=Nat.eq_of_beq_eq_true hb
     rw [hb] at hi
     cases hi
     simp only [if_true]
     exact ⟨hr,hf⟩
    | false=>
     rw [hb] at hi
     have hne:i≠j:=fun e=>Nat.ne_of_beq_eq_false hb e.symm
     simp only [if_neg hne]
     exact ha i w' hi
   have hne:i≠j:=fun e=>by rw [e,hj] at hi; cases hi
   refine ⟨by simp only [if_neg hne],w',?_⟩
   show (bif Nat.beq j i then some w else lk τ i)=_
   have:Nat.beq j i=false:=by
    cases hb:Nat.beq j i with
    | false=>rfl
    | true=>exact absurd (Nat.eq_of_beq_eq_true hb).symm hne
   rw [this]; exact hi
 rename_i w' hj
 cases hs:AE w w' with
 | false=>rw [hs] at hK; cases hK
 | true=>
  rw [hs] at hK
  obtain ⟨q1,q2⟩:=ha j w' hj
  refine ⟨τ,am,hK,ha,?_,fun i w hi=>⟨rfl,w,hi⟩,hc,w',hj⟩
  unfold AE at hs
  split at hs
  ·obtain rfl:=Nat.eq_of_beq_eq_true hs
   have q1:nth ms _=some (am j):=q1
   have hr:nth ms _=some a:=hr
   rw [q1] at hr
   exact Option.some.inj hr
  ·obtain rfl:=Nat.eq_of_beq_eq_true hs
   obtain ⟨o,v,q1,q3⟩:=q1
   obtain ⟨o',v',hr,hr2⟩:=hr
   rw [q1] at hr
   cases hr
   rw [q3,hr2]
  cases hs
theorem DG {a b:AV} (h:cEq a b=true):a=b:=by
 unfold cEq at h
 split at h<;>first | rfl | cases h | skip
 ·rename_i x y; simp only [beq_iff_eq] at h; rw [h]
 rename_i f f'; rw [Nat.eq_of_beq_eq_true h]
end
end Go.Am
namespace Go.Am
open Go
section
variable {T:TE} {g:Heap} {M:Nat→Prop}
def FO (B:Hp) (ms:List AV) (h:Heap) (w:W T) (a:AV):Prop:=ii B ms h w a∧a.flat=true
theorem Ar {B:Hp} {ms:List AV} {h h':Heap} (hz:HZ h h') {ws:List (W T)} {as:List AV} (hr:All2 (FO B ms h) ws as):All2 (FO B ms h') ws as:=hr.imp fun w a k=>⟨lL hz k.1,k.2⟩
theorem wK.hz {B:Hp} {ms:List AV} {h h':Heap} {am:Nat→AV} {τ:List (Nat×W T)} (ha:wK B ms h am τ) (hz:HZ h h'):wK B ms h' am τ:=fun j w hj=>⟨lL hz (ha j w hj).1,(ha j w hj).2⟩
def ExQ {R:Type} (l:List In) (K:T.H (DS l)→VS T→Option R) (r:R) (g:Heap) (M:Nat→Prop) (Δ:List Ch) (s:VS T) (ms:List AV) (e:Env) (h:Heap) (am:Nat→AV) (τ:List (Nat×W T)) (n:Nat) (acc:List AV):Prop:=
 ∃ x s' h' am' Γ,K x s'=some r∧Fz h h'∧VSim g M (Γ++Δ) s' ms e h'∧(∀ j w,lk τ j=some w→am' j=am j)∧Mat (Bo g M) am' e h' l x n acc Γ∧Trk s s'
theorem Fl {R:Type} {z:Bool} {t:VT} {w:W T} {s:VS T} {K:T.D t→VS T→Option R} {r:R} (hK:dK z t w s K=some r) {Δ:List Ch} {ms:List AV} {e:Env} {h:Heap} {a:AV} (S:VSim g M Δ s ms e h) (hr:ii (Bo g M) ms h w a) :
  ∃ x s' h',K x s'=some r∧Fz h h'∧VSim g M Δ s' ms e h'∧(T.r t).R (zG (Bo g M) h' z) [a] x∧Trk s s':=by
 cases z with
 | true=>
  simp only [dK] at hK
  cases hp:t.pure with
  | false=>rw [hp] at hK; cases hK
  | true=>
   rw [hp] at hK
   obtain ⟨x,s',h',k1,k2,k3,k4⟩:=qw hK S hr
   exact ⟨x,s',h',k1,k2,k3.with k3.st.drop,jm hp k3.st,k4⟩
 | false=>
  simp only [dK] at hK
  split at hK
  ·rename_i z t' x
   cases hc:(!z||t'.flat) with
   | false=>rw [hc] at hK; cases hK
   | true=>
    rw [hc,cond_true] at hK
    obtain ⟨rfl,hK⟩:=bk hK
    refine ⟨x,s,h,hK,Fz.refl _,S,?_,Trk.refl s⟩
    have hr:(T.r t').R (zG (Bo g M) h z) [a] x:=hr
    rw [Bool.or_eq_true] at hc
    rcases hc with hc | hc
    ·cases z
     ·exact hr
     cases hc
    exact mt hc hr
  cases hK
theorem pG {R:Type} {ms:List AV} {h:Heap} {B:Hp} {e:Env} {n:Nat} {cur:Md} {cells:List AV} {Γ0:List Ch}:∀ (js ks:List Nat) {am:Nat→AV} {τ:List (Nat×W T)} {K:List (Nat×W T)→Option R} {r:R},qS τ js ks K=some r→wK B ms h am τ→∀ {cs:List AV},All2 (fun k c=>∃ o v,nth ms k=some (.ptr o v 0)∧c=.ptr o v 0) ks cs→mi am τ e n cur cells Γ0→
  ∃ τ' am',K τ'=some r∧wK B ms h am' τ'∧All2 (fun j c=>∃ o v,am' j=.ptr o v 0∧c=.ptr o v 0∧∃ w,lk τ' j=some w) js cs∧(∀ i w,lk τ i=some w→am' i=am i∧∃ w,lk τ' i=some w)∧mi am' τ' e n cur cells Γ0
 | [],[],am,τ,K,r,hK,ha,cs,hr,hc=>by cases hr; exact ⟨τ,am,hK,ha,.nil,fun i w hi=>⟨rfl,w,hi⟩,hc⟩
 | [],_::_,am,τ,K,r,hK,ha,cs,hr,hc=>by simp only [qS] at hK; cases hK
 | _::_,[],am,τ,K,r,hK,ha,cs,hr,hc=>by simp only [qS] at hK; cases hK
 | j::js,k::ks,am,τ,K,r,hK,ha,cs,hr,hc=>by
  simp only [qS] at hK
  cases hr with
  | cons p q=>
   obtain ⟨o,v,h1,rfl⟩:=p
   obtain ⟨τ1,am1,k1,k2,k3,k4,k5,w1,k6⟩:=lF (w:=.ptr k 0) (a:=.ptr o v 0) hK ha ⟨o,v,h1,rfl⟩ rfl hc
   obtain ⟨τ2,am2,q1,q2,q3,q4,q5⟩:=pG js ks k1 k2 q k5
   refine ⟨τ2,am2,q1,q2,.cons ⟨o,v,by rw [(q4 j w1 k6).1,k3],rfl,(q4 j w1 k6).2⟩ q3,fun i w hi=>?_,q5⟩
   obtain ⟨u1,w2,u2⟩:=k4 i w hi
   obtain ⟨u3,u4⟩:=q4 i w2 u2
   exact ⟨u3.trans u1,u4⟩
theorem ch {R:Type}:∀ (l:List In) (τ:List (Nat×W T)) (n:Nat) (cur:Md) (ws:List (W T)) (s:VS T) (K:T.H (DS l)→VS T→Option R) (r:R),ext l τ n cur ws s K=some r→∀ {Δ:List Ch} {ms:List AV} {e:Env} {h:Heap} {am:Nat→AV} {acc rest:List AV} {Γ0:List Ch},VSim g M (Γ0++Δ) s ms e h→All2 (FO (Bo g M) ms h) ws rest→mi am τ e n cur (acc++rest) Γ0→wK (Bo g M) ms h am τ→ExQ l K r g M Δ s ms e h am τ n acc
 | [],τ,n,cur,ws,s,K,r,hK,Δ,ms,e,h,am,acc,rest,Γ0,S,hr,hc,ha=>by
  simp only [ext] at hK
  refine ⟨(),s,h,am,[],hK,Fz.refl _,S.with (Δ':=Δ) ?_,fun _ _ _=>rfl,rfl,Trk.refl s⟩
  have:=S.st
  rw [List.append_assoc] at this
  exact St.dropL this
 | .d z t::l,τ,n,cur,ws,s,K,r,hK,Δ,ms,e,h,am,acc,rest,Γ0,S,hr,hc,ha=>by
  simp only [ext] at hK
  cases hr with
  | nil=>cases hK
  | cons p q=>
   rename_i w a ws rest
   obtain ⟨x,s1,h1,k1,k2,k3,k4,k5⟩:=Fl hK S p.1
   rw [show acc++a::rest=(acc++[a])++rest by simp] at hc
   obtain ⟨y,s2,h2,am',Γ,q1,q2,q3,q4,q5,q6⟩:=ch l _ _ _ _ _ _ _ k1 k3 (Ar k2.hz q) hc (ha.hz k2.hz)
   exact ⟨(x,y),s2,h2,am',Γ,q1,k2.trans q2,q3,q4,⟨a,p.2,(T.r t).mono (iC q2.hz z) k4,q5⟩,k5.trans q6⟩
 | .e z t o::l,τ,n,cur,ws,s,K,r,hK,Δ,ms,e,h,am,acc,rest,Γ0,S,hr,hc,ha=>by
  simp only [ext] at hK
  split at hK
  ·rename_i z' t' x o' ws
   cases hr with
   | cons p q=>
    rename_i a rest
    cases ho:(z'==z)&&Nat.beq o' o with
    | false=>rw [ho] at hK; cases hK
    | true=>
     rw [ho,cond_true] at hK
     rw [Bool.and_eq_true] at ho
     obtain rfl:z'=z:=by simpa using ho.1
     obtain rfl:=Nat.eq_of_beq_eq_true ho.2
     obtain ⟨rfl,hK⟩:=bk hK
     rw [show acc++a::rest=(acc++[a])++rest by simp] at hc
     obtain ⟨y,s2,h2,am',Γ,q1,q2,q3,q4,q5,q6⟩:=ch l _ _ _ _ _ _ _ hK S q hc ha
     exact ⟨(x,y),s2,h2,am',Γ,q1,q2,q3,q4,⟨a,p.2,cS (ms:=[]) q2.hz (.ed z' t' x o') p.1,q5⟩,q6⟩
  cases hK
 | .r j::l,τ,n,cur,ws,s,K,r,hK,Δ,ms,e,h,am,acc,rest,Γ0,S,hr,hc,ha=>by
  simp only [ext] at hK
  cases hr with
  | nil=>cases hK
  | cons p q=>
   rename_i w a ws rest
   rw [show acc++a::rest=(acc++[a])++rest by simp] at hc
   obtain ⟨τ',am1,k1,k2,k3,k4,k5,w1,k6⟩:=lF hK ha p.1 p.2 hc
   obtain ⟨y,s2,h2,am',Γ,q1,q2,q3,q4,q5,q6⟩:=ch l _ _ _ _ _ _ _ k1 S q k5 k2
   have e1:am' j=a:=by rw [q4 j w1 k6,k3]
   exact ⟨y,s2,h2,am',Γ,q1,q2,q3,fun i w hi=>(q4 i _ (k4 i w hi).2.choose_spec).trans (k4 i w hi).1,⟨by rw [e1]; exact p.2,by rw [e1]; exact q5⟩,q6⟩
 | .fn f js::l,τ,n,cur,ws,s,K,r,hK,Δ,ms,e,h,am,acc,rest,Γ0,S,hr,hc,ha=>by
  simp only [ext] at hK
  split at hK
  ·rename_i f' ks ws
   cases hr with
   | cons p q=>
    rename_i a rest
    cases ho:Nat.beq f' f with
    | false=>rw [ho] at hK; cases hK
    | true=>
     obtain rfl:=Nat.eq_of_beq_eq_true ho
     rw [ho,cond_true] at hK
     obtain ⟨cs,rfl,hcs⟩:=p.1
     rw [show acc++AV.func f' cs::rest=(acc++[AV.func f' cs])++rest by simp] at hc
     obtain ⟨τ',am1,k1,k2,k3,k4,k5⟩:=pG js ks hK ha hcs hc
     obtain ⟨y,s2,h2,am',Γ,q1,q2,q3,q4,q5,q6⟩:=ch l _ _ _ _ _ _ _ k1 S q k5 k2
     exact ⟨y,s2,h2,am',Γ,q1,q2,q3,fun i w hi=>(q4 i _ (k4 i w hi).2.choose_spec).trans (k4 i w hi).1,⟨cs,k3.imp fun j c ⟨o,v,h1,h3,w,h4⟩=>⟨o,v,by rw [q4 j w h4,h1],h3⟩,q5⟩,q6⟩
  cases hK
 | .ptr j off::l,τ,n,cur,ws,s,K,r,hK,Δ,ms,e,h,am,acc,rest,Γ0,S,hr,hc,ha=>by
  simp only [ext] at hK
  split at hK
  ·rename_i k o ws
   cases hr with
   | cons p q=>
    rename_i a rest
    cases ho:Nat.beq o off with
    | false=>rw [ho] at hK; cases hK
    | true=>
     obtain rfl:=Nat.eq_of_beq_eq_true ho
     rw [ho,cond_true] at hK
     obtain ⟨ob,v,h1,rfl⟩:=p.1
     rw [show acc++AV.ptr ob v o::rest=(acc++[AV.ptr ob v o])++rest by simp] at hc
     obtain ⟨τ',am1,k1,k2,k3,k4,k5,w1,k6⟩:=lF (a:=.ptr ob v 0) hK ha ⟨ob,v,h1,rfl⟩ rfl hc
     obtain ⟨y,s2,h2,am',Γ,q1,q2,q3,q4,q5,q6⟩:=ch l _ _ _ _ _ _ _ k1 S q k5 k2
     have e1:am' j=.ptr ob v 0:=by rw [q4 j w1 k6,k3]
     exact ⟨y,s2,h2,am',Γ,q1,q2,q3,fun i w hi=>(q4 i _ (k4 i w hi).2.choose_spec).trans (k4 i w hi).1,⟨ob,v,e1,q5⟩,q6⟩
  cases hK
 | .ic m j::l,τ,n,cur,ws,s,K,r,hK,Δ,ms,e,h,am,acc,rest,Γ0,S,hr,hc,ha=>by
  simp only [ext] at hK
  split at hK
  ·rename_i m' k ws
   cases hr with
   | cons p q=>
    rename_i a rest
    cases ho:Nat.beq m' m with
    | false=>rw [ho] at hK; cases hK
    | true=>
     obtain rfl:=Nat.eq_of_beq_eq_true ho
     rw [ho,cond_true] at hK
     obtain ⟨c,h1,hf,rfl⟩:=p.1
     rw [show acc++AV.iface m' c::rest=(acc++[AV.iface m' c])++rest by simp] at hc
     obtain ⟨τ',am1,k1,k2,k3,k4,k5,w1,k6⟩:=lF (a:=c) hK ha h1 hf hc
     obtain ⟨y,s2,h2,am',Γ,q1,q2,q3,q4,q5,q6⟩:=ch l _ _ _ _ _ _ _ k1 S q k5 k2
     have e1:am' j=c:=by rw [q4 j w1 k6,k3]
     exact ⟨y,s2,h2,am',Γ,q1,q2,q3,fun i w hi=>(q4 i _ (k4 i w hi).2.choose_spec).trans (k4 i w hi).1,⟨by rw [e1]; exact hf,by rw [e1]; exact q5⟩,q6⟩
  cases hK
 | .c v::l,τ,n,cur,ws,s,K,r,hK,Δ,ms,e,h,am,acc,rest,Γ0,S,hr,hc,ha=>by
  simp only [ext] at hK
  split at hK
  ·rename_i v' ws
   cases hr with
   | cons p q=>
    rename_i a rest
    cases ho:cEq v' v with
    | false=>rw [ho] at hK; cases hK
    | true=>
     obtain rfl:=DG ho
     rw [ho] at hK
     have h1:a=v':=p.1
     subst h1
     rw [show acc++a::rest=(acc++[a])++rest by simp] at hc
     obtain ⟨y,s2,h2,am',Γ,q1,q2,q3,q4,q5,q6⟩:=ch l _ _ _ _ _ _ _ hK S q hc ha
     exact ⟨y,s2,h2,am',Γ,q1,q2,q3,q4,⟨p.2,q5⟩,q6⟩
  cases hK
 | .ld k agg::l,τ,n,cur,ws,s,K,r,hK,Δ,ms,e,h,am,acc,rest,Γ0,S,hr,hc,ha=>by
  simp only [ext] at hK
  have S0:VSim g M ([]++Δ) s ms e h:=S.with (Δ':=Δ) (by have:=S.st; rw [List.append_assoc] at this; exact St.dropL this)
  split at hK
  ·rename_i w hx
   obtain ⟨a,h1,h2⟩:=cD S hx
   cases agg with
   | true=>cases hK
   | false=>exact ch l _ _ _ _ _ _ _ (acc:=[]) (rest:=[a]) hK S0 (.cons ⟨g9 h2.1,h2.2⟩ .nil) ⟨rfl,a,rfl,h1⟩ ha
  ·rename_i ws2 hx
   obtain ⟨a,h1,cs,rfl,h2⟩:=cD S hx
   cases agg with
   | false=>cases hK
   | true=>exact ch l _ _ _ _ _ _ _ (acc:=[]) (rest:=cs) hK S0 (h2.imp fun w a k=>⟨g9 k.1,k.2⟩) ⟨rfl,h1⟩ ha
  cases hK
 | .slot k agg::l,τ,n,cur,ws,s,K,r,hK,Δ,ms,e,h,am,acc,rest,Γ0,S,hr,hc,ha=>by
  simp only [ext] at hK
  split at hK
  ·rename_i k' agg'
   cases hr
   rw [List.append_nil] at hc
   cases ho:(Nat.beq k' k&&(agg'==agg)) with
   | false=>rw [ho] at hK; cases hK
   | true=>
    rw [ho] at hK
    rw [Bool.and_eq_true] at ho
    obtain rfl:=Nat.eq_of_beq_eq_true ho.1
    obtain rfl:agg'=agg:=by simpa using ho.2
    have S0:VSim g M ([]++Δ) s ms e h:=S.with (Δ':=Δ) (by have:=S.st; rw [List.append_assoc] at this; exact St.dropL this)
    obtain ⟨y,s2,h2,am',Γ,q1,q2,q3,q4,q5,q6⟩:=ch l _ _ _ _ _ _ _ (acc:=[]) (rest:=[]) hK S0 .nil rfl ha
    cases agg' with
    | false=>exact ⟨y,s2,h2,am',Γ,q1,q2,q3,q4,⟨hc.2,q5⟩,q6⟩
    | true=>exact ⟨y,s2,h2,am',Γ,q1,q2,q3,q4,⟨hc.2,q5⟩,q6⟩
  cases hK
 | .ldr::l,τ,n,cur,ws,s,K,r,hK,Δ,ms,e,h,am,acc,rest,Γ0,S,hr,hc,ha=>by
  simp only [ext] at hK
  have S0:VSim g M Δ s ms e h:=S.with (Δ':=Δ) (by have:=S.st; rw [List.append_assoc] at this; exact St.dropL this)
  have go:∀ (k:Nat) (w:W T) (ws:List (W T)),lk τ n=some w→nth ms k=some (am n)→nth s.ps k=some (.row ws)→ext l τ n .row ws (s.kill k) K=some r→ExQ (.ldr::l) K r g M Δ s ms e h am τ n acc:=by
   intro k w ws hl h1 hp hK
   have S1:=S0.kill hp h1
   obtain ⟨o,v,cs,e1,hr,S2⟩:=St.rowOpen S1.st
   have S3:VSim g M ([fJ o cs v]++Δ) (s.kill k) ms e h:=S1.with S2
   obtain ⟨y,s2,h2,am',Γ,q1,q2,q3,q4,q5,q6⟩:=ch l _ _ _ _ _ _ _ (acc:=[]) (rest:=cs) hK S3 (hr.imp fun w a k=>⟨pF k.1,k.2⟩) ⟨o,v,⟨w,hl⟩,e1,rfl⟩ ha
   exact ⟨y,s2,h2,am',Γ,q1,q2,q3,q4,q5,(Trk.kill hp (fun _ e=>by cases e)).trans q6⟩
  split at hK
  ·rename_i k hl
   split at hK
   ·rename_i ws hp
    exact go k _ ws hl (ha n _ hl).1 hp hK
   cases hK
  ·rename_i k hl
   split at hK
   ·rename_i ws hp
    obtain ⟨o,v,h1,h2⟩:=(ha n _ hl).1
    exact go k _ ws hl (by rw [h2]; exact h1) hp hK
   cases hK
  cases hK
 | .row::l,τ,n,cur,ws,s,K,r,hK,Δ,ms,e,h,am,acc,rest,Γ0,S,hr,hc,ha=>by
  simp only [ext] at hK
  split at hK
  ·cases hr
   rw [List.append_nil] at hc
   obtain ⟨o,v,⟨w0,hl⟩,h1,rfl⟩:=hc
   have S0:VSim g M ([]++(fJ o acc v::Δ)) s ms e h:=S
   obtain ⟨y,s2,h2,am',Γ,q1,q2,q3,q4,q5,q6⟩:=ch l _ _ _ _ _ _ _ (acc:=[]) (rest:=[]) hK S0 .nil rfl ha
   refine ⟨y,s2,h2,am',fJ o acc v::Γ,q1,q2,q3.with (Δ':=fJ o acc v::(Γ++Δ)) ?_,q4,⟨o,v,Γ,by rw [q4 n w0 hl]; exact h1,rfl,q5⟩,q6⟩
   refine q3.st.perm ?_
   exact (List.perm_middle).append_right _
  cases hK
 | .sl t::l,τ,n,cur,ws,s,K,r,hK,Δ,ms,e,h,am,acc,rest,Γ0,S,hr,hc,ha=>by
  simp only [ext] at hK
  have S0:VSim g M Δ s ms e h:=S.with (Δ':=Δ) (by have:=S.st; rw [List.append_assoc] at this; exact St.dropL this)
  split at hK
  ·rename_i w hl
   obtain ⟨x,s1,h1,k1,k2,k3,k4⟩:=qw hK S0 (ha n w hl).1
   obtain ⟨y,s2,h2,am',Γ,q1,q2,q3,q4,q5,q6⟩:=ch l _ _ _ _ _ _ _ (acc:=[]) (rest:=[]) k1 (Γ0:=[]) (Δ:=own (T.w (.sl true t)) [am n] x::Δ) k3 .nil rfl (ha.hz k2.hz)
   refine ⟨(x,y),s2,h2,am',own (T.w (.sl true t)) [am n] x::Γ,q1,k2.trans q2,q3.with (Δ':=own (T.w (.sl true t)) [am n] x::(Γ++Δ)) ?_,q4,⟨Γ,by rw [q4 n w hl],q5⟩,k4.trans q6⟩
   exact q3.st.perm ((List.perm_middle).append_right _)
  cases hK
 | .po t::l,τ,n,cur,ws,s,K,r,hK,Δ,ms,e,h,am,acc,rest,Γ0,S,hr,hc,ha=>by
  simp only [ext] at hK
  have S0:VSim g M Δ s ms e h:=S.with (Δ':=Δ) (by have:=S.st; rw [List.append_assoc] at this; exact St.dropL this)
  split at hK
  ·rename_i w hl
   obtain ⟨x,s1,h1,k1,k2,k3,k4⟩:=qw hK S0 (ha n w hl).1
   obtain ⟨y,s2,h2,am',Γ,q1,q2,q3,q4,q5,q6⟩:=ch l _ _ _ _ _ _ _ (acc:=[]) (rest:=[]) k1 (Γ0:=[]) (Δ:=own (T.w (.pt t)) [am n] x::Δ) k3 .nil rfl (ha.hz k2.hz)
   refine ⟨(x,y),s2,h2,am',own (T.w (.pt t)) [am n] x::Γ,q1,k2.trans q2,q3.with (Δ':=own (T.w (.pt t)) [am n] x::(Γ++Δ)) ?_,q4,⟨Γ,by rw [q4 n w hl],q5⟩,k4.trans q6⟩
   exact q3.st.perm ((List.perm_middle).append_right _)
  cases hK
 | .pr t::l,τ,n,cur,ws,s,K,r,hK,Δ,ms,e,h,am,acc,rest,Γ0,S,hr,hc,ha=>by
  simp only [ext] at hK
  have S0:VSim g M Δ s ms e h:=S.with (Δ':=Δ) (by have:=S.st; rw [List.append_assoc] at this; exact St.dropL this)
  split at hK
  ·rename_i w hl
   obtain ⟨x,s1,h1,k1,k2,k3,k4⟩:=qw hK S0 (ha n w hl).1
   obtain ⟨x,rfl,k1⟩:=obI k1
   obtain ⟨y,s2,h2,am',Γ,q1,q2,q3,q4,q5,q6⟩:=ch l _ _ _ _ _ _ _ (acc:=[]) (rest:=[]) k1 (Γ0:=[]) (Δ:=own (T.w (.pt t)) [am n] (some x)::Δ) k3 .nil rfl (ha.hz k2.hz)
   refine ⟨(x,y),s2,h2,am',own (T.w (.pt t)) [am n] (some x)::Γ,q1,k2.trans q2,q3.with (Δ':=own (T.w (.pt t)) [am n] (some x)::(Γ++Δ)) ?_,q4,⟨Γ,by rw [q4 n w hl],q5⟩,k4.trans q6⟩
   exact q3.st.perm ((List.perm_middle).append_right _)
  cases hK
 | .mp a b::l,τ,n,cur,ws,s,K,r,hK,Δ,ms,e,h,am,acc,rest,Γ0,S,hr,hc,ha=>by
  simp only [ext] at hK
  have S0:VSim g M Δ s ms e h:=S.with (Δ':=Δ) (by have:=S.st; rw [List.append_assoc] at this; exact St.dropL this)
  split at hK
  ·rename_i w hl
   obtain ⟨x,s1,h1,k1,k2,k3,k4⟩:=qw hK S0 (ha n w hl).1
   obtain ⟨y,s2,h2,am',Γ,q1,q2,q3,q4,q5,q6⟩:=ch l _ _ _ _ _ _ _ (acc:=[]) (rest:=[]) k1 (Γ0:=[]) (Δ:=own (T.w (.mp a b)) [am n] x::Δ) k3 .nil rfl (ha.hz k2.hz)
   refine ⟨(x,y),s2,h2,am',own (T.w (.mp a b)) [am n] x::Γ,q1,k2.trans q2,q3.with (Δ':=own (T.w (.mp a b)) [am n] x::(Γ++Δ)) ?_,q4,⟨Γ,by rw [q4 n w hl],q5⟩,k4.trans q6⟩
   exact q3.st.perm ((List.perm_middle).append_right _)
  cases hK
 | .io a b::l,τ,n,cur,ws,s,K,r,hK,Δ,ms,e,h,am,acc,rest,Γ0,S,hr,hc,ha=>by
  simp only [ext] at hK
  have S0:VSim g M Δ s ms e h:=S.with (Δ':=Δ) (by have:=S.st; rw [List.append_assoc] at this; exact St.dropL this)
  split at hK
  ·rename_i w hl
   obtain ⟨x,s1,h1,k1,k2,k3,k4⟩:=qw hK S0 (ha n w hl).1
   obtain ⟨y,s2,h2,am',Γ,q1,q2,q3,q4,q5,q6⟩:=ch l _ _ _ _ _ _ _ (acc:=[]) (rest:=[]) k1 (Γ0:=[]) (Δ:=own (T.w (.ic a b)) [am n] x::Δ) k3 .nil rfl (ha.hz k2.hz)
   refine ⟨(x,y),s2,h2,am',own (T.w (.ic a b)) [am n] x::Γ,q1,k2.trans q2,q3.with (Δ':=own (T.w (.ic a b)) [am n] x::(Γ++Δ)) ?_,q4,⟨Γ,by rw [q4 n w hl],q5⟩,k4.trans q6⟩
   exact q3.st.perm ((List.perm_middle).append_right _)
  cases hK
end
end Go.Am
namespace Go.Am
open Go
section
variable {T:TE}
def eB:Part T→Bool
 | .ro _=>true
 | _=>false
def roE (s:VS T):qa T:=s.e.filter fun x=>jL (some x.2)&&jL (lk s.e x.1)
def roP (s:VS T):List (Part T):=s.ps.takeWhile eB
def roS (s:VS T):VS T:=⟨roE s,roP s⟩
def W.cl (m:Nat):W T→Bool
 | .r k=>Nat.blt k m
 | .ic _ k=>Nat.blt k m
 | .ptr k _=>Nat.blt k m
 | .fn _ ks=>ks.all fun k=>Nat.blt k m
 | _=>true
def V1.cl (m:Nat) (x:V1 T):Bool:=(cB x).all (W.cl m)
def SV.cl (m:Nat):SV T→Bool
 | .ro x=>x.cl m
 | _=>true
def Part.cl (m:Nat):Part T→Bool
 | .ro (.row ws)=>ws.all (W.cl m)
 | .ro (.sl _ _)=>true
 | .ro (.po _ _)=>true
 | .ro (.io _ _ _)=>true
 | .ro (.mp _ _ _)=>true
 | .ro (.ho _ _ _ _)=>false
 | .ro .dead=>true
 | .ro (.ro _)=>false
 | _=>true
def clS (s:VS T):Bool:=(roE s).all (fun x=>x.2.cl (roP s).length)&&(roP s).all (Part.cl (roP s).length)&&(s.ps.drop (roP s).length).all fun p=>!eB p
def bC:List In→List Nat
 | []=>[]
 | .slot k _::l=>k::bC l
 | _::l=>bC l
def mM (l:List In) (s:VS T):Bool:=(bC l).all fun k=>!jL (lk s.e k)
def cX (ro:Bool) (l:List In) (x:T.H (DS l)) (s:VS T):VS T:=⟨mkE ro s.ps.length l x []++s.e,s.ps++mkP ro s.ps.length l x []⟩
def amL (am:Nat→AV):Nat→Nat→List AV
 | _,0=>[]
 | n,c+1=>am n::amL am (n+1) c
theorem oe (am:Nat→AV):∀ n c,(amL am n c).length=c
 | _,0=>rfl
 | n,c+1=>by simp [amL,oe am (n+1) c]
theorem oL (am:Nat→AV):∀ n c j,j < c→nth (amL am n c) j=some (am (n+j))
 | _,0,j,h=>by omega
 | n,c+1,0,h=>rfl
 | n,c+1,j+1,h=>by
  show nth (amL am (n+1) c) j=_
  rw [oL am (n+1) c j (by omega)]
  congr 2; omega
theorem iw {α:Type}:∀ (l m:List (Nat×α)) (k:Nat),lk (l++m) k=match lk l k with
  | some x=>some x
  | none=>lk m k
 | [],m,k=>rfl
 | (j,v)::l,m,k=>by
  simp only [List.cons_append,lk]
  cases Nat.beq j k
  ·simp only [cond_false]; exact iw l m k
  rfl
theorem mz {α:Type}:∀ {l:List (Nat×α)} {k:Nat} {x:α},lk l k=some x→(k,x)∈l
 | [],k,x,h=>by cases h
 | (j,v)::l,k,x,h=>by
  simp only [lk] at h
  cases hb:Nat.beq j k with
  | true=>
   obtain rfl:=Nat.eq_of_beq_eq_true hb
   rw [hb] at h
   cases h
   exact List.mem_cons_self ..
  | false=>rw [hb] at h; exact List.mem_cons_of_mem _ (mz h)
theorem nK {α:Type}:∀ {l:List (Nat×α)} {k:Nat},(∀ x,(k,x)∉l)→lk l k=none
 | [],k,h=>rfl
 | (j,v)::l,k,h=>by
  simp only [lk]
  cases hb:Nat.beq j k with
  | true=>
   obtain rfl:=Nat.eq_of_beq_eq_true hb
   exact absurd (List.mem_cons_self ..) (h v)
  | false=>exact nK fun x hx=>h x (List.mem_cons_of_mem _ hx)
theorem fw (p:qa T):∀ (l:qa T) (k:Nat),jL (lk p k)=true→jL (lk l k)=true→lk (l.filter fun x=>jL (some x.2)&&jL (lk p x.1)) k=lk l k
 | [],k,h1,h2=>rfl
 | (j,v)::l,k,h1,h2=>by
  have h2':jL (bif Nat.beq j k then some v else lk l k)=true:=h2
  cases hb:Nat.beq j k with
  | true=>
   obtain rfl:=Nat.eq_of_beq_eq_true hb
   rw [hb] at h2'
   have h3:jL (some v)=true:=h2'
   rw [List.filter_cons_of_pos (by simp only [h3,h1,Bool.and_self])]
   simp only [lk,hb,cond_true]
  | false=>
   rw [hb] at h2'
   have e2:lk ((j,v)::l) k=lk l k:=by simp only [lk,hb,cond_false]
   rw [e2]
   cases hc:(jL (some v)&&jL (lk p j)) with
   | true=>
    rw [List.filter_cons_of_pos (by exact hc)]
    simp only [lk,hb,cond_false]
    exact fw p l k h1 h2'
   | false=>
    rw [List.filter_cons_of_neg (by simp only [hc]; simp)]
    exact fw p l k h1 h2'
theorem gZ (p:qa T):∀ (l:qa T) {k:Nat} {sv:SV T},lk (l.filter fun x=>jL (some x.2)&&jL (lk p x.1)) k=some sv→jL (some sv)=true∧jL (lk p k)=true:=by
 intro l k sv h
 have:=mz h
 rw [List.mem_filter,Bool.and_eq_true] at this
 exact this.2
theorem rA {s:VS T} {k:Nat} {sv:SV T} (h:lk (roE s) k=some sv):lk s.e k=some sv:=by
 obtain ⟨h1,h2⟩:=gZ s.e s.e h
 rw [← fw s.e s.e k h2 h2]
 exact h
theorem Dc {s:VS T} {k:Nat} {x:V1 T} (h:lk s.e k=some (.ro x)):lk (roE s) k=some (.ro x):=by
 have h1:jL (lk s.e k)=true:=by rw [h]; rfl
 have:=fw s.e s.e k h1 h1
 rw [h] at this
 exact this
theorem ud:∀ {ps:List (Part T)} {k:Nat} {p:Part T},nth (ps.takeWhile eB) k=some p→nth ps k=some p∧eB p=true
 | [],k,p,h=>by cases h
 | q::ps,k,p,h=>by
  rw [List.takeWhile_cons] at h
  cases hq:eB q with
  | false=>rw [hq] at h; cases h
  | true=>
   rw [hq] at h
   cases k with
   | zero=>cases h; exact ⟨rfl,hq⟩
   | succ k=>exact ud (k:=k) h
theorem oc (ps:List (Part T)):ps.takeWhile eB=ps.take (ps.takeWhile eB).length:=by
 induction ps with
 | nil=>rfl
 | cons q ps ih=>
  rw [List.takeWhile_cons]
  cases hq:eB q with
  | false=>rfl
  | true=>simp only [if_true,List.length_cons,List.take_succ_cons]; rw [← ih]
variable {g:Heap} {M:Nat→Prop}
theorem fk {α:Type} {l:List α} {k m:Nat} {x:α} (h:nth l k=some x) (hk:k < m):nth (l.take m) k=some x:=by
 rw [aW] at h ⊢
 rw [List.getElem?_take_of_lt hk,h]
theorem mO {α β:Type} {P:α→β→Prop}:∀ {l:List α} {m:List β},All2 P l m→All2 (fun a b=>a∈l∧P a b) l m
 | _,_,.nil=>.nil
 | _,_,.cons p q=>.cons ⟨List.mem_cons_self ..,p⟩ ((mO q).imp fun a b k=>⟨List.mem_cons_of_mem _ k.1,k.2⟩)
theorem mC {B:Hp} {ms:List AV} {h:Heap} {m:Nat}:∀ {w:W T} {a:AV},w.cl m=true→cg B ms h w a→cg B (ms.take m) h w a
 | .bad,_,_,r=>r
 | .c v,_,_,r=>r
 | .d z t x,_,_,r=>r
 | .b p i,_,_,r=>r
 | .r k,_,hc,r=>fk r (by simpa [W.cl,Nat.blt_eq] using hc)
 | .ic n k,_,hc,⟨p,r1,r2,r3⟩=>⟨p,fk r1 (by simpa [W.cl,Nat.blt_eq] using hc),r2,r3⟩
 | .ptr k off,_,hc,⟨o,v,r1,r2⟩=>⟨o,v,fk r1 (by simpa [W.cl,Nat.blt_eq] using hc),r2⟩
 | .el _ _ _ _ _,_,_,r=>r.elim
 | .ed z t x off,_,_,r=>r
 | .fn f ks,_,hc,⟨cs,e,r⟩=>⟨cs,e,(mO r).imp fun k c ⟨hk,o,v,h1,h2⟩=>⟨o,v,fk h1 (by
  have hc:(ks.all fun k=>Nat.blt k m)=true:=hc
  rw [List.all_eq_true] at hc
  simpa [Nat.blt_eq] using hc k hk),h2⟩⟩
theorem iJ {B:Hp} {ms:List AV} {h:Heap} {m:Nat}:∀ {ws:List (W T)} {cs:List AV},ws.all (W.cl m)=true→All2 (hY B ms h) ws cs→All2 (hY B (ms.take m) h) ws cs
 | _,_,_,.nil=>.nil
 | w::ws,_,hc,.cons p q=>by
  rw [List.all_cons,Bool.and_eq_true] at hc
  exact .cons ⟨mC hc.1 p.1,p.2⟩ (iJ hc.2 q)
theorem lY {B:Hp} {ms:List AV} {h:Heap} {m:Nat}:∀ {x:V1 T} {a:AV},x.cl m=true→qA B ms h x a→qA B (ms.take m) h x a
 | .w w,a,hc,r=>⟨mC (by simpa [V1.cl,cB] using hc) r.1,r.2⟩
 | .agg ws,a,hc,⟨cs,e,r⟩=>⟨cs,e,iJ hc r⟩
theorem uk {B:Hp} {ms:List AV} {h:Heap} {m:Nat} {a:AV} {p:Part T} (hr:eB p=true) (hc:p.cl m=true) (fp:List Nat) (hP:(df B ms a p).P h fp):(df B (ms.take m) a p).P h fp:=by
 cases p with
 | ro p=>
  cases p with
  | row ws=>
   obtain ⟨o,v,cs,e,e2,hg,hr⟩:=hP
   exact ⟨o,v,cs,e,e2,hg,iJ hc hr⟩
  | ro p=>cases hc
  | ho t l i j=>cases hc
  | _=>exact hP
 | _=>cases hr
theorem kV {B:Hp} {ms:List AV} {h:Heap} (m:Nat):∀ (as:List AV) (ps:List (Part T)),(∀ p,p∈ps→eB p=true∧p.cl m=true)→All2 (fun (c c':Ch)=>∀ fp,c.P h fp→c'.P h fp) (chs B ms as ps) (chs B (ms.take m) as ps)
 | [],_,_=>.nil
 | _::_,[],_=>.nil
 | a::as,p::ps,hp=>.cons (uk (hp p (List.mem_cons_self ..)).1 (hp p (List.mem_cons_self ..)).2) (kV m as ps fun q hq=>hp q (List.mem_cons_of_mem _ hq))
theorem St.impR {Γ Γ1 Γ2:List Ch} {h:Heap} (S:St g M (Γ++Γ1) h) (hi:All2 (fun (c c':Ch)=>∀ fp,c.P h fp→c'.P h fp) Γ1 Γ2):St g M (Γ++Γ2) h:=by
 refine S.imp ?_
 clear S
 induction Γ with
 | nil=>exact hi
 | cons c Γ ih=>exact .cons (fun _ k=>k) ih
theorem St.dropR {Γ:List Ch} {h:Heap} {Γ1:List Ch} (S:St g M (Γ++Γ1) h):St g M Γ h:=St.dropL (Γ0:=Γ1) (S.perm List.perm_append_comm)
theorem VSim.roS {Δ:List Ch} {s:VS T} {ms:List AV} {e:Env} {h:Heap} (S:VSim g M Δ s ms e h) (hc:clS s=true):VSim g M Δ (roS s) (ms.take (roP s).length) e h∧Ro s (Am.roS s):=by
 unfold clS at hc
 rw [Bool.and_eq_true,Bool.and_eq_true,List.all_eq_true,List.all_eq_true,List.all_eq_true] at hc
 obtain ⟨hc,hc3⟩:=hc
 have hle:(roP s).length≤ms.length:=by
  rw [S.len]
  have:=oc s.ps
  have h2:=congrArg List.length this
  rw [List.length_take] at h2
  show (s.ps.takeWhile eB).length≤_
  omega
 refine ⟨⟨?_,?_,fun k sv hk=>?_⟩,⟨fun k x hk=>Dc hk,fun k p hp=>?_⟩⟩
 ·rw [List.length_take]; show min _ _=(roP s).length; omega
 ·have h1:chs (Bo g M) ms ms s.ps=chs (Bo g M) ms (ms.take (roP s).length) (roP s)++chs (Bo g M) ms (ms.drop (roP s).length) (s.ps.drop (roP s).length):=by
   have h2:s.ps=roP s++s.ps.drop (roP s).length:=by
    have:=oc s.ps
    show s.ps=s.ps.takeWhile eB++s.ps.drop (s.ps.takeWhile eB).length
    conv=>lhs; rw [← List.take_append_drop (s.ps.takeWhile eB).length s.ps]
    rw [← this]
   have h3:=eg (B:=Bo g M) (ms:=ms) (as:=ms.take (roP s).length) (ps:=roP s) (ms.drop (roP s).length) (s.ps.drop (roP s).length) (by rw [List.length_take]; omega)
   rw [List.take_append_drop,← h2] at h3
   exact h3
  have S1:=S.st
  rw [h1,← List.append_assoc] at S1
  refine St.impR S1.dropR (kV _ _ _ fun p hp=>?_)
  obtain ⟨i,hi⟩:=List.getElem?_of_mem hp
  rw [← aW] at hi
  exact ⟨(ud hi).2,hc.2 p hp⟩
 ·have hk1:=rA (s:=s) hk
  obtain ⟨v,h1,h2⟩:=S.env k sv hk1
  refine ⟨v,h1,?_⟩
  have hcl:=hc.1 _ (mz hk)
  have hr:=(gZ s.e s.e hk).1
  cases sv with
  | ro x=>exact lY hcl h2
  | _=>cases hr
 have hlt:k < (roP s).length:=by
  rcases Nat.lt_or_ge k (roP s).length with hh | hh
  ·exact hh
  exfalso
  rw [aW] at hp
  have hm:Part.ro p∈s.ps.drop (roP s).length:=by
   refine List.mem_of_getElem? (i:=k - (roP s).length) ?_
   rw [List.getElem?_drop,show (roP s).length+(k - (roP s).length)=k by omega,hp]
  have:=hc3 _ hm
  cases this
 show nth (s.ps.takeWhile eB) k=_
 rw [oc]
 exact fk hp hlt
theorem fu {B:Hp} {ms:List AV} {h:Heap} {ws:List (W T)} {cs:List AV} (hr:All2 (hY B ms h) ws cs) (w:W T) {a:AV} (hc:cg B ms h w a) (hf:a.flat=true):All2 (hY B ms h) (ws++[w]) (cs++[a]):=hr.append' (.cons ⟨hc,hf⟩ .nil)
theorem s9 {ms:List AV} {am:Nat→AV} {b N:Nat} (hF:∀ j,j < N→nth ms (b+j)=some (am j)):∀ {js:List Nat} {cs:List AV},(js.all fun j=>Nat.blt j N)=true→All2 (fun j c=>∃ o v,am j=.ptr o v 0∧c=.ptr o v 0) js cs→All2 (fun k c=>∃ o v,nth ms k=some (.ptr o v 0)∧c=.ptr o v 0) (js.map fun j=>b+j) cs
 | _,_,ho,.nil=>.nil
 | j::js,_,ho,.cons p q=>by
  rw [List.all_cons,Bool.and_eq_true] at ho
  obtain ⟨o,v,h1,h2⟩:=p
  exact .cons ⟨o,v,by rw [hF j (by simpa [Nat.blt_eq] using ho.1),h1],h2⟩ (s9 hF ho.2 q)
theorem bR {B:Hp} {am:Nat→AV} {e:Env} {h:Heap} {ro:Bool} {b N:Nat} {msF:List AV} (hF:∀ j,j < N→nth msF (b+j)=some (am j)):∀ (l:List In) (x:T.H (DS l)) (n:Nat) (accW:List (W T)) (acc:List AV) (Γ:List Ch),okI N l=true→Mat B am e h l x n acc Γ→All2 (hY B msF h) accW acc→
  ∀ k sv,(k,sv)∈mkE ro b l x accW→∃ v y,e.get k=some v∧sv=onS ro y∧qA B msF h y v
 | [],x,n,accW,acc,Γ,_,_,_,k,sv,hm=>by cases hm
 | .d z t::l,x,n,accW,acc,Γ,ho,⟨a,h1,h2,h3⟩,hr,k,sv,hm=>bR hF l x.2 n _ _ Γ ho h3 (fu hr (.d z t x.1) h2 h1) k sv hm
 | .e z t o::l,x,n,accW,acc,Γ,ho,⟨a,h1,h2,h3⟩,hr,k,sv,hm=>bR hF l x.2 n _ _ Γ ho h3 (fu hr (.ed z t x.1 o) h2 h1) k sv hm
 | .r j::l,x,n,accW,acc,Γ,ho,⟨h1,h2⟩,hr,k,sv,hm=>by
  have ho:(Nat.blt j N&&okI N l)=true:=ho
  rw [Bool.and_eq_true] at ho
  exact bR hF l x n _ _ Γ ho.2 h2 (fu hr (.r (b+j)) (hF j (by simpa [Nat.blt_eq] using ho.1)) h1) k sv hm
 | .fn f js::l,x,n,accW,acc,Γ,ho,⟨cs,h1,h2⟩,hr,k,sv,hm=>by
  have ho:((js.all fun j=>Nat.blt j N)&&okI N l)=true:=ho
  rw [Bool.and_eq_true] at ho
  exact bR hF l x n _ _ Γ ho.2 h2 (fu hr (.fn f (js.map fun j=>b+j)) ⟨cs,rfl,s9 hF ho.1 h1⟩ rfl) k sv hm
 | .ptr j off::l,x,n,accW,acc,Γ,ho,⟨o,v,h1,h2⟩,hr,k,sv,hm=>by
  have ho:(Nat.blt j N&&okI N l)=true:=ho
  rw [Bool.and_eq_true] at ho
  exact bR hF l x n _ _ Γ ho.2 h2 (fu hr (.ptr (b+j) off) ⟨o,v,by rw [hF j (by simpa [Nat.blt_eq] using ho.1),h1],rfl⟩ rfl) k sv hm
 | .ic m j::l,x,n,accW,acc,Γ,ho,⟨h1,h2⟩,hr,k,sv,hm=>by
  have ho:(Nat.blt j N&&okI N l)=true:=ho
  rw [Bool.and_eq_true] at ho
  exact bR hF l x n _ _ Γ ho.2 h2 (fu hr (.ic m (b+j)) ⟨am j,hF j (by simpa [Nat.blt_eq] using ho.1),h1,rfl⟩ rfl) k sv hm
 | .c v::l,x,n,accW,acc,Γ,ho,⟨h1,h2⟩,hr,k,sv,hm=>bR hF l x n _ _ Γ ho h2 (fu hr (.c v) rfl h1) k sv hm
 | .ld _ _::l,x,n,accW,acc,Γ,ho,hM,hr,k,sv,hm=>bR hF l x n _ _ Γ ho hM .nil k sv hm
 | .ldr::l,x,n,accW,acc,Γ,ho,hM,hr,k,sv,hm=>bR hF l x n _ _ Γ ho hM .nil k sv hm
 | .slot k0 false::l,x,n,accW,acc,Γ,ho,⟨⟨a,h1,h2⟩,h3⟩,hr,k,sv,hm=>by
  have hm:(k,sv)∈(k0,onS ro (CH accW))::mkE ro b l x []:=hm
  rcases List.mem_cons.1 hm with hq | hq
  ·cases hq
   subst h1
   cases hr with
   | cons p q=>
    cases q
    exact ⟨a,_,h2,rfl,p⟩
  exact bR hF l x n _ _ Γ ho h3 .nil k sv hq
 | .slot k0 true::l,x,n,accW,acc,Γ,ho,⟨h1,h3⟩,hr,k,sv,hm=>by
  have hm:(k,sv)∈(k0,onS ro (.agg accW))::mkE ro b l x []:=hm
  rcases List.mem_cons.1 hm with hq | hq
  ·cases hq
   exact ⟨_,_,h1,rfl,acc,rfl,hr⟩
  exact bR hF l x n _ _ Γ ho h3 .nil k sv hq
 | .row::l,x,n,accW,acc,Γ,ho,⟨o,v,Γ',h1,h2,h3⟩,hr,k,sv,hm=>bR hF l x (n+1) _ _ Γ' ho h3 .nil k sv hm
 | .sl t::l,x,n,accW,acc,Γ,ho,⟨Γ',h1,h3⟩,hr,k,sv,hm=>bR hF l x.2 (n+1) _ _ Γ' ho h3 .nil k sv hm
 | .po t::l,x,n,accW,acc,Γ,ho,⟨Γ',h1,h3⟩,hr,k,sv,hm=>bR hF l x.2 (n+1) _ _ Γ' ho h3 .nil k sv hm
 | .pr t::l,x,n,accW,acc,Γ,ho,⟨Γ',h1,h3⟩,hr,k,sv,hm=>bR hF l x.2 (n+1) _ _ Γ' ho h3 .nil k sv hm
 | .mp a c::l,x,n,accW,acc,Γ,ho,⟨Γ',h1,h3⟩,hr,k,sv,hm=>bR hF l x.2 (n+1) _ _ Γ' ho h3 .nil k sv hm
 | .io a c::l,x,n,accW,acc,Γ,ho,⟨Γ',h1,h3⟩,hr,k,sv,hm=>bR hF l x.2 (n+1) _ _ Γ' ho h3 .nil k sv hm
theorem kc {B:Hp} {ms:List AV} {a:AV} (ro:Bool) (p:Part T):df B ms a (onP ro p)=df B ms a p:=by cases ro<;>rfl
theorem bU {B:Hp} {am:Nat→AV} {e:Env} {h:Heap} {ro:Bool} {b N:Nat} {msF:List AV} (hF:∀ j,j < N→nth msF (b+j)=some (am j)):∀ (l:List In) (x:T.H (DS l)) (n:Nat) (accW:List (W T)) (acc:List AV) (Γ:List Ch),okI N l=true→Mat B am e h l x n acc Γ→All2 (hY B msF h) accW acc→
  (mkP ro b l x accW).length=dv l∧All2 (fun (c c':Ch)=>∀ fp,c.P h fp→c'.P h fp) Γ (chs B msF (amL am n (dv l)) (mkP ro b l x accW))
 | [],x,n,accW,acc,Γ,_,hM,_=>by
  have hM:Γ=[]:=hM
  subst hM
  exact ⟨rfl,.nil⟩
 | .d z t::l,x,n,accW,acc,Γ,ho,⟨a,h1,h2,h3⟩,hr=>bU hF l x.2 n _ _ Γ ho h3 (fu hr (.d z t x.1) h2 h1)
 | .e z t o::l,x,n,accW,acc,Γ,ho,⟨a,h1,h2,h3⟩,hr=>bU hF l x.2 n _ _ Γ ho h3 (fu hr (.ed z t x.1 o) h2 h1)
 | .r j::l,x,n,accW,acc,Γ,ho,⟨h1,h2⟩,hr=>by
  have ho:(Nat.blt j N&&okI N l)=true:=ho
  rw [Bool.and_eq_true] at ho
  exact bU hF l x n _ _ Γ ho.2 h2 (fu hr (.r (b+j)) (hF j (by simpa [Nat.blt_eq] using ho.1)) h1)
 | .fn f js::l,x,n,accW,acc,Γ,ho,⟨cs,h1,h2⟩,hr=>by
  have ho:((js.all fun j=>Nat.blt j N)&&okI N l)=true:=ho
  rw [Bool.and_eq_true] at ho
  exact bU hF l x n _ _ Γ ho.2 h2 (fu hr (.fn f (js.map fun j=>b+j)) ⟨cs,rfl,s9 hF ho.1 h1⟩ rfl)
 | .ptr j off::l,x,n,accW,acc,Γ,ho,⟨o,v,h1,h2⟩,hr=>by
  have ho:(Nat.blt j N&&okI N l)=true:=ho
  rw [Bool.and_eq_true] at ho
  exact bU hF l x n _ _ Γ ho.2 h2 (fu hr (.ptr (b+j) off) ⟨o,v,by rw [hF j (by simpa [Nat.blt_eq] using ho.1),h1],rfl⟩ rfl)
 | .ic m j::l,x,n,accW,acc,Γ,ho,⟨h1,h2⟩,hr=>by
  have ho:(Nat.blt j N&&okI N l)=true:=ho
  rw [Bool.and_eq_true] at ho
  exact bU hF l x n _ _ Γ ho.2 h2 (fu hr (.ic m (b+j)) ⟨am j,hF j (by simpa [Nat.blt_eq] using ho.1),h1,rfl⟩ rfl)
 | .c v::l,x,n,accW,acc,Γ,ho,⟨h1,h2⟩,hr=>bU hF l x n _ _ Γ ho h2 (fu hr (.c v) rfl h1)
 | .ld _ _::l,x,n,accW,acc,Γ,ho,hM,hr=>bU hF l x n _ _ Γ ho hM .nil
 | .ldr::l,x,n,accW,acc,Γ,ho,hM,hr=>bU hF l x n _ _ Γ ho hM .nil
 | .slot k0 false::l,x,n,accW,acc,Γ,ho,⟨_,h3⟩,hr=>bU hF l x n _ _ Γ ho h3 .nil
 | .slot k0 true::l,x,n,accW,acc,Γ,ho,⟨_,h3⟩,hr=>bU hF l x n _ _ Γ ho h3 .nil
 | .row::l,x,n,accW,acc,Γ,ho,⟨o,v,Γ',h1,h2,h3⟩,hr=>by
  subst h2
  obtain ⟨k1,k2⟩:=bU (ro:=ro) hF l x (n+1) _ _ Γ' ho h3 .nil
  refine ⟨congrArg (·+1) k1,.cons ?_ k2⟩
  rw [kc]
  rintro fp ⟨rfl,hg⟩
  exact ⟨o,v,acc,h1,rfl,hg,hr⟩
 | .sl t::l,x,n,accW,acc,Γ,ho,⟨Γ',h1,h3⟩,hr=>by
  subst h1
  obtain ⟨k1,k2⟩:=bU (ro:=ro) hF l x.2 (n+1) _ _ Γ' ho h3 .nil
  refine ⟨congrArg (·+1) k1,.cons ?_ k2⟩
  rw [kc]
  exact fun _ k=>k
 | .po t::l,x,n,accW,acc,Γ,ho,⟨Γ',h1,h3⟩,hr=>by
  subst h1
  obtain ⟨k1,k2⟩:=bU (ro:=ro) hF l x.2 (n+1) _ _ Γ' ho h3 .nil
  refine ⟨congrArg (·+1) k1,.cons ?_ k2⟩
  rw [kc]
  exact fun _ k=>k
 | .pr t::l,x,n,accW,acc,Γ,ho,⟨Γ',h1,h3⟩,hr=>by
  subst h1
  obtain ⟨k1,k2⟩:=bU (ro:=ro) hF l x.2 (n+1) _ _ Γ' ho h3 .nil
  refine ⟨congrArg (·+1) k1,.cons ?_ k2⟩
  rw [kc]
  exact fun _ k=>k
 | .mp a c::l,x,n,accW,acc,Γ,ho,⟨Γ',h1,h3⟩,hr=>by
  subst h1
  obtain ⟨k1,k2⟩:=bU (ro:=ro) hF l x.2 (n+1) _ _ Γ' ho h3 .nil
  refine ⟨congrArg (·+1) k1,.cons ?_ k2⟩
  rw [kc]
  exact fun _ k=>k
 | .io a c::l,x,n,accW,acc,Γ,ho,⟨Γ',h1,h3⟩,hr=>by
  subst h1
  obtain ⟨k1,k2⟩:=bU (ro:=ro) hF l x.2 (n+1) _ _ Γ' ho h3 .nil
  refine ⟨congrArg (·+1) k1,.cons ?_ k2⟩
  rw [kc]
  exact fun _ k=>k
theorem aU {ro:Bool} {b:Nat}:∀ (l:List In) (x:T.H (DS l)) (accW:List (W T)) (k:Nat) (sv:SV T),(k,sv)∈mkE ro b l x accW→k∈bC l
 | [],x,accW,k,sv,hm=>by cases hm
 | .d _ _::l,x,accW,k,sv,hm=>aU l x.2 _ k sv hm
 | .e _ _ _::l,x,accW,k,sv,hm=>aU l x.2 _ k sv hm
 | .r _::l,x,accW,k,sv,hm=>aU l x _ k sv hm
 | .ptr _ _::l,x,accW,k,sv,hm=>aU l x _ k sv hm
 | .fn _ _::l,x,accW,k,sv,hm=>aU l x _ k sv hm
 | .ic _ _::l,x,accW,k,sv,hm=>aU l x _ k sv hm
 | .c _::l,x,accW,k,sv,hm=>aU l x _ k sv hm
 | .ld _ _::l,x,accW,k,sv,hm=>aU l x _ k sv hm
 | .ldr::l,x,accW,k,sv,hm=>aU l x _ k sv hm
 | .slot k0 agg::l,x,accW,k,sv,hm=>by
  have hm:(k,sv)∈(k0,onS ro (bif agg then .agg accW else CH accW))::mkE ro b l x []:=hm
  show k∈k0::bC l
  rcases List.mem_cons.1 hm with hq | hq
  ·cases hq; exact List.mem_cons_self ..
  exact List.mem_cons_of_mem _ (aU l x _ k sv hq)
 | .row::l,x,accW,k,sv,hm=>aU l x _ k sv hm
 | .sl _::l,x,accW,k,sv,hm=>aU l x.2 _ k sv hm
 | .po _::l,x,accW,k,sv,hm=>aU l x.2 _ k sv hm
 | .pr _::l,x,accW,k,sv,hm=>aU l x.2 _ k sv hm
 | .mp _ _::l,x,accW,k,sv,hm=>aU l x.2 _ k sv hm
 | .io _ _::l,x,accW,k,sv,hm=>aU l x.2 _ k sv hm
theorem VSim.mk1 {Δ:List Ch} {s:VS T} {ms:List AV} {e:Env} {h:Heap} {am:Nat→AV} {Γ:List Ch} {l:List In} {x:T.H (DS l)} {ro:Bool} (S:VSim g M (Γ++Δ) s ms e h) (hM:Mat (Bo g M) am e h l x 0 [] Γ) (ho:okI (dv l) l=true) (hd:mM l s=true) :
  VSim g M Δ (cX ro l x s) (ms++amL am 0 (dv l)) e h∧Ro s (cX ro l x s):=by
 have hF:∀ j,j < dv l→nth (ms++amL am 0 (dv l)) (s.ps.length+j)=some (am j):=fun j hj=>by
  have:=oL am 0 (dv l) j hj
  rw [Nat.zero_add] at this
  rw [aW] at this ⊢
  rw [List.getElem?_append_right (by rw [S.len]; omega),S.len,show s.ps.length+j - s.ps.length=j by omega,this]
 obtain ⟨k1,k2⟩:=bU (ro:=ro) hF l x 0 [] [] Γ ho hM .nil
 refine ⟨⟨?_,?_,fun k sv hk=>?_⟩,⟨fun k y hk=>?_,fun k p hp=>aL hp⟩⟩
 ·show (ms++amL am 0 (dv l)).length=(s.ps++mkP ro s.ps.length l x []).length
  rw [List.length_append,List.length_append,oe,S.len]
  exact congrArg _ k1.symm
 ·show St g M (Δ++chs (Bo g M) (ms++amL am 0 (dv l)) (ms++amL am 0 (dv l)) (s.ps++mkP ro s.ps.length l x [])) h
  rw [eg _ _ S.len]
  have S1:St g M (Γ++(Δ++chs (Bo g M) (ms++amL am 0 (dv l)) ms s.ps)) h:=by
   have:=S.st
   rw [List.append_assoc,← List.append_assoc] at this
   rw [← List.append_assoc]
   exact St.more (Γ:=Γ++Δ) _ this
  have S2:=(St.impR (S1.perm List.perm_append_comm) k2)
  rw [List.append_assoc] at S2
  exact S2
 ·have hk:lk (mkE ro s.ps.length l x []++s.e) k=some sv:=hk
  rw [iw] at hk
  split at hk
  ·rename_i y hy
   cases hk
   obtain ⟨v,y,h1,rfl,h3⟩:=bR hF l x 0 [] [] Γ ho hM .nil k _ (mz hy)
   refine ⟨v,h1,?_⟩
   cases ro
   ·exact ko h3
   exact h3
  obtain ⟨v,h1,h2⟩:=S.env k sv hk
  exact ⟨v,h1,kY (fun w a r=>aK (HZ.refl _) w r) (fun w a r=>uK r) h2⟩
 show lk (mkE ro s.ps.length l x []++s.e) k=_
 rw [iw,nK fun z hz=>?_]
 ·exact hk
 unfold mM at hd
 rw [List.all_eq_true] at hd
 have:=hd k (aU l x [] k z hz)
 rw [hk] at this
 cases this
end
end Go.Am
namespace Go.Am
open Go
structure LP where
 f:∀ {σ ρ:Type},(σ→Option (σ⊕ρ))→σ→Option ρ
 ok:∀ {σ ρ:Type} {g:σ→Option (σ⊕ρ)} {s:σ} {r:ρ},f g s=some r→∃ n,iter g n s=some r
noncomputable def lpC:LP:=⟨fun g s=>qy g s,fun h=>fe.1 h⟩
def aq {σ ρ:Type} (f:σ→Option (σ⊕ρ)) (s:σ):Option ρ:=iter f 1099511627776 s
def lpK:LP:=⟨fun g s=>aq g s,fun h=>⟨_,h⟩⟩
abbrev uJ:=List (Option Nat×List In)
inductive VC where
 | skip
 | seq (a b:VC)
 | sj (l:List In) (a b:VC)
 | cond (c:Opd) (t f:VC)
 | block (id:Nat) (b:VC)
 | loop (c l:List In) (o:uJ) (b:VC)
 | exit (id:Nat)
 | ret
 | region (ops:List AOper)
 | dreg (ops:List AOper) (ps:List (Nat×Nat))
def VC.er:VC→ACode
 | .skip=>.skip
 | .seq a b=>.seq a.er b.er
 | .sj _ a b=>.seq a.er b.er
 | .cond c t f=>.cond c t.er f.er
 | .block id b=>.block id b.er
 | .loop _ _ _ b=>.loop b.er
 | .exit id=>.exit id
 | .ret=>.ret
 | .region ops=>.region ops
 | .dreg ops ps=>.dregion ops ps
@[reducible] def vK (S:Nat→Type):uJ→Type
 | []=>Unit
 | [o]=>DN S (DS o.2)
 | o::o'::l=>DN S (DS o.2)⊕vK S (o'::l)
def kEq:Option Nat→Option Nat→Bool
 | none,none=>true
 | some i,some j=>Nat.beq i j
 | _,_=>false
theorem wA {a b:Option Nat} (h:kEq a b=true):a=b:=by
 cases a<;>cases b<;>first | rfl | cases h | skip
 rw [Nat.eq_of_beq_eq_true h]
section
variable {T:TE}
def qX {R:Type}:(o:uJ)→Option Nat→VS T→(vK T.S o→Option R)→Option R
 | [],_,_,_=>none
 | [o],k,s,K=>bif kEq o.1 k then qW o.2 s fun x _=>K (toN _ x) else none
 | o::o'::l,k,s,K=>bif kEq o.1 k then qW o.2 s fun x _=>K (.inl (toN _ x)) else qX (o'::l) k s fun q=>K (.inr q)
def xi {R:Type}:(o:uJ)→vK T.S o→(Option Nat→(l:List In)→T.H (DS l)→Option R)→Option R
 | [],_,_=>none
 | [o],q,f=>f o.1 o.2 (ofN _ q)
 | o::o'::l,q,f=>match q with
  | .inl x=>f o.1 o.2 (ofN _ x)
  | .inr y=>xi (o'::l) y f
def clB (s:VS T):Bool:=s.e.all (fun x=>jL (some x.2)&&x.2.cl s.ps.length)&&s.ps.all (fun p=>eB p&&p.cl s.ps.length)
def Aw {R:Type} (w:SV T) (A B:Option R):Option R:=match w with
 | .v (.w (.b p i))=>@ite _ p i A B
 | .v (.w (.d _ .bool b))=>if b=true then A else B
 | .v (.w (.c (.bool b)))=>bif b then A else B
 | _=>none
def oV {α R:Type} (o:Option α) (K:α→Option R):Option R:=match o with
 | some x=>K x
 | none=>none
def tn (o:uJ) (s:VS T):Bool:=o.all fun p=>okI (dv p.2) p.2&&mM p.2 s
noncomputable def vc (Lp:LP) (H:List (Nat×VT)) (C:cQ T):VC→(R:Type)→VS T→(N Rt:VS T→Option R)→(X:Nat→VS T→Option R)→Option R
 | .skip,_,s,N,_,_=>N s
 | .ret,_,s,_,Rt,_=>Rt s
 | .exit i,_,s,_,_,X=>X i s
 | .seq a b,R,s,N,Rt,X=>vc Lp H C a R s (fun s=>vc Lp H C b R s N Rt X) Rt X
 | .sj l a b,R,s,N,Rt,X=>bif clS s&&clB (roS s)&&okI (dv l) l&&mM l (roS s) then
   (vc Lp H C a (DN T.S (DS l)⊕R) s (fun s=>qW l s fun x _=>some (.inl (toN _ x))) (fun s=>(Rt s).map .inr) (fun i s=>(X i s).map .inr)).bind fun q=>match q with
   | .inl x=>vc Lp H C b R (cX false l (ofN _ x) (roS s)) N Rt X
   | .inr r=>some r
  else none
 | .cond c t f,R,s,N,Rt,X=>oV (nb s.e c) fun w=>Aw w (vc Lp H C t R s N Rt X) (vc Lp H C f R s N Rt X)
 | .block id b,R,s,N,Rt,X=>vc Lp H C b R s N Rt (fun i s=>bif Nat.beq i id then N s else X i s)
 | .region ops,_,s,N,_,_=>C4 H C ops s N
 | .dreg ops ps,_,s,N,_,_=>bif ps.isEmpty then C4 H C ops s N else Br H C ps ops [] s N
 | .loop c l o b,R,s,N,Rt,X=>bif clS s&&clB (roS s)&&okI (dv c) c&&okI (dv l) l&&mM c (roS s) then
   qW c s fun y s1=>qW l s1 fun x _=>bif clB (cX true c y (roS s))&&mM l (cX true c y (roS s))&&tn o (cX false c y (roS s)) then
    (Lp.f (fun d=>vc Lp H C b (DN T.S (DS l)⊕vK T.S o) (cX false l (ofN _ d) (cX true c y (roS s))) (fun s=>qW l s fun x _=>some (.inl (toN _ x))) (fun s=>qX o none s fun q=>some (.inr q)) (fun i s=>qX o (some i) s fun q=>some (.inr q))) (toN _ x)).bind fun q=>xi o q fun k l' x=>match k with
     | none=>Rt (cX false l' x (cX false c y (roS s)))
     | some i=>X i (cX false l' x (cX false c y (roS s)))
   else none
  else none
variable {F:Nat→Option AFn} {g:Heap} {M:Nat→Prop}
theorem VSim.base {Δ:List Ch} {sb s:VS T} {ms:List AV} {e:Env} {h:Heap} (S:VSim g M Δ s ms e h) (hr:Ro sb s) (hc:clB sb=true):VSim g M Δ sb (ms.take sb.ps.length) e h:=by
 unfold clB at hc
 rw [Bool.and_eq_true,List.all_eq_true,List.all_eq_true] at hc
 have hps:s.ps.take sb.ps.length=sb.ps:=by
  apply List.ext_getElem?
  intro i
  rw [List.getElem?_take]
  split
  ·rename_i hi
   have h1:nth sb.ps i=some sb.ps[i]:=by rw [aW,List.getElem?_eq_getElem hi]
   have h2:=hc.2 _ (List.getElem_mem hi)
   rw [Bool.and_eq_true] at h2
   cases hp:sb.ps[i] with
   | ro p=>
    rw [hp] at h1
    have:=hr.p _ _ h1
    rw [aW] at this h1
    rw [this,h1]
   | _=>rw [hp] at h2; cases h2.1
  rename_i hi
  rw [List.getElem?_eq_none (by omega)]
 have hle:sb.ps.length≤s.ps.length:=by
  have:=congrArg List.length hps
  rw [List.length_take] at this
  omega
 refine ⟨by rw [List.length_take,S.len]; omega,?_,fun k sv hk=>?_⟩
 ·have h3:=eg (B:=Bo g M) (ms:=ms) (as:=ms.take sb.ps.length) (ps:=s.ps.take sb.ps.length) (ms.drop sb.ps.length) (s.ps.drop sb.ps.length) (by rw [List.length_take,List.length_take,S.len])
  rw [List.take_append_drop,List.take_append_drop,hps] at h3
  have S1:=S.st
  rw [h3,← List.append_assoc] at S1
  refine St.impR S1.dropR (kV _ _ _ fun p hp=>?_)
  have:=hc.2 p hp
  rw [Bool.and_eq_true] at this
  exact this
 have h1:=hc.1 _ (mz hk)
 rw [Bool.and_eq_true] at h1
 cases sv with
 | ro x=>
  obtain ⟨v,h2,h3⟩:=S.env k _ (hr.e k x hk)
  exact ⟨v,h2,lY h1.2 h3⟩
 | _=>cases h1.1
theorem ul (s:VS T):Ro (roS s) s:=⟨fun k x h=>rA h,fun k p h=>(ud h).1⟩
structure RoM (s:VS T) (ms:List AV) (s':VS T) (ms':List AV):Prop where
 ro:Ro s s'
 m:∀ j p,nth s.ps j=some (.ro p)→nth ms' j=nth ms j
theorem RoM.refl (s:VS T) (ms:List AV):RoM s ms s ms:=⟨Ro.refl s,fun _ _ _=>rfl⟩
theorem RoM.trans {a b c:VS T} {x y z:List AV} (h:RoM a x b y) (k:RoM b y c z):RoM a x c z:=⟨h.ro.trans k.ro,fun j p hj=>(k.m j p (h.ro.p j p hj)).trans (h.m j p hj)⟩
theorem RoM.app {s s':VS T} {ms xs:List AV} (hr:Ro s s') (hl:ms.length=s.ps.length):RoM s ms s' (ms++xs):=⟨hr,fun j p hj=>by
 obtain ⟨y,hy⟩:=bH hl hj
 rw [aL hy,hy]⟩
theorem d9 {R:Type} {l:List In} {s:VS T} {K:T.H (DS l)→VS T→Option R} {r:R} (hK:qW l s K=some r) {Δ:List Ch} {ms:List AV} {e:Env} {h:Heap} (S:VSim g M Δ s ms e h) :
  ∃ x s' h' am Γ,K x s'=some r∧Fz h h'∧VSim g M (Γ++Δ) s' ms e h'∧Mat (Bo g M) am e h' l x 0 [] Γ∧Trk s s':=by
 obtain ⟨x,s',h',am,Γ,q1,q2,q3,q4,q5,q6⟩:=ch l [] 0 .no [] s K r hK (Γ0:=[]) (acc:=[]) (rest:=[]) (am:=fun _=>.nilPtr) S .nil rfl (fun j w hj=>by cases hj)
 exact ⟨x,s',h',am,Γ,q1,q2,q3,q5,q6⟩
theorem kO {R:Type}:∀ (o:uJ) {k:Option Nat} {s:VS T} {K:vK T.S o→Option R} {r:R},qX o k s K=some r→∀ {Δ:List Ch} {ms:List AV} {e:Env} {h:Heap},VSim g M Δ s ms e h→
  ∃ l q x s' h' am Γ,K q=some r∧(∀ {R':Type} (f:Option Nat→(l:List In)→T.H (DS l)→Option R'),xi o q f=f k l x)∧(k,l)∈o∧Fz h h'∧VSim g M (Γ++Δ) s' ms e h'∧Mat (Bo g M) am e h' l x 0 [] Γ∧Trk s s'
 | [],k,s,K,r,hK,_,_,_,_,_=>by simp only [qX] at hK; cases hK
 | [o],k,s,K,r,hK,Δ,ms,e,h,S=>by
  simp only [qX] at hK
  cases hk:kEq o.1 k with
  | false=>rw [hk] at hK; cases hK
  | true=>
   rw [hk,cond_true] at hK
   obtain rfl:=wA hk
   obtain ⟨x,s',h',am,Γ,q1,q2,q3,q4,q5⟩:=d9 hK S
   exact ⟨o.2,_,x,s',h',am,Γ,q1,fun f=>by simp only [xi,gC],List.mem_singleton.2 rfl,q2,q3,q4,q5⟩
 | o::o'::os,k,s,K,r,hK,Δ,ms,e,h,S=>by
  simp only [qX] at hK
  cases hk:kEq o.1 k with
  | false=>
   rw [hk,cond_false] at hK
   obtain ⟨l,q,x,s',h',am,Γ,q1,q2,q3,q4,q5,q6,q7⟩:=kO (o'::os) hK S
   exact ⟨l,_,x,s',h',am,Γ,q1,fun f=>q2 f,List.mem_cons_of_mem _ q3,q4,q5,q6,q7⟩
  | true=>
   rw [hk,cond_true] at hK
   obtain rfl:=wA hk
   obtain ⟨x,s',h',am,Γ,q1,q2,q3,q4,q5⟩:=d9 hK S
   exact ⟨o.2,_,x,s',h',am,Γ,q1,fun f=>by simp only [xi,gC],List.mem_cons_self ..,q2,q3,q4,q5⟩
def VQ {R:Type} (F:Nat→Option AFn) (g:Heap) (M:Nat→Prop) (c:ACode) (N Rt:VS T→Option R) (X:Nat→VS T→Option R) (r:R) (s:VS T) (ms:List AV) (e:Env) (g0:Heap):Prop:=
 ∃ x s' n e' g1 h' ms',run F n c e g0=some (x,e',g1)∧Fz g1 h'∧VSim g M [] s' ms' e' h'∧RoM s ms s' ms'∧(match x with
  | .normal=>N s'=some r
  | .ret=>Rt s'=some r
  | .exit i=>X i s'=some r)
theorem uM {R:Type} {B:Hp} {ps:List (Part T)} {ms:List AV} {h:Heap} {w:SV T} {a:AV} {A D:Option R} {r:R} (hK:Aw w A D=some r) (hr:cJ B ps ms h w a):∃ b:Bool,a=.bool b∧(if b=true then A else D)=some r:=by
 unfold Aw at hK
 split at hK
 ·rename_i p i
  have hr:a=.bool (@decide p i):=hr.1
  subst hr
  split at hK
  ·rename_i hp; exact ⟨_,rfl,by rw [decide_eq_true hp]; exact hK⟩
  rename_i hp; exact ⟨_,rfl,by rw [decide_eq_false hp]; exact hK⟩
 ·exact ⟨_,dI hr.1,hK⟩
 ·rename_i b
  have hr:a=.bool b:=hr.1
  subst hr
  refine ⟨b,rfl,?_⟩
  cases b<;>exact hK
 cases hK
theorem VSim.label {sb s:VS T} {ms:List AV} {e:Env} {h:Heap} {Γ:List Ch} {am:Nat→AV} {l:List In} {x:T.H (DS l)} (S:VSim g M Γ s ms e h) (hr:Ro sb s) (hc:clB sb=true) (hM:Mat (Bo g M) am e h l x 0 [] Γ) (ho:okI (dv l) l=true) (hd:mM l sb=true) (ro:Bool) :
  VSim g M [] (cX ro l x sb) (ms.take sb.ps.length++amL am 0 (dv l)) e h∧RoM sb ms (cX ro l x sb) (ms.take sb.ps.length++amL am 0 (dv l)):=by
 have S1:=S.base hr hc
 have S2:VSim g M (Γ++[]) sb (ms.take sb.ps.length) e h:=by rw [List.append_nil]; exact S1
 obtain ⟨k1,k2⟩:=S2.mk1 (ro:=ro) hM ho hd
 refine ⟨k1,k2,fun j p hj=>?_⟩
 obtain ⟨y,hy⟩:=bH S1.len hj
 have hlt:=gY hj
 rw [aL hy]
 rw [aW,List.getElem?_take_of_lt hlt,← aW] at hy
 exact hy.symm
end
end Go.Am
namespace Go.Am
open Go
section
variable {T:TE} {F:Nat→Option AFn} {g:Heap} {M:Nat→Prop}
theorem Mat.mono {B:Hp} {am:Nat→AV} {e:Env} {h h':Heap} (hz:HZ h h'):∀ {l:List In} {x:T.H (DS l)} {n:Nat} {acc:List AV} {Γ:List Ch},Mat B am e h l x n acc Γ→Mat B am e h' l x n acc Γ
 | [],x,n,acc,Γ,hM=>hM
 | .d z t::l,x,n,acc,Γ,⟨a,h1,h2,h3⟩=>⟨a,h1,(T.r t).mono (iC hz z) h2,Mat.mono hz h3⟩
 | .e z t o::l,x,n,acc,Γ,⟨a,h1,h2,h3⟩=>⟨a,h1,cS (ms:=[]) hz (.ed z t x.1 o) h2,Mat.mono hz h3⟩
 | .r j::l,x,n,acc,Γ,⟨h1,h2⟩=>⟨h1,Mat.mono hz h2⟩
 | .ptr j off::l,x,n,acc,Γ,⟨o,v,h1,h2⟩=>⟨o,v,h1,Mat.mono hz h2⟩
 | .fn f js::l,x,n,acc,Γ,⟨cs,h1,h2⟩=>⟨cs,h1,Mat.mono hz h2⟩
 | .ic m j::l,x,n,acc,Γ,⟨h1,h2⟩=>⟨h1,Mat.mono hz h2⟩
 | .c v::l,x,n,acc,Γ,⟨h1,h2⟩=>⟨h1,Mat.mono hz h2⟩
 | .ld _ _::l,x,n,acc,Γ,hM=>Mat.mono (l:=l) hz hM
 | .ldr::l,x,n,acc,Γ,hM=>Mat.mono (l:=l) hz hM
 | .slot k false::l,x,n,acc,Γ,⟨h1,h2⟩=>⟨h1,Mat.mono hz h2⟩
 | .slot k true::l,x,n,acc,Γ,⟨h1,h2⟩=>⟨h1,Mat.mono hz h2⟩
 | .row::l,x,n,acc,Γ,⟨o,v,Γ',h1,h2,h3⟩=>⟨o,v,Γ',h1,h2,Mat.mono hz h3⟩
 | .sl t::l,x,n,acc,Γ,⟨Γ',h1,h2⟩=>⟨Γ',h1,Mat.mono hz h2⟩
 | .po t::l,x,n,acc,Γ,⟨Γ',h1,h2⟩=>⟨Γ',h1,Mat.mono hz h2⟩
 | .pr t::l,x,n,acc,Γ,⟨Γ',h1,h2⟩=>⟨Γ',h1,Mat.mono hz h2⟩
 | .mp a b::l,x,n,acc,Γ,⟨Γ',h1,h2⟩=>⟨Γ',h1,Mat.mono hz h2⟩
 | .io a b::l,x,n,acc,Γ,⟨Γ',h1,h2⟩=>⟨Γ',h1,Mat.mono hz h2⟩
theorem Ro.mk1 {l:List In} {x:T.H (DS l)} {ro:Bool} {s:VS T} (hd:mM l s=true):Ro s (cX ro l x s):=by
 refine ⟨fun k y hk=>?_,fun k p hp=>aL hp⟩
 show lk (mkE ro s.ps.length l x []++s.e) k=_
 rw [iw,nK fun z hz=>?_]
 ·exact hk
 unfold mM at hd
 rw [List.all_eq_true] at hd
 have:=hd k (aU l x [] k z hz)
 rw [hk] at this
 cases this
def roV:Nat×SV T→Nat×SV T
 | (k,.v x)=>(k,.ro x)
 | y=>y
theorem ci {b:Nat}:∀ (l:List In) (x:T.H (DS l)) (acc:List (W T)),mkE true b l x acc=(mkE false b l x acc).map roV
 | [],x,acc=>rfl
 | .d z t::l,x,acc=>ci l x.2 _
 | .e z t _::l,x,acc=>ci l x.2 _
 | .r j::l,x,acc=>ci l x _
 | .ptr j off::l,x,acc=>ci l x _
 | .fn f js::l,x,acc=>ci l x _
 | .ic m j::l,x,acc=>ci l x _
 | .c v::l,x,acc=>ci l x _
 | .ld _ _::l,x,acc=>ci l x _
 | .ldr::l,x,acc=>ci l x _
 | .slot k agg::l,x,acc=>by
  show _::mkE true b l x []=_::(mkE false b l x []).map roV
  rw [ci l x []]
  rfl
 | .row::l,x,acc=>ci l x _
 | .sl t::l,x,acc=>ci l x.2 _
 | .po t::l,x,acc=>ci l x.2 _
 | .pr t::l,x,acc=>ci l x.2 _
 | .mp a c::l,x,acc=>ci l x.2 _
 | .io a c::l,x,acc=>ci l x.2 _
theorem cb {b:Nat}:∀ (l:List In) (x:T.H (DS l)) (acc:List (W T)),mkP true b l x acc=(mkP false b l x acc).map Part.ro
 | [],x,acc=>rfl
 | .d z t::l,x,acc=>cb l x.2 _
 | .e z t _::l,x,acc=>cb l x.2 _
 | .r j::l,x,acc=>cb l x _
 | .ptr j off::l,x,acc=>cb l x _
 | .fn f js::l,x,acc=>cb l x _
 | .ic m j::l,x,acc=>cb l x _
 | .c v::l,x,acc=>cb l x _
 | .ld _ _::l,x,acc=>cb l x _
 | .ldr::l,x,acc=>cb l x _
 | .slot k agg::l,x,acc=>cb l x _
 | .row::l,x,acc=>by
  show _::mkP true b l x []=_::(mkP false b l x []).map Part.ro
  rw [cb l x []]; rfl
 | .sl t::l,x,acc=>by
  show _::mkP true b l x.2 []=_::(mkP false b l x.2 []).map Part.ro
  rw [cb l x.2 []]; rfl
 | .po t::l,x,acc=>by
  show _::mkP true b l x.2 []=_::(mkP false b l x.2 []).map Part.ro
  rw [cb l x.2 []]; rfl
 | .pr t::l,x,acc=>by
  show _::mkP true b l x.2 []=_::(mkP false b l x.2 []).map Part.ro
  rw [cb l x.2 []]; rfl
 | .mp a c::l,x,acc=>by
  show _::mkP true b l x.2 []=_::(mkP false b l x.2 []).map Part.ro
  rw [cb l x.2 []]; rfl
 | .io a c::l,x,acc=>by
  show _::mkP true b l x.2 []=_::(mkP false b l x.2 []).map Part.ro
  rw [cb l x.2 []]; rfl
theorem dS {b:Nat}:∀ (l:List In) (x:T.H (DS l)) (acc:List (W T)) (y:Nat×SV T),y∈mkE false b l x acc→∃ k z,y=(k,.v z)
 | [],x,acc,y,h=>by cases h
 | .d z t::l,x,acc,y,h=>dS l x.2 _ y h
 | .e z t _::l,x,acc,y,h=>dS l x.2 _ y h
 | .r j::l,x,acc,y,h=>dS l x _ y h
 | .ptr j off::l,x,acc,y,h=>dS l x _ y h
 | .fn f js::l,x,acc,y,h=>dS l x _ y h
 | .ic m j::l,x,acc,y,h=>dS l x _ y h
 | .c v::l,x,acc,y,h=>dS l x _ y h
 | .ld _ _::l,x,acc,y,h=>dS l x _ y h
 | .ldr::l,x,acc,y,h=>dS l x _ y h
 | .slot k agg::l,x,acc,y,h=>by
  have h:y∈(k,onS false (bif agg then .agg acc else CH acc))::mkE false b l x []:=h
  rcases List.mem_cons.1 h with rfl | h
  ·exact ⟨_,_,rfl⟩
  exact dS l x _ y h
 | .row::l,x,acc,y,h=>dS l x _ y h
 | .sl t::l,x,acc,y,h=>dS l x.2 _ y h
 | .po t::l,x,acc,y,h=>dS l x.2 _ y h
 | .pr t::l,x,acc,y,h=>dS l x.2 _ y h
 | .mp a c::l,x,acc,y,h=>dS l x.2 _ y h
 | .io a c::l,x,acc,y,h=>dS l x.2 _ y h
theorem v9 {B:Hp} {ms:List AV}:∀ (as:List AV) (ps:List (Part T)),chs B ms as (ps.map Part.ro)=chs B ms as ps
 | [],_=>rfl
 | _::_,[]=>rfl
 | a::as,p::ps=>by
  show df B ms a (.ro p)::chs B ms as (ps.map Part.ro)=_
  rw [v9 as ps]; rfl
theorem wF:∀ (l:qa T) (hl:∀ y,y∈l→∃ k z,y=(k,SV.v z)) {k:Nat} {sv:SV T},lk l k=some sv→∃ z,sv=.v z∧lk (l.map roV) k=some (.ro z)
 | [],_,k,sv,h=>by cases h
 | y::l,hl,k,sv,h=>by
  obtain ⟨j,z,rfl⟩:=hl y (List.mem_cons_self ..)
  have h:(bif Nat.beq j k then some (SV.v z) else lk l k)=some sv:=h
  cases hb:Nat.beq j k with
  | true=>
   rw [hb] at h
   cases h
   refine ⟨z,rfl,?_⟩
   show (bif Nat.beq j k then some (SV.ro z) else lk (l.map roV) k)=_
   rw [hb]; rfl
  | false=>
   rw [hb] at h
   obtain ⟨z',h1,h2⟩:=wF l (fun y hy=>hl y (List.mem_cons_of_mem _ hy)) h
   refine ⟨z',h1,?_⟩
   show (bif Nat.beq j k then some (SV.ro z) else lk (l.map roV) k)=_
   rw [hb]; exact h2
theorem tY:∀ (l:qa T) (hl:∀ y,y∈l→∃ k z,y=(k,SV.v z)) {k:Nat},lk l k=none→lk (l.map roV) k=none
 | [],_,k,h=>rfl
 | y::l,hl,k,h=>by
  obtain ⟨j,z,rfl⟩:=hl y (List.mem_cons_self ..)
  have h:(bif Nat.beq j k then some (SV.v z) else lk l k)=none:=h
  cases hb:Nat.beq j k with
  | true=>rw [hb] at h; cases h
  | false=>
   rw [hb] at h
   show (bif Nat.beq j k then some (SV.ro z) else lk (l.map roV) k)=_
   rw [hb]; exact tY l (fun y hy=>hl y (List.mem_cons_of_mem _ hy)) h
theorem VSim.unro {Δ:List Ch} {sb:VS T} {ms:List AV} {e:Env} {h:Heap} {c:List In} {y:T.H (DS c)} (S:VSim g M Δ (cX true c y sb) ms e h):VSim g M Δ (cX false c y sb) ms e h:=by
 refine ⟨?_,?_,fun k sv hk=>?_⟩
 ·have:=S.len
  simp only [cX,cb,List.length_append,List.length_map] at this ⊢
  exact this
 ·have h1:=S.st
  have hb:sb.ps.length≤ms.length:=by
   have:=S.len
   simp only [cX,List.length_append] at this
   omega
  have key:∀ qs:List (Part T),chs (Bo g M) ms ms (sb.ps++qs)=chs (Bo g M) ms (ms.take sb.ps.length) sb.ps++chs (Bo g M) ms (ms.drop sb.ps.length) qs:=fun qs=>by
   have:=eg (B:=Bo g M) (ms:=ms) (as:=ms.take sb.ps.length) (ps:=sb.ps) (ms.drop sb.ps.length) qs (by rw [List.length_take]; omega)
   rw [List.take_append_drop] at this
   exact this
  show St g M (Δ++chs (Bo g M) ms ms (sb.ps++mkP false sb.ps.length c y [])) h
  have h1:St g M (Δ++chs (Bo g M) ms ms (sb.ps++mkP true sb.ps.length c y [])) h:=h1
  rw [key,cb,v9,← key] at h1
  exact h1
 have hk:lk (mkE false sb.ps.length c y []++sb.e) k=some sv:=hk
 rw [iw] at hk
 have hv:=dS (b:=sb.ps.length) c y []
 cases hl:lk (mkE false sb.ps.length c y []) k with
 | some z=>
  rw [hl] at hk
  cases hk
  obtain ⟨z,rfl,h2⟩:=wF _ hv hl
  have h3:lk (cX true c y sb).e k=some (.ro z):=by
   show lk (mkE true sb.ps.length c y []++sb.e) k=_
   rw [iw,ci,h2]
  obtain ⟨v,q1,q2⟩:=S.env k _ h3
  exact ⟨v,q1,ko q2⟩
 | none=>
  rw [hl] at hk
  have h3:lk (cX true c y sb).e k=some sv:=by
   show lk (mkE true sb.ps.length c y []++sb.e) k=_
   rw [iw,ci,tY _ hv hl]
   exact hk
  obtain ⟨v,q1,q2⟩:=S.env k _ h3
  refine ⟨v,q1,?_⟩
  have hw:∀ (w:W T) (a:AV),bF (Bo g M) (cX true c y sb).ps ms h w a→bF (Bo g M) (cX false c y sb).ps ms h w a:=fun w a r=>by
   refine dM (f:=id) r (fun _ _ r=>r) fun k t i x off a ⟨b,l,r1,r2,r3⟩=>⟨b,l,r1,?_,r3⟩
   obtain ⟨p0,r2,hs0⟩:=r2
   refine ⟨p0,?_,hs0⟩
   have r2:lkP (sb.ps++mkP true sb.ps.length c y []) k=some p0:=r2
   show lkP (sb.ps++mkP false sb.ps.length c y []) k=some p0
   unfold lkP at r2 ⊢
   by_cases hj:k < sb.ps.length
   ·have e1:∀ qs,nth (sb.ps++qs) k=nth sb.ps k:=fun qs=>by rw [aW,aW,List.getElem?_append_left hj]
    rw [e1] at r2 ⊢
    exact r2
   have e1:∀ qs,nth (sb.ps++qs) k=nth qs (k - sb.ps.length):=fun qs=>by rw [aW,aW,List.getElem?_append_right (by omega)]
   rw [e1,cb,eS] at r2
   rw [e1]
   cases hn:nth (mkP false sb.ps.length c y []) (k - sb.ps.length) with
   | none=>rw [hn] at r2; cases r2
   | some p=>
    rw [hn] at r2
    have r2:some p=some p0:=r2
    cases r2
    rcases hs0 with rfl | ⟨_,_,rfl⟩<;>rfl
  exact kY (fun _ _ r=>r) hw q2
end
end Go.Am
namespace Go.Am
open Go
section
variable {T:TE} {F:Nat→Option AFn} {g:Heap} {M:Nat→Prop}
theorem xC {α R:Type} {o:Option α} {K:α→Option R} {r:R} (h:oV o K=some r):∃ a,o=some a∧K a=some r:=by
 cases o with
 | none=>cases h
 | some a=>exact ⟨a,rfl,h⟩
noncomputable def lpF (Lp:LP) (H:List (Nat×VT)) (C:cQ T) (l:List In) (o:uJ) (b:VC) (sc:VS T) (d:DN T.S (DS l)):Option (DN T.S (DS l)⊕vK T.S o):=
 vc Lp H C b (DN T.S (DS l)⊕vK T.S o) (cX false l (ofN _ d) sc) (fun s=>qW l s fun x _=>some (.inl (toN _ x))) (fun s=>qX o none s fun q=>some (.inr q)) (fun i s=>qX o (some i) s fun q=>some (.inr q))
def VOk (Lp:LP) (F:Nat→Option AFn) (T:TE) (H:List (Nat×VT)) (C:cQ T) (c:VC):Prop:=∀ (g:Heap) (M:Nat→Prop) (R:Type) (s:VS T) (N Rt:VS T→Option R) (X:Nat→VS T→Option R) (r:R),vc Lp H C c R s N Rt X=some r→∀ (ms:List AV) (e:Env) (h g0:Heap),VSim g M [] s ms e h→Fz g0 h→VQ F g M c.er N Rt X r s ms e g0
theorem m6 {o:uJ} {s:VS T} (h:tn o s=true) {k:Option Nat} {l:List In} (hm:(k,l)∈o):okI (dv l) l=true∧mM l s=true:=by
 unfold tn at h
 rw [List.all_eq_true] at h
 have:=h _ hm
 rw [Bool.and_eq_true] at this
 exact this
theorem uv {Lp:LP} {H:List (Nat×VT)} {C:cQ T} {c l:List In} {o:uJ} {b:VC} {y:T.H (DS c)} {sb:VS T} (hb:VOk Lp F T H C b) (hcl:clB sb=true) (hcs:clB (cX true c y sb)=true) (hol:okI (dv l) l=true) (hdc:mM c sb=true) (hdl:mM l (cX true c y sb)=true) (hoo:tn o (cX false c y sb)=true) {q:vK T.S o} :
  ∀ (n:Nat) (d:T.H (DS l)) (ms:List AV) (e:Env) (h g0:Heap),iter (lpF Lp H C l o b (cX true c y sb)) n (toN _ d)=some q→VSim g M [] (cX false l d (cX true c y sb)) ms e h→Fz g0 h→
   ∃ (k:Option Nat) (l':List In) (x:T.H (DS l')) (xx:AX) (m:Nat) (e':Env) (g1 h':Heap) (ms':List AV),run F m (.loop b.er) e g0=some (xx,e',g1)∧Fz g1 h'∧VSim g M [] (cX false l' x (cX false c y sb)) ms' e' h'∧(∀ {R':Type} (f:Option Nat→(l:List In)→T.H (DS l)→Option R'),xi o q f=f k l' x)∧(k,l')∈o∧xx=(match k with
    | none=>AX.ret
    | some i=>AX.exit i)∧∀ j p,nth sb.ps j=some (.ro p)→nth ms' j=nth ms j
 | 0,d,ms,e,h,g0,hi,S,hz=>by cases hi
 | n+1,d,ms,e,h,g0,hi,S,hz=>by
  obtain ⟨n',w,e1,hf,hk⟩:=iQ hi
  cases e1
  unfold lpF at hf
  rw [gC] at hf
  obtain ⟨xx,s',m,e',g1,h',ms',k1,k2,k3,k4,k5⟩:=hb _ _ _ _ _ _ _ _ hf ms e h g0 S hz
  have r1:Ro (cX true c y sb) (cX false l d (cX true c y sb)):=Ro.mk1 hdl
  have r0:Ro sb (cX true c y sb):=Ro.mk1 hdc
  have mj:∀ j p,nth sb.ps j=some (.ro p)→nth ms' j=nth ms j:=fun j p hj=>k4.m j p (r1.p j p (r0.p j p hj))
  have leave:∀ (k:Option Nat) (q0:vK T.S o),w=.inr q0→qX o k s' (fun q=>some (Sum.inr (α:=DN T.S (DS l)) q))=some w→xx=(match k with
    | none=>AX.ret
    | some i=>AX.exit i)→run F m b.er e g0=some (xx,e',g1)→(∃ (k:Option Nat) (l':List In) (x:T.H (DS l')) (xx:AX) (m:Nat) (e':Env) (g1 h':Heap) (ms':List AV),run F m (.loop b.er) e g0=some (xx,e',g1)∧Fz g1 h'∧VSim g M [] (cX false l' x (cX false c y sb)) ms' e' h'∧(∀ {R':Type} (f:Option Nat→(l:List In)→T.H (DS l)→Option R'),xi o q f=f k l' x)∧(k,l')∈o∧xx=(match k with
    | none=>AX.ret
    | some i=>AX.exit i)∧∀ j p,nth sb.ps j=some (.ro p)→nth ms' j=nth ms j):=by
   intro k q0 hq0 hen hxx hrun
   subst hq0
   have hk:q0=q:=hk
   subst hk
   obtain ⟨l',q',x,s2,h2,am,Γ,w1,w2,w3,w4,w5,w6,w7⟩:=kO o hen k3
   cases w1
   rw [List.append_nil] at w5
   have S1:=w5.base (((r1.trans k4.ro)).trans w7.ro) hcs
   have S2:=S1.unro
   obtain ⟨o1,o2⟩:=m6 hoo w3
   have S3:VSim g M (Γ++[]) (cX false c y sb) (ms'.take (cX true c y sb).ps.length) e' h2:=by rw [List.append_nil]; exact S2
   obtain ⟨S4,_⟩:=S3.mk1 (ro:=false) w6 o1 o2
   refine ⟨k,l',x,xx,m+1,e',g1,h2,_,?_,k2.trans w4,S4,w2,w3,hxx,fun j p hj=>?_⟩
   ·rw [az]
    simp only [hrun]
    subst hxx
    cases k<;>rfl
   have hj2:=r0.p j p hj
   obtain ⟨z,hz⟩:=bH S1.len hj2
   rw [aL hz]
   rw [aW,List.getElem?_take_of_lt (gY hj2),← aW] at hz
   rw [← mj j p hj,hz]
  cases xx with
  | normal=>
   have k5:qW l s' (fun x _=>some (Sum.inl (toN _ x)))=some w:=k5
   obtain ⟨x',s2,h2,am,Γ,w1,w2,w3,w4,w5⟩:=d9 k5 k3
   cases w1
   rw [List.append_nil] at w3
   obtain ⟨S4,hm⟩:=w3.label ((r1.trans k4.ro).trans w5.ro) hcs w4 hol hdl false
   obtain ⟨k,l',x,xx,m',e'',g2,h3,ms2,q1,q2,q3,q4,q5,q6,q7⟩:=uv hb hcl hcs hol hdc hdl hoo n x' _ e' h2 g1 hk S4 (k2.trans w2)
   refine ⟨k,l',x,xx,max m m'+1,e'',g2,h3,ms2,?_,q2,q3,q4,q5,q6,fun j p hj=>?_⟩
   ·rw [az]
    simp only [dP (Nat.le_max_left m m') k1,dP (Nat.le_max_right m m') q1]
   rw [q7 j p hj,hm.m j p (r0.p j p hj),mj j p hj]
  | ret=>
   have k5:qX o none s' (fun q=>some (Sum.inr q))=some w:=k5
   obtain ⟨_,q0,_,_,_,_,_,w1,_⟩:=kO o k5 k3
   exact leave none q0 (Option.some.inj w1).symm k5 rfl k1
  | exit i=>
   have k5:qX o (some i) s' (fun q=>some (Sum.inr q))=some w:=k5
   obtain ⟨_,q0,_,_,_,_,_,w1,_⟩:=kO o k5 k3
   exact leave (some i) q0 (Option.some.inj w1).symm k5 rfl k1
theorem EU {Lp:LP} {H:List (Nat×VT)} {C:cQ T} (hC:c9 F C):∀ c:VC,VOk Lp F T H C c:=by
 intro c
 induction c with
 | skip=>intro g M R s N Rt X r hK ms e h g0 S hz; exact ⟨.normal,s,1,e,g0,h,ms,rfl,hz,S,RoM.refl _ _,hK⟩
 | ret=>intro g M R s N Rt X r hK ms e h g0 S hz; exact ⟨.ret,s,1,e,g0,h,ms,rfl,hz,S,RoM.refl _ _,hK⟩
 | exit i=>intro g M R s N Rt X r hK ms e h g0 S hz; exact ⟨.exit i,s,1,e,g0,h,ms,rfl,hz,S,RoM.refl _ _,hK⟩
 | seq a b iha ihb=>
  intro g M R s N Rt X r hK ms e h g0 S hz
  obtain ⟨x,s1,n,e1,g1,h1,ms1,k1,k2,k3,k4,k5⟩:=iha _ _ _ _ _ _ _ _ hK ms e h g0 S hz
  cases x with
  | normal=>
   obtain ⟨x,s2,m,e2,g2,h2,ms2,q1,q2,q3,q4,q5⟩:=ihb _ _ _ _ _ _ _ _ k5 ms1 e1 h1 g1 k3 k2
   refine ⟨x,s2,max n m+1,e2,g2,h2,ms2,?_,q2,q3,k4.trans q4,q5⟩
   show run F (max n m+1) (.seq a.er b.er) e g0=_
   rw [az]
   simp only [dP (Nat.le_max_left n m) k1,dP (Nat.le_max_right n m) q1]
  | ret=>exact ⟨.ret,s1,n+1,e1,g1,h1,ms1,by show run F (n+1) (.seq a.er b.er) e g0=_; rw [az]; simp only [k1],k2,k3,k4,k5⟩
  | exit i=>exact ⟨.exit i,s1,n+1,e1,g1,h1,ms1,by show run F (n+1) (.seq a.er b.er) e g0=_; rw [az]; simp only [k1],k2,k3,k4,k5⟩
 | sj l a b iha ihb=>
  intro g M R s N Rt X r hK ms e h g0 S hz
  simp only [vc] at hK
  cases hc:(clS s&&clB (roS s)&&okI (dv l) l&&mM l (roS s)) with
  | false=>rw [hc] at hK; cases hK
  | true=>
   rw [hc,cond_true] at hK
   simp only [Bool.and_eq_true] at hc
   obtain ⟨⟨⟨c1,c2⟩,c3⟩,c4⟩:=hc
   obtain ⟨q,hq,hK⟩:=obI hK
   obtain ⟨x,s1,n,e1,g1,h1,ms1,k1,k2,k3,k4,k5⟩:=iha _ _ _ _ _ _ _ _ hq ms e h g0 S hz
   have ro1:Ro s (roS s):=(S.roS c1).2
   cases x with
   | normal=>
    have k5:qW l s1 (fun x _=>some (Sum.inl (toN _ x)))=some q:=k5
    obtain ⟨x',s2,h2,am,Γ,w1,w2,w3,w4,w5⟩:=d9 k5 k3
    cases w1
    rw [List.append_nil] at w3
    have hK:vc Lp H C b R (cX false l (ofN _ (toN _ x')) (roS s)) N Rt X=some r:=hK
    rw [gC] at hK
    obtain ⟨S4,hm⟩:=w3.label (((ul s).trans k4.ro).trans w5.ro) c2 w4 c3 c4 false
    obtain ⟨x,s3,m,e2,g2,h3,ms2,q1,q2,q3,q4,q5⟩:=ihb _ _ _ _ _ _ _ _ hK _ e1 h2 g1 S4 (k2.trans w2)
    refine ⟨x,s3,max n m+1,e2,g2,h3,ms2,?_,q2,q3,⟨(ro1.trans hm.ro).trans q4.ro,fun j p hj=>?_⟩,q5⟩
    ·show run F (max n m+1) (.seq a.er b.er) e g0=_
     rw [az]
     simp only [dP (Nat.le_max_left n m) k1,dP (Nat.le_max_right n m) q1]
    rw [q4.m j p (hm.ro.p j p (ro1.p j p hj)),hm.m j p (ro1.p j p hj),k4.m j p hj]
   | ret=>
    have k5:(Rt s1).map Sum.inr=some q:=k5
    cases hr:Rt s1 with
    | none=>rw [hr] at k5; cases k5
    | some r0=>
     rw [hr] at k5
     cases k5
     cases hK
     exact ⟨.ret,s1,n+1,e1,g1,h1,ms1,by show run F (n+1) (.seq a.er b.er) e g0=_; rw [az]; simp only [k1],k2,k3,k4,hr⟩
   | exit i=>
    have k5:(X i s1).map Sum.inr=some q:=k5
    cases hr:X i s1 with
    | none=>rw [hr] at k5; cases k5
    | some r0=>
     rw [hr] at k5
     cases k5
     cases hK
     exact ⟨.exit i,s1,n+1,e1,g1,h1,ms1,by show run F (n+1) (.seq a.er b.er) e g0=_; rw [az]; simp only [k1],k2,k3,k4,hr⟩
 | cond c t f iht ihf=>
  intro g M R s N Rt X r hK ms e h g0 S hz
  obtain ⟨w,hw,hK⟩:=xC hK
  obtain ⟨a,h1,h2⟩:=cD S hw
  obtain ⟨b,rfl,hK⟩:=uM hK h2
  cases b with
  | true=>
   obtain ⟨x,s1,n,e1,g1,h1',ms1,k1,k2,k3,k4,k5⟩:=iht _ _ _ _ _ _ _ _ hK ms e h g0 S hz
   exact ⟨x,s1,n+1,e1,g1,h1',ms1,by show run F (n+1) (.cond c t.er f.er) e g0=_; rw [az]; simp only [h1,cond_true,k1],k2,k3,k4,k5⟩
  | false=>
   obtain ⟨x,s1,n,e1,g1,h1',ms1,k1,k2,k3,k4,k5⟩:=ihf _ _ _ _ _ _ _ _ hK ms e h g0 S hz
   exact ⟨x,s1,n+1,e1,g1,h1',ms1,by show run F (n+1) (.cond c t.er f.er) e g0=_; rw [az]; simp only [h1,cond_false,k1],k2,k3,k4,k5⟩
 | block id b ih=>
  intro g M R s N Rt X r hK ms e h g0 S hz
  obtain ⟨x,s1,n,e1,g1,h1,ms1,k1,k2,k3,k4,k5⟩:=ih _ _ _ _ _ _ _ _ hK ms e h g0 S hz
  cases x with
  | normal=>exact ⟨.normal,s1,n+1,e1,g1,h1,ms1,by show run F (n+1) (.block id b.er) e g0=_; rw [az]; simp only [k1],k2,k3,k4,k5⟩
  | ret=>exact ⟨.ret,s1,n+1,e1,g1,h1,ms1,by show run F (n+1) (.block id b.er) e g0=_; rw [az]; simp only [k1],k2,k3,k4,k5⟩
  | exit i=>
   have k5:(bif Nat.beq i id then N s1 else X i s1)=some r:=k5
   cases hb:Nat.beq i id with
   | true=>
    obtain rfl:=Nat.eq_of_beq_eq_true hb
    rw [hb,cond_true] at k5
    exact ⟨.normal,s1,n+1,e1,g1,h1,ms1,by show run F (n+1) (.block i b.er) e g0=_; rw [az]; simp only [k1,if_true],k2,k3,k4,k5⟩
   | false=>
    rw [hb,cond_false] at k5
    exact ⟨.exit i,s1,n+1,e1,g1,h1,ms1,by show run F (n+1) (.block id b.er) e g0=_; rw [az]; simp only [k1,if_neg (Nat.ne_of_beq_eq_false hb)],k2,k3,k4,k5⟩
 | region ops=>
  intro g M R s N Rt X r hK ms e h g0 S hz
  obtain ⟨s',xs,n,e',h1,h',k1,k2,k3,k4,k5⟩:=nB hC ops S hz hK
  exact ⟨.normal,s',n+1,e',h1,h',_,by show run F (n+1) (.region ops) e g0=_; rw [az]; simp only [k2],k3,k4,RoM.app k5 S.len,k1⟩
 | dreg ops ps=>
  intro g M R s N Rt X r hK ms e h g0 S hz
  have hK:(bif ps.isEmpty then C4 H C ops s N else Br H C ps ops [] s N)=some r:=hK
  cases hp:ps.isEmpty with
  | true=>
   rw [hp,cond_true] at hK
   obtain rfl:=List.isEmpty_iff.1 hp
   obtain ⟨s',xs,n,e',h1,h',k1,k2,k3,k4,k5⟩:=nB hC ops S hz hK
   exact ⟨.normal,s',n+1,e',h1,h',_,by show run F (n+1) (.dregion ops []) e g0=_; rw [az]; simp only [k2,List.all_nil,cond_true],k3,k4,RoM.app k5 S.len,k1⟩
  | false=>
   rw [hp,cond_false] at hK
   obtain ⟨s',xs,n,e',h1,h',en,bs,k1,k2,k3,k4,k5,k6,k7⟩:=uj hC ops [] S hz hK
   have hall:ps.all (aY ops (trace (aQ F n) ops e g0))=true:=by
    rw [List.all_eq_true] at k7 ⊢
    exact fun p hp=>k6.chk (k7 p hp)
   exact ⟨.normal,s',n+1,e',h1,h',_,by show run F (n+1) (.dregion ops ps) e g0=_; rw [az]; simp only [k2,hall,cond_true],k3,k4,RoM.app k5 S.len,k1⟩
 | loop c l o b ih=>
  intro g M R s N Rt X r hK ms e h g0 S hz
  simp only [vc] at hK
  cases hc:(clS s&&clB (roS s)&&okI (dv c) c&&okI (dv l) l&&mM c (roS s)) with
  | false=>rw [hc] at hK; cases hK
  | true=>
   rw [hc,cond_true] at hK
   simp only [Bool.and_eq_true] at hc
   obtain ⟨⟨⟨⟨c1,c2⟩,c3⟩,c4⟩,c5⟩:=hc
   have ro1:Ro s (roS s):=(S.roS c1).2
   obtain ⟨y,s1,h1,amc,Γc,hK,u2,u3,u4,u5⟩:=d9 hK S
   obtain ⟨x,s2,h2,aml,Γl,hK,v2,v3,v4,v5⟩:=d9 hK u3
   rw [List.append_nil] at v3
   cases hd:(clB (cX true c y (roS s))&&mM l (cX true c y (roS s))&&tn o (cX false c y (roS s))) with
   | false=>rw [hd] at hK; cases hK
   | true=>
    rw [hd,cond_true] at hK
    simp only [Bool.and_eq_true] at hd
    obtain ⟨⟨d1,d2⟩,d3⟩:=hd
    obtain ⟨q,hq,hK⟩:=obI hK
    obtain ⟨n,hq⟩:=Lp.ok hq
    have S1:=v3.base (((ul s).trans u5.ro).trans v5.ro) c2
    have S2:VSim g M (Γc++(Γl++[])) (roS s) (ms.take (roS s).ps.length) e h2:=S1.with (by
     rw [List.append_nil]
     exact S1.st.perm (List.perm_append_comm.append_right _))
    obtain ⟨S3,r3⟩:=S2.mk1 (ro:=true) (Mat.mono v2.hz u4) c3 c5
    obtain ⟨S4,r4⟩:=S3.mk1 (ro:=false) v4 c4 d2
    obtain ⟨k,l',x',xx,m,e',g1,h',ms',q1,q2,q3,q4,q5,q6,q7⟩:=uv (F:=F) ih c2 d1 c4 c5 d2 d3 n x _ e h2 g0 hq S4 ((hz.trans u2).trans v2)
    rw [q4] at hK
    refine ⟨xx,_,m,e',g1,h',ms',q1,q2,q3,⟨(ro1.trans (Ro.mk1 c5)).trans (Ro.mk1 (m6 d3 q5).2),fun j p hj=>?_⟩,?_⟩
    ·rw [q7 j p (ro1.p j p hj)]
     have hj2:=ro1.p j p hj
     obtain ⟨z,hz⟩:=bH S1.len hj2
     rw [aL (aL hz)]
     rw [aW,List.getElem?_take_of_lt (gY hj2),← aW] at hz
     exact hz.symm
    subst q6
    cases k with
    | none=>exact hK
    | some i=>exact hK
end
end Go.Am
