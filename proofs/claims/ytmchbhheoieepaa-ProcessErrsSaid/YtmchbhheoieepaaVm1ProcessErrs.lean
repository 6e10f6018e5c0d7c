/- A machine over typed values, and that functions do what it says. No condition. Own work. -/
import Derived.Test.YtmchbhheoieepaaPm2ProcessErrs
set_option linter.unusedSimpArgs false
set_option linter.unusedVariables false
namespace Go.Am
open Go
inductive VT where
 | int (k:IntKind)
 | bool
 | str
 | sl (o:Bool) (t:VT)
 | st (k:Nat)
 | pt (t:VT)
 | ic (n:Nat) (t:VT)
 | mp (k v:VT)
 deriving DecidableEq
@[reducible] def VT.D (S:Nat→Type):VT→Type
 | .int _=>Int
 | .bool=>Bool
 | .str=>List UInt8
 | .sl _ t=>List (t.D S)
 | .st k=>S k
 | .pt t=>Option (t.D S)
 | .ic _ t=>Option (t.D S)
 | .mp k v=>Option (List (k.D S×v.D S))
def VT.leaf:VT→Bool
 | .st _=>false
 | _=>true
def VT.bel:VT→Nat→Bool
 | .st k,n=>Nat.blt k n
 | .sl _ t,n=>t.bel n
 | .pt t,n=>t.bel n
 | .ic _ t,n=>t.bel n
 | _,_=>true
@[reducible] def HL (S:Nat→Type):List VT→Type
 | []=>Unit
 | t::ts=>t.D S×HL S ts
def rNo {α:Type} (z:Nat):Rep α:=⟨z,fun _ _ _=>False,fun h=>h.elim,fun _ h=>h⟩
def oMp {S:Nat→Type}:(k v:VT)→ORep (Option (List (k.D S×v.D S)))
 | .int a,.int b=>ia (keI a) (AV.int b)
 | .int a,.bool=>ia (keI a) AV.bool
 | .int a,.str=>ia (keI a) AV.str
 | .str,.int b=>ia keS (AV.int b)
 | .str,.bool=>ia keS AV.bool
 | .str,.str=>ia keS AV.str
 | _,_=>fz (rNo 1)
section
variable {S:Nat→Type} (o:∀ k,ORep (S k))
def VT.ow:(t:VT)→ORep (t.D S)
 | .int k=>fz (rI k)
 | .bool=>fz rB
 | .str=>fz rS
 | .sl true t=>oSl t.ow
 | .sl false t=>fz (rSl t.ow.rep)
 | .st k=>o k
 | .pt t=>m9 t.ow
 | .ic n t=>Bn n t.ow
 | .mp k v=>oMp k v
def oHL:(ts:List VT)→ORep (HL S ts)
 | []=>fz rU
 | t::ts=>nF (t.ow o) (oHL ts)
end
theorem sY {S:Nat→Type} {o o':∀ k,ORep (S k)} {n:Nat} (h:∀ k,k < n→o k=o' k):∀ (t:VT),t.bel n=true→t.ow o=t.ow o'
 | .int k,_=>rfl
 | .bool,_=>rfl
 | .str,_=>rfl
 | .sl true t,hb=>by simp only [VT.ow]; rw [sY h t hb]
 | .sl false t,hb=>by simp only [VT.ow]; rw [sY h t hb]
 | .st k,hb=>h k (by simpa [VT.bel,Nat.blt_eq] using hb)
 | .pt t,hb=>by simp only [VT.ow]; rw [sY h t hb]
 | .ic _ t,hb=>by simp only [VT.ow]; rw [sY h t hb]
 | .mp _ _,hb=>rfl
theorem tZ {S:Nat→Type} {o o':∀ k,ORep (S k)} {n:Nat} (h:∀ k,k < n→o k=o' k):∀ (ts:List VT),ts.all (fun t=>t.bel n)=true→oHL o ts=oHL o' ts
 | [],_=>rfl
 | t::ts,hb=>by
  rw [List.all_cons,Bool.and_eq_true] at hb
  simp only [oHL]
  rw [sY h t hb.1,tZ h ts hb.2]
structure TE where
 S:Nat→Type
 fl:Nat→List VT
 to:∀ k,S k→HL S (fl k)
 of:∀ k,HL S (fl k)→S k
 of_to:∀ k x,of k (to k x)=x
 to_of:∀ k x,to k (of k x)=x
 lf:∀ k,(fl k).all (fun t=>t.leaf&&t.bel k)=true
section
variable (T:TE)
def TE.oF:Nat→∀ k,ORep (T.S k)
 | 0,k=>fz (rNo 0)
 | n+1,k=>qT (oHL (TE.oF n) (T.fl k)) (T.to k)
theorem TE.oF_eq:∀ (n m k:Nat),k < n→k < m→T.oF n k=T.oF m k
 | 0,m,k,h,_=>by omega
 | n+1,0,k,_,h=>by omega
 | n+1,m+1,k,h1,h2=>by
  simp only [TE.oF]
  have hb:(T.fl k).all (fun t=>t.bel k)=true:=by
   have:=T.lf k
   rw [List.all_eq_true] at this ⊢
   intro t ht
   have:=this t ht
   rw [Bool.and_eq_true] at this
   exact this.2
  rw [tZ (n:=k) (o:=T.oF n) (o':=T.oF m) (fun j hj=>TE.oF_eq n m j (by omega) (by omega)) _ hb]
def TE.o (k:Nat):ORep (T.S k):=T.oF (k+1) k
theorem TE.o_eq (k:Nat):T.o k=qT (oHL T.o (T.fl k)) (T.to k):=by
 show qT (oHL (T.oF k) (T.fl k)) (T.to k)=_
 have hb:(T.fl k).all (fun t=>t.bel k)=true:=by
  have:=T.lf k
  rw [List.all_eq_true] at this ⊢
  intro t ht
  have:=this t ht
  rw [Bool.and_eq_true] at this
  exact this.2
 rw [tZ (n:=k) (o:=T.oF k) (o':=T.o) (fun j hj=>TE.oF_eq T k (j+1) j hj (Nat.lt_succ_self _)) _ hb]
@[reducible] def TE.D (t:VT):Type:=t.D T.S
@[reducible] def TE.H (ts:List VT):Type:=HL T.S ts
def TE.w (t:VT):ORep (T.D t):=t.ow T.o
def TE.r (t:VT):Rep (T.D t):=(T.w t).rep
@[reducible] def TE.lv:VT→List VT
 | .st k=>T.fl k
 | t=>[t]
@[reducible] def TE.un:(t:VT)→T.D t→T.H (T.lv t)
 | .st k,x=>T.to k x
 | .int _,x=>(x,())
 | .bool,x=>(x,())
 | .str,x=>(x,())
 | .sl _ _,x=>(x,())
 | .pt _,x=>(x,())
 | .ic _ _,x=>(x,())
 | .mp _ _,x=>(x,())
@[reducible] def TE.re:(t:VT)→T.H (T.lv t)→T.D t
 | .st k,x=>T.of k x
 | .int _,x=>x.1
 | .bool,x=>x.1
 | .str,x=>x.1
 | .sl _ _,x=>x.1
 | .pt _,x=>x.1
 | .ic _ _,x=>x.1
 | .mp _ _,x=>x.1
def TE.cells (t:VT):Nat:=(T.lv t).length
end
end Go.Am
namespace Go.Am
open Go
inductive W (T:TE) where
 | bad
 | c (v:AV)
 | d (z:Bool) (t:VT) (x:T.D t)
 | b (p:Prop) (i:Decidable p)
 | r (k:Nat)
 | ic (n k:Nat)
 | ptr (k off:Nat)
 | el (k:Nat) (t:VT) (i:Int) (x:Option (T.D t)) (off:Nat)
 | ed (z:Bool) (t:VT) (x:T.D t) (off:Nat)
 | fn (f:Nat) (ks:List Nat)
inductive V1 (T:TE) where
 | w (w:W T)
 | agg (l:List (W T))
inductive SV (T:TE) where
 | v (x:V1 T)
 | tup (l:List (V1 T))
 | un
 | ro (x:V1 T)
inductive Part (T:TE) where
 | dead
 | sl (t:VT) (l:List (T.D t))
 | row (ws:List (W T))
 | po (t:VT) (q:Option (T.D t))
 | io (n:Nat) (t:VT) (q:Option (T.D t))
 | mp (k v:VT) (m:T.D (.mp k v))
 | ho (t:VT) (l:List (T.D t)) (i j:Nat)
 | ro (p:Part T)
abbrev qa (T:TE):=List (Nat×SV T)
structure VS (T:TE) where
 e:qa T
 ps:List (Part T)
def lk {α:Type}:List (Nat×α)→Nat→Option α
 | [],_=>none
 | (k,v)::l,n=>bif Nat.beq k n then some v else lk l n
def nth {α:Type}:List α→Nat→Option α
 | [],_=>none
 | x::l,n=>match n with
  | 0=>some x
  | n+1=>nth l n
def lkP {T:TE} (ps:List (Part T)) (k:Nat):Option (Part T):=match nth ps k with
 | some (.ro p)=>some p
 | o=>o
section
variable {T:TE} {R:Type}
def wc:AV→W T
 | .int k n=>.d true (.int k) n
 | .str s=>.d true .str s
 | v=>.c v
def W.sto:W T→Bool
 | .el _ _ _ _ _=>false
 | _=>true
def zW (zero:List AV):Option (List (W T)):=bif zero.all AV.flat then some (zero.map wc) else none
def W.sv (w:W T):SV T:=.v (.w w)
def cast1 {t:VT} (x:T.D t) (u:VT) (K:T.D u→Option R):Option R:=if h:t=u then K (h▸x) else none
def db {t:VT} (x:List (T.D t)) (u:VT) (K:List (T.D u)→Option R):Option R:=if h:t=u then K (h▸x) else none
def kR {t:VT} (x:Option (T.D t)) (u:VT) (K:Option (T.D u)→Option R):Option R:=if h:t=u then K (h▸x) else none
def clO:(t u:VT)→List (T.D t)→(List (T.D u)→Option R)→Option R
 | .sl true v,.sl false w,l,K=>if h:v=w then K (h▸(show List (List (T.D v)) from l):List (List (T.D w))) else none
 | t,u,l,K=>db l u K
def VS.set (s:VS T) (k:Nat) (p:Part T):VS T:=⟨s.e,s.ps.set k p⟩
def VS.new (s:VS T) (p:Part T):VS T:=⟨s.e,s.ps++[p]⟩
def V1.map (f:W T→W T):V1 T→V1 T
 | .w x=>.w (f x)
 | .agg l=>.agg (l.map f)
def SV.map (f:W T→W T):SV T→SV T
 | .v x=>.v (x.map f)
 | .tup l=>.tup (l.map fun x=>x.map f)
 | .un=>.un
 | .ro x=>.ro x
def Part.map (f:W T→W T):Part T→Part T
 | .row ws=>.row (ws.map f)
 | .ho t l i j=>.ho t l i (match f (.r j) with
  | .r j'=>j'
  | _=>j)
 | p=>p
def VS.sub (s:VS T) (f:W T→W T):VS T:=⟨s.e.map fun x=>(x.1,x.2.map f),s.ps.map (Part.map f)⟩
def W.frz (k:Nat) (t:VT) (l:List (T.D t)):W T→W T
 | .r j=>bif Nat.beq j k then .d true (.sl false t) l else .r j
 | .el j u i x o=>bif Nat.beq j k then .bad else .el j u i x o
 | w=>w
def VS.frz (s:VS T) (k:Nat) (t:VT) (l:List (T.D t)):VS T:=(s.set k .dead).sub (W.frz k t l)
def W.pur (k:Nat):W T→W T
 | .el j t i x o=>bif Nat.beq j k then .bad else .el j t i x o
 | w=>w
def W.stl (k:Nat):W T→W T
 | .el j t i x o=>.el j t i (bif Nat.beq j k then none else x) o
 | w=>w
def VS.up (s:VS T) (k:Nat) (p:Part T):VS T:=⟨s.e.map fun x=>(x.1,x.2.map (W.stl k)),s.ps.set k p⟩
def elX {t t':VT} (x:Option (T.D t)) (i:Int) (l:List (T.D t')) (K:T.D t→Option R):Option R:=match x with
 | some x=>K x
 | none=>db l t fun l=>(idx l i).bind K
def VS.pur (s:VS T) (k:Nat):VS T:=⟨s.e.map fun x=>(x.1,x.2.map (W.pur k)),s.ps⟩
def VS.kill (s:VS T) (k:Nat):VS T:=(s.set k .dead).pur k
def VS.put (s:VS T) (k:Nat) (p:Part T):VS T:=(s.set k p).pur k
def VT.mpOk:VT→VT→Bool
 | .int _,.int _=>true
 | .int _,.bool=>true
 | .int _,.str=>true
 | .str,.int _=>true
 | .str,.bool=>true
 | .str,.str=>true
 | _,_=>false
def hoF (g:(t:VT)→Nat→VS T→(Option (T.D t)→VS T→Option R)→Option R) (i j k:Nat) (s:VS T):(t:VT)→List (T.D t)→((t:VT)→List (T.D t)→VS T→Option R)→Option R
 | .pt u,_,K=>g u j s fun q s'=>match nth s'.ps k with
  | some (.ho t l i' j')=>db l (.pt u) fun l=>bif Nat.beq j' j then K (.pt u) (l.set i' q) s' else none
  | _=>none
 | .sl true u,l,K=>match nth s.ps j with
  | some (.sl v q)=>db q u fun q=>match nth (s.kill j).ps k with
   | some (.ho t l i' j')=>db l (.sl true u) fun l=>bif Nat.beq j' j then K (.sl true u) (l.set i' q) (s.kill j) else none
   | _=>none
  | _=>none
 | _,_,_=>none
def tk1 (g:(t:VT)→Nat→VS T→(Option (T.D t)→VS T→Option R)→Option R):(t:VT)→W T→VS T→(T.D t→VS T→Option R)→Option R
 | .int k,w,s,K=>match w with
  | .d _ t x=>cast1 x (.int k) fun n=>K n s
  | _=>none
 | .bool,w,s,K=>match w with
  | .d _ t x=>cast1 x .bool fun n=>K n s
  | .b p i=>K (@decide p i) s
  | .c (.bool b)=>K b s
  | _=>none
 | .str,w,s,K=>match w with
  | .d _ t x=>cast1 x .str fun n=>K n s
  | _=>none
 | .sl false u,w,s,K=>match w with
  | .d true (.sl _ t) x=>db x u fun n=>K n s
  | .c .nilSlice=>K [] s
  | .r k=>match nth s.ps k with
   | some (.sl t l)=>db l u fun n=>K n (s.frz k t l)
   | _=>none
  | _=>none
 | .sl true u,w,s,K=>match w with
  | .c .nilSlice=>K [] s
  | .r k=>match nth s.ps k with
   | some (.sl t l)=>clO t u l fun n=>K n (s.kill k)
   | some (.ho t l i j)=>hoF g i j k s t l fun t l s=>clO t u l fun n=>K n (s.kill k)
   | _=>none
  | _=>none
 | .pt u,w,s,K=>match w with
  | .c .nilPtr=>K none s
  | .r k=>g u k s K
  | .ptr k 0=>g u k s K
  | _=>none
 | .ic n u,w,s,K=>match w with
  | .c .nilIface=>K none s
  | .ic m k=>bif Nat.beq m n then g u k s K else none
  | .r k=>match nth s.ps k with
   | some (.io m t q)=>bif Nat.beq m n then kR q u fun q=>K q (s.kill k) else none
   | _=>none
  | _=>none
 | .mp a b,w,s,K=>match w with
  | .c .nilMap=>bif a.mpOk b then K none s else none
  | .r k=>match nth s.ps k with
   | some (.mp a' b' m)=>cast1 (t:=.mp a' b') m (.mp a b) fun m=>K m (s.kill k)
   | _=>none
  | _=>none
 | .st _,_,_,_=>none
end
section
variable {T:TE}
mutual
def tks {R:Type}:Nat→(ts:List VT)→List (W T)→VS T→(T.H ts→VS T→Option R)→Option R
 | 0,_,_,_,_=>none
 | _+1,[],[],s,K=>K () s
 | n+1,t::ts,w::ws,s,K=>tk1 (R:=R) (fun u k s K=>tkP n u k s K) t w s fun x s=>tks n ts ws s fun y s=>K (x,y) s
 | _+1,_,_,_,_=>none
def tkP {R:Type}:Nat→(t:VT)→Nat→VS T→(Option (T.D t)→VS T→Option R)→Option R
 | 0,_,_,_,_=>none
 | n+1,u,k,s,K=>match nth s.ps k with
  | some (.po t q)=>kR q u fun q=>K q (s.kill k)
  | some (.row ws)=>tks n (T.lv u) ws (s.kill k) fun x s=>K (some (T.re u x)) s
  | _=>none
end
variable {R:Type}
def fuel:Nat:=100
def tk (t:VT) (w:W T) (s:VS T) (K:T.D t→VS T→Option R):Option R:=tks fuel [t] [w] s fun x s=>K x.1 s
def lf:(ts:List VT)→T.H ts→Nat→((t:VT)→T.D t→Option R)→Option R
 | [],_,_,_=>none
 | t::ts,x,n,K=>match n with
  | 0=>K t x.1
  | n+1=>lf ts x.2 n K
def VT.pure:VT→Bool
 | .int _=>true
 | .bool=>true
 | .str=>true
 | .sl o _=>!o
 | _=>false
def VT.flat:VT→Bool
 | .int _=>true
 | .bool=>true
 | .str=>true
 | _=>false
def lfs (z p:Bool):(ts:List VT)→T.H ts→Nat→Nat→(List (W T)→Option R)→Option R
 | _,_,_,0,K=>K []
 | [],_,_,_+1,_=>none
 | t::ts,x,0,n+1,K=>bif p&&!t.pure then none else lfs z p ts x.2 0 n fun l=>K (.d (z||t.flat) t x.1::l)
 | t::ts,x,o+1,n+1,K=>lfs z p ts x.2 o (n+1) K
def yp:List VT→Nat→Nat→List VT
 | _,_,0=>[]
 | [],_,_+1=>[]
 | t::ts,0,n+1=>t::yp ts 0 n
 | _::ts,o+1,n+1=>yp ts o (n+1)
def zU:(ts:List VT)→T.H ts→(o n:Nat)→T.H (yp ts o n)→T.H ts
 | _,x,_,0,_=>x
 | [],x,_,_+1,_=>x
 | t::ts,x,0,n+1,y=>(y.1,zU ts x.2 0 n y.2)
 | _::ts,x,o+1,n+1,y=>(x.1,zU ts x.2 o (n+1) y)
def opn:(ts:List VT)→T.H ts→Nat→List (W T)×List (Part T)
 | [],_,_=>([],[])
 | t::ts,x,n=>match t,x.1 with
  | .sl true t,l=>let q:=opn ts x.2 (n+1); (.r n::q.1,.sl t l::q.2)
  | .pt t,v=>let q:=opn ts x.2 (n+1); (.r n::q.1,.po t v::q.2)
  | .ic m t,v=>let q:=opn ts x.2 (n+1); (.r n::q.1,.io m t v::q.2)
  | .mp a b,v=>let q:=opn ts x.2 (n+1); (.r n::q.1,.mp a b v::q.2)
  | t,v=>let q:=opn ts x.2 n; (.d true t v::q.1,q.2)
def wL (k:Nat) (s:VS T) (K:VS T→Option R):Option R:=match nth s.ps k with
 | some (.po t q)=>q.bind fun x=>let c:=opn (T.lv t) (T.un t x) s.ps.length; K ⟨s.e,s.ps.set k (.row c.1)++c.2⟩
 | some (.row _)=>K s
 | some (.ro (.row _))=>K s
 | _=>none
def W.icr (k n j:Nat):W T→W T
 | .r i=>bif Nat.beq i k then .ic n j else .r i
 | w=>w
def E7 (k:Nat) (s:VS T) (K:Nat→Nat→VS T→Option R):Option R:=match nth s.ps k with
 | some (.io n t q)=>q.bind fun x=>K n s.ps.length (VS.sub ⟨s.e,s.ps.set k .dead++[.po t (some x)]⟩ (W.icr k n s.ps.length))
 | _=>none
def cB:V1 T→List (W T)
 | .w x=>[x]
 | .agg l=>l
def EM (op:BinOp) (a b:List UInt8) (K:W T→Option R):Option R:=match op with
 | .add=>(catS a b).bind fun s=>K (.d true .str s)
 | .eql=>K (.d true .bool (a==b))
 | .neq=>K (.d true .bool (!(a==b)))
 | .lss=>K (.d true .bool (Op.bytesLess a b))
 | .leq=>K (.d true .bool (Op.bytesLess a b||a==b))
 | .gtr=>K (.d true .bool (!(Op.bytesLess a b||a==b)))
 | .geq=>K (.d true .bool (!Op.bytesLess a b))
 | _=>none
def ET (op:BinOp):W T→W T→(W T→Option R)→Option R
 | .d _ (.int k) a,.d _ (.int k') b,K=>match op with
  | .shl=>(Bj k a b).bind fun n=>K (.d true (.int k) n)
  | .shr=>(wT k a b).bind fun n=>K (.d true (.int k) n)
  | op=>if k=k' then match op with
   | .add=>K (.d true (.int k) (k.wrap (a+b)))
   | .sub=>K (.d true (.int k) (k.wrap (a - b)))
   | .mul=>K (.d true (.int k) (k.wrap (a * b)))
   | .quo=>(quoI k a b).bind fun n=>K (.d true (.int k) n)
   | .rem=>(remI k a b).bind fun n=>K (.d true (.int k) n)
   | .and=>K (.d true (.int k) (k.wrap ((BitVec.ofInt k.bits a &&& BitVec.ofInt k.bits b).toNat)))
   | .or=>K (.d true (.int k) (k.wrap ((BitVec.ofInt k.bits a ||| BitVec.ofInt k.bits b).toNat)))
   | .xor=>K (.d true (.int k) (k.wrap ((BitVec.ofInt k.bits a ^^^ BitVec.ofInt k.bits b).toNat)))
   | .eql=>K (.b (a=b) inferInstance)
   | .neq=>K (.d true .bool (!decide (a=b)))
   | .lss=>K (.b (a < b) inferInstance)
   | .leq=>K (.b (a≤b) inferInstance)
   | .gtr=>K (.b (b < a) inferInstance)
   | .geq=>K (.b (b≤a) inferInstance)
   | _=>none else none
 | .d _ .str a,.d _ .str b,K=>EM op a b K
 | _,_,_=>none
def unW (op:UnOp):W T→(W T→Option R)→Option R
 | .d _ (.int k) a,K=>match op with
  | .neg=>K (.d true (.int k) (k.wrap (0 - a)))
  | _=>none
 | .d _ .bool b,K=>match op with
  | .not=>K (.d true .bool (!b))
  | _=>none
 | .b p i,K=>match op with
  | .not=>K (.d true .bool (!@decide p i))
  | _=>none
 | .c (.bool b),K=>match op with
  | .not=>K (.c (.bool (!b)))
  | _=>none
 | _,_=>none
noncomputable def Bl {α:Type} (l:List α) (x y:Option R):Option R:=open Classical in if l=[]∧x≠y then none else y
noncomputable def FE (s:VS T) (neg:Bool):W T→(W T→Option R)→Option R
 | .c .nilSlice,K=>K (.c (.bool (!neg)))
 | .d _ (.sl _ t) l,K=>Bl l (K (.c (.bool (!neg)))) (K (.c (.bool neg)))
 | .r k,K=>match lkP s.ps k with
  | some (.sl t l)=>Bl l (K (.c (.bool (!neg)))) (K (.c (.bool neg)))
  | _=>none
 | _,_=>none
def bV:W T→Option Bool
 | .d _ .bool b=>some b
 | .c (.bool b)=>some b
 | .b p i=>some (@decide p i)
 | _=>none
def Es (s:VS T) (neg:Bool):W T→(W T→Option R)→Option R
 | .c .nilPtr,K=>K (.c (.bool (!neg)))
 | .ptr _ _,K=>K (.c (.bool neg))
 | .ed _ _ _ _,K=>K (.c (.bool neg))
 | .d _ (.pt _) q,K=>K (.d true .bool (bif neg then !q.isNone else q.isNone))
 | .r k,K=>match lkP s.ps k with
  | some (.row _)=>K (.c (.bool neg))
  | some (.po _ q)=>K (.d true .bool (bif neg then !q.isNone else q.isNone))
  | _=>none
 | _,_=>none
def dR:List (W T)→List (Nat×Nat)→List (SV T)→Option (List (W T))
 | z,[],[]=>some z
 | z,(off,n)::os,.v x::xs=>bif Nat.beq (cB x).length n&&Nat.ble (off+n) z.length then dR (z.take off++(cB x++z.drop (off+n))) os xs else none
 | _,_,_=>none
def ixA (s:VS T) (w:W T) (esz:Nat) (i:Int) (K:SV T→VS T→Option R):Option R:=match w with
 | .r k=>match lkP s.ps k with
  | some (.sl t l)=>bif Nat.beq (T.cells t) esz then (idx l i).bind fun x=>K (W.sv (.el k t i (some x) 0)) s else none
  | some (.ho t l _ _)=>bif Nat.beq (T.cells t) esz then (idx l i).bind fun x=>K (W.sv (.el k t i (some x) 0)) s else none
  | _=>none
 | .d z (.sl _ t) l=>bif Nat.beq (T.cells t) esz then (idx l i).bind fun x=>K (W.sv (.ed z t x 0)) s else none
 | _=>none
def Fj (s:VS T) (K:SV T→VS T→Option R):W T→Option R
 | .r k=>match lkP s.ps k with
  | some (.sl t l)=>K (W.sv (.d true (.int .i64) (l.length:Int))) s
  | some (.ho t l _ _)=>K (W.sv (.d true (.int .i64) (l.length:Int))) s
  | _=>none
 | .d _ (.sl _ t) l=>K (W.sv (.d true (.int .i64) (l.length:Int))) s
 | .c .nilSlice=>K (W.sv (.d true (.int .i64) ((0:Nat):Int))) s
 | _=>none
def adA (s:VS T) (off:Nat) (K:SV T→VS T→Option R):W T→Option R
 | .ptr k o=>K (W.sv (.ptr k (o+off))) s
 | .r k=>wL k s fun s=>K (W.sv (.ptr k off)) s
 | .el k t i x o=>K (W.sv (.el k t i x (o+off))) s
 | .ed z t x o=>K (W.sv (.ed z t x (o+off))) s
 | _=>none
def ncA (s:VS T) (K:SV T→VS T→Option R):W T→Option R
 | .ptr k o=>K (W.sv (.ptr k o)) s
 | .r k=>wL k s fun s=>K (W.sv (.ptr k 0)) s
 | .el k t i x o=>K (W.sv (.el k t i x o)) s
 | .ed z t x o=>K (W.sv (.ed z t x o)) s
 | _=>none
def ptD (w:W T) (K:W T→Option R):Option R:=match w with
 | .d z (.pt t) q=>q.bind fun x=>K (.ed z t x 0)
 | w=>K w
def Ef (z:Bool) (t:VT):List (W T)→(List (T.D t)→Option R)→Option R
 | [],K=>K []
 | .d z' t' x::ws,K=>bif (z'==z)||t.flat then cast1 x t fun x=>Ef z t ws fun l=>K (x::l) else none
 | _,_=>none
def A6 (l:List (W T)) (i:Int) (K:W T→Option R):Option R:=match l with
 | .d z t x::ws=>Ef z t (.d z t x::ws) fun xs=>(idx xs i).bind fun x=>K (.d z t x)
 | _=>none
def zY (n:Int) (lo hi:Bool) (xs:List (SV T)) (K:Int→Int→Option R):Option R:=match lo,hi,xs with
 | false,false,[]=>K 0 n
 | true,false,[.v (.w (.d _ (.int _) a))]=>K a n
 | false,true,[.v (.w (.d _ (.int _) b))]=>K 0 b
 | true,true,[.v (.w (.d _ (.int _) a)),.v (.w (.d _ (.int _) b))]=>K a b
 | _,_,_=>none
def eqC (q:Nat) (x y:W T) (K:Bool→Option R):Option R:=match q,x,y with
 | 1,.d _ (.int k) a,.d _ (.int k') b=>if k=k' then K (decide (a=b)) else none
 | 2,.d _ .str a,.d _ .str b=>K (a==b)
 | 0,.d _ .bool a,.d _ .bool b=>K (a==b)
 | _,_,_=>none
def eqW (xs ys:List (W T)):List (Nat×Nat)→(Bool→Option R)→Option R
 | [],K=>K true
 | (i,q)::is,K=>(nth xs i).bind fun x=>(nth ys i).bind fun y=>eqC q x y fun b=>eqW xs ys is fun c=>K (b&&c)
def slA (s:VS T) (esz:Nat) (lo hi:Bool) (rest:List (SV T)) (K:SV T→VS T→Option R):W T→Option R
 | .r k=>match nth s.ps k with
  | some (.sl t l)=>bif Nat.beq (T.cells t) esz then zY (l.length:Int) lo hi rest fun a b=>(slc l a b).bind fun q=>K (W.sv (.r s.ps.length)) ((s.kill k).new (.sl t q)) else none
  | _=>none
 | .d z (.sl o t) l=>bif Nat.beq (T.cells t) esz then zY (l.length:Int) lo hi rest fun a b=>(slc l a b).bind fun q=>K (W.sv (.d z (.sl o t) q)) s else none
 | _=>none
def vh:List (SV T)→Option (List Nat)
 | []=>some []
 | .v (.w (.ptr k 0))::l=>match vh l with
  | some ks=>some (k::ks)
  | none=>none
 | _=>none
noncomputable def FB (q:POp) (xs:List (SV T)) (s:VS T) (K:SV T→VS T→Option R):Option R:=
 match q with
 | .mv=>match xs with
  | [x]=>K x s
  | _=>none
 | .pick=>match xs with
  | [.v (.w (.c (.bool c))),a,b]=>K (bif c then a else b) s
  | _=>none
 | .build zero offs=>(zW zero).bind fun z=>(dR z offs xs).bind fun l=>K (.v (.agg l)) s
 | .nilCheck=>match xs with
  | [.v (.w x)]=>ptD x fun x=>ncA s K x
  | _=>none
 | .bin op=>match xs with
  | [.v (.w x),.v (.w y)]=>ET op x y fun w=>K (W.sv w) s
  | _=>none
 | .eql neg q=>match q,xs with
  | 1,[.v (.w x),.v (.w (.c .nilPtr))]=>Es s neg x fun w=>K (W.sv w) s
  | 1,[.v (.w (.c .nilPtr)),.v (.w x)]=>Es s neg x fun w=>K (W.sv w) s
  | 2,[.v (.w x),.v (.w (.c .nilSlice))]=>FE s neg x fun w=>K (W.sv w) s
  | 0,[.v (.w x),.v (.w y)]=>(bV x).bind fun a=>(bV y).bind fun b=>K (W.sv (.d true .bool (bif neg then !(a==b) else a==b))) s
  | _,_=>none
 | .un op=>match xs with
  | [.v (.w x)]=>unW op x fun w=>K (W.sv w) s
  | _=>none
 | .conv k=>match xs with
  | [.v (.w (.d _ (.int _) n))]=>K (W.sv (.d true (.int k) (k.wrap n))) s
  | _=>none
 | .mkIface t=>match xs with
  | [.v (.w (.r k))]=>K (W.sv (.ic t k)) s
  | [.v (.w (.ptr k 0))]=>K (W.sv (.ic t k)) s
  | _=>none
 | .fieldAddr off=>match xs with
  | [.v (.w x)]=>ptD x fun x=>adA s off K x
  | _=>none
 | .indexArrAddr len esz=>match xs with
  | [.v (.w x),.v (.w (.d _ (.int _) i))]=>if 0≤i∧i < (len:Int) then ptD x fun x=>adA s (i.toNat * esz) K x else none
  | _=>none
 | .indexArr1 len=>match xs with
  | [.v (.agg l),.v (.w (.d _ (.int _) i))]=>bif Nat.beq l.length len then A6 l i fun w=>K (W.sv w) s else none
  | _=>none
 | .indexStr=>match xs with
  | [.v (.w (.d _ .str l)),.v (.w (.d _ (.int _) i))]=>(Ee l i).bind fun n=>K (W.sv (.d true (.int .u8) n)) s
  | _=>none
 | .sliceStr lo hi=>match xs with
  | .v (.w (.d _ .str l))::rest=>zY (l.length:Int) lo hi rest fun a b=>(slc l a b).bind fun q=>K (W.sv (.d true .str q)) s
  | _=>none
 | .sliceSl esz lo hi=>match xs with
  | .v (.w x)::rest=>slA s esz lo hi rest K x
  | _=>none
 | .eqAgg neg is=>match xs with
  | [.v (.agg a),.v (.agg b)]=>eqW a b is fun c=>K (W.sv (.d true .bool (bif neg then !c else c))) s
  | _=>none
 | .field1 off=>match xs with
  | [.v (.agg l)]=>(nth l off).bind fun w=>K (W.sv w) s
  | _=>none
 | .fieldN off n=>match xs with
  | [.v (.agg l)]=>bif Nat.ble (off+n) l.length then K (.v (.agg ((l.drop off).take n))) s else none
  | _=>none
 | .indexAddr esz=>match xs with
  | [.v (.w x),.v (.w (.d _ (.int _) i))]=>ixA s x esz i K
  | _=>none
 | .extract i=>match xs with
  | [.tup l]=>(nth l i).bind fun x=>K (.v x) s
  | _=>none
 | .mkFunc f=>match vh xs with
  | some ks=>K (W.sv (.fn f ks)) s
  | none=>none
 | .lenStr=>match xs with
  | [.v (.w (.d _ .str l))]=>K (W.sv (.d true (.int .i64) (l.length:Int))) s
  | _=>none
 | .lenSl=>match xs with
  | [.v (.w x)]=>Fj s K x
  | _=>none
 | .lenArr n=>match xs with
  | [_]=>K (W.sv (.d true (.int .i64) ((n:Nat):Int))) s
  | _=>none
 | .min=>match xs with
  | [.v (.w (.d _ (.int k) a)),.v (.w (.d _ (.int k') b))]=>if k=k' then K (W.sv (.d true (.int k) (if b < a then b else a))) s else none
  | _=>none
 | .max=>match xs with
  | [.v (.w (.d _ (.int k) a)),.v (.w (.d _ (.int k') b))]=>if k=k' then K (W.sv (.d true (.int k) (if a < b then b else a))) s else none
  | _=>none
 | _=>none
def ldA (s:VS T) (K:SV T→VS T→Option R):W T→Option R
 | .ptr k o=>match lkP s.ps k with
  | some (.row ws)=>(nth ws o).bind fun w=>K (W.sv w) s
  | _=>none
 | .el k t i x o=>match lkP s.ps k with
  | some (.sl _ l)=>elX x i l fun x=>lf (T.lv t) (T.un t x) o fun t y=>bif t.pure then K (W.sv (.d true t y)) s else none
  | _=>none
 | .ed z t x o=>lf (T.lv t) (T.un t x) o fun t y=>K (W.sv (.d (z||t.flat) t y)) s
 | _=>none
def ldN (s:VS T) (n:Nat) (K:SV T→VS T→Option R):W T→Option R
 | .ptr k o=>match lkP s.ps k with
  | some (.row ws)=>bif Nat.ble (o+n) ws.length then K (.v (.agg ((ws.drop o).take n))) s else none
  | _=>none
 | .el k t i x o=>match lkP s.ps k with
  | some (.sl _ l)=>bif Nat.ble (o+n) (T.cells t) then elX x i l fun x=>lfs true true (T.lv t) (T.un t x) o n fun l=>K (.v (.agg l)) s else none
  | _=>none
 | .ed z t x o=>bif Nat.ble (o+n) (T.cells t) then lfs z false (T.lv t) (T.un t x) o n fun l=>K (.v (.agg l)) s else none
 | _=>none
def mlk (k:IntKind) (m:Option (List (Int×Int))) (x:Int):Option Int:=m.bind fun l=>qp (keI k) l x
def lkM (ok:Bool) (zero:AV) (ka kb k1:IntKind) (m:Option (List (Int×Int))) (x:Int) (K:SV T→Option R):Option R:=match zero with
 | .int kz z=>if k1=ka∧kz=kb∧z=0 then (bif ok then K (.tup [.w (.d true (.int kb) ((mlk ka m x).getD 0)),.w (.d true .bool (mlk ka m x).isSome)]) else K (W.sv (.d true (.int kb) ((mlk ka m x).getD 0)))) else none
 | _=>none
def G2 (m:Option (List (List UInt8×Bool))) (x:List UInt8):Option Bool:=m.bind fun l=>qp keS l x
def lkS (ok:Bool) (zero:AV) (m:Option (List (List UInt8×Bool))) (x:List UInt8) (K:SV T→Option R):Option R:=match zero with
 | .bool false=>bif ok then none else K (W.sv (.d true .bool ((G2 m x).getD false)))
 | _=>none
def bW:W T→Option Bool
 | .d _ .bool b=>some b
 | .c (.bool b)=>some b
 | _=>none
def poG (u:VT) (k:Nat) (s:VS T) (K:Option (T.D u)→VS T→Option R):Option R:=match nth s.ps k with
 | some (.po t q)=>kR q u fun q=>K q (s.kill k)
 | _=>none
def GI (k:Nat) (u:VT) (i:Int) (x:T.D (.sl true u)) (l:List (T.D (.sl true u))) (s:VS T) (K:SV T→VS T→Option R):Option R:=K (W.sv (.r s.ps.length)) (((s.kill k).set k (.ho (.sl true u) l i.toNat s.ps.length)).new (.sl u x))
def Gb (k:Nat) (u:VT) (i:Int) (x:T.D (.pt u)) (l:List (T.D (.pt u))) (s:VS T) (K:SV T→VS T→Option R):Option R:=K (W.sv (.r s.ps.length)) (((s.kill k).set k (.ho (.pt u) l i.toNat s.ps.length)).new (.po u x))
def EI (q:ROp) (xs:List (SV T)) (s:VS T) (K:SV T→VS T→Option R):Option R:=
 match q with
 | .load1=>match xs with
  | [.v (.w (.ptr k o))]=>wL k s fun s=>ldA s K (.ptr k o)
  | [.v (.w (.el k (.sl true u) i x 0))]=>match nth s.ps k with
   | some (.sl t l)=>db l (.sl true u) fun l=>elX (t:=.sl true u) x i (t':=.sl true u) l fun x=>GI k u i x l s K
   | some (.ho t l i' j)=>hoF poG i' j k s t l fun t l s=>db l (.sl true u) fun l=>(idx l i).bind fun x=>GI k u i x l s K
   | _=>none
  | [.v (.w (.el k (.pt u) i x 0))]=>match nth s.ps k with
   | some (.sl t l)=>db l (.pt u) fun l=>elX (t:=.pt u) x i (t':=.pt u) l fun x=>Gb k u i x l s K
   | some (.ho t l i' j)=>hoF poG i' j k s t l fun t l s=>db l (.pt u) fun l=>(idx l i).bind fun x=>Gb k u i x l s K
   | _=>none
  | [.v (.w x)]=>ptD x fun x=>ldA s K x
  | _=>none
 | .loadN n=>match xs with
  | [.v (.w (.ptr k o))]=>wL k s fun s=>ldN s n K (.ptr k o)
  | [.v (.w x)]=>ptD x fun x=>ldN s n K x
  | _=>none
 | .bytesToStr=>match xs with
  | [.v (.w x)]=>match x with
   | .r k=>match lkP s.ps k with
    | some (.sl (.int .u8) l)=>K (W.sv (.d true .str (l.map u8))) s
    | _=>none
   | .d _ (.sl _ (.int .u8)) l=>K (W.sv (.d true .str (l.map u8))) s
   | _=>none
  | _=>none
 | .lookup kq ok zero=>match xs with
  | [.v (.w (.r k)),.v (.w (.d _ (.int k1) x))]=>match lkP s.ps k with
   | some (.mp (.int ka) (.int kb) m)=>bif Nat.beq kq 1 then lkM ok zero ka kb k1 m x fun x=>K x s else none
   | _=>none
  | [.v (.w (.r k)),.v (.w (.d _ .str x))]=>match lkP s.ps k with
   | some (.mp .str .bool m)=>bif Nat.beq kq 2 then lkS ok zero m x fun x=>K x s else none
   | _=>none
  | _=>none
 | _=>none
def ES (H:List (Nat×VT)) (d:Option Nat):Option VT:=match d with
 | some d=>lk H d
 | none=>none
def tkE (t:VT):Nat→List (W T)→VS T→(List (T.D t)→VS T→Option R)→Option R
 | 0,[],s,K=>K [] s
 | n+1,ws,s,K=>tks fuel (T.lv t) (ws.take (T.cells t)) s fun x s=>tkE t n (ws.drop (T.cells t)) s fun l s=>K (T.re t x::l) s
 | _,_,_,_=>none
def Fn (H:List (Nat×VT)) (d:Option Nat) (q:NOp) (xs:List (SV T)) (s:VS T) (K:SV T→VS T→Option R):Option R:=
 match q with
 | .alloc zero=>match xs with
  | []=>(zW zero).bind fun z=>K (W.sv (.ptr s.ps.length 0)) (s.new (.row z))
  | _=>none
 | .box=>match xs with
  | [.v x]=>bif (cB x).all W.sto then K (W.sv (.ptr s.ps.length 0)) (s.new (.row (cB x))) else none
  | _=>none
 | .buildSlice esz len zero offs=>(ES H d).bind fun t=>(zW zero).bind fun z=>(dR z offs xs).bind fun l=>bif Nat.beq (T.cells t) esz then tkE t len l s fun x s=>K (W.sv (.r s.ps.length)) (s.new (.sl t x)) else none
 | .mkMap=>match xs with
  | []=>match ES H d with
   | some (.mp (.int a) (.int b))=>K (W.sv (.r s.ps.length)) (s.new (.mp (.int a) (.int b) (some [])))
   | some (.mp .str .bool)=>K (W.sv (.r s.ps.length)) (s.new (.mp .str .bool (some [])))
   | _=>none
  | _=>none
 | .mkSlice esz bytes zero=>match xs with
  | [.v (.w (.d _ (.int _) l)),.v (.w (.d _ (.int _) c))]=>(ES H d).bind fun t=>(zW zero).bind fun z=>bif Nat.beq (T.cells t) esz then tks fuel (T.lv t) z ⟨[],[]⟩ fun x _=>(mkS bytes l c (T.re t x)).bind fun y=>K (W.sv (.r s.ps.length)) (s.new (.sl t y)) else none
  | _=>none
 | _=>none
def TE.dup (T:TE) (t:VT):Bool:=(T.lv t).all fun t=>t.pure
def TE.flt (T:TE) (t:VT):Bool:=(T.lv t).all fun t=>t.flat
def apY (s:VS T) (y:W T) (K:(t:VT)→List (T.D t)→VS T→Option R):Option R:=match y with
 | .r k=>match lkP s.ps k with
  | some (.sl t l)=>bif T.dup t then K t l s else match nth s.ps k with
   | some (.sl t l)=>K t l (s.kill k)
   | _=>none
  | _=>none
 | .d z (.sl _ t) l=>bif T.dup t&&(z||T.flt t) then K t l s else none
 | _=>none
def apX (s:VS T) (x:W T) (t:VT) (K:List (T.D t)→VS T→Option R):Option R:=match x with
 | .r k=>match nth s.ps k with
  | some (.sl u l)=>db l t fun l=>K l (s.kill k)
  | _=>none
 | .c .nilSlice=>K [] s
 | _=>none
def neW:W T→W T→Bool
 | .r k,.r j=>!Nat.beq k j
 | _,_=>true
def stA (s:VS T) (n:Nat) (xs:List (W T)) (K:SV T→VS T→Option R):W T→Option R
 | .ptr k o=>match nth s.ps k with
  | some (.row ws)=>bif Nat.beq xs.length n&&Nat.ble (o+n) ws.length&&xs.all W.sto then K .un (s.set k (.row (ws.take o++(xs++ws.drop (o+n))))) else none
  | _=>none
 | .el k t i x o=>bif Nat.beq xs.length n&&Nat.ble (o+n) (T.cells t) then tks fuel (yp (T.lv t) o n) xs s fun ys s'=>match nth s'.ps k with
  | some (.sl t' l)=>db l t fun l=>elX x i l fun x=>(some (l.set i.toNat (T.re t (zU (T.lv t) (T.un t x) o n ys)))).bind fun l'=>K .un (s'.up k (.sl t l'))
  | _=>none else none
 | _=>none
def Fq (q:EOp) (xs:List (SV T)) (s:VS T) (K:SV T→VS T→Option R):Option R:=
 match q with
 | .append esz b=>match xs with
  | [.v (.w x),.v (.w y)]=>bif neW x y then apY s y fun t l2 s=>bif Nat.beq (T.cells t) esz then apX s x t fun l s=>(app b l l2).bind fun l'=>K (W.sv (.r s.ps.length)) (s.new (.sl t l')) else none else none
  | _=>none
 | .mapSet kq=>match xs with
  | [.v (.w (.r k)),.v (.w (.d _ (.int k1) x)),.v (.w (.d _ (.int k2) y))]=>match nth s.ps k with
   | some (.mp (.int a) (.int b) m)=>if k1=a∧k2=b∧kq=1 then (show Option (List (Int×Int)) from m).bind fun l=>K .un (s.set k (.mp (.int a) (.int b) (some (lP (keI a) l x y)))) else none
   | _=>none
  | [.v (.w (.r k)),.v (.w (.d _ .str x)),.v (.w y)]=>match nth s.ps k with
   | some (.mp .str .bool m)=>bif Nat.beq kq 2 then (bW y).bind fun y=>(show Option (List (List UInt8×Bool)) from m).bind fun l=>K .un (s.set k (.mp .str .bool (some (lP keS l x y)))) else none
   | _=>none
  | _=>none
 | .store n=>match xs with
  | [.v (.w (.ptr k o)),.v x]=>wL k s fun s=>stA s n (cB x) K (.ptr k o)
  | [.v (.w (.el k (.sl true u) i x 0)),.v y]=>match nth s.ps k with
   | some (.ho _ _ _ _)=>bif Nat.beq n 1 then tks fuel [.sl true u] (cB y) s fun ys s'=>match nth s'.ps k with
    | some (.ho t l j _)=>db l (.sl true u) fun l=>if i.toNat=j then K .un ((s'.kill k).set k (.sl (.sl true u) (l.set j ys.1))) else none
    | _=>none else none
   | _=>stA s n (cB y) K (.el k (.sl true u) i x 0)
  | [.v (.w p),.v x]=>stA s n (cB x) K p
  | _=>none
 | _=>none
def EZ (esz b:Nat) (xs:List (SV T)) (s:VS T) (K:SV T→VS T→Option R):Option R:=match xs with
 | [.v (.w y)]=>apY s y fun t l s=>bif Nat.beq (T.cells t) esz then (app b [] l).bind fun l'=>K (W.sv (.r s.ps.length)) (s.new (.sl t l')) else none
 | _=>none
def cQ (T:TE):=∀ (R:Type),Nat→List (SV T)→VS T→(SV T→VS T→Option R)→Option R
noncomputable def akV (H:List (Nat×VT)) (C:cQ T) (d:Option Nat) (k:AK) (xs:List (SV T)) (s:VS T) (K:SV T→VS T→Option R):Option R:=
 match k with
 | .p q=>FB q xs s K
 | .r q=>EI q xs s K
 | .n q=>match q with
  | .appendNil esz b=>EZ esz b xs s K
  | q=>Fn H d q xs s K
 | .e q=>Fq q xs s K
 | .call f=>C R f xs s K
 | .callM tb=>match xs with
  | .v (.w (.ic n k))::xs=>match eG tb n with
   | some f=>C R f (.v (.w (.r k))::xs) s K
   | none=>none
  | .v (.w (.d z (.ic n t) q))::xs=>match eG tb n with
   | some f=>q.bind fun x=>C R f (.v (.w (.d z (.pt t) (some x)))::xs) s K
   | none=>none
  | .v (.w (.r k))::xs=>E7 k s fun n j s=>match eG tb n with
   | some f=>C R f (.v (.w (.r j))::xs) s K
   | none=>none
  | _=>none
 | .callV=>match xs with
  | .v (.w (.c (.func f [])))::xs=>C R f xs s K
  | .v (.w (.fn f ks))::xs=>C R f (xs++ks.map fun k=>.v (.w (.ptr k 0))) s K
  | _=>none
def nb (e:qa T):Opd→Option (SV T)
 | .tmp t=>match lk e t with
  | some (.ro x)=>some (.v x)
  | o=>o
 | .const (.agg l)=>match zW l with
  | some ws=>some (.v (.agg ws))
  | none=>none
 | .const v=>bif v.flat then some (W.sv (match v with
  | .bool b=>.c (.bool b)
  | v=>wc v)) else none
def uP (e:qa T):List Opd→Option (List (SV T))
 | []=>some []
 | x::xs=>match nb e x with
  | none=>none
  | some v=>match uP e xs with
   | none=>none
   | some vs=>some (v::vs)
def jL:Option (SV T)→Bool
 | some (.ro _)=>true
 | _=>false
def lQ (s:VS T) (d:Option Nat) (x:SV T) (K:VS T→Option R):Option R:=match d with
 | none=>K s
 | some d=>bif jL (lk s.e d) then none else K ⟨(d,x)::s.e,s.ps⟩
inductive Rd where
 | skip
 | bad
 | fix (z:Bool)
 | part (k:Nat)
 | mk (k:Nat)
structure Ent where
 rd:Rd
 ok:Bool
 tch:List Nat
 al:List Bool
 al2:List Bool
def dm:Part T→Bool
 | .dead=>true
 | .ro p=>dm p
 | _=>false
def Ej:W T→Option Nat
 | .r k=>some k
 | .ptr k _=>some k
 | .el k _ _ _ _=>some k
 | _=>none
def tc:List Bool→Nat→Bool
 | [],_=>false
 | b::l,n=>match n with
  | 0=>b
  | n+1=>tc l n
def cj (s:VS T):List Bool:=s.ps.map fun p=>!dm p
def DX (k:AK) (xs:List (SV T)) (s:VS T):Option (List Nat):=match k with
 | .e _=>match xs with
  | .v (.w w)::_=>match Ej w with
   | some k=>bif tc (cj s) k then some [k] else none
   | none=>match w with
    | .c .nilSlice=>some []
    | _=>none
  | _=>none
 | _=>some []
def rdM:SV T→Rd
 | .v (.w (.r k))=>.mk k
 | .v (.w (.ptr k 0))=>.mk k
 | _=>.bad
def rdK (o:AOper) (xs:List (SV T)) (x:SV T):Rd:=match o.k with
 | .r _=>match xs with
  | .v (.w (.ed z _ _ _))::_=>.fix z
  | .v (.w (.d z (.pt _) _))::_=>.fix z
  | .v (.w w)::_=>match Ej w with
   | some k=>.part k
   | none=>.bad
  | _=>.bad
 | .n q=>match q with
  | .mkMap=>.bad
  | .appendNil _ _=>.bad
  | .rangeStr=>.bad
  | _=>rdM x
 | _=>.bad
def FC (o:AOper) (xs:List (SV T)) (s:VS T) (x:SV T) (s':VS T):Ent:=⟨rdK o xs x,(DX o.k xs s).isSome,(DX o.k xs s).getD [],cj s,cj s'⟩
def vP (s s':VS T):Ent:=⟨.skip,true,[],cj s,cj s'⟩
def ib (k:Nat) (en:Ent):Bool:=en.ok&&tc en.al k&&tc en.al2 k&&!(en.tch.any (Nat.beq k))
def CQ (es:List Ent) (p:Nat×Nat):Bool:=Nat.blt p.2 es.length&&match nth es p.1 with
 | none=>false
 | some en=>match en.rd with
  | .skip=>true
  | .bad=>false
  | .fix z=>!z||Nat.ble p.1 p.2
  | .part k=>bif Nat.ble p.1 p.2 then ((es.drop p.1).take (p.2+1 - p.1)).all (ib k) else ((es.drop p.2).take (p.1 - p.2)).all (ib k)
  | .mk k=>Nat.blt p.1 p.2&&((es.drop (p.1+1)).take (p.2 - p.1)).all (ib k)
noncomputable def uG (H:List (Nat×VT)) (C:cQ T) (o:AOper) (s:VS T) (K:Ent→VS T→Option R):Option R:=match uP s.e o.xs with
 | some xs=>akV H C o.dst o.k xs s fun x s1=>lQ s1 o.dst x fun s'=>K (FC o xs s x s') s'
 | none=>none
noncomputable def Eu (H:List (Nat×VT)) (C:cQ T) (o:AOper) (s:VS T) (K:Ent→VS T→Option R):Option R:=match o.guard with
 | none=>uG H C o s K
 | some (t,w)=>match nb s.e (.tmp t) with
  | some .un=>lQ s o.dst .un fun s'=>K (vP s s') s'
  | some (.v (.w (.c (.bool b))))=>bif b==w then uG H C o s K else lQ s o.dst .un fun s'=>K (vP s s') s'
  | some (.v (.w (.b p i)))=>@ite _ p i (lQ s (some t) (W.sv (.c (.bool true))) fun s=>bif w then uG H C o s K else lQ s o.dst .un fun s'=>K (vP s s') s') (lQ s (some t) (W.sv (.c (.bool false))) fun s=>bif w then (lQ s o.dst .un fun s'=>K (vP s s') s') else uG H C o s K)
  | some (.v (.w (.d _ .bool b)))=>if b=true then (lQ s (some t) (W.sv (.c (.bool true))) fun s=>bif w then uG H C o s K else lQ s o.dst .un fun s'=>K (vP s s') s') else (lQ s (some t) (W.sv (.c (.bool false))) fun s=>bif w then (lQ s o.dst .un fun s'=>K (vP s s') s') else uG H C o s K)
  | _=>none
noncomputable def opV (H:List (Nat×VT)) (C:cQ T) (o:AOper) (s:VS T) (K:VS T→Option R):Option R:=Eu H C o s fun _ s=>K s
noncomputable def C4 (H:List (Nat×VT)) (C:cQ T):List AOper→VS T→(VS T→Option R)→Option R
 | [],s,K=>K s
 | o::os,s,K=>opV H C o s fun s=>C4 H C os s K
noncomputable def Br (H:List (Nat×VT)) (C:cQ T) (ps:List (Nat×Nat)):List AOper→List Ent→VS T→(VS T→Option R)→Option R
 | [],es,s,K=>bif ps.all (CQ es) then K s else none
 | o::os,es,s,K=>Eu H C o s fun en s=>Br H C ps os (es++[en]) s K
end
end Go.Am
namespace Go.Am
open Go
def Loc (h:Heap) (fp:List Nat):Hp:=fun o cs v=>Frz h o cs v∨(o∈fp∧dX h o cs v)
theorem Loc.sub {h:Heap} {a b:List Nat} (hs:∀ o,o∈a→o∈b):Hp.le (Loc h a) (Loc h b):=fun o cs v hl=>hl.imp id fun ⟨x,y⟩=>⟨hs o x,y⟩
theorem Ai (h:Heap) (fp:List Nat):Hp.le (Frz h) (Loc h fp):=fun _ _ _ hl=>.inl hl
structure OG {α:Type} (r:ORep α):Prop where
 loc:∀ {h:Heap} {cs:List AV} {x:α} {fp:List Nat},r.O h cs x fp→r.rep.R (Loc h fp) cs x
 wr:∀ {h:Heap} {cs:List AV} {x:α} {fp:List Nat},r.O h cs x fp→∀ o,o∈fp→∀ c v,h.get o≠some (.row c v false)
theorem de {α:Type} (r:Rep α):OG (fz r):=⟨fun ⟨_,a⟩=>r.mono (Ai _ _) a,fun ⟨e,_⟩ o ho=>by rw [e] at ho; cases ho⟩
theorem mJ {α:Type} {r:ORep α} (g:OG r) {h:Heap}:∀ {els:List (List AV)} {l:List α} {fps:List (List Nat)},All3 (r.O h) els l fps→All2 (r.rep.R (Loc h fps.flatten)) els l∧∀ o,o∈fps.flatten→∀ c v,h.get o≠some (.row c v false)
 | _,_,_,.nil=>⟨.nil,fun o ho=>by cases ho⟩
 | _,_,_,.cons a t=>by
  obtain ⟨h1,h2⟩:=mJ g t
  refine ⟨.cons (r.rep.mono (Loc.sub fun o ho=>?_) (g.loc a)) (h1.imp fun _ _ k=>r.rep.mono (Loc.sub fun o ho=>?_) k),fun o ho=>?_⟩
  ·rw [List.flatten_cons]; exact List.mem_append_left _ ho
  ·rw [List.flatten_cons]; exact List.mem_append_right _ ho
  rw [List.flatten_cons] at ho
  rcases List.mem_append.1 ho with hh | hh
  ·exact g.wr a o hh
  exact h2 o hh
theorem EV {α:Type} {r:ORep α} (g:OG r):OG (oSl r):=by
 constructor
 ·rintro h cs l fp ⟨s,rfl,⟨a,b,c⟩ | ⟨o,v,off,row,els,fps,h1,h2,h3,h4,h5,h6,h7⟩⟩
  ·exact ⟨s,rfl,.inl ⟨a,b⟩⟩
  subst h6
  exact ⟨s,rfl,.inr ⟨o,v,off,row,els,h1,.inr ⟨List.mem_cons_self ..,⟨_,h2⟩⟩,h3,h4,(mJ g h5).1.imp fun _ _ k=>r.rep.mono (Loc.sub fun o ho=>List.mem_cons_of_mem _ ho) k⟩⟩
 rintro h cs l fp ⟨s,rfl,⟨a,b,rfl⟩ | ⟨o,v,off,row,els,fps,h1,h2,h3,h4,h5,rfl,h7⟩⟩ p hp c u
 ·cases hp
 rcases List.mem_cons.1 hp with rfl | hp
 ·rw [h2]; intro e; cases e
 exact (mJ g h5).2 p hp c u
theorem zF {α β:Type} {r:ORep α} {s:ORep β} (g1:OG r) (g2:OG s):OG (nF r s):=by
 constructor
 ·rintro h cs x fp ⟨a,b,fa,fb,e,h1,h2,rfl,hn⟩
  exact ⟨a,b,e,r.rep.mono (Loc.sub fun o ho=>List.mem_append_left _ ho) (g1.loc h1),s.rep.mono (Loc.sub fun o ho=>List.mem_append_right _ ho) (g2.loc h2)⟩
 rintro h cs x fp ⟨a,b,fa,fb,e,h1,h2,rfl,hn⟩ o ho
 rcases List.mem_append.1 ho with hh | hh
 ·exact g1.wr h1 o hh
 exact g2.wr h2 o hh
theorem Cp {α β:Type} {r:ORep β} (g:OG r) (f:α→β):OG (qT r f):=⟨fun a=>g.loc a,fun a=>g.wr a⟩
theorem tI {α:Type} {r:ORep α} (g:OG r):OG (m9 r):=by
 constructor
 ·rintro h cs x fp ⟨p,rfl,⟨a,b,c⟩ | ⟨o,v,row,a,f,e1,e2,hg,h1,rfl,hn⟩⟩
  ·exact ⟨p,rfl,.inl ⟨a,b⟩⟩
  exact ⟨p,rfl,.inr ⟨o,v,row,a,e1,e2,.inr ⟨List.mem_cons_self ..,⟨_,hg⟩⟩,r.rep.mono (Loc.sub fun o ho=>List.mem_cons_of_mem _ ho) (g.loc h1)⟩⟩
 rintro h cs x fp ⟨p,rfl,⟨a,b,rfl⟩ | ⟨o,v,row,a,f,e1,e2,hg,h1,rfl,hn⟩⟩ q hq c u
 ·cases hq
 rcases List.mem_cons.1 hq with rfl | hq
 ·rw [hg]; intro e; cases e
 exact g.wr h1 q hq c u
theorem DH {α:Type} {r:ORep α} (g:OG r) (t:Nat):OG (Bn t r):=by
 constructor
 ·rintro h cs x fp (⟨rfl,rfl,_⟩ | ⟨p,rfl,hO⟩)
  ·exact ⟨_,rfl,.inl ⟨rfl,rfl⟩⟩
  exact ⟨_,rfl,.inr ⟨p,rfl,cP ((tI g).loc hO)⟩⟩
 rintro h cs x fp (⟨rfl,rfl,rfl⟩ | ⟨p,rfl,hO⟩) o ho
 ·cases ho
 exact (tI g).wr hO o ho
theorem f7 {κ β:Type} (e:KE κ) (ve:β→AV):OG (ia e ve):=by
 constructor
 ·rintro h cs x fp (⟨rfl,rfl,_⟩ | ⟨m,rfl,o,rfl,_,_⟩)
  ·exact ⟨_,rfl,rfl⟩
  exact ⟨_,rfl,rfl⟩
 rintro h cs x fp (⟨rfl,rfl,rfl⟩ | ⟨m,rfl,o,rfl,hg,rfl⟩) p hp c v
 ·cases hp
 rw [List.mem_singleton] at hp; subst hp; rw [hg]; intro e; cases e
theorem Fa {S:Nat→Type}:∀ k v:VT,OG (oMp (S:=S) k v)
 | .int a,.int b=>f7 _ _
 | .int a,.bool=>f7 _ _
 | .int a,.str=>f7 _ _
 | .str,.int b=>f7 _ _
 | .str,.bool=>f7 _ _
 | .str,.str=>f7 _ _
 | .int _,.sl _ _=>de _
 | .int _,.st _=>de _
 | .int _,.pt _=>de _
 | .int _,.ic _ _=>de _
 | .int _,.mp _ _=>de _
 | .str,.sl _ _=>de _
 | .str,.st _=>de _
 | .str,.pt _=>de _
 | .str,.ic _ _=>de _
 | .str,.mp _ _=>de _
 | .bool,_=>de _
 | .sl _ _,_=>de _
 | .st _,_=>de _
 | .pt _,_=>de _
 | .ic _ _,_=>de _
 | .mp _ _,_=>de _
theorem sA {S:Nat→Type} {o:∀ k,ORep (S k)} {n:Nat} (h:∀ k,k < n→OG (o k)):∀ (t:VT),t.bel n=true→OG (t.ow o)
 | .int k,_=>de _
 | .bool,_=>de _
 | .str,_=>de _
 | .sl true t,hb=>EV (sA h t hb)
 | .sl false t,hb=>de _
 | .st k,hb=>h k (by simpa [VT.bel,Nat.blt_eq] using hb)
 | .pt t,hb=>tI (sA h t hb)
 | .ic n t,hb=>DH (sA h t hb) n
 | .mp k v,_=>Fa k v
theorem wa {S:Nat→Type} {o:∀ k,ORep (S k)} {n:Nat} (h:∀ k,k < n→OG (o k)):∀ (ts:List VT),ts.all (fun t=>t.bel n)=true→OG (oHL o ts)
 | [],_=>de _
 | t::ts,hb=>by
  rw [List.all_cons,Bool.and_eq_true] at hb
  exact zF (sA h t hb.1) (wa h ts hb.2)
section
variable (T:TE)
theorem TE.fl_bel (k:Nat):(T.fl k).all (fun t=>t.bel k)=true:=by
 have:=T.lf k
 rw [List.all_eq_true] at this ⊢
 intro t ht
 have:=this t ht
 rw [Bool.and_eq_true] at this
 exact this.2
theorem TE.fl_leaf (k:Nat):∀ t,t∈T.fl k→t.leaf=true:=by
 have:=T.lf k
 rw [List.all_eq_true] at this
 intro t ht
 have:=this t ht
 rw [Bool.and_eq_true] at this
 exact this.1
theorem TE.og:∀ n k,k < n→OG (T.o k)
 | 0,k,h=>by omega
 | n+1,k,h=>by
  rw [T.o_eq]
  exact Cp (wa (n:=k) (fun j hj=>TE.og n j (by omega)) _ (T.fl_bel k)) _
theorem VT.bel_ex:∀ t:VT,∃ n,t.bel n=true
 | .int _=>⟨0,rfl⟩
 | .bool=>⟨0,rfl⟩
 | .str=>⟨0,rfl⟩
 | .sl _ t=>VT.bel_ex t
 | .st k=>⟨k+1,by simp [VT.bel,Nat.blt_eq]⟩
 | .pt t=>VT.bel_ex t
 | .ic _ t=>VT.bel_ex t
 | .mp _ _=>⟨0,rfl⟩
theorem TE.ogw (t:VT):OG (T.w t):=by
 obtain ⟨n,hn⟩:=VT.bel_ex t
 exact sA (n:=n) (fun k hk=>TE.og T (k+1) k (Nat.lt_succ_self _)) t hn
end
theorem St.lend2 {g h:Heap} {M:Nat→Prop} {Γ:List Ch} (Γ1:List Ch) (S:St g M (Γ1++Γ) h):∃ (fp:List Nat) (f1 f2:List (List Nat)),fp=f1.flatten∧Cs h Γ1 f1∧St h (fun o=>o∈fp) Γ1 h∧Cs h Γ f2∧(∀ f,f∈f2→∀ o,o∈f→o∉fp)∧(∀ o,o∈fp→M o∨g.n≤o)∧∀ Γ' h',St h (fun o=>o∈fp) Γ' h'→St g M (Γ'++Γ) h':=by
 obtain ⟨fps,h1,h2,h3⟩:=S.ex
 obtain ⟨f1,f2,rfl,k1,k2⟩:=fN h1
 rw [List.pairwise_append] at h2
 obtain ⟨d1,d2,d3⟩:=h2
 refine ⟨f1.flatten,f1,f2,rfl,k1,⟨HZ.refl _,Nat.le_refl _,fun _ _ _ hy=>hy,f1,k1,d1,fun f hf o ho=>.inl (List.mem_flatten.2 ⟨f,hf,ho⟩)⟩,k2,?_,?_,fun Γ' h' T=>?_⟩
 ·intro f hf o ho hm
  obtain ⟨f',hf',ho'⟩:=List.mem_flatten.1 hm
  exact d3 f' hf' f hf o ho' ho
 ·intro o ho
  obtain ⟨f',hf',ho'⟩:=List.mem_flatten.1 ho
  exact h3 f' (List.mem_append_left _ hf') o ho'
 obtain ⟨f3,q1,q2,q3⟩:=T.ex
 have same:∀ f,f∈f2→∀ o,o∈f→h'.get o=h.get o:=fun f hf o ho=>by
  obtain ⟨y,hy⟩:=tP k2 f hf o ho
  rw [hy]
  refine T.old o y (fun hm=>?_) hy
  obtain ⟨f',hf',ho'⟩:=List.mem_flatten.1 hm
  exact d3 f' hf' f hf o ho' ho
 refine ⟨S.hz.trans T.hz,Nat.le_trans S.n T.n,fun o y hm hy=>?_,f3++f2,q1.append (nZ T.hz k2 same),?_,?_⟩
 ·refine T.old o y (fun hf=>?_) (S.old o y hm hy)
  obtain ⟨f',hf',ho'⟩:=List.mem_flatten.1 hf
  rcases h3 f' (List.mem_append_left _ hf') o ho' with hh | hh
  ·exact hm hh
  have:=get_lt hy; omega
 ·rw [List.pairwise_append]
  refine ⟨q2,d2,fun a ha b hb o hoa hob=>?_⟩
  rcases q3 a ha o hoa with hh | hn
  ·obtain ⟨f',hf',ho'⟩:=List.mem_flatten.1 hh
   exact d3 f' hf' b hb o ho' hob
  obtain ⟨y,hy⟩:=tP k2 b hb o hob
  have:=get_lt hy
  omega
 intro f hf o ho
 rcases List.mem_append.1 hf with hf | hf
 ·rcases q3 f hf o ho with hh | hn
  ·obtain ⟨f',hf',ho'⟩:=List.mem_flatten.1 hh
   exact h3 f' (List.mem_append_left _ hf') o ho'
  exact .inr (Nat.le_trans S.n hn)
 exact h3 f (List.mem_append_right _ hf) o ho
def emC:Ch where
 P _ fp:=fp=[]
 nd:=by rintro _ _ rfl; simp
 bd:=by rintro _ _ rfl o ho; cases ho
 stay:=fun e _ _=>e
theorem St.addEm {g h:Heap} {M:Nat→Prop} {Γ:List Ch} (S:St g M Γ h):St g M (emC::Γ) h:=S.addE (c:=emC) rfl
end Go.Am
namespace Go.Am
open Go
theorem aW {α:Type}:∀ (l:List α) (n:Nat),nth l n=l[n]?
 | [],n=>by simp [nth]
 | x::l,0=>by simp [nth]
 | x::l,n+1=>by simp only [nth,List.getElem?_cons_succ]; exact aW l n
theorem cR {α:Type} (l:List α) (k j:Nat) (x:α) (h:j≠k):nth (l.set k x) j=nth l j:=by
 rw [aW,aW,List.getElem?_set_ne (Ne.symm h)]
theorem a8 {α:Type} {l:List α} {k:Nat} {x y:α} (h:nth l k=some y):nth (l.set k x) k=some x:=by
 rw [aW] at h
 rw [aW,List.getElem?_set_self (List.getElem?_eq_some_iff.1 h).1]
theorem aL {α:Type} {l m:List α} {k:Nat} {x:α} (h:nth l k=some x):nth (l++m) k=some x:=by
 rw [aW] at h ⊢
 rw [List.getElem?_append_left (List.getElem?_eq_some_iff.1 h).1,h]
theorem bn {α:Type} (l m:List α) (x:α):nth (l++x::m) l.length=some x:=by
 rw [aW]; simp
theorem eS {α β:Type} (f:α→β) (l:List α) (k:Nat):nth (l.map f) k=(nth l k).map f:=by
 rw [aW,aW,List.getElem?_map]
theorem gY {α:Type} {l:List α} {k:Nat} {x:α} (h:nth l k=some x):k < l.length:=by
 rw [aW] at h; exact (List.getElem?_eq_some_iff.1 h).1
theorem bH {α β:Type} {l:List α} {m:List β} (hl:l.length=m.length) {k:Nat} {x:β} (h:nth m k=some x):∃ y,nth l k=some y:=by
 have:=gY h
 exact ⟨l[k]'(by omega),by rw [aW,List.getElem?_eq_getElem]⟩
theorem mE {α β:Type} (f:α→β):∀ (l:List (Nat×α)) (k:Nat),lk (l.map fun x=>(x.1,f x.2)) k=(lk l k).map f
 | [],_=>rfl
 | (j,v)::l,k=>by
  simp only [List.map_cons,lk]
  cases Nat.beq j k
  ·simp only [cond_false]; exact mE f l k
  rfl
def Bo (g:Heap) (M:Nat→Prop):Hp:=fun o cs v=>Frz g o cs v∨(¬ M o∧dX g o cs v)
def zG (B:Hp) (h:Heap):Bool→Hp
 | true=>Frz h
 | false=>B
theorem iC {B:Hp} {h h':Heap} (hz:HZ h h'):∀ z,Hp.le (zG B h z) (zG B h' z)
 | true=>hz
 | false=>Hp.le_refl _
theorem Bo.le {g h:Heap} {M:Nat→Prop} {Γ:List Ch} (S:St g M Γ h):Hp.le (Bo g M) (dX h):=by
 rintro o cs v (hf | ⟨hm,w,hg⟩)
 ·exact ⟨_,S.hz _ _ _ hf⟩
 exact ⟨w,S.old _ _ hm hg⟩
theorem zG.le {g h:Heap} {M:Nat→Prop} {Γ:List Ch} (S:St g M Γ h):∀ z,Hp.le (zG (Bo g M) h z) (dX h)
 | true=>lH h
 | false=>Bo.le S
section
variable {T:TE}
def cg (B:Hp) (ms:List AV) (h:Heap):W T→AV→Prop
 | .bad,_=>True
 | .c v,a=>a=v
 | .d z t x,a=>(T.r t).R (zG B h z) [a] x
 | .b p i,a=>a=.bool (@decide p i)
 | .r k,a=>nth ms k=some a
 | .ic n k,a=>∃ p,nth ms k=some p∧p.flat=true∧a=.iface n p
 | .ptr k off,a=>∃ o v,nth ms k=some (.ptr o v 0)∧a=.ptr o v off
 | .el _ _ _ _ _,_=>False
 | .fn f ks,a=>∃ cs,a=.func f cs∧All2 (fun k c=>∃ o v,nth ms k=some (.ptr o v 0)∧c=.ptr o v 0) ks cs
 | .ed z t x off,a=>∃ o v base row,zG B h z o row v∧base+T.cells t≤row.length∧(T.r t).R (zG B h z) ((row.drop base).take (T.cells t)) x∧a=.ptr o v (base+off)
def hY (B:Hp) (ms:List AV) (h:Heap) (w:W T) (a:AV):Prop:=cg B ms h w a∧a.flat=true
def slq (t:VT) (l:List (T.D t)) (p:Part T):Prop:=p=.sl t l∨∃ i j,p=.ho t l i j
def bF (B:Hp) (ps:List (Part T)) (ms:List AV) (h:Heap):W T→AV→Prop
 | .el k t i x off,a=>∃ b l,nth ms k=some b∧(∃ p,lkP ps k=some p∧slq t l p)∧(∃ y,idx l i=some y∧∀ z,x=some z→z=y)∧a=(b.at (i.toNat * T.cells t)).padd off
 | w,a=>cg B ms h w a
def kQ (B:Hp) (ps:List (Part T)) (ms:List AV) (h:Heap) (w:W T) (a:AV):Prop:=bF B ps ms h w a∧a.flat=true
def fR (B:Hp) (ps:List (Part T)) (ms:List AV) (h:Heap):V1 T→AV→Prop
 | .w w,a=>kQ B ps ms h w a
 | .agg ws,a=>∃ cs,a=.agg cs∧All2 (kQ B ps ms h) ws cs
def qA (B:Hp) (ms:List AV) (h:Heap):V1 T→AV→Prop
 | .w w,a=>hY B ms h w a
 | .agg ws,a=>∃ cs,a=.agg cs∧All2 (hY B ms h) ws cs
def cJ (B:Hp) (ps:List (Part T)) (ms:List AV) (h:Heap):SV T→AV→Prop
 | .v x,a=>fR B ps ms h x a
 | .ro x,a=>qA B ms h x a
 | .tup l,a=>∃ vs,a=.tuple vs∧All2 (fR B ps ms h) l vs
 | .un,a=>a=.undef
theorem aK {B:Hp} {ms xs:List AV} {h h':Heap} (hz:HZ h h'):∀ (w:W T) {a:AV},cg B ms h w a→cg B (ms++xs) h' w a
 | .bad,_,r=>r
 | .c v,_,r=>r
 | .d z t x,_,r=>(T.r t).mono (iC hz z) r
 | .b p i,_,r=>r
 | .r k,_,r=>aL r
 | .ic n k,_,⟨p,r1,r2,r3⟩=>⟨p,aL r1,r2,r3⟩
 | .ptr k off,_,⟨o,v,r1,r2⟩=>⟨o,v,aL r1,r2⟩
 | .el _ _ _ _ _,_,r=>r.elim
 | .ed z t x off,_,⟨o,v,base,row,r1,r2,r3,r4⟩=>⟨o,v,base,row,iC hz z _ _ _ r1,r2,(T.r t).mono (iC hz z) r3,r4⟩
 | .fn f ks,_,⟨cs,e,r⟩=>⟨cs,e,r.imp fun k c ⟨o,v,h1,h2⟩=>⟨o,v,aL h1,h2⟩⟩
theorem cS {B:Hp} {ms:List AV} {h h':Heap} (hz:HZ h h') (w:W T) {a:AV} (r:cg B ms h w a):cg B ms h' w a:=by
 have:=aK (xs:=[]) hz w r
 rwa [List.append_nil] at this
theorem d5 {B:Hp} {ps:List (Part T)} {ms:List AV} {h:Heap}:∀ {w:W T} {a:AV},cg B ms h w a→bF B ps ms h w a
 | .bad,_,r=>r
 | .c v,_,r=>r
 | .d z t x,_,r=>r
 | .b p i,_,r=>r
 | .r k,_,r=>r
 | .ic n k,_,r=>r
 | .ptr k off,_,r=>r
 | .el _ _ _ _ _,_,r=>r.elim
 | .ed z t x off,_,r=>r
 | .fn _ _,_,r=>r
theorem dM {B:Hp} {ps ps':List (Part T)} {ms ms':List AV} {h h':Heap} {f:W T→W T} {w:W T} {a:AV} (r:bF B ps ms h w a)
  (hC:∀ w a,cg B ms h w a→cg B ms' h' (f w) a) (hE:∀ k t i x off a,bF B ps ms h (.el k t i x off) a→bF B ps' ms' h' (f (.el k t i x off)) a):bF B ps' ms' h' (f w) a:=by
 cases w with
 | el k t i x off=>exact hE _ _ _ _ _ _ r
 | _=>exact d5 (hC _ _ r)
theorem lc {B:Hp} {ps ps':List (Part T)} {ms ms':List AV} {h h':Heap} {f:W T→W T} (hw:∀ w a,bF B ps ms h w a→bF B ps' ms' h' (f w) a):∀ {x:V1 T} {a:AV},fR B ps ms h x a→fR B ps' ms' h' (x.map f) a
 | .w w,a,⟨r1,r2⟩=>⟨hw _ _ r1,r2⟩
 | .agg ws,a,⟨cs,e,r⟩=>⟨cs,e,by
  clear e
  induction r with
  | nil=>exact .nil
  | cons p t ih=>exact .cons ⟨hw _ _ p.1,p.2⟩ ih⟩
theorem yi {B:Hp} {ms ms':List AV} {h h':Heap} (hi:∀ (w:W T) a,cg B ms h w a→cg B ms' h' w a):∀ {x:V1 T} {a:AV},qA B ms h x a→qA B ms' h' x a
 | .w w,a,⟨r1,r2⟩=>⟨hi _ _ r1,r2⟩
 | .agg ws,a,⟨cs,e,r⟩=>⟨cs,e,r.imp fun w a k=>⟨hi _ _ k.1,k.2⟩⟩
theorem rQ {B:Hp} {ps ps':List (Part T)} {ms ms':List AV} {h h':Heap} {f:W T→W T} (hi:∀ (w:W T) a,cg B ms h w a→cg B ms' h' w a) (hw:∀ w a,bF B ps ms h w a→bF B ps' ms' h' (f w) a):∀ {x:SV T} {a:AV},cJ B ps ms h x a→cJ B ps' ms' h' (x.map f) a
 | .v x,a,r=>lc hw r
 | .un,a,r=>r
 | .ro x,a,r=>yi hi r
 | .tup l,a,⟨vs,e,r⟩=>⟨vs,e,by
  clear e
  induction r with
  | nil=>exact .nil
  | cons p t ih=>exact .cons (lc hw p) ih⟩
theorem A8 (x:V1 T):x.map id=x:=by cases x<;>simp [V1.map]
theorem yh (x:SV T):x.map id=x:=by cases x<;>simp [SV.map,A8]
theorem kY {B:Hp} {ps ps':List (Part T)} {ms ms':List AV} {h h':Heap} (hi:∀ (w:W T) a,cg B ms h w a→cg B ms' h' w a) (hw:∀ w a,bF B ps ms h w a→bF B ps' ms' h' w a) {x:SV T} {a:AV} (r:cJ B ps ms h x a):cJ B ps' ms' h' x a:=by
 have:=rQ (f:=id) hi hw r
 rwa [yh] at this
def D2 (B:Hp) (ms:List AV) (a:AV) (ws:List (W T)):Ch where
 P h fp:=∃ o v cs,a=.ptr o v 0∧fp=[o]∧h.get o=some (.row cs v true)∧All2 (hY B ms h) ws cs
 nd:=by rintro _ _ ⟨o,v,cs,_,rfl,_⟩; simp
 bd:=by rintro _ _ ⟨o,v,cs,_,rfl,hg,_⟩ p hp; rw [List.mem_singleton] at hp; subst hp; exact ⟨_,hg⟩
 stay:=by
  rintro h h' fp ⟨o,v,cs,e,rfl,hg,hr⟩ hs hz
  exact ⟨o,v,cs,e,rfl,by rw [hs _ (by simp)]; exact hg,hr.imp fun w a k=>⟨cS hz w k.1,k.2⟩⟩
def FI {α:Type} (ms:List AV) (j:Nat) (r:ORep α) (s:AV) (l:List α) (i:Nat):Ch where
 P h fp:=∃ c,nth ms j=some c∧(kP r s l i [c]).P h fp
 nd:=by rintro _ _ ⟨c,_,hP⟩; exact (kP r s l i [c]).nd hP
 bd:=by rintro _ _ ⟨c,_,hP⟩; exact (kP r s l i [c]).bd hP
 stay:=by rintro _ _ _ ⟨c,e,hP⟩ hs hz; exact ⟨c,e,(kP r s l i [c]).stay hP hs hz⟩
def df (B:Hp) (ms:List AV) (a:AV):Part T→Ch
 | .dead=>emC
 | .sl t l=>own (T.w (.sl true t)) [a] l
 | .row ws=>D2 B ms a ws
 | .po t q=>own (T.w (.pt t)) [a] q
 | .io n t q=>own (T.w (.ic n t)) [a] q
 | .mp k v m=>own (T.w (.mp k v)) [a] m
 | .ho t l i j=>FI ms j (T.w t) a l i
 | .ro p=>df B ms a p
def chs (B:Hp) (ms:List AV):List AV→List (Part T)→List Ch
 | a::as,p::ps=>df B ms a p::chs B ms as ps
 | _,_=>[]
theorem iA {B:Hp} {ms:List AV}:∀ {as:List AV} {ps:List (Part T)} {k:Nat} {a:AV} {p:Part T},nth as k=some a→nth ps k=some p→(chs B ms as ps)[k]? = some (df B ms a p)
 | [],_,k,a,p,h,_=>by cases h
 | _::_,[],k,a,p,_,h=>by cases h
 | a0::as,p0::ps,0,a,p,h1,h2=>by cases h1; cases h2; rfl
 | a0::as,p0::ps,k+1,a,p,h1,h2=>by
  simp only [chs,List.getElem?_cons_succ]
  exact iA (k:=k) h1 h2
theorem nV {B:Hp} {ms:List AV}:∀ {as:List AV} {ps:List (Part T)} {k:Nat} {a:AV} (p:Part T),nth as k=some a→chs B ms as (ps.set k p)=(chs B ms as ps).set k (df B ms a p)
 | [],ps,k,a,p,h=>by cases h
 | a0::as,[],k,a,p,h=>by simp [chs]
 | a0::as,p0::ps,0,a,p,h=>by cases h; rfl
 | a0::as,p0::ps,k+1,a,p,h=>by
  simp only [List.set_cons_succ,chs]
  rw [nV (k:=k) p h]
theorem eg {B:Hp} {ms:List AV}:∀ {as:List AV} {ps:List (Part T)} (bs:List AV) (qs:List (Part T)),as.length=ps.length→chs B ms (as++bs) (ps++qs)=chs B ms as ps++chs B ms bs qs
 | [],[],bs,qs,_=>rfl
 | [],_::_,bs,qs,h=>by cases h
 | _::_,[],bs,qs,h=>by cases h
 | a::as,p::ps,bs,qs,h=>by
  simp only [List.cons_append,chs]
  rw [eg bs qs (Nat.succ.inj h)]
theorem All2.refl' {α:Type} {P:α→α→Prop} (hp:∀ a,P a a):∀ l:List α,All2 P l l
 | []=>.nil
 | a::l=>.cons (hp a) (All2.refl' hp l)
theorem St.imp {g h:Heap} {M:Nat→Prop} {Γ Γ':List Ch} (S:St g M Γ h) (hi:All2 (fun (c c':Ch)=>∀ fp,c.P h fp→c'.P h fp) Γ Γ'):St g M Γ' h:=by
 obtain ⟨fps,h1,h2,h3⟩:=S.ex
 refine ⟨S.hz,S.n,S.old,fps,?_,h2,h3⟩
 clear S h2 h3
 induction h1 generalizing Γ' with
 | nil=>cases hi; exact .nil
 | cons a t ih=>cases hi with
  | cons p q=>exact .cons (p _ a) (ih q)
theorem o8 {B:Hp} {ms ms':List AV} {h:Heap} (hi:∀ (w:W T) a,cg B ms h w a→cg B ms' h w a) {a:AV}:∀ (p:Part T) (fp:List Nat),(df B ms a p).P h fp→(df B ms' a p).P h fp
 | .dead,fp,k=>k
 | .sl t l,fp,k=>k
 | .po t q,fp,k=>k
 | .io n t q,fp,k=>k
 | .mp _ _ _,fp,k=>k
 | .ho _ _ _ j,fp,⟨c,e,k⟩=>⟨c,hi (.r j) _ e,k⟩
 | .ro p,fp,k=>o8 hi p fp k
 | .row ws,fp,⟨o,v,cs,e,e2,hg,hr⟩=>⟨o,v,cs,e,e2,hg,hr.imp fun w a k=>⟨hi _ _ k.1,k.2⟩⟩
theorem jC {B:Hp} {ms ms':List AV} {h:Heap} {f:W T→W T} (hi:∀ (w:W T) a,cg B ms h w a→cg B ms' h w a) (hC:∀ w a,cg B ms h w a→cg B ms' h (f w) a):∀ (as:List AV) (ps:List (Part T)),All2 (fun (c c':Ch)=>∀ fp,c.P h fp→c'.P h fp) (chs B ms as ps) (chs B ms' as (ps.map (Part.map f)))
 | [],_=>.nil
 | _::_,[]=>.nil
 | a::as,p::ps=>by
  refine .cons ?_ (jC hi hC as ps)
  cases p with
  | ro p=>exact o8 hi p
  | ho t l i j=>
   rintro fp ⟨c,e,k⟩
   have h1:=hC (.r j) c e
   have h2:=hi (.r j) c e
   refine ⟨c,?_,k⟩
   split
   ·rename_i j' hf; rw [hf] at h1; exact h1
   exact h2
  | row ws=>
   rintro fp ⟨o,v,cs,e,e2,hg,hr⟩
   refine ⟨o,v,cs,e,e2,hg,?_⟩
   clear hg
   induction hr with
   | nil=>exact .nil
   | cons p t ih=>exact .cons ⟨hC _ _ p.1,p.2⟩ ih
  | _=>exact fun fp k=>k
theorem vr {B:Hp} {ms ms':List AV} {h:Heap} {f:W T→W T} (hi:∀ (w:W T) a,cg B ms h w a→cg B ms' h w a) (hC:∀ w a,cg B ms h w a→cg B ms' h (f w) a) (as:List AV) (ps:List (Part T)):All2 (fun (c c':Ch)=>∀ fp,c.P h fp→c'.P h fp) (chs B ms as ps) (chs B ms' as (ps.map (Part.map f))):=jC hi hC as ps
theorem Part.map_id (p:Part T):p.map id=p:=by cases p<;>simp [Part.map]
theorem vU (ps:List (Part T)):ps.map (Part.map id)=ps:=by
 have:(Part.map id:Part T→Part T)=id:=funext Part.map_id
 rw [this]; simp
theorem vC {B:Hp} {ms:List AV} {h:Heap} (xs:List AV) (as:List AV) (ps:List (Part T)):All2 (fun (c c':Ch)=>∀ fp,c.P h fp→c'.P h fp) (chs B ms as ps) (chs B (ms++xs) as ps):=by
 have:=jC (B:=B) (ms:=ms) (ms':=ms++xs) (h:=h) (f:=id) (fun w a r=>aK (HZ.refl h) w r) (fun w a r=>aK (HZ.refl h) w r) as ps
 rwa [vU] at this
theorem rc {Γ:List Ch} {k:Nat} {c:Ch} (hk:Γ[k]? = some c) (d:Ch):(d::Γ).Perm (c::Γ.set k d):=by
 obtain ⟨hlt,rfl⟩:=List.getElem?_eq_some_iff.1 hk
 have e1:Γ=Γ.take k++Γ[k]::Γ.drop (k+1):=by simp
 have e2:Γ.set k d=Γ.take k++d::Γ.drop (k+1):=by
  rw [List.set_eq_take_append_cons_drop,if_pos hlt]
 rw [e2]
 have e3:Γ.Perm (Γ.take k++Γ[k]::Γ.drop (k+1)):=List.Perm.of_eq e1
 refine (List.Perm.cons d e3).trans ?_
 refine (List.Perm.cons d List.perm_middle).trans ((List.Perm.swap _ _ _).trans (List.Perm.cons _ List.perm_middle.symm))
theorem St.pull {g h:Heap} {M:Nat→Prop} {Δ:List Ch} {B:Hp} {ms:List AV} {as:List AV} {ps:List (Part T)} {k:Nat} {a:AV} {p:Part T} (S:St g M (Δ++chs B ms as ps) h) (ha:nth as k=some a) (hp:nth ps k=some p):St g M (df B ms a p::(Δ++chs B ms as (ps.set k .dead))) h:=by
 rw [nV .dead ha]
 have h1:(chs B ms as ps)[k]? = some (df B ms a p):=iA ha hp
 refine (S.addEm).perm ?_
 refine (List.Perm.trans (l₂:=Δ++emC::chs B ms as ps) List.perm_middle.symm ?_)
 refine ((rc h1 emC).append_left Δ).trans List.perm_middle
theorem kH {ps:List (Part T)} {k:Nat} {p:Part T} (h:lkP ps k=some p):∃ q,nth ps k=some q∧∀ (B:Hp) (ms:List AV) (a:AV),df B ms a q=df B ms a p:=by
 unfold lkP at h
 split at h
 ·rename_i q hq; cases h; exact ⟨_,hq,fun _ _ _=>rfl⟩
 exact ⟨_,h,fun _ _ _=>rfl⟩
theorem bi {ps:List (Part T)} {k:Nat} {p:Part T} (h:nth ps k=some p) (hr:∀ q,p≠.ro q):lkP ps k=some p:=by
 unfold lkP
 split
 ·rename_i q hq; rw [hq] at h; cases h; exact absurd rfl (hr _)
 exact h
theorem di {ps ps':List (Part T)} {k:Nat} (h:nth ps' k=nth ps k):lkP ps' k=lkP ps k:=by unfold lkP; rw [h]
theorem lg {ps qs:List (Part T)} {k:Nat} {p:Part T} (h:lkP ps k=some p):lkP (ps++qs) k=some p:=by
 obtain ⟨q,h1,_⟩:=kH h
 rw [di (ps:=ps) (by rw [aL h1,h1]),h]
theorem St.pullL {g h:Heap} {M:Nat→Prop} {Δ:List Ch} {B:Hp} {ms:List AV} {as:List AV} {ps:List (Part T)} {k:Nat} {a:AV} {p:Part T} (S:St g M (Δ++chs B ms as ps) h) (ha:nth as k=some a) (hp:lkP ps k=some p):St g M (df B ms a p::(Δ++chs B ms as (ps.set k .dead))) h:=by
 obtain ⟨q,h1,h2⟩:=kH hp
 rw [← h2]
 exact S.pull ha h1
theorem St.push' {g h:Heap} {M:Nat→Prop} {Δ:List Ch} {B:Hp} {ms:List AV} {as:List AV} {ps:List (Part T)} {k:Nat} {a:AV} {p:Part T} (S:St g M (df B ms a p::(Δ++chs B ms as ps)) h) (ha:nth as k=some a) (hp:nth ps k=some .dead):St g M (Δ++chs B ms as (ps.set k p)) h:=by
 rw [nV p ha]
 have h1:(chs B ms as ps)[k]? = some emC:=iA (B:=B) (ms:=ms) ha hp
 have S2:St g M (emC::(Δ++(chs B ms as ps).set k (df B ms a p))) h:=by
  refine S.perm ?_
  refine List.Perm.trans (l₂:=Δ++df B ms a p::chs B ms as ps) List.perm_middle.symm ?_
  exact ((rc h1 (df B ms a p)).append_left Δ).trans List.perm_middle
 exact S2.drop
structure VSim (g:Heap) (M:Nat→Prop) (Δ:List Ch) (s:VS T) (ms:List AV) (e:Env) (h:Heap):Prop where
 len:ms.length=s.ps.length
 st:St g M (Δ++chs (Bo g M) ms ms s.ps) h
 env:∀ k sv,lk s.e k=some sv→∃ v,e.get k=some v∧cJ (Bo g M) s.ps ms h sv v
end
end Go.Am
namespace Go.Am
open Go
section
variable {T:TE} {g:Heap} {M:Nat→Prop} {Δ:List Ch} {s:VS T} {ms:List AV} {e:Env} {h:Heap}
theorem C6 {B:Hp} {k:Nat} {t:VT} {l:List (T.D t)} {a:AV} {h:Heap} (ha:nth ms k=some a) (hf:(T.r (.sl false t)).R (Frz h) [a] l):∀ (w:W T) (c:AV),cg B ms h w c→cg B ms h (W.frz k t l w) c
 | .r j,c,r=>by
  simp only [W.frz]
  cases hj:Nat.beq j k with
  | false=>exact r
  | true=>
   obtain rfl:=Nat.eq_of_beq_eq_true hj
   have r:nth ms j=some c:=r
   rw [ha] at r
   cases r
   exact hf
 | .el _ _ _ _ _,c,r=>r.elim
 | .bad,_,r=>r
 | .c v,_,r=>r
 | .d z t x,_,r=>r
 | .b p i,_,r=>r
 | .ic n k,_,r=>r
 | .ptr k off,_,r=>r
 | .ed z t x off,_,r=>r
 | .fn _ _,_,r=>r
theorem EY {B:Hp} {k:Nat} {h:Heap}:∀ (w:W T) (c:AV),cg B ms h w c→cg B ms h (W.pur k w) c
 | .r j,c,r=>r
 | .el _ _ _ _ _,c,r=>r.elim
 | .bad,_,r=>r
 | .c v,_,r=>r
 | .d z t x,_,r=>r
 | .b p i,_,r=>r
 | .ic n k,_,r=>r
 | .ptr k off,_,r=>r
 | .ed z t x off,_,r=>r
 | .fn _ _,_,r=>r
theorem VSim.env_to (S:VSim g M Δ s ms e h) {f:W T→W T} {ps':List (Part T)} {ms':List AV} {h':Heap} (hi:∀ (w:W T) a,cg (Bo g M) ms h w a→cg (Bo g M) ms' h' w a) (hw:∀ w a,bF (Bo g M) s.ps ms h w a→bF (Bo g M) ps' ms' h' (f w) a):∀ k sv,lk (s.e.map fun x=>(x.1,x.2.map f)) k=some sv→∃ v,e.get k=some v∧cJ (Bo g M) ps' ms' h' sv v:=by
 intro k sv hk
 rw [mE (fun x=>SV.map f x)] at hk
 cases he:lk s.e k with
 | none=>rw [he] at hk; cases hk
 | some sv0=>
  rw [he] at hk
  cases hk
  obtain ⟨v,h1,h2⟩:=S.env k sv0 he
  exact ⟨v,h1,rQ hi hw h2⟩
theorem VSim.env_id (S:VSim g M Δ s ms e h) {ps':List (Part T)} {ms':List AV} {h':Heap} (hi:∀ (w:W T) a,cg (Bo g M) ms h w a→cg (Bo g M) ms' h' w a) (hw:∀ w a,bF (Bo g M) s.ps ms h w a→bF (Bo g M) ps' ms' h' w a):∀ k sv,lk s.e k=some sv→∃ v,e.get k=some v∧cJ (Bo g M) ps' ms' h' sv v:=by
 intro k sv hk
 obtain ⟨v,h1,h2⟩:=S.env k sv hk
 exact ⟨v,h1,kY hi hw h2⟩
theorem VSim.heap (S:VSim g M Δ s ms e h) {Δ':List Ch} {h':Heap} (hz:HZ h h') (S':St g M (Δ'++chs (Bo g M) ms ms s.ps) h'):VSim g M Δ' s ms e h':=
 ⟨S.len,S',S.env_id (fun w a r=>cS hz w r) fun w a r=>dM (f:=id) r (fun w a r=>cS hz w r) fun k t i x off a r=>r⟩
theorem VSim.with (S:VSim g M Δ s ms e h) {Δ':List Ch} (S':St g M (Δ'++chs (Bo g M) ms ms s.ps) h):VSim g M Δ' s ms e h:=S.heap (HZ.refl _) S'
theorem Bz {B:Hp} {ps:List (Part T)} {k:Nat} {p:Part T} {w:W T} {a:AV} (r:bF B ps ms h w a):bF B (ps.set k p) ms h (W.pur k w) a:=by
 refine dM r EY fun j t i x off a ⟨b,l,r1,r2,r3⟩=>?_
 simp only [W.pur]
 cases hj:Nat.beq j k with
 | true=>exact trivial
 | false=>exact ⟨b,l,r1,by rw [di (cR _ _ _ _ (Nat.ne_of_beq_eq_false hj))]; exact r2,r3⟩
theorem VSim.kill (S:VSim g M Δ s ms e h) {k:Nat} {p:Part T} {a:AV} (hp:nth s.ps k=some p) (ha:nth ms k=some a):VSim g M (df (Bo g M) ms a p::Δ) (s.kill k) ms e h:=
 ⟨by simp only [VS.kill,VS.pur,VS.set,List.length_set]; exact S.len,S.st.pull ha hp,S.env_to (fun _ _ r=>r) fun w a r=>Bz r⟩
theorem VSim.put {p:Part T} {k:Nat} {a:AV} (S:VSim g M (df (Bo g M) ms a p::Δ) s ms e h) (hp:nth s.ps k=some .dead) (ha:nth ms k=some a):VSim g M Δ (s.put k p) ms e h:=
 ⟨by simp only [VS.put,VS.pur,VS.set,List.length_set]; exact S.len,St.push' (Δ:=Δ) S.st ha hp,S.env_to (fun _ _ r=>r) fun w a r=>Bz r⟩
theorem vm {B:Hp} {ps:List (Part T)} {k:Nat} {p p0:Part T} (h0:lkP ps k=some p0) (hn:∀ t l,¬ slq t l p0) {w:W T} {a:AV} (r:bF B ps ms h w a):bF B (ps.set k p) ms h w a:=by
 refine dM (f:=id) r (fun _ _ r=>r) fun j t i x off a ⟨b,l,r1,r2,r3⟩=>?_
 refine ⟨b,l,r1,?_,r3⟩
 rw [di (cR _ _ _ _ fun hj=>?_)]
 ·exact r2
 subst hj
 obtain ⟨p',e,hs⟩:=r2
 rw [h0] at e; cases e; exact hn _ _ hs
theorem VSim.put0 {p:Part T} {k:Nat} {a:AV} (S:VSim g M (df (Bo g M) ms a p::Δ) s ms e h) (hp:nth s.ps k=some .dead) (ha:nth ms k=some a):VSim g M Δ (s.set k p) ms e h:=
 ⟨by simp only [VS.set,List.length_set]; exact S.len,St.push' (Δ:=Δ) S.st ha hp,S.env_id (fun _ _ r=>r) fun w a r=>vm (bi hp (fun _ e=>by cases e)) (fun _ _ e=>by rcases e with e | ⟨_,_,e⟩<;>cases e) r⟩
theorem uK {B:Hp} {ps qs:List (Part T)} {xs:List AV} {w:W T} {a:AV} (r:bF B ps ms h w a):bF B (ps++qs) (ms++xs) h w a:=
 dM (f:=id) r (fun w a r=>aK (HZ.refl _) w r) fun j t i x off a ⟨b,l,r1,r2,r3⟩=>⟨b,l,aL r1,(let ⟨p,h1,h2⟩:=r2; ⟨p,lg h1,h2⟩),r3⟩
theorem VSim.news {qs:List (Part T)} {xs:List AV} (S:VSim g M Δ s ms e h) (hl:xs.length=qs.length) {Δ':List Ch} (S':St g M (chs (Bo g M) (ms++xs) xs qs++(Δ'++chs (Bo g M) (ms++xs) ms s.ps)) h):VSim g M Δ' ⟨s.e,s.ps++qs⟩ (ms++xs) e h:=by
 refine ⟨by simp only [List.length_append,S.len,hl],?_,S.env_id (fun w a r=>aK (HZ.refl _) w r) fun w a r=>uK r⟩
 rw [eg _ _ S.len]
 refine S'.perm ?_
 rw [← List.append_assoc Δ']
 exact List.perm_append_comm
theorem St.more {Γ:List Ch} {B:Hp} (xs:List AV) {as:List AV} {ps:List (Part T)} (S:St g M (Γ++chs B ms as ps) h):St g M (Γ++chs B (ms++xs) as ps) h:=by
 refine S.imp ?_
 have:=vC (B:=B) (ms:=ms) (h:=h) xs as ps
 clear S
 induction Γ with
 | nil=>exact this
 | cons c Γ ih=>exact .cons (fun _ k=>k) ih
theorem VSim.new {p:Part T} {a:AV} (S:VSim g M (df (Bo g M) (ms++[a]) a p::Δ) s ms e h):VSim g M Δ (s.new p) (ms++[a]) e h:=
 S.news (xs:=[a]) (qs:=[p]) rfl (St.more (Γ:=_::Δ) [a] S.st)
theorem fq {ps:List (Part T)} {f:W T→W T} {k:Nat} {t:VT} {l:List (T.D t)} (h:∃ p,lkP ps k=some p∧slq t l p):∃ p,lkP (ps.map (Part.map f)) k=some p∧slq t l p:=by
 obtain ⟨p,h,hs⟩:=h
 unfold lkP at h ⊢
 rw [eS]
 split at h
 ·rename_i q hp; cases h; exact ⟨p,by rw [hp]; rfl,hs⟩
 rw [h]
 rcases hs with rfl | ⟨_,_,rfl⟩
 ·exact ⟨_,rfl,.inl rfl⟩
 exact ⟨_,rfl,.inr ⟨_,_,rfl⟩⟩
theorem VSim.frz2 (S:VSim g M Δ s ms e h) {k:Nat} {t:VT} {l:List (T.D t)} {a:AV} (hp:nth s.ps k=some (.sl t l)) (ha:nth ms k=some a):∃ hz,Fz h hz∧VSim g M Δ (s.frz k t l) ms e hz∧(T.r (.sl false t)).R (Frz hz) [a] l∧∀ w a,bF (Bo g M) s.ps ms h w a→bF (Bo g M) (s.frz k t l).ps ms hz (W.frz k t l w) a:=by
 have S1:=S.st.pull ha hp
 obtain ⟨hz,k1,S2⟩:=St.freeze (r:=T.w (.sl true t)) S1
 have hf:(T.r (.sl false t)).R (Frz hz) [a] l:=S2.fzr (.head _)
 have S3:=S2.drop
 have hw:∀ w a,bF (Bo g M) s.ps ms h w a→bF (Bo g M) (s.frz k t l).ps ms hz (W.frz k t l w) a:=fun w a r=>by
  refine dM r (fun w a r=>C6 ha hf w a (cS k1.hz w r)) fun j u i x off a ⟨b,l',r1,r2,r3⟩=>?_
  simp only [W.frz]
  cases hj:Nat.beq j k with
  | true=>exact trivial
  | false=>
   refine ⟨b,l',r1,?_,r3⟩
   show ∃ p,lkP ((s.ps.set k .dead).map (Part.map (W.frz k t l))) j=some p∧slq u l' p
   exact fq (by rw [di (cR _ _ _ _ (Nat.ne_of_beq_eq_false hj))]; exact r2)
 refine ⟨hz,k1,⟨by simp only [VS.frz,VS.sub,VS.set,List.length_set,List.length_map]; exact S.len,?_,S.env_to (fun w a r=>cS k1.hz w r) hw⟩,hf,hw⟩
 refine S3.imp ?_
 have:=jC (B:=Bo g M) (ms:=ms) (ms':=ms) (h:=hz) (f:=W.frz k t l) (fun _ _ r=>r) (fun w c r=>C6 ha hf w c r) ms (s.ps.set k .dead)
 clear S S1 S2 S3
 induction Δ with
 | nil=>exact this
 | cons c Γ ih=>exact .cons (fun _ k=>k) ih
theorem VSim.frz (S:VSim g M Δ s ms e h) {k:Nat} {t:VT} {l:List (T.D t)} {a:AV} (hp:nth s.ps k=some (.sl t l)) (ha:nth ms k=some a):∃ hz,Fz h hz∧VSim g M Δ (s.frz k t l) ms e hz∧(T.r (.sl false t)).R (Frz hz) [a] l:=by
 obtain ⟨hz,k1,k2,k3,_⟩:=S.frz2 hp ha
 exact ⟨hz,k1,k2,k3⟩
def ii (B:Hp) (ms:List AV) (h:Heap):W T→AV→Prop
 | .el _ _ _ _ _,_=>True
 | w,a=>cg B ms h w a
theorem pF {B:Hp}:∀ {w:W T} {a:AV},cg B ms h w a→ii B ms h w a
 | .el _ _ _ _ _,_,r=>trivial
 | .bad,_,r=>r
 | .c v,_,r=>r
 | .d z t x,_,r=>r
 | .b p i,_,r=>r
 | .r k,_,r=>r
 | .ic n k,_,r=>r
 | .ptr k off,_,r=>r
 | .ed z t x off,_,r=>r
 | .fn _ _,_,r=>r
theorem g9 {B:Hp} {ps:List (Part T)}:∀ {w:W T} {a:AV},bF B ps ms h w a→ii B ms h w a
 | .el _ _ _ _ _,_,r=>trivial
 | .bad,_,r=>r
 | .c v,_,r=>r
 | .d z t x,_,r=>r
 | .b p i,_,r=>r
 | .r k,_,r=>r
 | .ic n k,_,r=>r
 | .ptr k off,_,r=>r
 | .ed z t x off,_,r=>r
 | .fn _ _,_,r=>r
theorem lL {B:Hp} {h':Heap} (hz:HZ h h'):∀ {w:W T} {a:AV},ii B ms h w a→ii B ms h' w a
 | .el _ _ _ _ _,_,r=>trivial
 | .bad,_,r=>r
 | .c v,_,r=>r
 | .d z t x,_,r=>cS (ms:=ms) hz (.d z t x) r
 | .b p i,_,r=>r
 | .r k,_,r=>r
 | .ic n k,_,r=>r
 | .ptr k off,_,r=>r
 | .ed z t x off,_,r=>cS (ms:=ms) hz (.ed z t x off) r
 | .fn _ _,_,r=>r
structure Ro (s s':VS T):Prop where
 e:∀ k x,lk s.e k=some (.ro x)→lk s'.e k=some (.ro x)
 p:∀ k p,nth s.ps k=some (.ro p)→nth s'.ps k=some (.ro p)
theorem Ro.refl (s:VS T):Ro s s:=⟨fun _ _ h=>h,fun _ _ h=>h⟩
theorem Ro.trans {a b c:VS T} (x:Ro a b) (y:Ro b c):Ro a c:=⟨fun k v h=>y.e _ _ (x.e k v h),fun k p h=>y.p _ _ (x.p k p h)⟩
theorem my {f:W T→W T} {en:qa T} {k:Nat} {x:V1 T} (h:lk en k=some (.ro x)):lk (en.map fun x=>(x.1,x.2.map f)) k=some (.ro x):=by
 rw [mE (fun x=>SV.map f x),h]; rfl
theorem kd {ps:List (Part T)} {k j:Nat} {q p0 p:Part T} (h0:nth ps k=some p0) (hn:∀ q,p0≠.ro q) (h:nth ps j=some (.ro p)):nth (ps.set k q) j=some (.ro p):=by
 by_cases hj:j=k
 ·subst hj; rw [h0] at h; cases h; exact absurd rfl (hn _)
 rwa [cR _ _ _ _ hj]
theorem Ro.kill {s:VS T} {k:Nat} {p0:Part T} (h0:nth s.ps k=some p0) (hn:∀ q,p0≠.ro q):Ro s (s.kill k):=⟨fun j x h=>my h,fun j p h=>kd h0 hn h⟩
theorem Ro.setP {s:VS T} {k:Nat} {p0 q:Part T} (h0:nth s.ps k=some p0) (hn:∀ q,p0≠.ro q):Ro s (s.set k q):=⟨fun j x h=>h,fun j p h=>kd h0 hn h⟩
theorem Ro.frz {s:VS T} {k:Nat} {t u:VT} {l:List (T.D t)} {m:List (T.D u)} (h0:nth s.ps k=some (.sl t l)):Ro s (s.frz k u m):=⟨fun j x h=>my h,fun j p h=>by
 show nth ((s.ps.set k .dead).map (Part.map (W.frz k u m))) j=_
 rw [eS,kd h0 (fun _ e=>by cases e) h]; rfl⟩
theorem Ro.app (s:VS T) (qs:List (Part T)):Ro s ⟨s.e,s.ps++qs⟩:=⟨fun j x h=>h,fun j p h=>aL h⟩
structure Trk (s s':VS T):Prop where
 len:s'.ps.length=s.ps.length
 sl:∀ k t l,nth s'.ps k=some (.sl t l)→nth s.ps k=some (.sl t l)
 ro:Ro s s'
theorem Trk.refl (s:VS T):Trk s s:=⟨rfl,fun _ _ _ h=>h,Ro.refl s⟩
theorem Trk.trans {a b c:VS T} (x:Trk a b) (y:Trk b c):Trk a c:=⟨y.len.trans x.len,fun k t l h=>x.sl k t l (y.sl k t l h),x.ro.trans y.ro⟩
theorem jj {ps:List (Part T)} {k j:Nat} {t:VT} {l:List (T.D t)} (h:nth (ps.set k .dead) j=some (.sl t l)):nth ps j=some (.sl t l):=by
 by_cases hj:j=k
 ·subst hj
  cases hn:nth ps j with
  | none=>
   exfalso
   have:=gY h
   rw [aW] at hn
   rw [List.length_set] at this
   rw [List.getElem?_eq_getElem this] at hn
   cases hn
  | some p=>rw [a8 hn] at h; cases h
 rwa [cR _ _ _ _ hj] at h
theorem Trk.kill {s:VS T} {k:Nat} {p0:Part T} (h0:nth s.ps k=some p0) (hn:∀ q,p0≠.ro q):Trk s (s.kill k):=⟨by simp [VS.kill,VS.pur,VS.set],fun j t l h=>jj h,Ro.kill h0 hn⟩
theorem Trk.frz {s:VS T} {k:Nat} {t0:VT} {l0:List (T.D t0)} (h0:nth s.ps k=some (.sl t0 l0)) (u:VT) (m:List (T.D u)):Trk s (s.frz k u m):=⟨by simp [VS.frz,VS.sub,VS.set],fun j t l h=>by
 have h:nth ((s.ps.set k .dead).map (Part.map (W.frz k u m))) j=_:=h
 rw [eS] at h
 cases hn:nth (s.ps.set k .dead) j with
 | none=>rw [hn] at h; cases h
 | some p=>
  rw [hn] at h
  cases p<;>simp only [Option.map,Part.map,Option.some.injEq,reduceCtorEq] at h
  rw [h] at hn
  exact jj hn,Ro.frz h0⟩
theorem bk {R:Type} {t u:VT} {x:T.D t} {K:T.D u→Option R} {r:R} (h:cast1 x u K=some r):∃ e:t=u,K (e▸x)=some r:=by
 unfold cast1 at h
 split at h
 ·rename_i e; exact ⟨e,h⟩
 cases h
theorem aO {R:Type} {t u:VT} {x:List (T.D t)} {K:List (T.D u)→Option R} {r:R} (h:db x u K=some r):∃ e:t=u,K (e▸x)=some r:=by
 unfold db at h
 split at h
 ·rename_i e; exact ⟨e,h⟩
 cases h
theorem cM {R:Type} {t u:VT} {x:Option (T.D t)} {K:Option (T.D u)→Option R} {r:R} (h:kR x u K=some r):∃ e:t=u,K (e▸x)=some r:=by
 unfold kR at h
 split at h
 ·rename_i e; exact ⟨e,h⟩
 cases h
theorem St.rowOpen {Γ:List Ch} {B:Hp} {a:AV} {ws:List (W T)} (S:St g M (D2 B ms a ws::Γ) h):∃ o v cs,a=.ptr o v 0∧All2 (hY B ms h) ws cs∧St g M (fJ o cs v::Γ) h:=by
 obtain ⟨fp,⟨o,v,cs,rfl,rfl,hg,hr⟩,k⟩:=S.turn1
 exact ⟨o,v,cs,rfl,hr,k h (fJ o cs v) [o] (HZ.refl _) (Nat.le_refl _) (fun _ _ _ hy=>hy) ⟨rfl,hg⟩ (fun p hp=>.inl hp)⟩
theorem St.rowClose {Γ:List Ch} {B:Hp} {o v:Nat} {cs:List AV} {ws:List (W T)} (hr:All2 (hY B ms h) ws cs) (S:St g M (fJ o cs v::Γ) h):St g M (D2 B ms (.ptr o v 0) ws::Γ) h:=by
 obtain ⟨fp,⟨rfl,hg⟩,k⟩:=S.turn1
 exact k h (D2 B ms (.ptr o v 0) ws) [o] (HZ.refl _) (Nat.le_refl _) (fun _ _ _ hy=>hy) ⟨o,v,cs,rfl,rfl,hg,hr⟩ (fun p hp=>.inl hp)
theorem Af {Γ:List Ch} {t:VT} (ht:t.leaf=true) {cs:List AV} {x:T.D t} (S:St g M (own (T.w t) cs x::Γ) h):St g M (own (oHL T.o (T.lv t)) cs (T.un t x)::Γ) h:=by
 have key:St g M (own (oHL T.o [t]) cs (x,())::Γ) h:=by
  have S2:=(S.add (r:=rU) (cs:=[]) (x:=()) rfl).swap.pair
  rw [List.append_nil] at S2
  exact S2
 cases t<;>first | exact key | cases ht
theorem zr {Γ:List Ch} {t:VT} (ht:t.leaf=true) {cs:List AV} {x:T.H (T.lv t)} (S:St g M (own (oHL T.o (T.lv t)) cs x::Γ) h):St g M (own (T.w t) cs (T.re t x)::Γ) h:=by
 have key:∀ x:T.H [t],St g M (own (oHL T.o [t]) cs x::Γ) h→St g M (own (T.w t) cs x.1::Γ) h:=fun x S=>by
  obtain ⟨a,b,e,_,hb,S⟩:=S.unpair
  have hb:b=[]:=List.eq_nil_of_length_eq_zero hb
  subst hb
  rw [List.append_nil] at e
  subst e
  exact S.swap.drop
 cases t<;>first | exact key x S | cases ht
theorem St.unW {Γ:List Ch} {t:VT} {cs:List AV} {x:T.D t} (S:St g M (own (T.w t) cs x::Γ) h):St g M (own (oHL T.o (T.lv t)) cs (T.un t x)::Γ) h:=by
 cases t with
 | st k=>
  have e:T.w (.st k)=qT (oHL T.o (T.fl k)) (T.to k):=T.o_eq k
  rw [e] at S
  exact S
 | _=>exact Af rfl S
theorem St.reW {Γ:List Ch} {t:VT} {cs:List AV} {x:T.H (T.lv t)} (S:St g M (own (oHL T.o (T.lv t)) cs x::Γ) h):St g M (own (T.w t) cs (T.re t x)::Γ) h:=by
 cases t with
 | st k=>
  have e:T.w (.st k)=qT (oHL T.o (T.fl k)) (T.to k):=T.o_eq k
  rw [e]
  exact S.iso (f:=T.to k) (T.to_of k x)
 | _=>exact zr rfl S
theorem qc {α:Type} {r:ORep α}:∀ {h:Heap} {els:List (List AV)} {l:List α} {fps:List (List Nat)},All3 (r.O h) els l fps→fps.flatten.Nodup→∃ h',Fz h h'∧(∀ o,o∉fps.flatten→h'.get o=h.get o)∧All2 (r.rep.R (Frz h')) els l
 | h,_,_,_,.nil,_=>⟨h,Fz.refl _,fun _ _=>rfl,.nil⟩
 | h,_,_,_,@All3.cons _ _ _ _ c x f cs xs fs a t,hn=>by
  rw [List.flatten_cons] at hn
  obtain ⟨n1,n2,n3⟩:=bX hn
  obtain ⟨h1,k1,k2,k3⟩:=r.frz a
  obtain ⟨h2,q1,q2,q3⟩:=qc (t.stay (fun o ho=>k2 o fun hf=>n3 o hf ho) k1.hz) n2
  refine ⟨h2,k1.trans q1,fun o ho=>?_,.cons (r.rep.mono q1.hz k3) q3⟩
  rw [List.flatten_cons,List.mem_append] at ho
  rw [q2 o (fun hf=>ho (.inr hf)),k2 o (fun hf=>ho (.inl hf))]
theorem St.inner {Γ:List Ch} {h:Heap} {α:Type} {r:ORep α} {a:AV} {l:List α} (S:St g M (own (oSl r) [a] l::Γ) h):∃ hz,Fz h hz∧St g M (own (oSl (fz r.rep)) [a] l::Γ) hz:=by
 obtain ⟨fp,⟨s,e,hP⟩,k⟩:=S.turn1
 cases e
 rcases hP with ⟨rfl,rfl,rfl⟩ | ⟨o,v,off,row,els,fps,rfl,hg,h3,h4,h5,rfl,h7⟩
 ·exact ⟨h,Fz.refl _,k h (own (oSl (fz r.rep)) [.nilSlice] []) [] (HZ.refl _) (Nat.le_refl _) (fun _ _ _ hy=>hy) ⟨_,rfl,.inl ⟨rfl,rfl,rfl⟩⟩ (fun o ho=>by cases ho)⟩
 obtain ⟨hn1,hn2⟩:=List.nodup_cons.1 h7
 obtain ⟨h',k1,k2,k3⟩:=qc h5 hn2
 have a3:∀ {els:List (List AV)} {l:List α},All2 (r.rep.R (Frz h')) els l→All3 ((fz r.rep).O h') els l (l.map fun _=>[]):=by
  intro els l a
  induction a with
  | nil=>exact .nil
  | cons p q ih=>exact .cons ⟨rfl,p⟩ ih
 have fl:∀ l:List α,(l.map fun _=>([]:List Nat)).flatten=[]:=by intro l; induction l<;>simp_all
 refine ⟨h',k1,k h' (own (oSl (fz r.rep)) [.slice o v off l.length r.rep.z] l) [o] k1.hz (by rw [k1.n]; exact Nat.le_refl _) (fun p y hp hy=>by rw [k2 p fun hf=>hp (List.mem_cons_of_mem _ hf)]; exact hy) ?_ (fun p hp=>.inl (by rw [List.mem_singleton] at hp; subst hp; exact List.mem_cons_self ..))⟩
 exact ⟨_,rfl,.inr ⟨o,v,off,row,els,_,rfl,by rw [k2 o hn1]; exact hg,h3,h4,a3 k3,by rw [fl],by simp⟩⟩
theorem Di:∀ {a b:VT} (hk:a.mpOk b=true) (h:Heap),(own (T.w (.mp a b)) [.nilMap] none).P h []
 | .int a,.int b,_,h=>dr _ _ h
 | .int a,.bool,_,h=>dr _ _ h
 | .int a,.str,_,h=>dr _ _ h
 | .str,.int b,_,h=>dr _ _ h
 | .str,.bool,_,h=>dr _ _ h
 | .str,.str,_,h=>dr _ _ h
 | .int _,.sl _ _,hk,_=>by cases hk
 | .int _,.st _,hk,_=>by cases hk
 | .int _,.pt _,hk,_=>by cases hk
 | .int _,.ic _ _,hk,_=>by cases hk
 | .int _,.mp _ _,hk,_=>by cases hk
 | .str,.sl _ _,hk,_=>by cases hk
 | .str,.st _,hk,_=>by cases hk
 | .str,.pt _,hk,_=>by cases hk
 | .str,.ic _ _,hk,_=>by cases hk
 | .str,.mp _ _,hk,_=>by cases hk
 | .bool,_,hk,_=>by cases hk
 | .sl _ _,_,hk,_=>by cases hk
 | .st _,_,hk,_=>by cases hk
 | .pt _,_,hk,_=>by cases hk
 | .ic _ _,_,hk,_=>by cases hk
 | .mp _ _,_,hk,_=>by cases hk
end
end Go.Am
namespace Go.Am
open Go
section
variable {T:TE} {g:Heap} {M:Nat→Prop}
def TkQ {α:Type} {R:Type} (g:Heap) (M:Nat→Prop) (K:α→VS T→Option R) (r:R) (Δ:List Ch) (c:α→Ch) (s:VS T) (ms:List AV) (e:Env) (h:Heap):Prop:=
 ∃ x s' h',K x s'=some r∧Fz h h'∧VSim g M (c x::Δ) s' ms e h'∧Trk s s'
theorem VSim.fact {Δ:List Ch} {s:VS T} {ms:List AV} {e:Env} {h:Heap} (S:VSim g M Δ s ms e h) {α:Type} {r:Rep α} {cs:List AV} {x:α} (a:r.R (Frz h) cs x):VSim g M (own (fz r) cs x::Δ) s ms e h:=S.with (S.st.add a)
theorem VSim.none {Δ:List Ch} {s:VS T} {ms:List AV} {e:Env} {h:Heap} (S:VSim g M Δ s ms e h) {c:Ch} (a:c.P h []):VSim g M (c::Δ) s ms e h:=S.with (S.st.addE a)
theorem sZ {Δ:List Ch} {s:VS T} {ms:List AV} {e:Env} {h:Heap} {t:VT} {l:List (T.D t)} {i j k:Nat} {a c:AV} {q:T.D t} (S:VSim g M (own (T.w t) [c] q::Δ) s ms e h) (hp:nth s.ps k=some (.ho t l i j)) (ha:nth ms k=some a) (hc:nth ms j=some c):VSim g M (own (T.w (.sl true t)) [a] (l.set i q)::Δ) (s.kill k) ms e h:=by
 have S1:=S.kill hp ha
 have S2:VSim g M (kP (T.w t) a l i [c]::own (T.w t) [c] q::Δ) (s.kill k) ms e h:=S1.with (S1.st.imp (.cons (fun fp ⟨c',e',hP⟩=>by
  rw [hc] at e'; cases e'; exact hP) (All2.refl' (fun _ _ k=>k) _)))
 exact S2.with (St.back S2.st.swap)
theorem sm {R:Type} {E:Heap→Heap→Prop} (hE:∀ h,E h h) {gg:(t:VT)→Nat→VS T→(Option (T.D t)→VS T→Option R)→Option R}
  (hg:∀ (u:VT) (k:Nat) (s:VS T) (K:Option (T.D u)→VS T→Option R) (r:R),gg u k s K=some r→∀ {Δ:List Ch} {ms:List AV} {e:Env} {h:Heap} {a:AV},VSim g M Δ s ms e h→nth ms k=some a→∃ x s' h',K x s'=some r∧E h h'∧VSim g M (own (T.w (.pt u)) [a] x::Δ) s' ms e h'∧Trk s s') :
  ∀ {i j k:Nat} {s:VS T} (t:VT) (l:List (T.D t)) {K:(t:VT)→List (T.D t)→VS T→Option R} {r:R},hoF gg i j k s t l K=some r→∀ {Δ:List Ch} {ms:List AV} {e:Env} {h:Heap} {a:AV},VSim g M Δ s ms e h→nth s.ps k=some (.ho t l i j)→nth ms k=some a→
  ∃ t' l' s' h' i' j',K t' l' s'=some r∧E h h'∧VSim g M (own (T.w (.sl true t')) [a] l'::Δ) (s'.kill k) ms e h'∧nth s'.ps k=some (.ho t' i' j' j)∧Trk s s':=by
 intro i j k s t l K r hK Δ ms e h a S hp ha
 obtain ⟨fp,c,hc,_⟩:=(S.kill hp ha).st.mem (.head _)
 cases t with
 | pt u=>
  simp only [hoF] at hK
  obtain ⟨q,s1,h1,k1,k2,k3,k4⟩:=hg _ _ _ _ _ hK S hc
  split at k1
  ·rename_i t l i' j' hp1
   obtain ⟨e1,k5⟩:=aO k1
   clear k1
   subst e1
   dsimp only at k5
   cases hb:Nat.beq j' j with
   | false=>rw [hb] at k5; cases k5
   | true=>
    rw [hb,cond_true] at k5
    obtain rfl:=Nat.eq_of_beq_eq_true hb
    exact ⟨_,_,s1,h1,_,_,k5,k2,sZ k3 hp1 ha hc,hp1,k4⟩
  cases k1
 | sl o u=>
  cases o with
  | false=>simp only [hoF] at hK; cases hK
  | true=>
   simp only [hoF] at hK
   split at hK
   ·rename_i v q hq
    obtain ⟨rfl,hK⟩:=aO hK
    split at hK
    ·rename_i t l i' j' hp1
     obtain ⟨e1,k5⟩:=aO hK
     clear hK
     subst e1
     dsimp only at k5
     cases hb:Nat.beq j' j with
     | false=>rw [hb] at k5; cases k5
     | true=>
      rw [hb,cond_true] at k5
      obtain rfl:=Nat.eq_of_beq_eq_true hb
      exact ⟨_,_,s.kill j',h,_,_,k5,hE _,sZ (S.kill hq hc) hp1 ha hc,hp1,Trk.kill hq (fun _ e=>by cases e)⟩
    cases hK
   cases hK
 | _=>simp only [hoF] at hK; cases hK
theorem wg {R:Type} (u:VT) (k:Nat) (s:VS T) (K:Option (T.D u)→VS T→Option R) (r:R) (hK:poG u k s K=some r) {Δ:List Ch} {ms:List AV} {e:Env} {h:Heap} {a:AV} (S:VSim g M Δ s ms e h) (ha:nth ms k=some a):∃ x s' h',K x s'=some r∧h=h'∧VSim g M (own (T.w (.pt u)) [a] x::Δ) s' ms e h'∧Trk s s':=by
 unfold poG at hK
 split at hK
 ·rename_i t q hp
  obtain ⟨rfl,hK⟩:=cM hK
  exact ⟨q,_,h,hK,rfl,S.kill hp ha,Trk.kill hp (fun _ e=>by cases e)⟩
 cases hK
theorem Cq {R:Type} {gg:(t:VT)→Nat→VS T→(Option (T.D t)→VS T→Option R)→Option R}
  (hg:∀ (u:VT) (k:Nat) (s:VS T) (K:Option (T.D u)→VS T→Option R) (r:R),gg u k s K=some r→∀ {Δ:List Ch} {ms:List AV} {e:Env} {h:Heap} {a:AV},VSim g M Δ s ms e h→nth ms k=some a→TkQ g M K r Δ (own (T.w (.pt u)) [a]) s ms e h) :
  ∀ (t:VT) (w:W T) (s:VS T) (K:T.D t→VS T→Option R) (r:R),tk1 gg t w s K=some r→∀ {Δ:List Ch} {ms:List AV} {e:Env} {h:Heap} {a:AV},VSim g M Δ s ms e h→ii (Bo g M) ms h w a→TkQ g M K r Δ (own (T.w t) [a]) s ms e h:=by
 intro t w s K r hK Δ ms e h a S hr
 have sc:∀ {x:T.D t},K x s=some r→(∀ G,(T.w t).rep.R G [a] x)→T.w t=fz (T.w t).rep→TkQ g M K r Δ (own (T.w t) [a]) s ms e h:=fun {x} h1 h2 h3=>by
  refine ⟨x,s,h,h1,Fz.refl _,?_,Trk.refl _⟩
  rw [h3]
  exact S.fact (h2 _)
 cases t with
 | int k=>
  cases w<;>simp only [tk1] at hK<;>try cases hK
  rename_i z t x
  obtain ⟨rfl,hK⟩:=bk hK
  exact sc hK (fun G=>hr) rfl
 | bool=>
  cases w<;>simp only [tk1] at hK<;>try cases hK
  ·rename_i v
   cases v<;>simp only at hK<;>try cases hK
   rename_i b
   have hr:a=.bool b:=hr
   subst hr
   exact sc hK (fun G=>rfl) rfl
  ·rename_i z t x
   obtain ⟨rfl,hK⟩:=bk hK
   exact sc hK (fun G=>hr) rfl
  rename_i p i
  have hr:a=.bool (@decide p i):=hr
  subst hr
  exact sc hK (fun G=>rfl) rfl
 | str=>
  cases w<;>simp only [tk1] at hK<;>try cases hK
  rename_i z t x
  obtain ⟨rfl,hK⟩:=bk hK
  exact sc hK (fun G=>hr) rfl
 | sl o u=>
  have nil:∀ (b:Bool),(own (T.w (.sl b u)) [.nilSlice] []).P h []:=fun b=>by
   cases b
   ·exact ⟨rfl,_,rfl,.inl ⟨rfl,rfl⟩⟩
   exact ⟨_,rfl,.inl ⟨rfl,rfl,rfl⟩⟩
  cases o with
  | false=>
   cases w<;>simp only [tk1] at hK<;>try cases hK
   ·rename_i v
    cases v<;>simp only at hK<;>try cases hK
    have hr:a=.nilSlice:=hr
    subst hr
    exact ⟨[],s,h,hK,Fz.refl _,S.none (nil _),Trk.refl _⟩
   ·rename_i z t x
    cases z<;>cases t<;>first | (exfalso; simp at hK; done) | skip
    rename_i o t
    have hK:db x u (fun n=>K n s)=some r:=hK
    obtain ⟨rfl,hK⟩:=aO hK
    refine ⟨x,s,h,hK,Fz.refl _,S.fact (r:=rSl (T.w t).rep) ?_,Trk.refl _⟩
    cases o
    ·exact hr
    exact hr
   rename_i k
   split at hK
   ·rename_i t l hp
    obtain ⟨rfl,hK⟩:=aO hK
    have hr:nth ms k=some a:=hr
    obtain ⟨hz,k1,S2,hf⟩:=S.frz hp hr
    exact ⟨l,_,hz,hK,k1,S2.fact hf,Trk.frz hp _ _⟩
   cases hK
  | true=>
   cases w<;>simp only [tk1] at hK<;>try cases hK
   ·rename_i v
    cases v<;>simp only at hK<;>try cases hK
    have hr:a=.nilSlice:=hr
    subst hr
    exact ⟨[],s,h,hK,Fz.refl _,S.none (nil _),Trk.refl _⟩
   rename_i k
   split at hK
   ·rename_i t l hp
    have hr:nth ms k=some a:=hr
    unfold clO at hK
    split at hK
    ·rename_i v w l
     split at hK
     ·rename_i e
      subst e
      have S1:=S.kill hp hr
      obtain ⟨hz,k1,S2⟩:=St.inner (r:=T.w (.sl true v)) S1.st
      exact ⟨l,_,hz,hK,k1,S1.heap (Δ':=own (T.w (.sl true (.sl false v))) [a] l::Δ) k1.hz S2,Trk.kill hp (fun _ e=>by cases e)⟩
     cases hK
    obtain ⟨rfl,hK⟩:=aO hK
    exact ⟨_,_,h,hK,Fz.refl _,S.kill hp hr,Trk.kill hp (fun _ e=>by cases e)⟩
   ·rename_i t l i j hp
    have hr:nth ms k=some a:=hr
    obtain ⟨t',l',s1,h1,i1,j1,k1,k2,k3,hp1,k4⟩:=sm (fun _=>Fz.refl _) hg _ _ hK S hp hr
    unfold clO at k1
    split at k1
    ·rename_i v w l
     split at k1
     ·rename_i e
      subst e
      obtain ⟨hz,q1,S2⟩:=St.inner (r:=T.w (.sl true v)) k3.st
      exact ⟨l,_,hz,k1,k2.trans q1,k3.heap (Δ':=own (T.w (.sl true (.sl false v))) [a] l::Δ) q1.hz S2,k4.trans (Trk.kill hp1 (fun _ e=>by cases e))⟩
     cases k1
    obtain ⟨rfl,k1⟩:=aO k1
    exact ⟨_,_,h1,k1,k2,k3,k4.trans (Trk.kill hp1 (fun _ e=>by cases e))⟩
   cases hK
 | st k=>simp only [tk1] at hK; cases hK
 | pt u=>
  cases w<;>simp only [tk1] at hK<;>try cases hK
  ·rename_i v
   cases v<;>simp only at hK<;>try cases hK
   have hr:a=.nilPtr:=hr
   subst hr
   exact ⟨none,s,h,hK,Fz.refl _,S.none (uS _ _),Trk.refl _⟩
  ·exact hg _ _ _ _ _ hK S hr
  rename_i k off
  cases off<;>simp only at hK<;>try cases hK
  obtain ⟨o,v,h1,rfl⟩:=hr
  exact hg _ _ _ _ _ hK S h1
 | ic n u=>
  cases w<;>simp only [tk1] at hK<;>try cases hK
  ·rename_i v
   cases v<;>simp only at hK<;>try cases hK
   have hr:a=.nilIface:=hr
   subst hr
   exact ⟨none,s,h,hK,Fz.refl _,S.none (vE _ _ _),Trk.refl _⟩
  ·rename_i k
   split at hK
   ·rename_i m t q hp
    cases hm:Nat.beq m n with
    | false=>rw [hm] at hK; cases hK
    | true=>
     obtain rfl:=Nat.eq_of_beq_eq_true hm
     rw [hm,cond_true] at hK
     obtain ⟨rfl,hK⟩:=cM hK
     have hr:nth ms k=some a:=hr
     exact ⟨q,_,h,hK,Fz.refl _,S.kill hp hr,Trk.kill hp (fun _ e=>by cases e)⟩
   cases hK
  rename_i m k
  cases hm:Nat.beq m n with
  | false=>rw [hm] at hK; cases hK
  | true=>
   obtain rfl:=Nat.eq_of_beq_eq_true hm
   rw [hm] at hK
   obtain ⟨p,h1,_,rfl⟩:=hr
   obtain ⟨q,s',h',k1,k2,k3,k4⟩:=hg _ _ _ _ _ hK S h1
   exact ⟨q,s',h',k1,k2,k3.with (St.ifcClose (r:=T.w u) k3.st),k4⟩
 | mp x y=>
  cases w<;>simp only [tk1] at hK<;>try cases hK
  ·rename_i v
   cases v<;>simp only at hK<;>try cases hK
   cases hm:x.mpOk y with
   | false=>rw [hm] at hK; cases hK
   | true=>
    rw [hm] at hK
    have hr:a=.nilMap:=hr
    subst hr
    exact ⟨none,s,h,hK,Fz.refl _,S.none (Di hm h),Trk.refl _⟩
  rename_i k
  split at hK
  ·rename_i x' y' m hp
   obtain ⟨e,hK⟩:=bk hK
   cases e
   have hr:nth ms k=some a:=hr
   exact ⟨m,_,h,hK,Fz.refl _,S.kill hp hr,Trk.kill hp (fun _ e=>by cases e)⟩
  cases hK
theorem jP {R:Type}:∀ (n:Nat),(∀ (ts:List VT) (ws:List (W T)) (s:VS T) (K:T.H ts→VS T→Option R) (r:R),tks n ts ws s K=some r→∀ {Δ:List Ch} {ms:List AV} {e:Env} {h:Heap} {as:List AV},VSim g M Δ s ms e h→All2 (ii (Bo g M) ms h) ws as→TkQ g M K r Δ (own (oHL T.o ts) as) s ms e h)
  ∧ (∀ (u:VT) (k:Nat) (s:VS T) (K:Option (T.D u)→VS T→Option R) (r:R),tkP n u k s K=some r→∀ {Δ:List Ch} {ms:List AV} {e:Env} {h:Heap} {a:AV},VSim g M Δ s ms e h→nth ms k=some a→TkQ g M K r Δ (own (T.w (.pt u)) [a]) s ms e h)
 | 0=>⟨fun ts ws s K r hK=>(by simp only [tks] at hK; cases hK),fun u k s K r hK=>(by simp only [tkP] at hK; cases hK)⟩
 | n+1=>by
  obtain ⟨ih1,ih2⟩:=jP (R:=R) n
  refine ⟨fun ts ws s K r hK Δ ms e h as S hr=>?_,fun u k s K r hK Δ ms e h a S ha=>?_⟩
  ·cases ts with
   | nil=>
    cases ws with
    | nil=>
     simp only [tks] at hK
     cases hr
     exact ⟨(),s,h,hK,Fz.refl _,S.fact (r:=rU) rfl,Trk.refl _⟩
    | cons w ws=>simp only [tks] at hK; cases hK
   | cons t ts=>
    cases ws with
    | nil=>simp only [tks] at hK; cases hK
    | cons w ws=>
     simp only [tks] at hK
     cases hr with
     | cons p q=>
      obtain ⟨x,s1,h1,k1,k2,k3,k4⟩:=Cq ih2 _ _ _ _ _ hK S p
      obtain ⟨y,s2,h2,q1,q2,q3,q4⟩:=ih1 _ _ _ _ _ k1 k3 (q.imp fun w a k=>lL k2.hz k)
      exact ⟨(x,y),s2,h2,q1,k2.trans q2,q3.with (q3.st.swap.pair),k4.trans q4⟩
  simp only [tkP] at hK
  split at hK
  ·rename_i t q hp
   obtain ⟨rfl,hK⟩:=cM hK
   exact ⟨q,_,h,hK,Fz.refl _,S.kill hp ha,Trk.kill hp (fun _ e=>by cases e)⟩
  ·rename_i ws hp
   have S1:=S.kill hp ha
   obtain ⟨o,v,cs,rfl,hr,S2⟩:=St.rowOpen S1.st
   have S3:VSim g M (fJ o cs v::Δ) (s.kill k) ms e h:=S1.with S2
   obtain ⟨x,s2,h2,q1,q2,q3,q4⟩:=ih1 _ _ _ _ _ hK S3 (hr.imp fun w a k=>pF k.1)
   refine ⟨some (T.re u x),s2,h2,q1,q2,q3.with ?_,(Trk.kill hp (fun _ e=>by cases e)).trans q4⟩
   have S4:=(St.reW q3.st).swap
   exact S4.ptrClose
  cases hK
end
end Go.Am
