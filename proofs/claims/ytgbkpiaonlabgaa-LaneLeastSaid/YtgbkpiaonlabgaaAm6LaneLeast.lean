/- An abstract machine for the model's code, and that the model does what it does. No condition. Own work. -/
import Derived.Test.YtgbkpiaonlabgaaAm5LaneLeast
import Derived.ChangeArms
import Derived.Carry
import Derived.ChangeOld
import Derived.WideShapes
import Derived.ProofKit
set_option linter.unusedSimpArgs false
set_option linter.unusedVariables false
namespace Go.Am
open Go
inductive Ty where
 | any
 | int (k:IntKind)
 | bool
 | str
@[reducible] def Ty.T:Ty→Type
 | .any=>AV
 | .int _=>Int
 | .bool=>Bool
 | .str=>List UInt8
def Ty.mk:(t:Ty)→t.T→AV
 | .any,v=>v
 | .int k,n=>.int k n
 | .bool,b=>.bool b
 | .str,s=>.str s
def Ty.un:(t:Ty)→AV→Option t.T
 | .any,v=>some v
 | .int k,v=>match v with
  | .int k' n=>if k'=k then some n else none
  | _=>none
 | .bool,v=>match v with
  | .bool b=>some b
  | _=>none
 | .str,v=>match v with
  | .str s=>some s
  | _=>none
theorem Ty.un_mk {t:Ty} {v:AV} {x:t.T} (h:t.un v=some x):v=t.mk x:=by
 cases t with
 | any=>cases h; rfl
 | int k=>
  simp only [Ty.un] at h
  split at h
  ·split at h
   ·rename_i hk; cases h; subst hk; rfl
   cases h
  cases h
 | bool=>
  simp only [Ty.un] at h
  split at h
  ·cases h; rfl
  cases h
 | str=>
  simp only [Ty.un] at h
  split at h
  ·cases h; rfl
  cases h
abbrev Live:=List (Nat×Ty)
@[reducible] def Cur:Live→Type→Type
 | [],R=>R
 | (_,t)::l,R=>t.T→Cur l R
def curE {R:Type}:(l:Live)→(List (Nat×AV)→R)→Cur l R
 | [],g=>g []
 | (s,t)::l,g=>fun x=>curE l fun r=>g ((s,t.mk x)::r)
def appE:(l:Live)→Cur l (Heap→Prop)→Env→Heap→Prop
 | [],f,_,h=>f h
 | (s,t)::l,f,e,h=>match e.get s with
  | some v=>match t.un v with
   | some x=>appE l (f x) e h
   | none=>False
  | none=>False
inductive SO where
 | nil
 | op (dst:Option Nat) (k:AK) (xs:List Opd) (ty:Ty) (rest:SO)
 | grd (t:Nat) (w:Bool) (body rest:SO)
 | fz (rest:SO)
inductive SC where
 | skip
 | seq (a b:SC)
 | cond (c:Opd) (t f:SC)
 | block (id:Nat) (b:SC)
 | loop (live:Live) (xs:List Nat) (hr:Bool) (b:SC)
 | exit (id:Nat)
 | ret
 | region (s:SO)
 | dreg (s:SO)
 | dregp (s:SO) (ps:List (Nat×Nat))
 | fz (b:SC)
def SO.er:SO→Option (Nat×Bool)→List AOper
 | .nil,_=>[]
 | .op d k xs _ r,g=>⟨d,g,k,xs⟩::r.er g
 | .grd t w b r,g=>b.er (some (t,w))++r.er g
 | .fz r,g=>r.er g
def SC.er:SC→ACode
 | .skip=>.skip
 | .seq a b=>.seq a.er b.er
 | .cond c t f=>.cond c t.er f.er
 | .block id b=>.block id b.er
 | .loop _ _ _ b=>.loop b.er
 | .exit id=>.exit id
 | .ret=>.ret
 | .region s=>.region (s.er none)
 | .dreg s=>.dregion (s.er none) []
 | .dregp s ps=>.dregion (s.er none) ps
 | .fz b=>b.er
abbrev Opd.t (n:Nat):Opd:=.tmp n
abbrev Opd.i (n:Int):Opd:=.const (.int .i64 n)
abbrev SO.v (d s:Nat) (r:SO):SO:=.op (some d) (.p .mv) [.tmp s] .any r
abbrev SO.q (d:Nat) (k:POp) (xs:List Opd) (r:SO):SO:=.op (some d) (.p k) xs .any r
abbrev SO.l (d s:Nat) (y:Ty) (r:SO):SO:=.op (some d) (.r .load1) [.tmp s] y r
abbrev SO.a (d s off:Nat) (r:SO):SO:=.op (some d) (.p (.fieldAddr off)) [.tmp s] .any r
abbrev SO.n (d s:Nat) (r:SO):SO:=.op (some d) (.p .nilCheck) [.tmp s] .any r
abbrev SO.k (d f:Nat) (xs:List Opd) (y:Ty) (r:SO):SO:=.fz (.op (some d) (.call f) xs y r)
abbrev SO.w (n p x:Nat) (r:SO):SO:=.op none (.e (.store n)) [.tmp p,.tmp x] .any r
abbrev SC.sr (s:SO) (b:SC):SC:=.seq (.region s) b
abbrev SC.g (s:SO):SC:=.region s
def SO.noW (t:Nat):SO→Bool
 | .nil=>true
 | .op d _ _ _ r=>(match d with
  | some d=>!Nat.beq d t
  | none=>true)&&r.noW t
 | .grd _ _ b r=>b.noW t&&r.noW t
 | .fz r=>r.noW t
def memN (t:Nat):List Nat→Bool
 | []=>false
 | x::xs=>Nat.beq x t||memN t xs
def SO.skips:SO→List Nat→Bool
 | .nil,_=>true
 | .op d _ _ _ r,u=>r.skips (match d with
  | some d=>d::u
  | none=>u)
 | .grd t _ b r,u=>memN t u&&b.skips u&&r.skips u
 | .fz r,u=>r.skips u
def SO.undefE:SO→Env→Env
 | .nil,e=>e
 | .op d _ _ _ r,e=>r.undefE (putE e d .undef)
 | .grd _ _ b r,e=>r.undefE (b.undefE e)
 | .fz r,e=>r.undefE e
def oP {α:Type} (o:Option α) (K:α→Prop):Prop:=match o with
 | some v=>K v
 | none=>False
theorem oP_some {α:Type} {o:Option α} {K:α→Prop} (h:oP o K):∃ a,o=some a∧K a:=by
 cases o with
 | none=>exact h.elim
 | some a=>exact ⟨a,rfl,h⟩
theorem oI {α:Type} {o:Option α} {K:α→Prop} (a:α) (h:o=some a) (hk:K a):oP o K:=by rw [h]; exact hk
def ifP (c:Bool) (P:Prop):Prop:=match c with
 | true=>P
 | false=>False
theorem iI {c:Bool} {P:Prop}:ifP c P↔c=true∧P:=by cases c<;>simp [ifP]
def bP (c:Bool) (A B:Prop):Prop:=match c with
 | true=>A
 | false=>B
theorem bI {c:Bool} {A B:Prop} (ha:c=true→A) (hb:c=false→B):bP c A B:=by
 cases c with
 | true=>exact ha rfl
 | false=>exact hb rfl
def AV.isPtr:AV→Bool
 | .ptr _ _ _=>true
 | _=>false
def AV.padd (off:Nat):AV→AV
 | .ptr o v f=>.ptr o v (f+off)
 | p=>p
def tyW:Ty→AV→(AV→Prop)→Prop
 | .any,v,K=>K v
 | .int k,v,K=>∃ n,v=.int k n∧K (.int k n)
 | .bool,v,K=>∃ b,v=.bool b∧K (.bool b)
 | .str,v,K=>∃ s,v=.str s∧K (.str s)
theorem tyW_ok {t:Ty} {v:AV} {K:AV→Prop} (h:tyW t v K):K v:=by
 cases t with
 | any=>exact h
 | _=>obtain ⟨x,rfl,h⟩:=h; exact h
def exL:Nat→(List AV→Prop)→Prop
 | 0,P=>P []
 | n+1,P=>∃ c,exL n fun cs=>P (c::cs)
theorem exL_ok:∀ {n:Nat} {P:List AV→Prop},exL n P→∃ cs,P cs
 | 0,_,h=>⟨[],h⟩
 | n+1,_,⟨c,h⟩=>let ⟨cs,k⟩:=exL_ok h; ⟨c::cs,k⟩
def Heap.rd1 (h:Heap) (p:AV):Option AV:=ROp.ev .load1 [p] h
def Heap.rdN (h:Heap) (p:AV) (n:Nat):Option (List AV):=match p with
 | .ptr o v off=>h.cells o v off n
 | _=>none
def pwp1 (q:POp) (x:AV) (K:AV→Prop):Prop:=
 match q with
 | .mv=>K x
 | .lenSl=>ifP x.isSlice (K (.int .i64 x.slen))
 | .fieldAddr off=>ifP x.isPtr (K (x.padd off))
 | q=>oP (q.ev [x]) K
def pwp2 (q:POp) (x y:AV) (K:AV→Prop):Prop:=
 match q with
 | .indexAddr esz=>match y with
  | .int _ i=>ifP x.isSlice (0≤i∧i < x.slen∧K (x.at (i.toNat * esz)))
  | _=>False
 | q=>oP (q.ev [x,y]) K
def pwp (q:POp) (xs:List AV) (K:AV→Prop):Prop:=
 match xs with
 | [x]=>pwp1 q x K
 | [x,y]=>pwp2 q x y K
 | xs=>oP (q.ev xs) K
def rwp (q:ROp) (xs:List AV) (h:Heap) (ty:Ty) (K:AV→Prop):Prop:=
 match q with
 | .load1=>match xs with
  | [p]=>∃ x:ty.T,h.rd1 p=some (ty.mk x)∧K (ty.mk x)
  | _=>False
 | .loadN n=>match xs with
  | [p]=>exL n fun cs=>h.rdN p n=some cs∧K (.agg cs)
  | _=>False
 | q=>∃ v,q.ev xs h=some v∧tyW ty v K
def nwp (q:NOp) (xs:List AV) (h:Heap) (K:AV→Heap→Prop):Prop:=
 match q with
 | .box=>match xs with
  | [x]=>ifP (!x.isTup) (K (.ptr h.n 0 0) (h.push (.row x.cells 0 true)))
  | _=>False
 | .mkSlice esz bytes zero=>match xs with
  | [x,y]=>match x,y with
   | .int _ l,.int _ c=>(0≤l∧l≤c∧c * bytes≤roomCells∧c≤roomCells)∧K (.slice h.n 0 0 l.toNat esz) (h.push (.row (reps zero l.toNat) 0 true))
   | _,_=>False
  | _=>False
 | q=>oP (q.ob xs h) fun ob=>K (q.mk xs h.n) (h.push ob)
def ewp (q:EOp) (xs:List AV) (h:Heap) (K:AV→Heap→Prop):Prop:=
 match q with
 | .store n=>∃ h',EOp.ev (.store n) xs h=some (.undef,h')∧K .undef h'
 | q=>∃ v h',q.ev xs h=some (v,h')∧K v h'
section
variable (F:Nat→Option AFn)
def callW (x:AV) (xs:List AV) (h:Heap) (K:AV→Heap→Prop):Prop:=match x with
 | .func f caps=>ZC F f (xs++caps) h K
 | _=>False
def kwp2 (k:AK) (xs:List AV) (ty:Ty) (K:AV→Heap→Prop) (h:Heap):Prop:=
 match k with
 | .p q=>pwp q xs fun v=>tyW ty v fun v=>K v h
 | .r q=>rwp q xs h ty fun v=>K v h
 | .n q=>nwp q xs h K
 | .e q=>ewp q xs h K
 | .call f=>ZC F f xs h fun v h=>tyW ty v fun v=>K v h
 | .callV=>match xs with
  | x::xs=>callW F x xs h fun v h=>tyW ty v fun v=>K v h
  | _=>False
def owp2:SO→(Env→Heap→Prop)→Env→Heap→Prop
 | .nil,K,e,h=>K e h
 | .op d k xs ty r,K,e,h=>oP (evs e xs) fun vs=>kwp2 F k vs ty (fun v h=>owp2 r K (putE e d v) h) h
 | .grd t w b r,K,e,h=>oP (e.get t) fun v=>match v with
  | .bool c=>ifP (b.noW t&&b.skips []) (bP c
    (bP w (owp2 b (fun e h=>owp2 r K e h) (e.set t (.bool true)) h) (owp2 r K (b.undefE (e.set t (.bool true))) h))
    (bP w (owp2 r K (b.undefE (e.set t (.bool false))) h) (owp2 b (fun e h=>owp2 r K e h) (e.set t (.bool false)) h)))
  | _=>False
 | .fz r,K,e,h=>∃ hz,Fz h hz∧owp2 r K e hz
def owp3:SO→Option (Nat×Bool)→List (Env×Heap)→(List (Env×Heap)→Env→Heap→Prop)→Env→Heap→Prop
 | .nil,_,tr,K,e,h=>K tr e h
 | .op d k xs ty r,g,tr,K,e,h=>match g with
  | none=>oP (evs e xs) fun vs=>kwp2 F k vs ty (fun v h'=>owp3 r g (tr++[(e,h)]) K (putE e d v) h') h
  | some (t,w)=>oP (e.get t) fun v=>match v with
   | .bool c=>bP c
    (bP w (oP (evs (e.set t (.bool true)) xs) fun vs=>kwp2 F k vs ty (fun v h'=>owp3 r g (tr++[(e.set t (.bool true),h)]) K (putE (e.set t (.bool true)) d v) h') h)
     (owp3 r g (tr++[(e.set t (.bool true),h)]) K (putE (e.set t (.bool true)) d .undef) h))
    (bP w (owp3 r g (tr++[(e.set t (.bool false),h)]) K (putE (e.set t (.bool false)) d .undef) h)
     (oP (evs (e.set t (.bool false)) xs) fun vs=>kwp2 F k vs ty (fun v h'=>owp3 r g (tr++[(e.set t (.bool false),h)]) K (putE (e.set t (.bool false)) d v) h') h))
   | _=>owp3 r g (tr++[(e,h)]) K (putE e d .undef) h
 | .grd t w b r,g,tr,K,e,h=>owp3 b (some (t,w)) tr (fun tr e h=>owp3 r g tr K e h) e h
 | .fz _,_,_,_,_,_=>False
def pairC (o:AOper) (s s1 s2:Env×Heap):Prop:=match o.k with
 | .r q=>oP (evs s.1 o.xs) fun xs=>∃ v,q.ev xs s.2=some v∧q.ev xs s1.2=some v∧q.ev xs s2.2=some v
 | .n _=>sameRow (s1.2.get s.2.n) (s2.2.get s.2.n)=true
 | _=>False
def pairP (ops:List AOper) (tr:List (Env×Heap)) (p:Nat×Nat):Prop:=
 oP ops[p.1]? fun o=>oP tr[p.1]? fun s=>oP tr[p.2]? fun s1=>oP tr[p.2+1]? fun s2=>match o.guard with
  | none=>pairC o s s1 s2
  | some (t,w)=>oP (s.1.get t) fun v=>match v with
   | .bool c=>bP c (bP w (pairC o s s1 s2) True) (bP w True (pairC o s s1 s2))
   | _=>True
def pairsP (ops:List AOper) (tr:List (Env×Heap)):List (Nat×Nat)→Prop→Prop
 | [],P=>P
 | p::ps,P=>pairP ops tr p∧pairsP ops tr ps P
def exitAt {α:Type}:List Nat→List α→Nat→Option α
 | x::xs,y::ys,n=>if x=n then some y else exitAt xs ys n
 | _,_,_=>none
def loopPost (live:Live) (xs:List Nat) (R:Cur live (Heap→Prop)) (X:List (Cur live (Heap→Prop))) (x:AX) (e:Env) (h:Heap):Prop:=
 match x with
 | .normal=>False
 | .ret=>appE live R e h
 | .exit i=>oP (exitAt xs X i) fun f=>appE live f e h
def SLoop (live:Live) (xs:List Nat) (b:SC) (R:Cur live (Heap→Prop)) (X:List (Cur live (Heap→Prop))):Cur live (Heap→Prop):=
 curE live fun l h=>∀ e',Sub (E l) e'→∃ n x e1 h1 hz,run F n (.loop b.er) e' h=some (x,e1,h1)∧Fz h1 hz∧loopPost live xs R X x e1 hz
def awp2:SC→(N R:Env→Heap→Prop)→(X:Nat→Env→Heap→Prop)→Env→Heap→Prop
 | .skip,N,_,_,e,h=>N e h
 | .seq a b,N,R,X,e,h=>awp2 a (fun e h=>awp2 b N R X e h) R X e h
 | .cond c t f,N,R,X,e,h=>oP (c.ev e) fun v=>match v with
  | .bool b=>bP b (awp2 t N R X e h) (awp2 f N R X e h)
  | _=>False
 | .block id b,N,R,X,e,h=>awp2 b N R (fun i e h=>bP (Nat.beq i id) (N e h) (X i e h)) e h
 | .loop live xs hr b,N,R,X,e,h=>appE live (SLoop F live xs b (curE live fun l h=>bP hr (R (E l) h) False) (xs.map fun i=>curE live fun l h=>X i (E l) h)) e h
 | .exit i,_,_,X,e,h=>X i e h
 | .ret,_,R,_,e,h=>R e h
 | .region s,N,_,_,e,h=>owp2 F s N e h
 | .dreg s,N,_,_,e,h=>owp2 F s N e h
 | .dregp s ps,N,_,_,e,h=>owp3 F s none [] (fun tr e h=>pairsP (s.er none) (tr++[(e,h)]) ps (N e h)) e h
 | .fz b,N,R,X,e,h=>∃ hz,Fz h hz∧awp2 b N R X e hz
def resGo:List ARes→(List AV→Prop)→Env→Heap→Prop
 | [],K,_,_=>K []
 | .tmp t::rs,K,e,h=>oP (e.get t) fun v=>resGo rs (fun vs=>K (v::vs)) e h
 | .cell1 t::rs,K,e,h=>oP (e.get t) fun p=>∃ x,h.rd1 p=some x∧resGo rs (fun vs=>K (x::vs)) e h
 | .cellN t n::rs,K,e,h=>oP (e.get t) fun p=>exL n fun cs=>h.rdN p n=some cs∧resGo rs (fun vs=>K (.agg cs::vs)) e h
def one (vs:List AV):AV:=match vs with
 | [v]=>v
 | vs=>.tuple vs
def resW (rs:List ARes) (K:AV→Heap→Prop) (e:Env) (h:Heap):Prop:=resGo rs (fun vs=>K (one vs) h) e h
end
theorem pwp1_ok {q:POp} {x:AV} {K:AV→Prop} (hw:pwp1 q x K):∃ v,q.ev [x]=some v∧K v:=by
 cases q<;>simp only [pwp1] at hw<;>first
  | exact oP_some hw
  | exact ⟨_,rfl,hw⟩
  | skip
 ·rename_i off
  rw [iI] at hw
  obtain ⟨h1,h2⟩:=hw
  cases x<;>first | cases h1 | skip
  exact ⟨_,rfl,h2⟩
 rw [iI] at hw
 exact ⟨_,by simp only [POp.ev,if_pos hw.1],hw.2⟩
theorem pwp2_ok {q:POp} {x y:AV} {K:AV→Prop} (hw:pwp2 q x y K):∃ v,q.ev [x,y]=some v∧K v:=by
 cases q<;>simp only [pwp2] at hw<;>first
  | exact oP_some hw
  | skip
 rename_i esz
 cases y<;>first | exact hw.elim | skip
 obtain ⟨h1,h2,h3,h4⟩:=iI.1 hw
 exact ⟨_,by simp only [POp.ev,if_pos (And.intro h1 (And.intro h2 h3))],h4⟩
theorem pwp_ok {q:POp} {xs:List AV} {K:AV→Prop} (hw:pwp q xs K):∃ v,q.ev xs=some v∧K v:=by
 unfold pwp at hw
 split at hw
 ·exact pwp1_ok hw
 ·exact pwp2_ok hw
 exact oP_some hw
theorem rwp_ok {q:ROp} {xs:List AV} {h:Heap} {ty:Ty} {K:AV→Prop} (hw:rwp q xs h ty K):∃ v,q.ev xs h=some v∧K v:=by
 unfold rwp at hw
 split at hw
 ·split at hw
  ·obtain ⟨x,hx,hk⟩:=hw; exact ⟨_,hx,hk⟩
  exact hw.elim
 ·split at hw
  ·rename_i n p
   obtain ⟨cs,hc,hk⟩:=exL_ok hw
   unfold Heap.rdN at hc
   split at hc
   ·exact ⟨_,by simp only [ROp.ev,hc],hk⟩
   cases hc
  exact hw.elim
 obtain ⟨v,hv,hk⟩:=hw; exact ⟨v,hv,tyW_ok hk⟩
theorem nwp_ok {q:NOp} {xs:List AV} {h:Heap} {K:AV→Heap→Prop} (hw:nwp q xs h K):∃ ob,q.ob xs h=some ob∧K (q.mk xs h.n) (h.push ob):=by
 unfold nwp at hw
 split at hw
 ·split at hw
  ·rename_i x
   rw [iI] at hw
   obtain ⟨h1,h2⟩:=hw
   have h1:x.isTup=false:=by cases hx:x.isTup<;>rw [hx] at h1<;>first | rfl | cases h1
   exact ⟨_,by simp only [NOp.ob,h1,Bool.false_eq_true,if_false],h2⟩
  exact hw.elim
 ·split at hw
  ·split at hw
   ·obtain ⟨h1,h2⟩:=hw
    exact ⟨_,by simp only [NOp.ob,if_pos h1],h2⟩
   exact hw.elim
  exact hw.elim
 exact oP_some hw
theorem ewp_ok {q:EOp} {xs:List AV} {h:Heap} {K:AV→Heap→Prop} (hw:ewp q xs h K):∃ v h',q.ev xs h=some (v,h')∧K v h':=by
 unfold ewp at hw
 split at hw
 ·obtain ⟨h',h1,h2⟩:=hw; exact ⟨_,h',h1,h2⟩
 exact hw
variable {F:Nat→Option AFn}
theorem kwp2_ok {k:AK} {xs:List AV} {ty:Ty} {K:AV→Heap→Prop} {h:Heap} (hw:kwp2 F k xs ty K h):kwp F k xs (fun v h=>∃ hz,Fz h hz∧K v hz) h:=by
 unfold kwp2 at hw
 split at hw
 ·obtain ⟨v,h1,h2⟩:=pwp_ok hw; exact ⟨v,h1,_,Fz.refl _,tyW_ok h2⟩
 ·obtain ⟨v,h1,h2⟩:=rwp_ok hw; exact ⟨v,h1,_,Fz.refl _,h2⟩
 ·obtain ⟨v,h1,h2⟩:=nwp_ok hw; exact ⟨v,h1,_,Fz.refl _,h2⟩
 ·obtain ⟨v,h',h1,h2⟩:=ewp_ok hw; exact ⟨(v,h'),h1,_,Fz.refl _,h2⟩
 ·obtain ⟨n,v,g,h',h1,h2,h3⟩:=hw
  exact ⟨n,v,g,h1,h',h2,tyW_ok h3⟩
 split at hw
 ·unfold callW at hw
  split at hw
  ·obtain ⟨n,v,g,h',h1,h2,h3⟩:=hw
   exact ⟨_,rfl,n,v,g,h1,h',h2,tyW_ok h3⟩
  exact hw.elim
 exact hw.elim
theorem memN_iff {t:Nat}:∀ {l:List Nat},memN t l=true↔t∈l
 | []=>by simp [memN]
 | x::xs=>by
  simp only [memN,Bool.or_eq_true,memN_iff (l:=xs),List.mem_cons]
  constructor
  ·rintro (h | h)
   ·exact .inl (Nat.eq_of_beq_eq_true h).symm
   exact .inr h
  rintro (h | h)
  ·exact .inl (by rw [h]; exact Nat.beq_refl x)
  exact .inr h
theorem Has.mem {e:Env}:∀ {l:List (Nat×AV)},Has e l→Sub (E l) e:=fun h=>h.sub
theorem undefE_keeps {t:Nat}:∀ (b:SO) {e:Env},e.get t=some .undef→(b.undefE e).get t=some .undef
 | .nil,e,h=>h
 | .op d k xs ty r,e,h=>undefE_keeps r (by rw [putE_get]; split<;>first | rfl | exact h)
 | .grd _ _ b r,e,h=>undefE_keeps r (undefE_keeps b h)
 | .fz r,e,h=>undefE_keeps r h
theorem undefE_sub:∀ (b:SO) {e e':Env},Sub e e'→Sub (b.undefE e) (b.undefE e')
 | .nil,_,_,h=>h
 | .op d _ _ _ r,_,_,h=>undefE_sub r (h.putE d _)
 | .grd _ _ b r,_,_,h=>undefE_sub r (undefE_sub b h)
 | .fz r,_,_,h=>undefE_sub r h
theorem op_noW {d:Option Nat} {t:Nat} (h:(match d with
  | some d=>!Nat.beq d t
  | none=>true)=true):d≠some t:=by
 intro hd
 rw [hd] at h
 simp [Nat.beq_refl] at h
theorem undefE_noW {t:Nat}:∀ (b:SO) {e:Env},b.noW t=true→(b.undefE e).get t=e.get t
 | .nil,e,h=>rfl
 | .op d k xs ty r,e,h=>by
  simp only [SO.noW,Bool.and_eq_true] at h
  rw [SO.undefE,undefE_noW r h.2,putE_get,if_neg (op_noW h.1)]
 | .grd _ _ b r,e,h=>by
  simp only [SO.noW,Bool.and_eq_true] at h
  rw [SO.undefE,undefE_noW r h.2,undefE_noW b h.1]
 | .fz r,e,h=>undefE_noW r h
theorem runOps_append (cf:CallF):∀ (a b:List AOper) (e:Env) (h:Heap) {e1:Env} {h1:Heap},runOps cf a e h=some (e1,h1)→runOps cf (a++b) e h=runOps cf b e1 h1
 | [],b,e,h,e1,h1,hr=>by cases hr; rfl
 | o::a,b,e,h,e1,h1,hr=>by
  simp only [runOps,List.cons_append] at hr ⊢
  split at hr
  ·cases hr
  rename_i e2 h2 hs
  exact runOps_append cf a b e2 h2 hr
theorem wanted_get {e e':Env} {g:Nat×Bool} (h:e'.get g.1=e.get g.1):wantedE e' (some g)=wantedE e (some g):=by
 obtain ⟨t,w⟩:=g
 simp only [wantedE]
 rw [h]
theorem wanted_undef {e:Env} {g:Nat×Bool} (d:Option Nat) (h:wantedE e (some g)=some false):wantedE (putE e d .undef) (some g)=some false:=by
 obtain ⟨t,w⟩:=g
 simp only [wantedE] at h ⊢
 rw [putE_get]
 by_cases hd:d=some t
 ·rw [if_pos hd]; rfl
 rw [if_neg hd]; exact h
theorem wanted_undefE {g:Nat×Bool}:∀ (b:SO) {e:Env},wantedE e (some g)=some false→wantedE (b.undefE e) (some g)=some false
 | .nil,_,h=>h
 | .op d _ _ _ r,_,h=>wanted_undefE r (wanted_undef d h)
 | .grd _ _ b r,_,h=>wanted_undefE r (wanted_undefE b h)
 | .fz r,_,h=>wanted_undefE r h
theorem skips_ok (cf:CallF):∀ (b:SO) (g:Nat×Bool) (u:List Nat) (e:Env) (h:Heap),b.skips u=true→(∀ t,t∈u→e.get t=some .undef)→wantedE e (some g)=some false→
  runOps cf (b.er (some g)) e h=some (b.undefE e,h)
 | .nil,_,_,_,_,_,_,_=>rfl
 | .op d k xs ty r,g,u,e,h,hs,hu,hg=>by
  simp only [SO.er,runOps,stepOp,hg,SO.undefE]
  refine skips_ok cf r g _ _ h hs ?_ (wanted_undef d hg)
  intro t ht
  rw [putE_get]
  split
  ·rfl
  rename_i hd
  apply hu
  cases d with
  | none=>exact ht
  | some d=>
   rcases List.mem_cons.1 ht with hh | hh
   ·exact absurd (by rw [hh]) hd
   exact hh
 | .grd t w b r,g,u,e,h,hs,hu,hg=>by
  simp only [SO.skips,Bool.and_eq_true,memN_iff] at hs
  have ht:=hu t hs.1.1
  have h1:runOps cf (b.er (some (t,w))) e h=some (b.undefE e,h):=
   skips_ok cf b (t,w) u e h hs.1.2 hu (by simp only [wantedE,ht]; rfl)
  rw [SO.er,runOps_append cf _ _ _ _ h1,SO.undefE]
  exact skips_ok cf r g u _ h hs.2 (fun t ht=>undefE_keeps b (hu t ht)) (wanted_undefE b hg)
 | .fz r,g,u,e,h,hs,hu,hg=>skips_ok cf r g u e h hs hu hg
theorem step_env {cf:CallF} {o:AOper} {e e1:Env} {h h1:Heap} (hs:stepOp cf o e h=some (e1,h1)):∃ v,e1=putE e o.dst v:=by
 unfold stepOp at hs
 split at hs
 ·cases hs
 ·cases hs; exact ⟨_,rfl⟩
 split at hs
 ·cases hs
 split at hs
 ·cases hs
 cases hs; exact ⟨_,rfl⟩
theorem Sub.setL {e e':Env} (h:Sub e e') {t:Nat} {v:AV} (hv:e'.get t=some v):Sub (e.set t v) e':=by
 intro s u hs
 rw [T.get_set] at hs
 by_cases he:s=t
 ·rw [if_pos he] at hs; cases hs; rw [he]; exact hv
 rw [if_neg he] at hs; exact h s u hs
theorem owp2_ok:∀ (s:SO) {K:Env→Heap→Prop} {e:Env} {h:Heap} (g:Option (Nat×Bool)),owp2 F s K e h→∀ e',Sub e e'→wantedE e' g=some true→(∀ t w,g=some (t,w)→s.noW t=true)→
  ∃ n e1 h1 e0 h0,runOps (callN F n) (s.er g) e' h=some (e1,h1)∧Sub e0 e1∧Fz h1 h0∧K e0 h0∧∀ t,s.noW t=true→e1.get t=e'.get t
 | .nil,K,e,h,g,hw,e',hs,hg,hn=>⟨0,e',h,e,h,rfl,hs,Fz.refl _,hw,fun _ _=>rfl⟩
 | .op d k xs ty r,K,e,h,g,hw,e',hs,hg,hn=>by
  obtain ⟨vs,h1,h2⟩:=oP_some hw
  have hk:=kwp2_ok h2
  have hsw:swp F ⟨d,none,k,xs⟩ (fun e h=>∃ hz,Fz h hz∧owp2 F r K e hz) e h:=by
   refine ⟨true,rfl,?_⟩
   simp only [if_true]
   exact ⟨vs,h1,hk⟩
  obtain ⟨n,e1,h1',e0,g1,g2,hz,gz,g3⟩:=swp_ok hsw e' hs
  have g1':stepOp (callN F n) ⟨d,g,k,xs⟩ e' h=some (e1,h1'):=by
   rw [← g1]; simp only [stepOp,hg,show wantedE e' none=some true from rfl]
  obtain ⟨v,hv⟩:=step_env g1
  have keep:∀ t,(SO.op d k xs ty r).noW t=true→e1.get t=e'.get t:=by
   intro t ht
   simp only [SO.noW,Bool.and_eq_true] at ht
   rw [hv,putE_get,if_neg (op_noW ht.1)]
  have hg1:wantedE e1 g=some true:=by
   cases g with
   | none=>rfl
   | some g=>rw [wanted_get (keep g.1 (hn g.1 g.2 rfl))]; exact hg
  obtain ⟨m,e2,h2',e3,h3',k1,k2,kz,k3,k4⟩:=owp2_ok r g g3 e1 g2 hg1 (fun t w ht=>by
   have:=hn t w ht
   simp only [SO.noW,Bool.and_eq_true] at this
   exact this.2)
  obtain ⟨⟨h4',q1,q2⟩,_⟩:=runOps_fz (callN_fz m) _ gz k1
  refine ⟨max n m,e2,h4',e3,h3',?_,k2,q2.trans kz,k3,fun t ht=>?_⟩
  ·have a1:=step_le (callN_le (F:=F) (Nat.le_max_left n m)) g1'
   have a2:=(runOps_le (callN_le (F:=F) (Nat.le_max_right n m)) _ q1).1
   simp only [SO.er,runOps,a1,a2]
  have h3:=keep t ht
  simp only [SO.noW,Bool.and_eq_true] at ht
  rw [k4 t ht.2,h3]
 | .grd t w b r,K,e,h,g,hw,e',hs,hg,hn=>by
  obtain ⟨v,h1,h2⟩:=oP_some hw
  cases v<;>first | exact h2.elim | skip
  rename_i c
  simp only [iI,Bool.and_eq_true] at h2
  obtain ⟨⟨hnb,hsb⟩,h2⟩:=h2
  have he':=hs t _ h1
  have hor:(c=w∧owp2 F b (fun e h=>owp2 F r K e h) (e.set t (.bool c)) h)∨(c≠w∧owp2 F r K (b.undefE (e.set t (.bool c))) h):=by
   cases c<;>cases w<;>simp only [bP] at h2
   ·exact .inl ⟨rfl,h2⟩
   ·exact .inr ⟨by decide,h2⟩
   ·exact .inr ⟨by decide,h2⟩
   exact .inl ⟨rfl,h2⟩
  have hs':=hs.setL he'
  have keepG:∀ e1:Env,(∀ t',b.noW t'=true→e1.get t'=e'.get t')→wantedE e1 g=some true:=by
   intro e1 hk
   cases g with
   | none=>rfl
   | some g=>
    have:=hn g.1 g.2 rfl
    simp only [SO.noW,Bool.and_eq_true] at this
    rw [wanted_get (hk g.1 this.1)]; exact hg
  have hnr:∀ t' w',g=some (t',w')→r.noW t'=true:=by
   intro t' w' hh
   have:=hn t' w' hh
   simp only [SO.noW,Bool.and_eq_true] at this
   exact this.2
  have fin:∀ n1 e1 h1 e0 h0,runOps (callN F n1) (b.er (some (t,w))) e' h=some (e1,h1)→Sub e0 e1→Fz h1 h0→owp2 F r K e0 h0→(∀ t',b.noW t'=true→e1.get t'=e'.get t')→
    ∃ n e2 h2 e3 h3,runOps (callN F n) ((SO.grd t w b r).er g) e' h=some (e2,h2)∧Sub e3 e2∧Fz h2 h3∧K e3 h3∧∀ t',(SO.grd t w b r).noW t'=true→e2.get t'=e'.get t':=by
   intro n1 e1 h1 e0 h0 q1 q2 qz q3 q4
   obtain ⟨m,e2,h2',e3,h3',k1,k2,kz,k3,k4⟩:=owp2_ok r g q3 e1 q2 (keepG e1 q4) hnr
   obtain ⟨⟨h4',u1,u2⟩,_⟩:=runOps_fz (callN_fz m) _ qz k1
   refine ⟨max n1 m,e2,h4',e3,h3',?_,k2,u2.trans kz,k3,fun t' ht=>?_⟩
   ·have a1:=(runOps_le (callN_le (F:=F) (Nat.le_max_left n1 m)) _ q1).1
    have a2:=(runOps_le (callN_le (F:=F) (Nat.le_max_right n1 m)) _ u1).1
    rw [SO.er,runOps_append _ _ _ _ _ a1]; exact a2
   simp only [SO.noW,Bool.and_eq_true] at ht
   rw [k4 t' ht.2,q4 t' ht.1]
  rcases hor with ⟨hc,h3⟩ | ⟨hc,h3⟩
  ·subst hc
   obtain ⟨n1,e1,h1',e0,h0',q1,q2,qz,q3,q4⟩:=owp2_ok b (some (t,c)) h3 e' hs' (by simp only [wantedE,he',beq_self_eq_true]) (fun t' w' hh=>by cases hh; exact hnb)
   exact fin n1 e1 h1' e0 h0' q1 q2 qz q3 q4
  refine fin 0 (b.undefE e') h _ h (skips_ok _ b (t,w) [] e' h hsb (fun t ht=>by cases ht) ?_) (undefE_sub b hs') (Fz.refl _) h3 (fun t' ht=>undefE_noW b ht)
  simp only [wantedE,he']
  cases c<;>cases w<;>first | rfl | exact absurd rfl hc
 | .fz r,K,e,h,g,hw,e',hs,hg,hn=>by
  obtain ⟨hz,kz,hw⟩:=hw
  obtain ⟨n,e1,h1,e0,h0,k1,k2,k3,k4,k5⟩:=owp2_ok r g hw e' hs hg hn
  obtain ⟨⟨h4,q1,q2⟩,_⟩:=runOps_fz (callN_fz n) _ kz k1
  exact ⟨n,e1,h4,e0,h0,q1,k2,q2.trans k3,k4,k5⟩
mutual
theorem AV.beq_self:∀ v:AV,AV.beq v v=true
 | .bool b=>by simp [AV.beq]
 | .int k n=>by simp [AV.beq]
 | .str s=>by simp [AV.beq]
 | .nilPtr=>by simp [AV.beq]
 | .ptr _ _ _=>by simp [AV.beq]
 | .nilSlice=>by simp [AV.beq]
 | .slice _ _ _ _ _=>by simp [AV.beq]
 | .nilMap=>by simp [AV.beq]
 | .map _=>by simp [AV.beq]
 | .nilFunc=>by simp [AV.beq]
 | .func f cs=>by simp [AV.beq,AV.beqs_self cs]
 | .nilIface=>by simp [AV.beq]
 | .iface t v=>by simp [AV.beq,AV.beq_self v]
 | .agg cs=>by simp [AV.beq,AV.beqs_self cs]
 | .tuple cs=>by simp [AV.beq,AV.beqs_self cs]
 | .iter _=>by simp [AV.beq]
theorem AV.beqs_self:∀ vs:List AV,AV.beqs vs vs=true
 | []=>by simp [AV.beqs]
 | v::vs=>by simp [AV.beqs,AV.beq_self v,AV.beqs_self vs]
end
theorem resGo_ok:∀ {rs:List ARes} {K:List AV→Prop} {e:Env} {h:Heap},resGo rs K e h→∃ vs,resAll e h rs=some vs∧K vs
 | [],_,_,_,hw=>⟨[],rfl,hw⟩
 | .tmp t::rs,K,e,h,hw=>by
  obtain ⟨v,h1,h2⟩:=oP_some hw
  obtain ⟨vs,h3,h4⟩:=resGo_ok h2
  exact ⟨v::vs,by simp only [resAll,resOne,h1,h3],h4⟩
 | .cell1 t::rs,K,e,h,hw=>by
  obtain ⟨v,h1,x,h5,h2⟩:=oP_some hw
  obtain ⟨vs,h3,h4⟩:=resGo_ok h2
  exact ⟨x::vs,by simp only [resAll,resOne,h1,show ROp.ev .load1 [v] h=some x from h5,h3],h4⟩
 | .cellN t n::rs,K,e,h,hw=>by
  obtain ⟨v,h1,h2⟩:=oP_some hw
  obtain ⟨cs,h5,h2⟩:=exL_ok h2
  obtain ⟨vs,h3,h4⟩:=resGo_ok h2
  have h6:ROp.ev (.loadN n) [v] h=some (.agg cs):=by
   unfold Heap.rdN at h5
   split at h5
   ·simp only [ROp.ev,h5]
   cases h5
  exact ⟨.agg cs::vs,by simp only [resAll,resOne,h1,h6,h3],h4⟩
theorem resW_ok {rs:List ARes} {K:AV→Heap→Prop} {e:Env} {h:Heap} (hw:resW rs K e h):∃ v,resOf e h rs=some v∧K v h:=by
 obtain ⟨vs,h1,h2⟩:=resGo_ok hw
 refine ⟨one vs,?_,h2⟩
 unfold resOf one
 rw [h1]
 split<;>first | contradiction | skip
 ·rename_i v hv; cases hv; rfl
 rename_i v hv hne; cases hne
 split
 ·exact absurd rfl (hv _)
 rfl
inductive All2 {α β:Type} (P:α→β→Prop):List α→List β→Prop where
 | nil:All2 P [] []
 | cons {a:α} {b:β} {l:List α} {m:List β}:P a b→All2 P l m→All2 P (a::l) (b::m)
theorem TrFz.rel {l m:List (Env×Heap)} (t:TrFz l m):∀ {tr:List (Env×Heap)},All2 (fun a b=>Sub a.1 b.1∧Fz b.2 a.2) tr m→All2 (fun a b=>Sub a.1 b.1∧Fz b.2 a.2) tr l:=by
 induction t with
 | nil=>intro tr h; exact h
 | cons k t ih=>
  intro tr h
  cases h with
  | cons hp hr=>exact .cons ⟨hp.1,k.trans hp.2⟩ (ih hr)
theorem All2.snoc {α β:Type} {P:α→β→Prop}:∀ {l:List α} {x:α} {m:List β},All2 P (l++[x]) m→∃ m' y,m=m'++[y]∧All2 P l m'∧P x y
 | [],x,_,.cons hp .nil=>⟨[],_,rfl,.nil,hp⟩
 | a::l,x,_,.cons hp hr=>by
  obtain ⟨m',y,e,h1,h2⟩:=All2.snoc (l:=l) hr
  exact ⟨_::m',y,by rw [e]; rfl,.cons hp h1,h2⟩
theorem All2.app {α β:Type} {P:α→β→Prop}:∀ {l:List α} {m:List β} {l':List α} {m':List β},All2 P l m→All2 P l' m'→All2 P (l++l') (m++m')
 | _,_,_,_,.nil,k=>k
 | _,_,_,_,.cons h t,k=>.cons h (All2.app t k)
theorem trace_append (cf:CallF) (b:List AOper):∀ (a:List AOper) (e:Env) (h:Heap) {e1:Env} {h1:Heap} {m:List (Env×Heap)} {y:Env×Heap},runOps cf a e h=some (e1,h1)→trace cf a e h=m++[y]→trace cf (a++b) e h=m++trace cf b e1 h1
 | [],e,h,e1,h1,m,y,hr,ht=>by
  cases hr
  have ht:[(e,h)]=m++[y]:=ht
  cases m with
  | nil=>rfl
  | cons c m=>cases m<;>cases ht
 | o::a,e,h,e1,h1,m,y,hr,ht=>by
  simp only [runOps] at hr
  split at hr
  ·cases hr
  rename_i e2 h2 hs
  simp only [trace,List.cons_append,hs] at ht ⊢
  cases m with
  | nil=>
   have:∀ (a:List AOper) (e:Env) (h:Heap),runOps cf a e h=some (e1,h1)→trace cf a e h≠[]:=by
    intro a e h hr ht
    cases a with
    | nil=>cases ht
    | cons o a=>simp only [trace] at ht; cases ht
   simp only [List.nil_append,List.cons.injEq] at ht
   exact absurd ht.2 (this _ _ _ hr)
  | cons c m=>
   simp only [List.cons_append,List.cons.injEq] at ht ⊢
   exact ⟨ht.1,trace_append cf b a e2 h2 hr ht.2⟩
theorem owp3_step {d:Option Nat} {k:AK} {xs:List Opd} {ty:Ty} {r:SO} {g:Option (Nat×Bool)} {tr:List (Env×Heap)} {K:List (Env×Heap)→Env→Heap→Prop} {e:Env} {h:Heap}
  (ih:∀ (tr:List (Env×Heap)) {e:Env} {h:Heap},owp3 F r g tr K e h→∀ e',Sub e e'→∃ n e1 h1 e0 h0 tr2,runOps (callN F n) (r.er g) e' h=some (e1,h1)∧Sub e0 e1∧Fz h1 h0∧K (tr++tr2) e0 h0∧All2 (fun a b=>Sub a.1 b.1∧Fz b.2 a.2) (tr2++[(e0,h0)]) (trace (callN F n) (r.er g) e' h))
  (hw:oP (evs e xs) fun vs=>kwp2 F k vs ty (fun v h'=>owp3 F r g (tr++[(e,h)]) K (putE e d v) h') h) (e':Env) (hs:Sub e e') (hg:wantedE e' g=some true) :
  ∃ n e1 h1 e0 h0 tr2,runOps (callN F n) ((SO.op d k xs ty r).er g) e' h=some (e1,h1)∧Sub e0 e1∧Fz h1 h0∧K (tr++tr2) e0 h0∧All2 (fun a b=>Sub a.1 b.1∧Fz b.2 a.2) (tr2++[(e0,h0)]) (trace (callN F n) ((SO.op d k xs ty r).er g) e' h):=by
 obtain ⟨vs,h1,h2⟩:=oP_some hw
 have hk:=kwp2_ok h2
 have hsw:swp F ⟨d,none,k,xs⟩ (fun e1 h1=>∃ hz,Fz h1 hz∧owp3 F r g (tr++[(e,h)]) K e1 hz) e h:=by
  refine ⟨true,rfl,?_⟩
  simp only [if_true]
  exact ⟨vs,h1,hk⟩
 obtain ⟨n,e1,h1',e0,g1,g2,hz,gz,g3⟩:=swp_ok hsw e' hs
 have g1':stepOp (callN F n) ⟨d,g,k,xs⟩ e' h=some (e1,h1'):=by
  rw [← g1]; simp only [stepOp,hg,show wantedE e' none=some true from rfl]
 obtain ⟨m,e2,h2',e3,h3',tr2,k1,k2,kz,k3,k4⟩:=ih _ g3 e1 g2
 obtain ⟨⟨h4',q1,q2⟩,q3⟩:=runOps_fz (callN_fz m) _ gz k1
 have a1:=step_le (callN_le (F:=F) (Nat.le_max_left n m)) g1'
 have a2:=runOps_le (callN_le (F:=F) (Nat.le_max_right n m)) _ q1
 refine ⟨max n m,e2,h4',e3,h3',(e,h)::tr2,?_,k2,q2.trans kz,?_,?_⟩
 ·simp only [SO.er,runOps,a1,a2.1]
 ·rw [List.append_assoc] at k3; exact k3
 simp only [SO.er,trace,a1,a2.2]
 exact .cons ⟨hs,Fz.refl _⟩ (q3.rel k4)
theorem owp3_skip {d:Option Nat} {k:AK} {xs:List Opd} {ty:Ty} {r:SO} {g:Option (Nat×Bool)} {tr:List (Env×Heap)} {K:List (Env×Heap)→Env→Heap→Prop} {e:Env} {h:Heap}
  (ih:∀ (tr:List (Env×Heap)) {e:Env} {h:Heap},owp3 F r g tr K e h→∀ e',Sub e e'→∃ n e1 h1 e0 h0 tr2,runOps (callN F n) (r.er g) e' h=some (e1,h1)∧Sub e0 e1∧Fz h1 h0∧K (tr++tr2) e0 h0∧All2 (fun a b=>Sub a.1 b.1∧Fz b.2 a.2) (tr2++[(e0,h0)]) (trace (callN F n) (r.er g) e' h))
  (hw:owp3 F r g (tr++[(e,h)]) K (putE e d .undef) h) (e':Env) (hs:Sub e e') (hg:wantedE e' g=some false) :
  ∃ n e1 h1 e0 h0 tr2,runOps (callN F n) ((SO.op d k xs ty r).er g) e' h=some (e1,h1)∧Sub e0 e1∧Fz h1 h0∧K (tr++tr2) e0 h0∧All2 (fun a b=>Sub a.1 b.1∧Fz b.2 a.2) (tr2++[(e0,h0)]) (trace (callN F n) ((SO.op d k xs ty r).er g) e' h):=by
 obtain ⟨m,e2,h2',e3,h3',tr2,k1,k2,kz,k3,k4⟩:=ih _ hw _ (hs.putE d _)
 have g1:stepOp (callN F m) ⟨d,g,k,xs⟩ e' h=some (putE e' d .undef,h):=by simp only [stepOp,hg]
 refine ⟨m,e2,h2',e3,h3',(e,h)::tr2,?_,k2,kz,?_,?_⟩
 ·simp only [SO.er,runOps,g1,k1]
 ·rw [List.append_assoc] at k3; exact k3
 simp only [SO.er,trace,g1]
 exact .cons ⟨hs,Fz.refl _⟩ k4
theorem owp3_ok:∀ (s:SO) (g:Option (Nat×Bool)) (tr:List (Env×Heap)) {K:List (Env×Heap)→Env→Heap→Prop} {e:Env} {h:Heap},owp3 F s g tr K e h→∀ e',Sub e e'→
  ∃ n e1 h1 e0 h0 tr2,runOps (callN F n) (s.er g) e' h=some (e1,h1)∧Sub e0 e1∧Fz h1 h0∧K (tr++tr2) e0 h0∧All2 (fun a b=>Sub a.1 b.1∧Fz b.2 a.2) (tr2++[(e0,h0)]) (trace (callN F n) (s.er g) e' h)
 | .nil,g,tr,K,e,h,hw,e',hs=>⟨0,e',h,e,h,[],rfl,hs,Fz.refl _,by rw [List.append_nil]; exact hw,.cons ⟨hs,Fz.refl _⟩ .nil⟩
 | .op d k xs ty r,none,tr,K,e,h,hw,e',hs=>owp3_step (fun tr=>owp3_ok r none tr) hw e' hs rfl
 | .op d k xs ty r,some (t,w),tr,K,e,h,hw,e',hs=>by
  obtain ⟨v,h1,h2⟩:=oP_some hw
  have he':=hs t _ h1
  have ih:=fun tr {e:Env} {h:Heap}=>owp3_ok (K:=K) (e:=e) (h:=h) r (some (t,w)) tr
  cases v with
  | bool c=>
   have hs':=hs.setL he'
   cases c<;>cases w<;>simp only [bP] at h2
   ·exact owp3_step ih h2 e' hs' (by simp only [wantedE,he']; rfl)
   ·exact owp3_skip ih h2 e' hs' (by simp only [wantedE,he']; rfl)
   ·exact owp3_skip ih h2 e' hs' (by simp only [wantedE,he']; rfl)
   exact owp3_step ih h2 e' hs' (by simp only [wantedE,he']; rfl)
  | _=>exact owp3_skip ih h2 e' hs (by simp only [wantedE,he'])
 | .grd t w b r,g,tr,K,e,h,hw,e',hs=>by
  obtain ⟨n1,e1,h1,e0,h0,tr2,q1,q2,qz,q3,q4⟩:=owp3_ok b (some (t,w)) tr (K:=fun tr e h=>owp3 F r g tr K e h) hw e' hs
  obtain ⟨m,e2,h2',e3,h3',tr3,k1,k2,kz,k3,k4⟩:=owp3_ok r g _ q3 e1 q2
  obtain ⟨⟨h4',u1,u2⟩,u3⟩:=runOps_fz (callN_fz m) _ qz k1
  have a1:=runOps_le (callN_le (F:=F) (Nat.le_max_left n1 m)) _ q1
  have a2:=runOps_le (callN_le (F:=F) (Nat.le_max_right n1 m)) _ u1
  obtain ⟨m',y,j1,j2,j3⟩:=All2.snoc q4
  refine ⟨max n1 m,e2,h4',e3,h3',tr2++tr3,?_,k2,u2.trans kz,?_,?_⟩
  ·rw [SO.er,runOps_append _ _ _ _ _ a1.1]; exact a2.1
  ·rw [List.append_assoc] at k3; exact k3
  rw [SO.er,trace_append _ _ _ _ _ a1.1 (a1.2.trans j1),List.append_assoc,a2.2]
  exact j2.app (u3.rel k4)
 | .fz _,_,_,_,_,_,hw,_,_=>hw.elim
theorem pair_get {α β:Type} {P:α→β→Prop}:∀ {l:List α} {m:List β},All2 P l m→∀ {i:Nat} {a:α},l[i]? = some a→∃ b,m[i]? = some b∧P a b
 | _,_,.nil,i,a,h=>by simp at h
 | _,_,.cons hp hr,0,a,h=>by simp at h; subst h; exact ⟨_,by simp,hp⟩
 | _,_,.cons hp hr,i+1,a,h=>by
  simp only [List.getElem?_cons_succ] at h ⊢
  exact pair_get hr h
theorem pairC_ok {ops:List AOper} {tr':List (Env×Heap)} {p:Nat×Nat} {o:AOper} {s s1 s2 t t1 t2:Env×Heap} (h1:ops[p.1]? = some o) (q2:tr'[p.1]? = some t) (q3:tr'[p.2]? = some t1) (q4:tr'[p.2+1]? = some t2)
  (r0:Sub s.1 t.1∧Fz t.2 s.2) (r1:Sub s1.1 t1.1∧Fz t1.2 s1.2) (r2:Sub s2.1 t2.1∧Fz t2.2 s2.2) (hp:pairC o s s1 s2) (hg:wantedE t.1 o.guard=some true):chkPair ops tr' p=true:=by
 obtain ⟨e,h⟩:=s
 obtain ⟨ea,ha⟩:=s1
 obtain ⟨eb,hb⟩:=s2
 obtain ⟨e',h'⟩:=t
 obtain ⟨ea',ha'⟩:=t1
 obtain ⟨eb',hb'⟩:=t2
 obtain ⟨s2,t2⟩:=r0
 obtain ⟨s3,t3⟩:=r1
 obtain ⟨s4,t4⟩:=r2
 simp only at t2 t3 t4 s2 hg
 unfold pairC at hp
 split at hp
 ·rename_i q hq
  obtain ⟨xs,h5,v,k1,k2,k3⟩:=oP_some hp
  simp only at h5 k1 k2 k3
  simp only [chkPair,h1,q2,q3,q4,hg,hq,s2.evs h5,t2.rop,t3.rop,t4.rop,k1,k2,k3,sameAt,AV.beq_self,Bool.and_self]
 ·rename_i q hq
  simp only at hp
  simp only [chkPair,h1,q2,q3,q4,hg,hq]
  rw [t2.n]
  exact sameRow_fz t3 t4 hp
 exact hp.elim
theorem pairP_ok {ops:List AOper} {tr tr':List (Env×Heap)} {p:Nat×Nat} (ht:All2 (fun a b=>Sub a.1 b.1∧Fz b.2 a.2) tr tr') (hp:pairP ops tr p):chkPair ops tr' p=true:=by
 obtain ⟨o,h1,hp⟩:=oP_some hp
 obtain ⟨s,h2,hp⟩:=oP_some hp
 obtain ⟨s1,h3,hp⟩:=oP_some hp
 obtain ⟨s2,h4,hp⟩:=oP_some hp
 obtain ⟨t,q2,r0⟩:=pair_get ht h2
 obtain ⟨t1,q3,r1⟩:=pair_get ht h3
 obtain ⟨t2,q4,r2⟩:=pair_get ht h4
 have skip:wantedE t.1 o.guard=some false→chkPair ops tr' p=true:=fun hg=>by
  obtain ⟨e',h'⟩:=t
  obtain ⟨ea',ha'⟩:=t1
  obtain ⟨eb',hb'⟩:=t2
  simp only at hg
  simp only [chkPair,h1,q2,q3,q4,hg]
 split at hp
 ·rename_i hg
  exact pairC_ok h1 q2 q3 q4 r0 r1 r2 hp (by rw [hg]; rfl)
 rename_i t' w hg
 obtain ⟨v,hv,hp⟩:=oP_some hp
 have hv':=r0.1 t' _ hv
 cases v with
 | bool c=>
  cases c<;>cases w<;>simp only [bP] at hp
  ·exact pairC_ok h1 q2 q3 q4 r0 r1 r2 hp (by simp only [hg,wantedE,hv']; rfl)
  ·exact skip (by simp only [hg,wantedE,hv']; rfl)
  ·exact skip (by simp only [hg,wantedE,hv']; rfl)
  exact pairC_ok h1 q2 q3 q4 r0 r1 r2 hp (by simp only [hg,wantedE,hv']; rfl)
 | _=>exact skip (by simp only [hg,wantedE,hv'])
theorem pairsP_ok {ops:List AOper} {tr tr':List (Env×Heap)} (ht:All2 (fun a b=>Sub a.1 b.1∧Fz b.2 a.2) tr tr'):∀ {ps:List (Nat×Nat)} {P:Prop},pairsP ops tr ps P→ps.all (chkPair ops tr')=true∧P
 | [],P,h=>⟨rfl,h⟩
 | p::ps,P,h=>by
  obtain ⟨h1,h2⟩:=h
  obtain ⟨h3,h4⟩:=pairsP_ok ht h2
  exact ⟨by simp only [List.all_cons,pairP_ok ht h1,h3,Bool.and_self],h4⟩
end Go.Am
namespace Go.Am
open Go
def post2 (N R:Env→Heap→Prop) (X:Nat→Env→Heap→Prop):AX→Env→Heap→Prop
 | .normal,e,h=>N e h
 | .ret,e,h=>R e h
 | .exit i,e,h=>X i e h
theorem appE_curE:∀ {live:Live} {G:List (Nat×AV)→Heap→Prop} {e:Env} {h:Heap},appE live (curE live G) e h→∃ l,Has e l∧G l h
 | [],G,e,h,ha=>⟨[],trivial,ha⟩
 | (s,t)::live,G,e,h,ha=>by
  simp only [appE] at ha
  split at ha
  ·rename_i v hv
   split at ha
   ·rename_i x hx
    obtain ⟨l,h1,h2⟩:=appE_curE (G:=fun r=>G ((s,t.mk x)::r)) ha
    exact ⟨(s,t.mk x)::l,⟨by rw [hv,Ty.un_mk hx],h1⟩,h2⟩
   exact ha.elim
  exact ha.elim
theorem exitAt_map {α:Type} {f:Nat→α}:∀ {xs:List Nat} {i:Nat} {g:α},exitAt xs (xs.map f) i=some g→g=f i
 | [],_,_,h=>by cases h
 | x::xs,i,g,h=>by
  simp only [List.map,exitAt] at h
  split at h
  ·rename_i hx; cases h; rw [hx]
  exact exitAt_map h
variable {F:Nat→Option AFn}
theorem awp2_ok:∀ {c:SC} {N R:Env→Heap→Prop} {X:Nat→Env→Heap→Prop} {e:Env} {h:Heap},awp2 F c N R X e h→∀ e',Sub e e'→∃ n x e1 h1 e0 h0,run F n c.er e' h=some (x,e1,h1)∧Sub e0 e1∧Fz h1 h0∧post2 N R X x e0 h0:=by
 intro c
 induction c with
 | skip=>intro N R X e h hw e' hs; exact ⟨1,.normal,e',h,e,h,rfl,hs,Fz.refl _,hw⟩
 | exit id=>intro N R X e h hw e' hs; exact ⟨1,.exit id,e',h,e,h,rfl,hs,Fz.refl _,hw⟩
 | ret=>intro N R X e h hw e' hs; exact ⟨1,.ret,e',h,e,h,rfl,hs,Fz.refl _,hw⟩
 | fz b ih=>
  intro N R X e h hw e' hs
  obtain ⟨hz,k,hw⟩:=hw
  obtain ⟨n,x,e1,h1,e0,h0,g1,g2,gz,g3⟩:=ih hw e' hs
  obtain ⟨h2,q1,q2⟩:=run_fz n _ _ _ _ _ _ _ k g1
  exact ⟨n,x,e1,h2,e0,h0,q1,g2,q2.trans gz,g3⟩
 | seq a b iha ihb=>
  intro N R X e h hw e' hs
  obtain ⟨n,x,e1,h1,e0,h0,g1,g2,gz,g3⟩:=iha hw e' hs
  cases x with
  | normal=>
   obtain ⟨m,y,e2,h2,e3,h3,k1,k2,kz,k3⟩:=ihb g3 e1 g2
   obtain ⟨h4,q1,q2⟩:=run_fz m _ _ _ _ _ _ _ gz k1
   refine ⟨max n m+1,y,e2,h4,e3,h3,?_,k2,q2.trans kz,k3⟩
   rw [run_succ,SC.er]
   simp only [run_le (Nat.le_max_left n m) g1,run_le (Nat.le_max_right n m) q1]
  | exit id=>exact ⟨n+1,.exit id,e1,h1,e0,h0,by rw [run_succ,SC.er]; simp only [g1],g2,gz,g3⟩
  | ret=>exact ⟨n+1,.ret,e1,h1,e0,h0,by rw [run_succ,SC.er]; simp only [g1],g2,gz,g3⟩
 | cond c t f iht ihf=>
  intro N R X e h hw e' hs
  obtain ⟨v,hv,hw⟩:=oP_some hw
  cases v<;>first | exact hw.elim | skip
  rename_i b
  have hv':=hs.ev hv
  cases b with
  | true=>
   obtain ⟨n,x,e1,h1,e0,h0,g1,g2,gz,g3⟩:=iht hw e' hs
   exact ⟨n+1,x,e1,h1,e0,h0,by rw [run_succ,SC.er]; simp only [hv',cond_true,g1],g2,gz,g3⟩
  | false=>
   obtain ⟨n,x,e1,h1,e0,h0,g1,g2,gz,g3⟩:=ihf hw e' hs
   exact ⟨n+1,x,e1,h1,e0,h0,by rw [run_succ,SC.er]; simp only [hv',cond_false,g1],g2,gz,g3⟩
 | block id b ih=>
  intro N R X e h hw e' hs
  obtain ⟨n,x,e1,h1,e0,h0,g1,g2,gz,g3⟩:=ih hw e' hs
  cases x with
  | normal=>exact ⟨n+1,.normal,e1,h1,e0,h0,by rw [run_succ,SC.er]; simp only [g1],g2,gz,g3⟩
  | ret=>exact ⟨n+1,.ret,e1,h1,e0,h0,by rw [run_succ,SC.er]; simp only [g1],g2,gz,g3⟩
  | exit id'=>
   by_cases hid:id'=id
   ·have g3:N e0 h0:=by
     subst hid
     have:=g3
     simp only [post2,Nat.beq_refl,bP] at this
     exact this
    exact ⟨n+1,.normal,e1,h1,e0,h0,by rw [run_succ,SC.er]; simp only [g1,if_pos hid],g2,gz,g3⟩
   have g3:X id' e0 h0:=by
    have:=g3
    have hb:Nat.beq id' id=false:=by
     cases hq:Nat.beq id' id with
     | false=>rfl
     | true=>exact absurd (Nat.eq_of_beq_eq_true hq) hid
    simp only [post2,hb,bP] at this
    exact this
   exact ⟨n+1,.exit id',e1,h1,e0,h0,by rw [run_succ,SC.er]; simp only [g1,if_neg hid],g2,gz,g3⟩
 | loop live xs hr b ih=>
  intro N R X e h hw e' hs
  obtain ⟨l,h1,h2⟩:=appE_curE hw
  obtain ⟨n,x,e1,h1',hz,k1,kz,k2⟩:=h2 e' (h1.sub.trans hs)
  cases x with
  | normal=>exact k2.elim
  | ret=>
   obtain ⟨r,q1,q2⟩:=appE_curE k2
   cases hr with
   | true=>exact ⟨n,.ret,e1,h1',E r,hz,k1,q1.sub,kz,q2⟩
   | false=>exact q2.elim
  | exit i=>
   obtain ⟨f,hf,k3⟩:=oP_some k2
   rw [exitAt_map hf] at k3
   obtain ⟨r,q1,q2⟩:=appE_curE k3
   exact ⟨n,.exit i,e1,h1',E r,hz,k1,q1.sub,kz,q2⟩
 | region s=>
  intro N R X e h hw e' hs
  obtain ⟨n,e1,h1,e0,h0,g1,g2,gz,g3,_⟩:=owp2_ok s none hw e' hs rfl (fun _ _ hh=>by cases hh)
  exact ⟨n+1,.normal,e1,h1,e0,h0,by rw [run_succ,SC.er]; simp only [g1],g2,gz,g3⟩
 | dreg s=>
  intro N R X e h hw e' hs
  obtain ⟨n,e1,h1,e0,h0,g1,g2,gz,g3,_⟩:=owp2_ok s none hw e' hs rfl (fun _ _ hh=>by cases hh)
  exact ⟨n+1,.normal,e1,h1,e0,h0,by rw [run_succ,SC.er]; simp only [g1,List.all_nil,cond_true],g2,gz,g3⟩
 | dregp s ps=>
  intro N R X e h hw e' hs
  obtain ⟨n,e1,h1,e0,h0,tr2,g1,g2,gz,g3,g4⟩:=owp3_ok s none [] hw e' hs
  obtain ⟨k1,k2⟩:=pairsP_ok g4 g3
  exact ⟨n+1,.normal,e1,h1,e0,h0,by rw [run_succ,SC.er]; simp only [g1,k1,cond_true],g2,gz,k2⟩
theorem acalls2 {f:Nat} {fn:AFn} {s:SC} {xs:List AV} {h:Heap} {K:AV→Heap→Prop} (hF:F f=some fn) (hc:fn.code=s.er) (hl:xs.length=fn.np)
  (hw:awp2 F s (resW fn.res K) (resW fn.res K) (fun _ _ _=>False) (E (argE 0 xs)) h):ZC F f xs h K:=by
 obtain ⟨n,x,e1,h1,e0,h0,g1,g2,gz,g3⟩:=awp2_ok hw _ (argE_sub xs)
 cases x with
 | exit id=>exact g3.elim
 | normal=>
  obtain ⟨v,g4,g5⟩:=resW_ok g3
  refine ⟨n,v,h1,h0,?_,gz,g5⟩
  unfold callN
  rw [hF]
  simp only [if_pos hl,hc,g1,gz.resOf,g2.resOf g4]
 | ret=>
  obtain ⟨v,g4,g5⟩:=resW_ok g3
  refine ⟨n,v,h1,h0,?_,gz,g5⟩
  unfold callN
  rw [hF]
  simp only [if_pos hl,hc,g1,gz.resOf,g2.resOf g4]
def allC:(live:Live)→Cur live (Heap→Prop)→(List (Nat×AV)→Heap→Prop)→Prop
 | [],P,G=>∀ h,P h→G [] h
 | (s,t)::l,P,G=>∀ x:t.T,allC l (P x) fun r h=>G ((s,t.mk x)::r) h
def impC:(live:Live)→Cur live (Heap→Prop)→Cur live (Heap→Prop)→Prop
 | [],P,Q=>∀ h,P h→Q h
 | (_,t)::l,P,Q=>∀ x:t.T,impC l (P x) (Q x)
def low:(live:Live)→(Nat→Cur live (Heap→Prop))→Nat→Cur live (Heap→Prop)
 | [],I,m=>fun h=>∃ m',m' < m∧I m' h
 | (_,_)::l,I,m=>fun x=>low l (fun m=>I m x) m
def atL:(live:Live)→Cur live (Heap→Prop)→List (Nat×AV)→Heap→Prop
 | [],P,l,h=>l=[]∧P h
 | (s,t)::live,P,l,h=>∃ x r,l=(s,t.mk x)::r∧atL live (P x) r h
theorem allC_at:∀ {live:Live} {P:Cur live (Heap→Prop)} {G:List (Nat×AV)→Heap→Prop},allC live P G→∀ l h,atL live P l h→G l h
 | [],P,G,ha,l,h,⟨hl,hp⟩=>by rw [hl]; exact ha h hp
 | (s,t)::live,P,G,ha,l,h,⟨x,r,hl,hp⟩=>by rw [hl]; exact allC_at (ha x) r h hp
theorem impC_curE:∀ {live:Live} {P:Cur live (Heap→Prop)} {G:List (Nat×AV)→Heap→Prop},(∀ l h,atL live P l h→G l h)→impC live P (curE live G)
 | [],P,G,ha=>fun h hp=>ha [] h ⟨rfl,hp⟩
 | (s,t)::live,P,G,ha=>fun x=>impC_curE (G:=fun r=>G ((s,t.mk x)::r)) fun l h hp=>ha _ h ⟨x,l,rfl,hp⟩
theorem low_at:∀ {live:Live} {I:Nat→Cur live (Heap→Prop)} {m:Nat} {e:Env} {h:Heap},appE live (low live I m) e h→∃ m' l,m' < m∧Has e l∧atL live (I m') l h
 | [],I,m,e,h,⟨m',h1,h2⟩=>⟨m',[],h1,trivial,rfl,h2⟩
 | (s,t)::live,I,m,e,h,ha=>by
  simp only [appE] at ha
  split at ha
  ·rename_i v hv
   split at ha
   ·rename_i x hx
    obtain ⟨m',l,h1,h2,h3⟩:=low_at (I:=fun m=>I m x) ha
    exact ⟨m',(s,t.mk x)::l,h1,⟨by rw [hv,Ty.un_mk hx],h2⟩,x,l,rfl,h3⟩
   exact ha.elim
  exact ha.elim
theorem appE_sub:∀ {live:Live} {P:Cur live (Heap→Prop)} {e e':Env} {h:Heap},Sub e e'→appE live P e h→appE live P e' h
 | [],P,e,e',h,hs,ha=>ha
 | (s,t)::live,P,e,e',h,hs,ha=>by
  simp only [appE] at ha ⊢
  split at ha
  ·rename_i v hv
   rw [hs _ _ hv]
   simp only
   split at ha
   ·rename_i x hx
    exact appE_sub hs ha
   exact ha.elim
  exact ha.elim
theorem sR {live:Live} {xs:List Nat} {b:SC} {R:Cur live (Heap→Prop)} {X:List (Cur live (Heap→Prop))} (I:Nat→Cur live (Heap→Prop))
  (body:∀ m,allC live (I m) fun l h=>awp2 F b (appE live (low live I m)) (appE live R) (fun i e h=>oP (exitAt xs X i) fun f=>appE live f e h) (E l) h) (m:Nat):impC live (I m) (SLoop F live xs b R X):=by
 refine impC_curE ?_
 have key:∀ k m l h,m < k→atL live (I m) l h→∀ e',Sub (E l) e'→∃ n x e1 h1 hz,run F n (.loop b.er) e' h=some (x,e1,h1)∧Fz h1 hz∧loopPost live xs R X x e1 hz:=by
  intro k
  induction k with
  | zero=>intro m l h hm; omega
  | succ k ih=>
   intro m l h hm hI e' hs
   obtain ⟨n,x,e1,h1,e0,h0,g1,g2,gz,g3⟩:=awp2_ok (allC_at (body m) l h hI) e' hs
   cases x with
   | normal=>
    obtain ⟨m',l',q1,q2,q3⟩:=low_at g3
    obtain ⟨n',x,e2,h2,h3,k1,kz,k2⟩:=ih m' l' h0 (by omega) q3 e1 (q2.sub.trans g2)
    obtain ⟨h4,u1,u2⟩:=run_fz n' _ _ _ _ _ _ _ gz k1
    refine ⟨max n n'+1,x,e2,h4,h3,?_,u2.trans kz,k2⟩
    rw [run_succ]
    simp only [run_le (Nat.le_max_left n n') g1,run_le (Nat.le_max_right n n') u1]
   | exit id=>
    refine ⟨n+1,.exit id,e1,h1,h0,by rw [run_succ]; simp only [g1],gz,?_⟩
    obtain ⟨f,hf,k2⟩:=oP_some g3
    exact oI f hf (appE_sub g2 k2)
   | ret=>exact ⟨n+1,.ret,e1,h1,h0,by rw [run_succ]; simp only [g1],gz,appE_sub g2 g3⟩
 exact fun l h hI=>key (m+1) m l h (Nat.lt_succ_self m) hI
def subC:(live:Live)→Cur live (Heap→Prop)→Cur live (Heap→Prop)→Prop:=impC
theorem appE_imp:∀ {live:Live} {P Q:Cur live (Heap→Prop)} {e:Env} {h:Heap},impC live P Q→appE live P e h→appE live Q e h
 | [],P,Q,e,h,hi,ha=>hi h ha
 | (s,t)::live,P,Q,e,h,hi,ha=>by
  simp only [appE] at ha ⊢
  split at ha
  ·split at ha
   ·rename_i x hx
    exact appE_imp (hi x) ha
   exact ha.elim
  exact ha.elim
theorem exitAt_all2 {live:Live}:∀ {xs:List Nat} {X Y:List (Cur live (Heap→Prop))} {i:Nat} {f:Cur live (Heap→Prop)},All2 (impC live) X Y→exitAt xs X i=some f→∃ g,exitAt xs Y i=some g∧impC live f g
 | [],_,_,_,_,_,h=>by cases h
 | _::_,_,_,_,_,.nil,h=>by cases h
 | x::xs,_,_,i,f,.cons hp hr,h=>by
  simp only [exitAt] at h ⊢
  split at h
  ·rename_i hx; cases h; exact ⟨_,by rw [if_pos hx],hp⟩
  rename_i hx; rw [if_neg hx]; exact exitAt_all2 hr h
theorem curE_mono:∀ {live:Live} {G G':List (Nat×AV)→Heap→Prop},(∀ l h,G l h→G' l h)→impC live (curE live G) (curE live G')
 | [],G,G',hi=>fun h hg=>hi [] h hg
 | (s,t)::live,G,G',hi=>fun x=>curE_mono (G:=fun r=>G ((s,t.mk x)::r)) (G':=fun r=>G' ((s,t.mk x)::r)) fun l h hg=>hi _ h hg
theorem sL {live:Live} {xs:List Nat} {b:SC} {R R':Cur live (Heap→Prop)} {X X':List (Cur live (Heap→Prop))} (hR:impC live R R') (hX:All2 (impC live) X X'):impC live (SLoop F live xs b R X) (SLoop F live xs b R' X'):=by
 unfold SLoop
 refine curE_mono fun l h hg e' hs=>?_
 obtain ⟨n,x,e1,h1,hz,k1,kz,k2⟩:=hg e' hs
 refine ⟨n,x,e1,h1,hz,k1,kz,?_⟩
 cases x with
 | normal=>exact k2
 | ret=>exact appE_imp hR k2
 | exit i=>
  obtain ⟨f,hf,k3⟩:=oP_some k2
  obtain ⟨g,hg,hi⟩:=exitAt_all2 hX hf
  exact oI g hg (appE_imp hi k3)
end Go.Am
namespace Go.Am
open Go
def Rnd (F:Nat→Option AFn) (live:Live) (xs:List Nat) (b:SC) (N R:Cur live (Heap→Prop)) (X:List (Cur live (Heap→Prop))):Cur live (Heap→Prop):=
 curE live fun l h=>awp2 F b (appE live N) (appE live R) (fun i e h=>oP (exitAt xs X i) fun f=>appE live f e h) (E l) h
theorem allC_curE:∀ {live:Live} {P:Cur live (Heap→Prop)} {G:List (Nat×AV)→Heap→Prop},impC live P (curE live G)→allC live P G
 | [],P,G,hi=>hi
 | (s,t)::live,P,G,hi=>fun x=>allC_curE (G:=fun r h=>G ((s,t.mk x)::r) h) (hi x)
theorem iR:∀ (live:Live) (P:Cur live (Heap→Prop)),impC live P P
 | [],P=>fun h hp=>hp
 | (_,t)::live,P=>fun x=>iR live (P x)
theorem srule {F:Nat→Option AFn} {live:Live} {xs:List Nat} {b:SC} {R:Cur live (Heap→Prop)} {X:List (Cur live (Heap→Prop))} {B:Cur live (Heap→Prop)→Cur live (Heap→Prop)} (hB:∀ N,B N=Rnd F live xs b N R X) (I:Nat→Cur live (Heap→Prop))
  (hb:∀ m,impC live (I m) (B (low live I m))) (m:Nat):impC live (I m) (SLoop F live xs b R X):=
 sR I (fun m=>allC_curE (by have:=hb m; rw [hB] at this; exact this)) m
theorem wrun {F:Nat→Option AFn} {f:Nat} {fn:AFn} {s:SC} {xs:List AV} {h:Heap} {K:AV→Heap→Prop} {W:Prop} (hF:F f=some fn) (hc:fn.code=s.er) (hl:xs.length=fn.np) (hW:W=awp2 F s (resW fn.res K) (resW fn.res K) (fun _ _ _=>False) (E (argE 0 xs)) h) (hw:W):ZC F f xs h K:=
 acalls2 hF hc hl (hW▸hw)
end Go.Am
namespace Go.Am
open Go
inductive Sh where
 | int (k:IntKind)
 | bool
 | str
 | agg (fs:List Sh)
 | sl (e:Sh)
mutual
def Sh.n:Sh→Nat
 | .agg ss=>Sh.ns ss
 | _=>1
def Sh.ns:List Sh→Nat
 | []=>0
 | s::ss=>s.n+Sh.ns ss
end
mutual
def Sh.okB (P:Program):Sh→TypeId→Bool
 | .int k,t=>match P.underlying t with
  | some (.int k')=>decide (k'=k)
  | _=>false
 | .bool,t=>match P.underlying t with
  | some .bool=>true
  | _=>false
 | .str,t=>match P.underlying t with
  | some .string=>true
  | _=>false
 | .agg ss,t=>match P.underlying t with
  | some (.struct fs)=>Sh.oksB P ss fs.toList 0&&Nat.beq (P.cellsOf t) (Sh.ns ss)
  | _=>false
 | .sl s,t=>match P.underlying t with
  | some (.slice e)=>s.okB P e&&Nat.beq (P.cellsOf e) s.n&&Nat.ble 1 s.n
  | _=>false
def Sh.oksB (P:Program):List Sh→List Field→Nat→Bool
 | [],[],_=>true
 | s::ss,f::fs,off=>Nat.beq f.offset off&&Nat.beq (P.cellsOf f.type) s.n&&s.okB P f.type&&Sh.oksB P ss fs (off+s.n)
 | _,_,_=>false
end
mutual
def TyC:Sh→Heap→List AV→Prop
 | .int k,_,cs=>∃ n,cs=[.int k n]∧(Lit.int k n).wf=true
 | .bool,_,cs=>∃ b,cs=[.bool b]
 | .str,_,cs=>∃ s,cs=[.str s]∧s.length≤maxLen
 | .agg ss,h,cs=>TyCs ss h cs
 | .sl s,h,cs=>∃ sv,cs=[sv]∧(sv=.nilSlice∨∃ (o:Nat) (els:List (List AV)),sv=.slice o 0 0 els.length s.n∧els.length≤maxLen∧h.get o=some (.row els.flatten 0 false)∧∀ x,x∈els→TyC s h x)
def TyCs:List Sh→Heap→List AV→Prop
 | [],_,cs=>cs=[]
 | s::ss,h,cs=>∃ a b,cs=a++b∧TyC s h a∧TyCs ss h b
end
def HLe (h h':Heap):Prop:=h.n≤h'.n∧∀ o y,h.get o=some y→h'.get o=some y
theorem HLe.refl (h:Heap):HLe h h:=⟨Nat.le_refl _,fun _ _ h=>h⟩
theorem HLe.trans {a b c:Heap} (h:HLe a b) (k:HLe b c):HLe a c:=⟨Nat.le_trans h.1 k.1,fun o y hy=>k.2 o y (h.2 o y hy)⟩
theorem HLe.push (h:Heap) (x:AObj):HLe h (h.push x):=⟨Nat.le_succ _,fun o y hy=>get_push_some hy⟩
mutual
theorem TyC.mono {h h':Heap} (hl:HLe h h'):∀ (s:Sh) {cs:List AV},TyC s h cs→TyC s h' cs
 | .int k,_,ht=>ht
 | .bool,_,ht=>ht
 | .str,_,ht=>ht
 | .agg ss,_,ht=>by simp only [TyC] at ht ⊢; exact TyCs.mono hl ss ht
 | .sl s,cs,ht=>by
  simp only [TyC] at ht ⊢
  obtain ⟨sv,h1,h2⟩:=ht
  refine ⟨sv,h1,?_⟩
  rcases h2 with h2 | ⟨o,els,h2,h3,h4,h5⟩
  ·exact .inl h2
  exact .inr ⟨o,els,h2,h3,hl.2 _ _ h4,fun x hx=>TyC.mono hl s (h5 x hx)⟩
theorem TyCs.mono {h h':Heap} (hl:HLe h h'):∀ (ss:List Sh) {cs:List AV},TyCs ss h cs→TyCs ss h' cs
 | [],_,ht=>ht
 | s::ss,cs,ht=>by
  simp only [TyCs] at ht ⊢
  obtain ⟨a,b,h1,h2,h3⟩:=ht
  exact ⟨a,b,h1,TyC.mono hl s h2,TyCs.mono hl ss h3⟩
end
mutual
theorem TyC.len:∀ (s:Sh) {h:Heap} {cs:List AV},TyC s h cs→cs.length=s.n
 | .int k,_,_,ht=>by simp only [TyC] at ht; obtain ⟨n,rfl,_⟩:=ht; rfl
 | .bool,_,_,ht=>by simp only [TyC] at ht; obtain ⟨n,rfl⟩:=ht; rfl
 | .str,_,_,ht=>by simp only [TyC] at ht; obtain ⟨n,rfl,_⟩:=ht; rfl
 | .agg ss,_,_,ht=>by simp only [TyC] at ht; simp only [Sh.n]; exact TyCs.len ss ht
 | .sl s,_,_,ht=>by simp only [TyC] at ht; obtain ⟨n,rfl,_⟩:=ht; rfl
theorem TyCs.len:∀ (ss:List Sh) {h:Heap} {cs:List AV},TyCs ss h cs→cs.length=Sh.ns ss
 | [],_,_,ht=>by simp only [TyCs] at ht; rw [ht]; rfl
 | s::ss,_,_,ht=>by
  simp only [TyCs] at ht
  obtain ⟨a,b,rfl,h2,h3⟩:=ht
  rw [List.length_append,TyC.len s h2,TyCs.len ss h3]; rfl
end
structure Ext (K:KM) (h:Heap) (K':KM) (h':Heap):Prop where
 kle:KLe K K'
 hle:HLe h h'
theorem Ext.refl (K:KM) (h:Heap):Ext K h K h:=⟨KLe.refl _,HLe.refl _⟩
theorem Ext.trans {K K' K'':KM} {h h' h'':Heap} (a:Ext K h K' h') (b:Ext K' h' K'' h''):Ext K h K'' h'':=⟨a.kle.trans b.kle,a.hle.trans b.hle⟩
variable {H:Type} {enc:TypeId×Value→H} {P:Program} {w:World} {B:Nat}
def Opens (B:Nat) (w:World) (s:Sh) (cs:List Value):Prop:=
 ∀ K h,Sim B K h w→∃ K' h' avs,Ext K h K' h'∧Sim B K' h' w∧VRs K' avs cs∧avs.all AV.flat=true∧TyC s h' avs
theorem open_list {s:Sh}:∀ (css:List (List Value)),(∀ c,c∈css→Opens B w s c)→∀ K h,Sim B K h w→
  ∃ (K':KM) (h':Heap) (els:List (List AV)),Ext K h K' h'∧Sim B K' h' w∧els.length=css.length∧VRs K' els.flatten css.flatten∧els.flatten.all AV.flat=true∧∀ x,x∈els→TyC s h' x
 | [],_,K,h,hs=>⟨K,h,[],Ext.refl _ _,hs,rfl,VRs.nil,rfl,fun _ hx=>by cases hx⟩
 | c::css,hc,K,h,hs=>by
  obtain ⟨K1,h1,avs,e1,s1,v1,f1,t1⟩:=hc c (List.mem_cons_self ..) K h hs
  obtain ⟨K2,h2,els,e2,s2,l2,v2,f2,t2⟩:=open_list css (fun x hx=>hc x (List.mem_cons_of_mem _ hx)) K1 h1 s1
  refine ⟨K2,h2,avs::els,e1.trans e2,s2,by simp [l2],?_,?_,?_⟩
  ·simp only [List.flatten_cons]; exact (VRs.mono e2.kle _ _ v1).append v2
  ·simp only [List.flatten_cons,List.all_append,f1,f2,Bool.and_self]
  intro x hx
  rcases List.mem_cons.1 hx with rfl | hx
  ·exact TyC.mono e2.hle s t1
  exact t2 x hx
theorem Sim.addRow {K:KM} {h:Heap} (hs:Sim B K h w) {i:Info} {cs:List AV} (hok:ObjOk B K w i (.row cs 0 false)) (hb:i.blk < B) :
  Ext K h (K.put h.n i) (h.push (.row cs 0 false))∧Sim B (K.put h.n i) (h.push (.row cs 0 false)) w:=by
 have ho:K h.n=none:=by
  cases hk:K h.n with
  | none=>rfl
  | some j=>have:=hs.dom _ _ hk; omega
 have hg:∀ o j,K o=some j→o≠h.n:=fun o j hj e=>by rw [e,ho] at hj; cases hj
 refine ⟨⟨KLe.put ho,HLe.push _ _⟩,⟨fun x j hx=>?_,fun x j hx=>?_,fun x x' j j' ob' h1 h2 h3 h4 h5=>?_,hs.big⟩⟩
 ·unfold KM.put at hx
  by_cases e:x=h.n
  ·rw [if_pos e] at hx; cases hx
   exact ⟨_,by rw [Heap.get_push,if_pos e],hok.step (KLe.put ho) rfl⟩
  rw [if_neg e] at hx
  obtain ⟨ob,a,b⟩:=hs.obj x j hx
  exact ⟨ob,get_push_some a,b.step (KLe.put ho) rfl⟩
 ·unfold KM.put at hx
  rw [Heap.n_push]
  by_cases e:x=h.n
  ·omega
  rw [if_neg e] at hx; have:=hs.dom x j hx; omega
 unfold KM.put at h1 h2
 by_cases e:x=h.n
 ·rw [Heap.get_push,if_pos e] at h3; cases h3; cases h4
 rw [if_neg e] at h1
 rw [Heap.get_push,if_neg e] at h3
 by_cases e':x'=h.n
 ·rw [if_pos e'] at h2; cases h2
  obtain ⟨ob,k1,k2⟩:=hs.obj x j h1
  rw [k1] at h3; cases h3
  exfalso
  have:B≤j.blk:=by
   cases ob' with
   | row cs ver wr=>
    simp only [AObj.own] at h4
    obtain ⟨_,_,_,_,_,_,_,_,k⟩:=k2
    exact (k h4).1
   | map es=>exact k2.2.1
   | iter s pos=>exact k2.2.1
  omega
 rw [if_neg e'] at h2
 exact hs.excl x x' j j' ob' h1 h2 h3 h4 h5
theorem VRs.sing {K:KM} {a:AV} {x:Value} (h:VR K a x):VRs K [a] [x]:=VRs.cons h VRs.nil
theorem cells_get {base:Nat} {a:Addr} {n:Nat} {cs:List Value} (h:w.cells? base a n=some cs):cs.length=n∧∀ i,i < n→w.cell? (a.add i)=cs[i]?:=by
 unfold World.cells? at h
 split at h
 ·have hl:=mapM_some_length h
  refine ⟨by simpa using hl,fun i hi=>?_⟩
  exact mapM_some_get h i i (by simp [hi])
 cases h
theorem cell_some {a:Addr} {v:Value} (h:w.cell? a=some v):a.spot=none∧∃ c el fz,w.heap[a.block]? = some (.cells c el fz)∧c[a.off]? = some v:=by
 unfold World.cell? at h
 split at h
 ·rename_i c el fz hc
  split at h
  ·cases h
  rename_i hsp
  refine ⟨by cases hq:a.spot with
   | none=>rfl
   | some x=>rw [hq] at hsp; simp at hsp,c,el,fz,hc,h⟩
 cases h
theorem add_block (a:Addr) (n:Nat):(a.add n).block=a.block:=by unfold Addr.add; split<;>rfl
theorem add_off (a:Addr) (n:Nat):(a.add n).off=a.off+n:=by
 unfold Addr.add
 split
 ·rename_i h; rw [h]; rfl
 rfl
theorem add_add (a:Addr) (n m:Nat):(a.add n).add m=a.add (n+m):=by
 unfold Addr.add
 by_cases hn:n=0
 ·subst hn; simp
 by_cases hm:m=0
 ·subst hm; simp [hn]
 have:n+m≠0:=by omega
 simp [hn,hm,this,Nat.add_assoc]
theorem flatten_get {α:Type} {z:Nat}:∀ (css:List (List α)),(∀ c,c∈css→c.length=z)→∀ i j,j < z→css.flatten[i * z+j]? = (css[i]?).bind fun c=>c[j]?
 | [],_,i,j,_=>by simp
 | c::css,hc,0,j,hj=>by
  have hl:=hc c (List.mem_cons_self ..)
  simp only [List.flatten_cons,Nat.zero_mul,Nat.zero_add,List.getElem?_cons_zero,Option.bind_some]
  rw [List.getElem?_append_left (by omega)]
 | c::css,hc,i+1,j,hj=>by
  have hl:=hc c (List.mem_cons_self ..)
  simp only [List.flatten_cons,List.getElem?_cons_succ]
  rw [List.getElem?_append_right (by rw [hl,Nat.succ_mul]; omega),hl,Nat.succ_mul,show i * z+z+j - z=i * z+j by omega]
  exact flatten_get css (fun x hx=>hc x (List.mem_cons_of_mem _ hx)) i j hj
theorem flatten_len {α:Type} {z:Nat}:∀ (css:List (List α)),(∀ c,c∈css→c.length=z)→css.flatten.length=css.length * z
 | [],_=>by simp
 | c::css,hc=>by
  rw [List.flatten_cons,List.length_append,hc c (List.mem_cons_self ..),flatten_len css (fun x hx=>hc x (List.mem_cons_of_mem _ hx)),List.length_cons,Nat.succ_mul]; omega
theorem open_slice {s:Sh} (hz:1≤s.n) {a:Addr} {len cap:Nat} {css:List (List Value)} (hlt:∀ c el fz,w.heap[a.block]? = some (.cells c el fz)→a.block < B) (hD:∃ g c el fz,g < B∧w.heap[g]? = some (.cells c el fz))
  (hlen:css.length=len) (hlc:len≤cap) (hmax:len≤maxLen) (hcs:∀ i c,css[i]? = some c→c.length=s.n∧∀ j,j < s.n→w.cell? (a.add (i * s.n+j))=c[j]?)
  (hcap:0 < cap→∃ v,w.cell? (a.add (cap * s.n - 1))=some v) (hsp:0 < cap→∃ v,w.cell? a=some v) (hel:∀ c,c∈css→Opens B w s c):Opens B w (.sl s) [.slice (some a) len cap]:=by
 intro K h hs
 obtain ⟨K1,h1,els,e1,s1,l1,v1,f1,t1⟩:=open_list css hel K h hs
 have hcl:∀ c,c∈css→c.length=s.n:=fun c hc=>by
  obtain ⟨i,hi⟩:=List.getElem?_of_mem hc
  exact (hcs i c hi).1
 have hell:∀ x,x∈els→x.length=s.n:=fun x hx=>TyC.len s (t1 x hx)
 have fl:=flatten_len els hell
 have flc:=flatten_len css hcl
 have hall:∀ (j:Nat) (x:AV),els.flatten[j]? = some x→x.flat=true:=fun j x hx=>by
  have:=List.all_eq_true.1 f1 x (List.mem_of_getElem? hx)
  exact this
 by_cases hc0:cap=0
 ·subst hc0
  have hl0:len=0:=by omega
  subst hl0
  obtain ⟨g,c,el,fz,hg,hgc⟩:=hD
  obtain ⟨e2,s2⟩:=s1.addRow (i:=⟨0,g,0,c.size⟩) (cs:=[]) ⟨rfl,c,el,fz,hgc,rfl,by simp,fun j x hx=>by simp at hx,fun hh=>by cases hh⟩ hg
  refine ⟨_,_,[.slice h1.n 0 0 0 s.n],e1.trans e2,s2,VRs.sing ?_,rfl,?_⟩
  ·simp only [VR]
   exact ⟨a,0,_,rfl,by simp [KM.put]; rfl,Nat.le_refl _,Nat.zero_le _,fun _=>⟨by simp,fun hh=>by omega⟩⟩
  simp only [TyC]
  exact ⟨_,rfl,.inr ⟨h1.n,[],rfl,Nat.zero_le _,by rw [Heap.get_push,if_pos rfl]; rfl,fun x hx=>by cases hx⟩⟩
 obtain ⟨v0,hv0⟩:=hsp (by omega)
 obtain ⟨hspot,c,el,fz,hc,hc0'⟩:=cell_some hv0
 obtain ⟨v2,hv2⟩:=hcap (by omega)
 obtain ⟨_,c2,el2,fz2,hc2,hce⟩:=cell_some hv2
 rw [add_block,hc] at hc2
 cases hc2
 rw [add_off] at hce
 have hsz:a.off+(cap * s.n - 1) < c.size:=by
  rcases Nat.lt_or_ge (a.off+(cap * s.n - 1)) c.size with hh | hh
  ·exact hh
  rw [Array.getElem?_eq_none hh] at hce; cases hce
 have hpos:1≤cap * s.n:=Nat.mul_pos (by omega) hz
 have hle:len * s.n≤cap * s.n:=Nat.mul_le_mul_right _ hlc
 have hok:ObjOk B K1 w ⟨0,a.block,a.off,c.size⟩ (.row els.flatten 0 false):=by
  refine ⟨rfl,c,el,fz,hc,rfl,?_,?_,fun hh=>by cases hh⟩
  ·show a.off+els.flatten.length≤c.size
   rw [fl,l1,hlen]; omega
  intro j x hx
  refine ⟨hall j x hx,?_⟩
  obtain ⟨y,hy,hv⟩:=v1.get j x hx
  refine ⟨y,?_,hv⟩
  have hj:j < css.flatten.length:=by
   rcases Nat.lt_or_ge j css.flatten.length with hh | hh
   ·exact hh
   rw [List.getElem?_eq_none hh] at hy; cases hy
  have hjd:j / s.n * s.n+j % s.n=j:=by rw [Nat.mul_comm]; exact Nat.div_add_mod j s.n
  have hjm:j % s.n < s.n:=Nat.mod_lt _ hz
  have hyy:=flatten_get css hcl (j / s.n) (j % s.n) hjm
  rw [hjd,hy] at hyy
  cases hq:css[j / s.n]? with
  | none=>rw [hq] at hyy; cases hyy
  | some cc=>
   rw [hq] at hyy
   simp only [Option.bind_some] at hyy
   have:=(hcs _ _ hq).2 _ hjm
   rw [hjd,← hyy] at this
   obtain ⟨_,c3,el3,fz3,hc3,hh3⟩:=cell_some this
   rw [add_block,hc] at hc3
   cases hc3
   rw [add_off] at hh3
   exact hh3
 obtain ⟨e2,s2⟩:=s1.addRow (i:=⟨0,a.block,a.off,c.size⟩) hok (hlt c el fz hc)
 refine ⟨_,_,[.slice h1.n 0 0 len s.n],e1.trans e2,s2,VRs.sing ?_,rfl,?_⟩
 ·simp only [VR]
  refine ⟨a,cap,⟨0,a.block,a.off,c.size⟩,rfl,by simp [KM.put],hlc,Nat.zero_le _,fun _=>⟨?_,fun _=>?_⟩⟩
  ·show a.off+0+cap * s.n≤c.size
   omega
  cases a; simp only at hspot; subst hspot; rfl
 simp only [TyC]
 exact ⟨_,rfl,.inr ⟨h1.n,els,by rw [l1,hlen],by rw [l1,hlen]; exact hmax,by rw [Heap.get_push,if_pos rfl],fun x hx=>TyC.mono e2.hle s (t1 x hx)⟩⟩
mutual
theorem open_sh (hB:w.heap.size≤B) (hD:∃ g c el fz,g < B∧w.heap[g]? = some (.cells c el fz)):∀ (s:Sh) (n:Nat) (t:TypeId) (cs:List Value) (x:DataW H×List MemPlace),s.okB P t=true→DataW.trod enc P w 0 (fun _=>true) true n t cs=some x→Opens B w s cs
 | .int k,n,t,cs,x,hok,ht=>by
  simp only [Sh.okB] at hok
  split at hok
  ·rename_i k' hu
   have hk:=of_decide_eq_true hok
   subst hk
   cases n with
   | zero=>simp [DataW.trod] at ht
   | succ n=>
    unfold DataW.trod at ht
    rw [hu] at ht
    split at ht<;>simp_all
    rename_i ka kb m he
    obtain ⟨⟨hk,hwf⟩,_⟩:=ht
    subst he
    subst hk
    intro K h hs
    exact ⟨K,h,[.int kb m],Ext.refl _ _,hs,VRs.sing (by simp [VR]),rfl,by simp only [TyC]; exact ⟨m,rfl,hwf⟩⟩
  cases hok
 | .bool,n,t,cs,x,hok,ht=>by
  simp only [Sh.okB] at hok
  split at hok
  ·rename_i hu
   cases n with
   | zero=>simp [DataW.trod] at ht
   | succ n=>
    unfold DataW.trod at ht
    rw [hu] at ht
    split at ht<;>simp_all
    rename_i b
    intro K h hs
    exact ⟨K,h,[.bool b],Ext.refl _ _,hs,VRs.sing (by simp [VR]),rfl,by simp only [TyC]; exact ⟨b,rfl⟩⟩
  cases hok
 | .str,n,t,cs,x,hok,ht=>by
  simp only [Sh.okB] at hok
  split at hok
  ·rename_i hu
   cases n with
   | zero=>simp [DataW.trod] at ht
   | succ n=>
    unfold DataW.trod at ht
    rw [hu] at ht
    split at ht<;>simp_all
    rename_i b
    intro K h hs
    exact ⟨K,h,[.str b.data.toList],Ext.refl _ _,hs,VRs.sing (by simp [VR]),rfl,by simp only [TyC]; exact ⟨_,rfl,by simpa using ht.1⟩⟩
  cases hok
 | .agg ss,n,t,cs,x,hok,ht=>by
  simp only [Sh.okB] at hok
  split at hok
  ·rename_i fs hu
   simp only [Bool.and_eq_true] at hok
   obtain ⟨xs,m,rfl,_,hl,hxl,hf⟩:=DataW.trod_struct hu ht
   have hsz:=Nat.eq_of_beq_eq_true hok.2
   have key:=open_shs hB hD ss fs.toList 0 m cs hok.1 (fun f hf'=>by
    obtain ⟨i,hi⟩:=List.getElem?_of_mem hf'
    have hi':fs[i]? = some f:=by simpa using hi
    have hilt:i < fs.size:=by
     rcases Nat.lt_or_ge i fs.size with hh | hh
     ·exact hh
     rw [Array.getElem?_eq_none hh] at hi'; cases hi'
    refine ⟨xs[i]'(by omega),?_⟩
    rw [hf i f hi',List.getElem?_eq_getElem])
   intro K h hs
   obtain ⟨K',h',avs,e1,s1,v1,f1,t1⟩:=key K h hs
   refine ⟨K',h',avs,e1,s1,?_,f1,by simp only [TyC]; exact t1⟩
   have:(cs.drop 0).take (Sh.ns ss)=cs:=by
    rw [List.drop_zero,List.take_of_length_le (by rw [hl,hsz]; exact Nat.le_refl _)]
   rw [this] at v1; exact v1
  cases hok
 | .sl s,n,t,cs,x,hok,ht=>by
  simp only [Sh.okB] at hok
  split at hok
  ·rename_i e hu
   simp only [Bool.and_eq_true] at hok
   obtain ⟨⟨h1,h2⟩,h3⟩:=hok
   have hz:1≤s.n:=Nat.le_of_ble_eq_true h3
   have hce:=Nat.eq_of_beq_eq_true h2
   rcases DataW.trod_slice hu ht with ⟨rfl,_⟩ | ⟨a,len,cap,elems,rest,m,_,rfl,_,_,hlc,hcm,hle,hel,hre,_⟩
   ·intro K h hs
    exact ⟨K,h,[.nilSlice],Ext.refl _ _,hs,VRs.sing (by simp [VR]),rfl,by simp only [TyC]; exact ⟨_,rfl,.inl rfl⟩⟩
   obtain ⟨hrl,hrr⟩:=hre rfl
   rw [hce] at hel hrr
   have each:∀ i,i < cap→∃ c y,w.cells? 0 (a.add (i * s.n)) s.n=some c∧DataW.trod enc P w 0 (fun _=>true) true m e c=some y:=by
    intro i hi
    by_cases hil:i < len
    ·have:=hel i hil
     rw [List.getElem?_eq_getElem (by omega)] at this
     obtain ⟨c,k1,k2⟩:=Option.bind_eq_some_iff.1 this
     exact ⟨c,_,k1,k2⟩
    have:=hrr (i - len) (by omega)
    rw [List.getElem?_eq_getElem (by omega),show len+(i - len)=i by omega] at this
    obtain ⟨c,k1,k2⟩:=Option.bind_eq_some_iff.1 this
    exact ⟨c,_,k1,k2⟩
   let css:List (List Value):=(List.range len).map fun i=>(w.cells? 0 (a.add (i * s.n)) s.n).getD []
   have hcss:∀ i c,css[i]? = some c→i < len∧w.cells? 0 (a.add (i * s.n)) s.n=some c:=by
    intro i c hi
    simp only [css,List.getElem?_map] at hi
    rcases Nat.lt_or_ge i len with hh | hh
    ·obtain ⟨c',_,k1,_⟩:=each i (by omega)
     rw [List.getElem?_range hh] at hi
     simp only [Option.map_some,k1,Option.getD_some] at hi
     cases hi
     exact ⟨hh,k1⟩
    rw [List.getElem?_eq_none (by simpa using hh)] at hi; cases hi
   refine open_slice (css:=css) hz (fun c el fz hc=>?_) hD (by simp [css]) hlc (by omega) (fun i c hi=>?_) (fun hc=>?_) (fun hc=>?_) (fun c hc=>?_)
   ·rcases Nat.lt_or_ge a.block B with hh | hh
    ·exact hh
    rw [Array.getElem?_eq_none (by omega)] at hc; cases hc
   ·obtain ⟨_,k⟩:=hcss i c hi
    obtain ⟨q1,q2⟩:=cells_get k
    exact ⟨q1,fun j hj=>by rw [← q2 j hj,add_add]⟩
   ·obtain ⟨c,_,k,_⟩:=each (cap - 1) (by omega)
    obtain ⟨q1,q2⟩:=cells_get k
    have:=q2 (s.n - 1) (by omega)
    rw [add_add,List.getElem?_eq_getElem (by omega)] at this
    have e:(cap - 1) * s.n+(s.n - 1)=cap * s.n - 1:=by
     obtain ⟨q,rfl⟩:∃ q,cap=q+1:=⟨cap - 1,by omega⟩
     rw [Nat.succ_mul]; simp only [Nat.add_sub_cancel]; omega
    rw [e] at this
    exact ⟨_,this⟩
   ·obtain ⟨c,_,k,_⟩:=each 0 hc
    obtain ⟨q1,q2⟩:=cells_get k
    have:=q2 0 (by omega)
    rw [add_add,List.getElem?_eq_getElem (by omega),Nat.zero_mul] at this
    have e:a.add (0+0)=a:=by simp [Addr.add]
    rw [e] at this
    exact ⟨_,this⟩
   obtain ⟨i,hi⟩:=List.getElem?_of_mem hc
   obtain ⟨hil,k⟩:=hcss i c hi
   obtain ⟨c',y,k1,k2⟩:=each i (by omega)
   rw [k] at k1; cases k1
   exact open_sh hB hD s m e c y h1 k2
  cases hok
theorem open_shs (hB:w.heap.size≤B) (hD:∃ g c el fz,g < B∧w.heap[g]? = some (.cells c el fz)):∀ (ss:List Sh) (fs:List Field) (off n:Nat) (cs:List Value),Sh.oksB P ss fs off=true→
  (∀ f,f∈fs→∃ x,DataW.trod enc P w 0 (fun _=>true) true n f.type ((cs.drop f.offset).take (P.cellsOf f.type))=some x)→
  ∀ K h,Sim B K h w→∃ K' h' avs,Ext K h K' h'∧Sim B K' h' w∧VRs K' avs ((cs.drop off).take (Sh.ns ss))∧avs.all AV.flat=true∧TyCs ss h' avs
 | [],fs,off,n,cs,hok,hf,K,h,hs=>⟨K,h,[],Ext.refl _ _,hs,by simp only [Sh.ns,List.take_zero]; exact VRs.nil,rfl,by simp only [TyCs]⟩
 | s::ss,[],off,n,cs,hok,hf,K,h,hs=>by simp [Sh.oksB] at hok
 | s::ss,f::fs,off,n,cs,hok,hf,K,h,hs=>by
  simp only [Sh.oksB,Bool.and_eq_true] at hok
  obtain ⟨⟨⟨k1,k2⟩,k3⟩,k4⟩:=hok
  have k1:=Nat.eq_of_beq_eq_true k1
  have k2:=Nat.eq_of_beq_eq_true k2
  obtain ⟨x,hx⟩:=hf f (List.mem_cons_self ..)
  rw [k1,k2] at hx
  obtain ⟨K1,h1,avs,e1,s1,v1,f1,t1⟩:=open_sh hB hD s n f.type _ x k3 hx K h hs
  obtain ⟨K2,h2,avs2,e2,s2,v2,f2,t2⟩:=open_shs hB hD ss fs (off+s.n) n cs k4 (fun f hf'=>hf f (List.mem_cons_of_mem _ hf')) K1 h1 s1
  refine ⟨K2,h2,avs++avs2,e1.trans e2,s2,?_,by simp [f1,f2],?_⟩
  ·rw [Sh.ns,List.take_add]
   rw [List.drop_drop]
   exact (VRs.mono e2.kle _ _ v1).append v2
  simp only [TyCs]
  exact ⟨avs,avs2,rfl,TyC.mono e2.hle s t1,t2⟩
end
end Go.Am
namespace Go.Am
open Go Go.WideShapes Go.RowKit
def TyA:Sh→Heap→AV→Prop
 | .agg ss,h,v=>∃ cs,v=.agg cs∧TyCs ss h cs
 | s,h,v=>TyC s h [v]
def TyAs:List Sh→Heap→List AV→Prop
 | [],_,vs=>vs=[]
 | s::ss,h,vs=>∃ a b,vs=a::b∧TyA s h a∧TyAs ss h b
theorem TyA.mono {h h':Heap} (hl:HLe h h'):∀ (s:Sh) {v:AV},TyA s h v→TyA s h' v
 | .agg ss,_,⟨cs,h1,h2⟩=>⟨cs,h1,TyCs.mono hl ss h2⟩
 | .int _,_,ht=>TyC.mono hl _ ht
 | .bool,_,ht=>TyC.mono hl _ ht
 | .str,_,ht=>TyC.mono hl _ ht
 | .sl _,_,ht=>TyC.mono hl _ ht
variable {H:Type} {enc:TypeId×Value→H} {P:Program} {w:World} {B:Nat}
theorem vrs_single {K:KM} {avs:List AV} {v:Value} (h:VRs K avs [v]):∃ a,avs=[a]∧VR K a v:=by
 match avs,h with
 | [],h=>simp only [VRs] at h; cases h
 | a::as,h=>
  simp only [VRs] at h
  obtain ⟨b,bs,h1,h2,h3⟩:=h
  cases h1
  cases as with
  | nil=>exact ⟨a,rfl,h2⟩
  | cons x xs=>simp only [VRs] at h3; obtain ⟨_,_,h4,_⟩:=h3; cases h4
theorem open_arg (hB:w.heap.size≤B) (hD:∃ g c el fz,g < B∧w.heap[g]? = some (.cells c el fz)) (s:Sh) (t:TypeId) (v:Value) (d:DataW H) (p:List MemPlace) {r:Reach} {b0:Nat} (hok:s.okB P t=true)
  (hv:Value.okWide P w r b0 t v) (ht:DataW.Trod enc P w 0 (fun _=>true) true t v d p):∀ K h,Sim B K h w→∃ K' h' av,Ext K h K' h'∧Sim B K' h' w∧VR K' av v∧TyA s h' av:=by
 intro K h hs
 obtain ⟨fuel,ht⟩:=ht
 obtain ⟨K',h',avs,e1,s1,v1,f1,t1⟩:=open_sh hB hD s fuel t _ _ hok ht K h hs
 have single:v.cells.toList=[v]→TyC s h' avs→(∀ a,TyC s h' [a]→TyA s h' a)→∃ K' h' av,Ext K h K' h'∧Sim B K' h' w∧VR K' av v∧TyA s h' av:=by
  intro hc htc hta
  rw [hc] at v1
  obtain ⟨a,rfl,hva⟩:=vrs_single v1
  exact ⟨K',h',a,e1,s1,hva,hta a htc⟩
 cases s with
 | agg ss=>
  have hok':=hok
  simp only [Sh.okB] at hok'
  split at hok'
  ·rename_i fs hu
   obtain ⟨cs,rfl,_⟩:=okWide_struct hu hv
   simp only [TyC] at t1
   exact ⟨K',h',.agg avs,e1,s1,by simp only [VR]; exact ⟨cs,rfl,v1,f1⟩,avs,rfl,t1⟩
  cases hok'
 | int k=>
  simp only [Sh.okB] at hok
  split at hok
  ·rename_i k' hu
   obtain ⟨n,rfl⟩:=okWide_int hu hv
   exact single rfl t1 fun a ha=>ha
  cases hok
 | bool=>
  simp only [Sh.okB] at hok
  split at hok
  ·rename_i hu
   obtain ⟨n,rfl⟩:=okWide_bool hu hv
   exact single rfl t1 fun a ha=>ha
  cases hok
 | str=>
  simp only [Sh.okB] at hok
  split at hok
  ·rename_i hu
   obtain ⟨n,rfl⟩:=okWide_string hu hv
   exact single rfl t1 fun a ha=>ha
  cases hok
 | sl e=>
  simp only [Sh.okB] at hok
  split at hok
  ·rename_i e' hu
   obtain ⟨a,l,c,rfl⟩:=okWide_slice hu hv
   exact single rfl t1 fun a ha=>ha
  cases hok
def oksA (P:Program):List Sh→List TypeId→Bool
 | [],[]=>true
 | s::ss,t::ts=>s.okB P t&&oksA P ss ts
 | _,_=>false
theorem open_args (hB:w.heap.size≤B) (hD:∃ g c el fz,g < B∧w.heap[g]? = some (.cells c el fz)) {r:Reach} {b0:Nat}:∀ (ss:List Sh) (ts:List TypeId) (vs:List Value) (ds:List (DataW H)) (p:List MemPlace),oksA P ss ts=true→
  (∀ (j:Nat) t v,ts[j]? = some t→vs[j]? = some v→Value.okWide P w r b0 t v)→DataW.TrodAll enc P w 0 (fun _=>true) true ts vs ds p→
  ∀ K h,Sim B K h w→∃ K' h' avs,Ext K h K' h'∧Sim B K' h' w∧VRs K' avs vs∧TyAs ss h' avs
 | [],[],[],[],p,_,_,_,K,h,hs=>⟨K,h,[],Ext.refl _ _,hs,VRs.nil,rfl⟩
 | s::ss,t::ts,v::vs,d::ds,p,hok,hv,ht,K,h,hs=>by
  simp only [oksA,Bool.and_eq_true] at hok
  obtain ⟨p1,q1,h1,h2,_⟩:=ht
  obtain ⟨K1,h1',av,e1,s1,v1,t1⟩:=open_arg hB hD s t v d p1 hok.1 (hv 0 t v rfl rfl) h1 K h hs
  obtain ⟨K2,h2',avs,e2,s2,v2,t2⟩:=open_args hB hD ss ts vs ds q1 hok.2 (fun j t v a b=>hv (j+1) t v a b) h2 K1 h1' s1
  exact ⟨K2,h2',av::avs,e1.trans e2,s2,VRs.cons (VR.mono e2.kle _ _ v1) v2,av,avs,rfl,TyA.mono e2.hle s t1,t2⟩
 | [],[],_::_,_,_,_,_,ht,_,_,_=>by simp [DataW.TrodAll] at ht
 | [],[],[],_::_,_,_,_,ht,_,_,_=>by simp [DataW.TrodAll] at ht
 | [],_::_,_,_,_,hok,_,_,_,_,_=>by cases hok
 | _::_,[],_,_,_,hok,_,_,_,_,_=>by cases hok
 | _::_,_::_,[],_,_,_,_,ht,_,_,_=>by simp [DataW.TrodAll] at ht
 | _::_,_::_,_::_,[],_,_,_,ht,_,_,_=>by simp [DataW.TrodAll] at ht
theorem Sim.start (hB:B≤w.heap.size):Sim B (fun _=>none) ⟨.nil,0⟩ w:=
 ⟨fun o i h=>(by cases h),fun o i h=>(by cases h),fun o o' i i' ob h=>(by cases h),hB⟩
theorem law_calls {F:Nat→Option AFn} (hT:TabOk P F) {f:Nat} {ss:List Sh} {ts:List TypeId} {args:Array Value} {ds:List (DataW H)} {p:List MemPlace} {r:Reach} {b0:Nat} (hok:oksA P ss ts=true)
  (hD:∃ g c el fz,g < w.heap.size∧w.heap[g]? = some (.cells c el fz))
  (hv:∀ (j:Nat) t v,ts[j]? = some t→args[j]? = some v→Value.okWide P w r b0 t v) (ht:DataW.TrodAll enc P w 0 (fun _=>true) true ts args.toList ds p)
  (law:∀ h xs,TyAs ss h xs→ACalls F f xs h fun v _=>v=.bool true):Calls P f args w fun e w'=>e=.returned (.bool true)∧Below w.heap.size w w':=by
 obtain ⟨K,h,avs,e1,s1,v1,t1⟩:=open_args (B:=w.heap.size) (Nat.le_refl _) hD ss ts args.toList ds p hok (fun j t v a b=>hv j t v a (by simpa using b)) ht _ _ (Sim.start (Nat.le_refl _))
 obtain ⟨n,v,h',hc,rfl⟩:=law h avs t1
 obtain ⟨_,_,hcalls⟩:=(code_all hT n).1 f avs h _ h' hc w.heap.size K w args.toList v1 s1
 rw [Array.toArray_toList] at hcalls
 refine hcalls.mono fun e w' ⟨v',K',k1,k2,_,_,_,k6⟩=>⟨?_,k2⟩
 simp only [VR] at k6
 rw [k1,k6]
theorem trodAll_stays (hl:laidOutB P=true) {w':World} (hb:Below w.heap.size w w'):∀ (ts:List TypeId) (vs:List Value) (ds:List (DataW H)) (p:List MemPlace),(ts.all fun t=>P.readableRec t&&decide (t < P.types.size))=true→
  DataW.TrodAll enc P w 0 (fun _=>true) true ts vs ds p→DataW.TrodAll enc P w' 0 (fun b=>decide (b < w.heap.size)) true ts vs ds p
 | [],[],[],p,_,ht=>ht
 | t::ts,v::vs,d::ds,p,hr,ht=>by
  simp only [List.all_cons,Bool.and_eq_true,decide_eq_true_eq] at hr
  obtain ⟨p1,q1,h1,h2,h3⟩:=ht
  exact ⟨p1,q1,Below.trod hl hr.1.1 hr.1.2 h1 hb (by obtain ⟨m,hm⟩:=h1; exact DataW.trod_lt m _ _ _ hm),trodAll_stays hl hb ts vs ds q1 hr.2 h2,h3⟩
 | [],_::_,_,_,_,ht=>by simp [DataW.TrodAll] at ht
 | [],[],_::_,_,_,ht=>by simp [DataW.TrodAll] at ht
 | _::_,[],_,_,_,ht=>by simp [DataW.TrodAll] at ht
 | _::_,_::_,[],_,_,ht=>by simp [DataW.TrodAll] at ht
theorem trodAll_len {ts:List TypeId}:∀ {vs:List Value} {ds:List (DataW H)} {p:List MemPlace},DataW.TrodAll enc P w 0 (fun _=>true) true ts vs ds p→ds.length=ts.length:=by
 induction ts with
 | nil=>intro vs ds p ht; cases vs<;>cases ds<;>simp_all [DataW.TrodAll]
 | cons t ts ih=>
  intro vs ds p ht
  cases vs<;>cases ds<;>simp only [DataW.TrodAll] at ht
  obtain ⟨_,_,_,h2,_⟩:=ht
  rw [List.length_cons,List.length_cons,ih h2]
def isCells:Option Obj→Bool
 | some (.cells _ _ _)=>true
 | _=>false
theorem isCells_ex {o:Option Obj} (h:isCells o=true):∃ c el fz,o=some (.cells c el fz):=by
 cases o with
 | none=>cases h
 | some o=>cases o<;>first | exact ⟨_,_,_,rfl⟩ | cases h
theorem block_there {C:Program} {W:World} (hs:W.ShapedOpen C) (hc:∃ c el fz,(begin C (fun _ _=>0) default).world.heap[C.globals.size]? = some (.cells c el fz)):∃ g c el fz,g < W.heap.size∧W.heap[g]? = some (.cells c el fz):=by
 obtain ⟨c,el,fz,h1⟩:=hc
 have hlt:C.globals.size < (begin C (fun _ _=>0) default).world.heap.size:=by
  rcases Nat.lt_or_ge C.globals.size (begin C (fun _ _=>0) default).world.heap.size with hh | hh
  ·exact hh
  rw [Array.getElem?_eq_none hh] at h1; cases h1
 obtain ⟨o,o0,k1,k2,k3⟩:=hs.2 C.globals.size (Nat.le_refl _) hlt
 rw [Nat.sub_self] at k3
 simp only [World.looseAt] at k3
 simp at k3
 rw [h1] at k2; cases k2
 subst k3
 refine ⟨_,c,el,fz,?_,k1⟩
 rcases Nat.lt_or_ge C.globals.size W.heap.size with hh | hh
 ·exact hh
 rw [Array.getElem?_eq_none hh] at k1; cases k1
end Go.Am
