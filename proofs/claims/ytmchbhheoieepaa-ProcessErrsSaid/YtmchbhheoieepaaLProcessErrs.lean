/- The law ProcessErrs: its pure function answers true, whatever it is called with; so does the machine's function. No condition. Own work. -/
import Derived.Test.YtmchbhheoieepaaPm2ProcessErrs
import Derived.Test.YtmchbhheoieepaaVm4ProcessErrs
import Derived.Test.YtmchbhheoieepaaGbProcessErrs
import Derived.KernelRfl
import Derived.Test.YtmchbhheoieepaaVm5ProcessErrs
set_option linter.unusedSimpArgs false
set_option linter.unusedVariables false
namespace Go.Am
open Go
def Ev {α:Type} (o:Option α) (Q:α→Prop):Prop:=∃ a,o=some a∧Q a
section
variable {α β σ ρ:Type}
theorem aa {a:α} {Q:α→Prop}:Ev (some a) Q↔Q a:=⟨fun ⟨b,h,q⟩=>by cases h; exact q,fun q=>⟨a,rfl,q⟩⟩
theorem ae {o:Option α} {f:α→Option β} {Q:β→Prop}:Ev (o.bind f) Q↔Ev o (fun a=>Ev (f a) Q):=by
 constructor
 ·rintro ⟨b,h,q⟩
  cases o with
  | none=>cases h
  | some a=>exact ⟨a,rfl,b,h,q⟩
 rintro ⟨a,rfl,b,h,q⟩
 exact ⟨b,h,q⟩
theorem C9 {c:Prop} [Decidable c] {a b:Option α} {Q:α→Prop}:Ev (if c then a else b) Q↔(c→Ev a Q)∧(¬ c→Ev b Q):=by
 by_cases h:c
 ·rw [if_pos h]; exact ⟨fun q=>⟨fun _=>q,fun k=>absurd h k⟩,fun q=>q.1 h⟩
 rw [if_neg h]; exact ⟨fun q=>⟨fun k=>absurd k h,fun _=>q⟩,fun q=>q.2 h⟩
theorem Ev.imp {o:Option α} {P Q:α→Prop} (h:Ev o P) (k:∀ a,P a→Q a):Ev o Q:=by
 obtain ⟨a,e,p⟩:=h; exact ⟨a,e,k a p⟩
theorem Ev.bind {o:Option α} {f:α→Option β} {P:α→Prop} {Q:β→Prop} (h:Ev o P) (k:∀ a,P a→Ev (f a) Q):Ev (o.bind f) Q:=ae.2 (h.imp k)
theorem Ev.eq {o:Option α} {a:α}:Ev o (fun b=>b=a)↔o=some a:=⟨fun ⟨b,h,e⟩=>by rw [h,e],fun h=>⟨a,h,rfl⟩⟩
theorem Ev.of {o:Option α} {a:α} {Q:α→Prop} (h:o=some a) (q:Q a):Ev o Q:=⟨a,h,q⟩
theorem Ev.ite {c:Prop} [Decidable c] {a b:Option α} {Q:α→Prop} (h:c→Ev a Q) (k:¬ c→Ev b Q):Ev (if c then a else b) Q:=C9.2 ⟨h,k⟩
theorem Ev.get {o:Option α} {Q:α→Prop} {a:α} (h:Ev o Q) (e:o=some a):Q a:=by obtain ⟨b,h,q⟩:=h; rw [e] at h; cases h; exact q
theorem Ev.idx {l:List α} {i:Int} {Q:α→Prop} (k:Nat) (e:i=(k:Int)) (h:k < l.length) (q:Q l[k]):Ev (idx l i) Q:=⟨l[k],by rw [e]; exact bv h,q⟩
theorem Ev.idx? {l:List α} {i:Int} {Q:α→Prop} (k:Nat) (e:i=(k:Int)) {x:α} (h:l[k]? = some x) (q:Q x):Ev (Go.Am.idx l i) Q:=⟨x,by rw [e]; exact dQ h,q⟩
theorem Ev.app {l k:List α} {b:Nat} {Q:List α→Prop} (h:l.length+k.length≤1000000000) (q:Q (l++k)) (hb:b≤1000:=by decide):Ev (app b l k) Q:=⟨_,CJ h hb,q⟩
theorem Ev.mkS {n:Int} {b:Nat} {x:α} {Q:List α→Prop} (h0:0≤n) (h:n≤1000000000) (q:Q (List.replicate n.toNat x)) (hb:b≤1000:=by decide):Ev (mkS b n n x) Q:=⟨_,Dr h0 h hb,q⟩
theorem Ev.catS {a b:List UInt8} {Q:List UInt8→Prop} (h:a.length+b.length≤1000000000) (q:Q (a++b)):Ev (catS a b) Q:=⟨_,Be h,q⟩
theorem Ev.remI {k:IntKind} {a b:Int} {Q:Int→Prop} (h:0≤a) (hb:0 < b) (q:Q (a % b)):Ev (remI k a b) Q:=⟨_,xh (by omega),by rw [Int.tmod_eq_emod_of_nonneg h]; exact q⟩
theorem yK {a b:Int} (h:0≤a) (ha:a≤9223372036854775807) (hb:0 < b):quoI .i64 a b=some (a / b):=by
 unfold quoI
 rw [if_neg (by omega),Int.tdiv_eq_ediv_of_nonneg h,aH]
 ·have:=Int.ediv_nonneg h (by omega:0≤b); omega
 have:a / b≤a:=Int.ediv_le_self _ h; omega
theorem Ev.quoI {a b:Int} {Q:Int→Prop} (h:0≤a) (ha:a≤9223372036854775807) (hb:0 < b) (q:Q (a / b)):Ev (quoI .i64 a b) Q:=⟨_,yK h ha hb,q⟩
theorem gi {f:σ→Option (σ⊕ρ)} (I:σ→Prop) (μ:σ→Nat) (Q:ρ→Prop) (step:∀ s,I s→(∃ s',f s=some (.inl s')∧I s'∧μ s' < μ s)∨∃ r,f s=some (.inr r)∧Q r) {s:σ} (h0:I s) (hm:μ s < 1099511627776):∃ r,aq f s=some r∧Q r:=by
 have key:∀ n s,μ s < n→I s→∃ r,iter f n s=some r∧Q r:=by
  intro n
  induction n with
  | zero=>intro s h; omega
  | succ n ih=>
   intro s hs hI
   rcases step s hI with ⟨s',h1,h2,h3⟩ | ⟨r,h1,h2⟩
   ·obtain ⟨r,h4,h5⟩:=ih s' (by omega) h2
    exact ⟨r,by rw [iter]; simp only [h1]; exact h4,h5⟩
   exact ⟨r,by rw [iter]; simp only [h1],h2⟩
 obtain ⟨r,h1,h2⟩:=key _ s hm h0
 exact ⟨r,h1,h2⟩
def Nx (I:σ→Prop) (Q:ρ→Prop):σ⊕ρ→Prop
 | .inl s=>I s
 | .inr r=>Q r
theorem aC {I:σ→Prop} {Q:ρ→Prop} {s:σ}:Nx I Q (.inl s)↔I s:=Iff.rfl
theorem aA {I:σ→Prop} {Q:ρ→Prop} {r:ρ}:Nx I Q (.inr r)↔Q r:=Iff.rfl
theorem Ev.loop {f:σ→Option (σ⊕ρ)} (I:σ→Prop) (μ:σ→Nat) {Q:ρ→Prop} {s:σ} (h0:I s) (hm:μ s < 1099511627776) (step:∀ s,I s→Ev (f s) (Nx (fun s'=>I s'∧μ s' < μ s) Q)):Ev (aq f s) Q:=by
 refine gi I μ Q (fun s hI=>?_) h0 hm
 obtain ⟨x,h1,h2⟩:=step s hI
 cases x with
 | inl s'=>exact .inl ⟨s',h1,h2⟩
 | inr r=>exact .inr ⟨r,h1,h2⟩
theorem Ev.cnt {f:σ→Option (σ⊕ρ)} (n:Nat) (I:Nat→σ→Prop) {Q:ρ→Prop} {s:σ} (h0:I 0 s) (step:∀ k s,k < n→I k s→Ev (f s) (Nx (I (k+1)) Q)) (done:∀ s,I n s→Ev (f s) (Nx (fun _=>False) Q)) (hn:n < 1099511627776:=by omega):Ev (aq f s) Q:=by
 suffices key:∀ d k s,k+d=n→I k s→∃ r,iter f (d+1) s=some r∧Q r by
  obtain ⟨r,h1,h2⟩:=key n 0 s (by omega) h0
  exact ⟨r,lC (by omega) h1,h2⟩
 intro d
 induction d with
 | zero=>
  intro k s hk hI
  obtain rfl:k=n:=by omega
  obtain ⟨x,h1,h2⟩:=done s hI
  cases x with
  | inl s=>exact h2.elim
  | inr r=>exact ⟨r,by simp only [iter,h1],h2⟩
 | succ d ih=>
  intro k s hk hI
  obtain ⟨x,h1,h2⟩:=step k s (by omega) hI
  cases x with
  | inl s'=>
   obtain ⟨r,h3,h4⟩:=ih (k+1) s' (by omega) h2
   exact ⟨r,by rw [iter]; simp only [h1]; exact h3,h4⟩
  | inr r=>exact ⟨r,by rw [iter]; simp only [h1],h2⟩
end
theorem aN {k:Nat} (h:k≤1000000000000):IntKind.i64.wrap ((k:Int)+1)=((k+1:Nat):Int):=by rw [aH (by omega) (by omega)]; omega
theorem eU {k:Nat} (h0:0 < k) (h:k≤1000000000000):IntKind.i64.wrap ((k:Int) - 1)=((k - 1:Nat):Int):=by rw [aH (by omega) (by omega)]; omega
end Go.Am
namespace Go.Am
open Go
def swq {α:Type} (d:List α) (i j:Nat):List α:=match d[i]?,d[j]? with
 | some x,some y=>(d.set j x).set i y
 | _,_=>d
theorem rF {α:Type} (d:List α) (i j:Nat):(swq d i j).length=d.length:=by
 unfold swq; split<;>simp
theorem cU {α:Type} {d:List α} {i j:Nat} (hi:i < d.length) (hj:j < d.length) (k:Nat):(swq d i j)[k]? = if k=i then d[j]? else if k=j then d[i]? else d[k]?:=by
 unfold swq
 rw [List.getElem?_eq_getElem hi,List.getElem?_eq_getElem hj]
 simp only
 by_cases h1:k=i
 ·subst h1; rw [if_pos rfl,List.getElem?_set_self (by simpa using hi)]
 rw [if_neg h1,List.getElem?_set_ne (by omega)]
 by_cases h2:k=j
 ·subst h2; rw [if_pos rfl,List.getElem?_set_self hj]
 rw [if_neg h2,List.getElem?_set_ne (by omega)]
theorem t7 {α:Type} {d:List α} {i j:Nat} (hi:i < d.length) (hj:j < d.length):(d.set j d[i]).set i d[j]=swq d i j:=by
 unfold swq
 rw [List.getElem?_eq_getElem hi,List.getElem?_eq_getElem hj]
theorem Ev.swap {α β:Type} {d:List α} {I J:Int} {K:List α→Option β} {Q:β→Prop} (i j:Nat) (hI:I=i) (hJ:J=j) (hi:i < d.length) (hj:j < d.length) (q:Ev (K (swq d i j)) Q) :
  Ev ((Go.Am.idx d I).bind fun e1=>(Go.Am.idx d J).bind fun e2=>(Go.Am.idx d J).bind fun e3=>(Go.Am.idx (d.set J.toNat e1) I).bind fun e4=>K ((d.set J.toNat e1).set I.toNat e2)) Q:=by
 subst hI hJ
 rw [bv hi,bv hj]
 simp only [Option.bind_some,Int.toNat_natCast]
 rw [bv (by simpa using hi)]
 simp only [Option.bind_some]
 rw [t7 hi hj]
 exact q
structure SegE {α:Type} (a b:Nat) (d d':List α):Prop where
 len:d'.length=d.length
 out:∀ k,k < a∨b≤k→d'[k]? = d[k]?
 fro:∀ k,a≤k→k < b→∃ j,a≤j∧j < b∧d'[k]? = d[j]?
 to_:∀ k,a≤k→k < b→∃ j,a≤j∧j < b∧d[k]? = d'[j]?
theorem SegE.refl {α:Type} (a b:Nat) (d:List α):SegE a b d d:=⟨rfl,fun _ _=>rfl,fun k h1 h2=>⟨k,h1,h2,rfl⟩,fun k h1 h2=>⟨k,h1,h2,rfl⟩⟩
theorem SegE.trans {α:Type} {a b:Nat} {d d' d'':List α} (h:SegE a b d d') (k:SegE a b d' d''):SegE a b d d'':=by
 refine ⟨k.len.trans h.len,fun p hp=>(k.out p hp).trans (h.out p hp),fun p h1 h2=>?_,fun p h1 h2=>?_⟩
 ·obtain ⟨j,j1,j2,j3⟩:=k.fro p h1 h2
  obtain ⟨i,i1,i2,i3⟩:=h.fro j j1 j2
  exact ⟨i,i1,i2,j3.trans i3⟩
 obtain ⟨j,j1,j2,j3⟩:=h.to_ p h1 h2
 obtain ⟨i,i1,i2,i3⟩:=k.to_ j j1 j2
 exact ⟨i,i1,i2,j3.trans i3⟩
theorem SegE.wide {α:Type} {a b a' b':Nat} {d d':List α} (h:SegE a b d d') (ha:a'≤a) (hb:b≤b'):SegE a' b' d d':=by
 refine ⟨h.len,fun k hk=>h.out k (by omega),fun k h1 h2=>?_,fun k h1 h2=>?_⟩
 ·by_cases hk:a≤k∧k < b
  ·obtain ⟨j,j1,j2,j3⟩:=h.fro k hk.1 hk.2
   exact ⟨j,by omega,by omega,j3⟩
  exact ⟨k,h1,h2,h.out k (by omega)⟩
 by_cases hk:a≤k∧k < b
 ·obtain ⟨j,j1,j2,j3⟩:=h.to_ k hk.1 hk.2
  exact ⟨j,by omega,by omega,j3⟩
 exact ⟨k,h1,h2,(h.out k (by omega)).symm⟩
theorem SegE.swap {α:Type} {a b i j:Nat} {d:List α} (hb:b≤d.length) (h1:a≤i) (h2:i < b) (h3:a≤j) (h4:j < b):SegE a b d (swq d i j):=by
 have hg:=fun k=>cU (d:=d) (i:=i) (j:=j) (by omega) (by omega) k
 refine ⟨rF _ _ _,fun k hk=>?_,fun k k1 k2=>?_,fun k k1 k2=>?_⟩
 ·rw [hg,if_neg (by omega),if_neg (by omega)]
 ·rw [hg]
  split
  ·exact ⟨j,h3,h4,rfl⟩
  split
  ·exact ⟨i,h1,h2,rfl⟩
  exact ⟨k,k1,k2,rfl⟩
 by_cases e1:k=i
 ·refine ⟨j,h3,h4,?_⟩
  rw [hg]; split
  ·rename_i e; rw [e1,e]
  rw [if_pos rfl,e1]
 by_cases e2:k=j
 ·exact ⟨i,h1,h2,by rw [hg,if_pos rfl,e2]⟩
 exact ⟨k,k1,k2,by rw [hg,if_neg e1,if_neg e2]⟩
theorem SegE.mem {α:Type} {d d':List α} {b:Nat} (h:SegE 0 b d d') (x:α):x∈d'↔x∈d:=by
 constructor
 ·intro hx
  obtain ⟨k,hk⟩:=List.getElem?_of_mem hx
  by_cases hb:k < b
  ·obtain ⟨j,_,_,e⟩:=h.fro k (Nat.zero_le _) hb
   exact List.mem_of_getElem? (e.symm.trans hk)
  exact List.mem_of_getElem? ((h.out k (by omega)).symm.trans hk)
 intro hx
 obtain ⟨k,hk⟩:=List.getElem?_of_mem hx
 by_cases hb:k < b
 ·obtain ⟨j,_,_,e⟩:=h.to_ k (Nat.zero_le _) hb
  exact List.mem_of_getElem? (e.symm.trans hk)
 exact List.mem_of_getElem? ((h.out k (by omega)).trans hk)
structure Ord {α:Type} (lt:α→α→Prop):Prop where
 asy:∀ x y,lt x y→¬ lt y x
 tr:∀ x y z,¬ lt y x→¬ lt z y→¬ lt z x
def Le {α:Type} (lt:α→α→Prop) (d:List α) (i j:Nat):Prop:=∀ x y,d[i]? = some x→d[j]? = some y→¬ lt y x
theorem Ord.irr {α:Type} {lt:α→α→Prop} (o:Ord lt) (x:α):¬ lt x x:=fun h=>o.asy x x h h
theorem Le.refl {α:Type} {lt:α→α→Prop} (o:Ord lt) (d:List α) (i:Nat):Le lt d i i:=fun x y h1 h2=>by rw [h1] at h2; cases h2; exact o.irr x
theorem Le.trans {α:Type} {lt:α→α→Prop} (o:Ord lt) {d:List α} {i j k:Nat} (hj:j < d.length) (h1:Le lt d i j) (h2:Le lt d j k):Le lt d i k:=fun x y hx hy=>o.tr x d[j] y (h1 _ _ hx (List.getElem?_eq_getElem hj)) (h2 _ _ (List.getElem?_eq_getElem hj) hy)
theorem Le.of {α:Type} {lt:α→α→Prop} {d d':List α} {i j i' j':Nat} (h:Le lt d i j) (h1:d'[i']? = d[i]?) (h2:d'[j']? = d[j]?):Le lt d' i' j':=fun x y hx hy=>h x y (h1▸hx) (h2▸hy)
def Srt {α:Type} (lt:α→α→Prop) (a b:Nat) (d:List α):Prop:=∀ i j,a≤i→i < j→j < b→Le lt d i j
end Go.Am
namespace Go.Proofs.Ytmchbhheoieepaa
open Go Go.Am
def ltL (x y:TLane):Prop:=x.From < y.From∨x.From=y.From∧(x.To < y.To∨x.To=y.To∧x.Ahead < y.Ahead)
theorem bA:Ord ltL:=by
 constructor
 ·unfold ltL; omega
 unfold ltL; intro x y z h1 h2; omega
theorem BF (x y:Int):p49 (x,y)=some (if x < y then -1 else if y < x then 1 else 0):=by
 unfold p49 p71
 simp only [Option.bind_some,decide_true,Bool.not_true]
 rw [if_neg (by decide),if_neg (by decide)]
 split
 ·rfl
 split<;>rfl
theorem B5 (l:List Int) (hl:l.length≤1000000):Ev (p48 l) (fun r=>r=(l.find? (fun x=>!decide (x=0))).getD 0):=by
 unfold p48
 refine ae.2 (Ev.cnt l.length (fun k s=>s=(0,(k:Int))∧(l.take k).find? (fun x=>!decide (x=0))=none) ⟨rfl,rfl⟩ ?_ ?_)
 ·rintro k s hk ⟨rfl,h⟩
  dsimp only
  rw [if_pos (by omega),bv hk,Option.bind_some]
  have hs:=List.find?_append (p:=fun x=>!decide (x=0)) (xs:=l.take k) (ys:=l.drop k)
  rw [List.take_append_drop,h,List.drop_eq_getElem_cons hk] at hs
  refine Ev.ite (fun c=>aa.2 (aA.2 (aa.2 ?_))) (fun c=>aa.2 (aC.2 ⟨by rw [aN (by omega)],?_⟩))
  ·rw [hs,List.find?_cons_of_pos (p:=fun x=>!decide (x=0)) c]; rfl
  rw [List.take_succ_eq_append_getElem hk,List.find?_append,h,List.find?_cons_of_neg (p:=fun x=>!decide (x=0)) c]; rfl
 rintro s ⟨rfl,h⟩
 dsimp only
 rw [if_neg (by omega)]
 rw [List.take_length] at h
 exact aa.2 (aA.2 (aa.2 (by rw [h]; rfl)))
theorem F7 (x y:TLane):Ev (p47 (x.From,x.To,x.Ahead,y.From,y.To,y.Ahead)) (fun r=>r < 0↔ltL x y):=by
 unfold p47
 simp only [BF,Option.bind_some]
 refine ae.2 ((B5 _ (by simp)).imp fun r h=>aa.2 ?_)
 rw [h]
 unfold ltL
 by_cases c1:x.From < y.From
 ·simp [c1]
 by_cases c2:y.From < x.From
 ·simp [c1,c2]<;>omega
 by_cases c3:x.To < y.To
 ·simp [c1,c2,c3]<;>omega
 by_cases c4:y.To < x.To
 ·simp [c1,c2,c3,c4]<;>omega
 by_cases c5:x.Ahead < y.Ahead
 ·simp [c1,c2,c3,c4,c5]<;>omega
 by_cases c6:y.Ahead < x.Ahead
 ·simp [c1,c2,c3,c4,c5,c6]<;>omega
 simp [c1,c2,c3,c4,c5,c6]<;>omega
theorem Ev.cmp {β:Type} {d:List TLane} {I J:Int} {f:Int→Option β} {Q:β→Prop} (i j:Nat) (hI:I=i) (hJ:J=j) (hi:i < d.length) (hj:j < d.length)
  (h1:∀ r,r < 0→Le ltL d i j→Ev (f r) Q) (h2:∀ r,¬ r < 0→Le ltL d j i→Ev (f r) Q) :
  Ev ((Go.Am.idx d I).bind fun x=>(Go.Am.idx d J).bind fun y=>(p47 (x.From,x.To,x.Ahead,y.From,y.To,y.Ahead)).bind f) Q:=by
 subst hI hJ
 rw [bv hi,bv hj]
 simp only [Option.bind_some]
 refine ae.2 ((F7 d[i] d[j]).imp fun r h=>?_)
 by_cases c:r < 0
 ·refine h1 r c fun x y hx hy=>?_
  rw [List.getElem?_eq_getElem hi] at hx
  rw [List.getElem?_eq_getElem hj] at hy
  cases hx; cases hy
  exact bA.asy _ _ (h.1 c)
 refine h2 r c fun x y hx hy=>?_
 rw [List.getElem?_eq_getElem hi] at hy
 rw [List.getElem?_eq_getElem hj] at hx
 cases hx; cases hy
 exact fun hh=>c (h.2 hh)
theorem qO {a b:Nat} {d0:List TLane} (hl:d0.length≤1000000) (hab:a≤b) (hb:b≤d0.length):Ev (gI ((a:Int),(b:Int),d0)) (fun u=>SegE a b d0 u∧Srt ltL a b u):=by
 unfold gI
 dsimp only
 have e1:IntKind.i64.wrap ((a:Int)+1)=((a+1:Nat):Int):=aN (by omega)
 rw [e1]
 refine ae.2 (Ev.loop (fun s=>∃ i:Nat,s.1=(i:Int)∧a < i∧i≤b+1∧SegE a b d0 s.2∧Srt ltL a (min i b) s.2) (fun s=>b+2 - s.1.toNat) ⟨a+1,rfl,by omega,by omega,SegE.refl _ _ _,fun p q h1 h2 h3=>by omega⟩ (by simp only; omega) ?_)
 rintro ⟨J,d⟩ ⟨i,e,h1,h2,h3,h4⟩
 simp only at e h3 h4
 subst e
 have hlen:=h3.len
 dsimp only
 refine Ev.ite (fun c=>?_) (fun c=>aa.2 (aA.2 (aa.2 ⟨h3,by rwa [Nat.min_eq_right (by omega)] at h4⟩)))
 have hi:i < b:=by omega
 rw [Nat.min_eq_left (by omega)] at h4
 suffices key:Ev (aq (fun (x2:Int×List TLane)=>(if (a:Int) < x2.fst then (idx x2.snd x2.fst).bind fun (x3:TLane)=>(idx x2.snd (IntKind.i64.wrap (x2.fst - 1))).bind fun (x4:TLane)=>(p47 (x3.From,x3.To,x3.Ahead,x4.From,x4.To,x4.Ahead)).bind fun (n5:Int)=>some (Sum.inl (x2.fst,decide (n5 < 0),x2.snd)) else some (Sum.inl (x2.fst,false,x2.snd))).bind fun (x3:Int×Bool×List TLane⊕Int×List TLane⊕List TLane)=>
           match x3 with
           | Sum.inl x=>if x.snd.fst=true then (idx x.snd.snd (IntKind.i64.wrap (x.fst - 1))).bind fun (x5:TLane)=>(idx x.snd.snd x.fst).bind fun (x6:TLane)=>(idx x.snd.snd x.fst).bind fun (x7:TLane)=>(idx (x.snd.snd.set x.fst.toNat x5) (IntKind.i64.wrap (x.fst - 1))).bind fun (x8:TLane)=>some (Sum.inl (IntKind.i64.wrap (x.fst - 1),(x.snd.snd.set x.fst.toNat x5).set (IntKind.i64.wrap (x.fst - 1)).toNat x6)) else some (Sum.inr x.snd.snd)
           | Sum.inr r=>some r) ((i:Int),d)) (fun u=>SegE a (i+1) d u∧Srt ltL a (i+1) u) by
  refine ae.2 (key.imp fun u hu=>aa.2 (aC.2 ⟨⟨i+1,aN (by omega),by omega,by omega,h3.trans (hu.1.wide (by omega) (by omega)),by rw [Nat.min_eq_left (by omega)]; exact hu.2⟩,?_⟩))
  simp only [aN (show i≤1000000000000 by omega)]; omega
 refine Ev.loop (fun s=>∃ j:Nat,s.1=(j:Int)∧a≤j∧j≤i∧SegE a (i+1) d s.2∧∀ p q,a≤p→p < q→q≤i→q≠j→Le ltL s.2 p q) (fun s=>s.1.toNat) ⟨i,rfl,by omega,Nat.le_refl _,SegE.refl _ _ _,fun p q h1 h2 h3 h5=>h4 p q h1 h2 (by omega)⟩ (by simp only; omega) ?_
 rintro ⟨J,u⟩ ⟨j,e,k1,k2,k3,k4⟩
 simp only at e k3 k4
 subst e
 have hlen2:=k3.len
 have fin:Le ltL u (j - 1) j∨j=a→SegE a (i+1) d u∧Srt ltL a (i+1) u:=fun hh=>by
  refine ⟨k3,fun p q q1 q2 q3=>?_⟩
  by_cases hq:q=j
  ·rcases hh with hh | hh
   ·by_cases hp:p=j - 1
    ·rw [hp,hq]; exact hh
    rw [hq]; exact (k4 p (j - 1) q1 (by omega) (by omega) (by omega)).trans bA (by omega) hh
   omega
  exact k4 p q q1 q2 (by omega) hq
 dsimp only
 refine ae.2 (Ev.ite (fun c=>?_) (fun c=>aa.2 (aa.2 (aA.2 (fin (.inr (by omega)))))))
 have ej:IntKind.i64.wrap ((j:Int) - 1)=((j - 1:Nat):Int):=eU (by omega) (by omega)
 refine Ev.cmp j (j - 1) rfl ej (by omega) (by omega) (fun r hr hle=>aa.2 ?_) (fun r hr hle=>aa.2 ?_)
 ·simp only [hr,decide_true,if_true]
  refine Ev.swap (j - 1) j ej rfl (by omega) (by omega) (K:=fun d'=>some (Sum.inl (IntKind.i64.wrap ((j:Int) - 1),d'))) (aa.2 (aC.2 ⟨⟨j - 1,ej,by omega,by omega,k3.trans (SegE.swap (by omega) (by omega) (by omega) (by omega) (by omega)),?_⟩,?_⟩))
  ·intro p q q1 q2 q3 q4
   have hg:=fun k=>cU (d:=u) (i:=j - 1) (j:=j) (by omega) (by omega) k
   simp only
   by_cases e1:q=j
   ·by_cases e2:p=j - 1
    ·exact hle.of (by rw [hg,if_pos e2]) (by rw [hg,if_neg (by omega),if_pos e1])
    exact (k4 p (j - 1) q1 (by omega) (by omega) (by omega)).of (by rw [hg,if_neg (by omega),if_neg (by omega)]) (by rw [hg,if_neg (by omega),if_pos e1])
   by_cases e2:p=j - 1
   ·exact (k4 j q (by omega) (by omega) q3 e1).of (by rw [hg,if_pos e2]) (by rw [hg,if_neg (by omega),if_neg (by omega)])
   by_cases e3:p=j
   ·exact (k4 (j - 1) q (by omega) (by omega) q3 e1).of (by rw [hg,if_neg (by omega),if_pos e3]) (by rw [hg,if_neg (by omega),if_neg (by omega)])
   exact (k4 p q q1 q2 q3 e1).of (by rw [hg,if_neg (by omega),if_neg (by omega)]) (by rw [hg,if_neg (by omega),if_neg (by omega)])
  simp only [ej]; omega
 simp only [hr,decide_false,Bool.false_eq_true,if_false]
 exact aa.2 (aA.2 (fin (.inl hle)))
end Go.Proofs.Ytmchbhheoieepaa
namespace Go.Proofs.Ytmchbhheoieepaa
open Go Go.Am
theorem qv {a b:Nat} {d0:List TLane} (hl:d0.length≤1000000) (hab:a < b) (hb:b≤d0.length):Ev (gd ((a:Int),(b:Int),d0)) (fun u=>SegE a b d0 u):=by
 unfold gd
 dsimp only
 have eb:IntKind.i64.wrap ((b:Int) - 1)=((b - 1:Nat):Int):=eU (by omega) (by omega)
 rw [eb]
 refine ae.2 (Ev.loop (fun s=>∃ i j:Nat,s.1=(i:Int)∧s.2.1=(j:Int)∧a≤i∧j < b∧i≤j+1∧SegE a b d0 s.2.2) (fun s=>(s.2.1 - s.1).toNat+1 - (if s.2.1 < s.1 then 1 else 0)) ⟨a,b - 1,rfl,rfl,by omega,by omega,by omega,SegE.refl _ _ _⟩ (by dsimp only; split<;>omega) ?_)
 rintro ⟨I,J,d⟩ ⟨i,j,e1,e2,h1,h2,h3,h4⟩
 simp only at e1 e2 h4
 subst e1 e2
 have hlen:=h4.len
 dsimp only
 refine Ev.ite (fun c=>?_) (fun c=>aa.2 (aA.2 (aa.2 h4)))
 have ei:IntKind.i64.wrap ((i:Int)+1)=((i+1:Nat):Int):=aN (by omega)
 have ej:IntKind.i64.wrap ((j:Int) - 1)=((j - 1:Nat):Int):=eU (by omega) (by omega)
 refine Ev.swap j i rfl rfl (by omega) (by omega) (K:=fun d'=>some (Sum.inl (IntKind.i64.wrap ((i:Int)+1),IntKind.i64.wrap ((j:Int) - 1),d'))) (aa.2 (aC.2 ⟨⟨i+1,j - 1,ei,ej,by omega,by omega,by omega,h4.trans (SegE.swap (by omega) (by omega) (by omega) (by omega) (by omega))⟩,?_⟩))
 simp only [ei,ej]
 split<;>split<;>omega
theorem qG {a b:Nat} {d0:List TLane} (hl:d0.length≤1000000) (hab:a < b) (hb:b≤d0.length) (hs:b - a < 50):Ev (fW ((a:Int),(b:Int),d0)) (fun r=>r.2=d0∧(r.1=true→Srt ltL a b d0)):=by
 unfold fW
 dsimp only
 rw [aN (by omega)]
 refine ae.2 (Ev.cnt 0 (fun k s=>s=(((a+1:Nat):Int),0,d0)) rfl (fun k s hk=>by omega) ?_)
 rintro s rfl
 dsimp only
 rw [if_pos (by omega)]
 refine ae.2 (Ev.imp (P:=fun r:Int×List TLane=>r.2=d0∧(r.1=(b:Int)→Srt ltL a b d0)) (Ev.loop (fun s=>∃ i:Nat,s=((i:Int),d0)∧a < i∧i≤b∧Srt ltL a i d0) (fun s=>b+1 - s.1.toNat) ⟨a+1,rfl,by omega,by omega,fun p q h1 h2 h3=>by omega⟩ (by dsimp only; omega) ?_) ?_)
 ·rintro s ⟨i,rfl,h1,h2,h3⟩
  dsimp only
  refine ae.2 (Ev.ite (fun c=>?_) (fun c=>aa.2 ?_))
  ·have ej:IntKind.i64.wrap ((i:Int) - 1)=((i - 1:Nat):Int):=eU (by omega) (by omega)
   refine Ev.cmp i (i - 1) rfl ej (by omega) (by omega) (fun r hr hle=>aa.2 ?_) (fun r hr hle=>aa.2 ?_)
   ·simp only [hr,decide_true,Bool.not_true,Bool.false_eq_true,if_false]
    exact aa.2 (aA.2 ⟨rfl,fun e=>by simp only at e; omega⟩)
   simp only [hr,decide_false,Bool.not_false,if_true]
   refine aa.2 (aC.2 ⟨⟨i+1,by rw [aN (by omega)],by omega,by omega,fun p q q1 q2 q3=>?_⟩,?_⟩)
   ·by_cases hq:q=i
    ·rw [hq]
     by_cases hp:p=i - 1
     ·rw [hp]; exact hle
     exact (h3 p (i - 1) q1 (by omega) (by omega)).trans bA (by omega) hle
    exact h3 p q q1 q2 (by omega)
   simp only [aN (show i≤1000000000000 by omega)]; omega
  obtain rfl:i=b:=by omega
  simp only [Bool.false_eq_true,if_false]
  exact aa.2 (aA.2 ⟨rfl,fun _=>h3⟩)
 rintro ⟨I,d⟩ ⟨e,h⟩
 simp only at e h
 subst e
 dsimp only
 refine Ev.ite (fun c=>aa.2 (aA.2 (aa.2 ⟨rfl,fun _=>h c⟩))) (fun c=>?_)
 rw [if_pos (by rw [aH (by omega) (by omega)]; omega)]
 exact aa.2 (aA.2 (aa.2 ⟨rfl,fun e=>by cases e⟩))
def Kid (k c:Nat):Prop:=c=2 * k+1∨c=2 * k+2
def nO (d:List TLane) (f lo hi:Nat):Prop:=∀ k c,lo≤k→Kid k c→c < hi→Le ltL d (f+c) (f+k)
theorem vy {d:List TLane} {f hi:Nat} (hl:f+hi≤d.length) (h:nO d f 0 hi):∀ k,k < hi→Le ltL d (f+k) f:=by
 intro k
 induction k using Nat.strongRecOn with
 | ind k ih=>
  intro hk
  rcases Nat.eq_zero_or_pos k with rfl | hp
  ·exact Le.refl bA _ _
  have:=h ((k - 1) / 2) k (Nat.zero_le _) (by unfold Kid; omega) hk
  exact this.trans bA (by omega) (ih _ (by omega) (by omega))
theorem kg {f lo hi:Nat} {d0:List TLane} (hl:d0.length≤1000000) (hh:f+hi≤d0.length) (hlo:lo≤1000000) (h0:nO d0 f (lo+1) hi):Ev (dT ((lo:Int),(hi:Int),(f:Int),d0)) (fun u=>SegE (f+lo) (f+hi) d0 u∧nO u f lo hi):=by
 unfold dT
 dsimp only
 refine ae.2 (Ev.loop (fun s=>∃ r:Nat,s.1=(r:Int)∧lo≤r∧r≤1000000∧SegE (f+lo) (f+hi) d0 s.2∧(∀ k c,lo≤k→k≠r→Kid k c→c < hi→Le ltL s.2 (f+c) (f+k))∧(∀ k c,lo≤k→Kid k r→Kid r c→c < hi→Le ltL s.2 (f+c) (f+k))) (fun s=>hi - s.1.toNat) ⟨lo,rfl,Nat.le_refl _,hlo,SegE.refl _ _ _,fun k c h1 h2 h3 h4=>h0 k c (by omega) h3 h4,fun k c h1 h2 h3 h4=>by unfold Kid at h2; omega⟩ (by dsimp only; omega) ?_)
 rintro ⟨R,d⟩ ⟨r,e,h1,hr6,h2,h3,h4⟩
 simp only at e h2 h3 h4
 subst e
 have hlen:=h2.len
 have e1:IntKind.i64.wrap (IntKind.i64.wrap (2 * (r:Int))+1)=((2 * r+1:Nat):Int):=by
  rw [aH (n:=2 * (r:Int)) (by omega) (by omega),aH (by omega) (by omega)]; omega
 have e2:IntKind.i64.wrap (((2 * r+1:Nat):Int)+1)=((2 * r+2:Nat):Int):=aN (by omega)
 dsimp only
 simp only [e1,e2]
 refine Ev.ite (fun cc=>aa.2 (aA.2 (aa.2 ⟨h2,fun k x x1 x2 x3=>?_⟩))) (fun cc=>?_)
 ·by_cases y1:k=r
  ·subst y1; unfold Kid at x2; omega
  exact h3 k x x1 y1 x2 x3
 have hc:2 * r+1 < hi:=by omega
  -- the greater child
 refine ae.2 (Ev.imp (P:=fun x=>∃ c:Nat,x=Sum.inl ((r:Int),(c:Int),d)∧c < hi∧Kid r c∧∀ c',c' < hi→Kid r c'→Le ltL d (f+c') (f+c)) ?_ ?_)
 ·refine ae.2 (Ev.ite (fun c2=>?_) (fun c2=>aa.2 ?_))
  ·have ei:IntKind.i64.wrap ((f:Int)+((2 * r+1:Nat):Int))=((f+(2 * r+1):Nat):Int):=by rw [aH (by omega) (by omega)]; omega
   have ej:IntKind.i64.wrap (((f+(2 * r+1):Nat):Int)+1)=((f+(2 * r+2):Nat):Int):=by rw [aN (by omega)]; omega
   simp only [ei]
   refine Ev.cmp (f+(2 * r+1)) (f+(2 * r+2)) rfl ej (by omega) (by omega) (fun q hq hle=>aa.2 ?_) (fun q hq hle=>aa.2 ?_)
   ·simp only [hq,decide_true,if_true,e2]
    exact aa.2 ⟨2 * r+2,rfl,by omega,.inr rfl,fun c' q1 q2=>by
     rcases q2 with rfl | rfl
     ·exact hle
     exact Le.refl bA _ _⟩
   simp only [hq,decide_false,Bool.false_eq_true,if_false]
   exact aa.2 ⟨2 * r+1,rfl,by omega,.inl rfl,fun c' q1 q2=>by
    rcases q2 with rfl | rfl
    ·exact Le.refl bA _ _
    exact hle⟩
  simp only [Bool.false_eq_true,if_false]
  exact aa.2 ⟨2 * r+1,rfl,by omega,.inl rfl,fun c' q1 q2=>by
   rcases q2 with rfl | rfl
   ·exact Le.refl bA _ _
   omega⟩
 rintro x ⟨c,rfl,hc1,hc2,hc3⟩
 dsimp only
 have hrc:r < c:=by unfold Kid at hc2; omega
 have er:IntKind.i64.wrap ((f:Int)+(r:Int))=((f+r:Nat):Int):=by rw [aH (by omega) (by omega)]; omega
 have ec:IntKind.i64.wrap ((f:Int)+(c:Int))=((f+c:Nat):Int):=by rw [aH (by omega) (by omega)]; omega
 simp only [er,ec]
 refine Ev.cmp (f+r) (f+c) rfl rfl (by omega) (by omega) (fun q hq hle=>?_) (fun q hq hle=>?_)
 ·rw [if_neg (by simp [hq])]
  have hg:=fun k=>cU (d:=d) (i:=f+c) (j:=f+r) (by omega) (by omega) k
  refine Ev.swap (f+c) (f+r) rfl rfl (by omega) (by omega) (K:=fun d'=>some (Sum.inl ((c:Int),d'))) (aa.2 (aC.2 ⟨⟨c,rfl,by omega,by omega,h2.trans (SegE.swap (by omega) (by omega) (by omega) (by omega) (by omega)),fun k x x1 x2 x3 x4=>?_,fun k x x1 x2 x3 x4=>?_⟩,by dsimp only; omega⟩))
  ·simp only
   by_cases y1:k=r
   ·subst y1
    by_cases y2:x=c
    ·subst y2
     exact hle.of (by rw [hg,if_pos rfl]) (by rw [hg,if_neg (by omega),if_pos rfl])
    exact (hc3 x x4 x3).of (by rw [hg,if_neg (by omega),if_neg (by unfold Kid at x3; omega)]) (by rw [hg,if_neg (by omega),if_pos rfl])
   by_cases y2:x=r
   ·subst y2
    exact (h4 k c x1 x3 hc2 hc1).of (by rw [hg,if_neg (by omega),if_pos rfl]) (by rw [hg,if_neg (by omega),if_neg (by omega)])
   have:x≠c:=fun e=>by unfold Kid at x3 hc2; omega
   exact (h3 k x x1 y1 x3 x4).of (by rw [hg,if_neg (by omega),if_neg (by omega)]) (by rw [hg,if_neg (by omega),if_neg (by omega)])
  simp only
  have y1:k=r:=by unfold Kid at x2 hc2; omega
  subst y1
  have y2:c < x:=by unfold Kid at x3; omega
  exact (h3 c x (by omega) (by omega) x3 x4).of (by rw [hg,if_neg (by omega),if_neg (by omega)]) (by rw [hg,if_neg (by omega),if_pos rfl])
 rw [if_pos (by simp [hq])]
 refine aa.2 (aA.2 (aa.2 ⟨h2,fun k x x1 x2 x3=>?_⟩))
 by_cases y1:k=r
 ·subst y1
  exact (hc3 x x3 x2).trans bA (by omega) hle
 exact h3 k x x1 y1 x2 x3
theorem qL {a b:Nat} {d0:List TLane} (hl:d0.length≤1000000) (hab:a < b) (hb:b≤d0.length):Ev (gm ((a:Int),(b:Int),d0)) (fun u=>SegE a b d0 u∧Srt ltL a b u):=by
 obtain ⟨n,rfl⟩:∃ n,b=a+n:=⟨b - a,by omega⟩
 have en:IntKind.i64.wrap (((a+n:Nat):Int) - (a:Int))=(n:Int):=by rw [aH (by omega) (by omega)]; omega
 unfold gm
 dsimp only
 have em:IntKind.i64.wrap ((n:Int) - 1)=((n - 1:Nat):Int):=eU (by omega) (by omega)
 rw [en,em]
 refine ae.2 (Ev.quoI (by omega) (by omega) (by omega) ?_)
 refine ae.2 (Ev.imp (P:=fun u=>SegE a (a+n) d0 u∧nO u a 0 n) (Ev.loop (fun s=>∃ k:Nat,s.1=(k:Int) - 1∧k≤n+1∧SegE a (a+n) d0 s.2∧nO s.2 a k n) (fun s=>(s.1+1).toNat) ⟨(n - 1) / 2+1,by dsimp only; omega,by omega,SegE.refl _ _ _,fun k c x1 x2 x3=>by unfold Kid at x2; omega⟩ (by dsimp only; omega) ?_) ?_)
 ·rintro ⟨I,d⟩ ⟨k,e,h1,h2,h3⟩
  simp only at e h2 h3
  subst e
  have hlen:=h2.len
  dsimp only
  refine Ev.ite (fun c=>?_) (fun c=>?_)
  ·obtain ⟨i,rfl⟩:∃ i,k=i+1:=⟨k - 1,by omega⟩
   have ei:((i+1:Nat):Int) - 1=(i:Int):=by omega
   rw [ei]
   refine ae.2 ((kg (f:=a) (lo:=i) (hi:=n) (d0:=d) (by omega) (by omega) (by omega) h3).imp fun u hu=>aa.2 (aC.2 ⟨⟨i,by dsimp only; rw [aH (by omega) (by omega)],by omega,h2.trans (hu.1.wide (by omega) (by omega)),hu.2⟩,?_⟩))
   simp only; rw [aH (by omega) (by omega)]; omega
  obtain rfl:k=0:=by omega
  exact aa.2 (aA.2 ⟨h2,h3⟩)
 rintro u1 ⟨q2,q3⟩
 refine ae.2 (Ev.loop (fun s=>∃ k:Nat,s.1=(k:Int) - 1∧k≤n∧SegE a (a+n) d0 s.2∧nO s.2 a 0 k∧∀ p q,p < q→q < n→k≤q→Le ltL s.2 (a+p) (a+q)) (fun s=>(s.1+1).toNat) ⟨n,by dsimp only; omega,Nat.le_refl _,q2,q3,fun p q h1 h2 h3=>by omega⟩ (by dsimp only; omega) ?_)
 rintro ⟨I,d⟩ ⟨k,e,h1,h2,h3,h4⟩
 simp only at e h2 h3 h4
 subst e
 have hlen:=h2.len
 dsimp only
 refine Ev.ite (fun c=>?_) (fun c=>aa.2 (aA.2 (aa.2 ⟨h2,fun p q x1 x2 x3=>?_⟩)))
 ·obtain ⟨i,rfl⟩:∃ i,k=i+1:=⟨k - 1,by omega⟩
  have ei:((i+1:Nat):Int) - 1=(i:Int):=by omega
  have ea:IntKind.i64.wrap ((a:Int)+(i:Int))=((a+i:Nat):Int):=by rw [aH (by omega) (by omega)]; omega
  rw [ei,ea]
  refine Ev.swap (a+i) a rfl rfl (by omega) (by omega) (K:=fun d'=>(dT (0,(i:Int),(a:Int),d')).bind fun (l8:List TLane)=>some (Sum.inl (IntKind.i64.wrap ((i:Int) - 1),l8))) ?_
  have hg:=fun k=>cU (d:=d) (i:=a+i) (j:=a) (by omega) (by omega) k
  have hsl:=rF d (a+i) a
  have hh:nO (swq d (a+i) a) a (0+1) i:=fun k c x1 x2 x3=>(h3 k c (Nat.zero_le _) x2 (by omega)).of (by rw [hg,if_neg (by omega),if_neg (by unfold Kid at x2; omega)]) (by rw [hg,if_neg (by unfold Kid at x2; omega),if_neg (by omega)])
  have hk:=kg (f:=a) (lo:=0) (hi:=i) (d0:=swq d (a+i) a) (by omega) (by omega) (by omega) hh
  refine ae.2 (hk.imp fun u hu=>?_)
  obtain ⟨k2,k3⟩:=hu
  have htop:=vy (d:=d) (f:=a) (hi:=i+1) (by omega) h3
  have hsw:SegE a (a+(i+1)) d (swq d (a+i) a):=SegE.swap (by omega) (by omega) (by omega) (by omega) (by omega)
  have hall:=hsw.trans (k2.wide (by omega) (by omega))
  refine aa.2 (aC.2 ⟨⟨i,by dsimp only; rw [aH (by omega) (by omega)],by omega,h2.trans (hall.wide (by omega) (by omega)),k3,fun p q x1 x2 x3=>?_⟩,?_⟩)
  ·have hq:u[a+q]? = if q=i then d[a]? else d[a+q]?:=by
    rw [k2.out _ (by omega),hg]
    by_cases y1:q=i
    ·rw [if_pos (by omega),if_pos y1]
    rw [if_neg (by omega),if_neg (by omega),if_neg y1]
   by_cases y0:p < i+1
   ·obtain ⟨j,j1,j2,j3⟩:=hall.fro (a+p) (by omega) (by omega)
    obtain ⟨j',rfl⟩:∃ j',j=a+j':=⟨j - a,by omega⟩
    by_cases y1:q=i
    ·exact (htop j' (by omega)).of j3 (by rw [hq,if_pos y1])
    exact (h4 j' q (by omega) x2 (by omega)).of j3 (by rw [hq,if_neg y1])
   exact (h4 p q x1 x2 (by omega)).of (by rw [k2.out _ (by omega),hg,if_neg (by omega),if_neg (by omega)]) (by rw [hq,if_neg (by omega)])
  simp only; rw [aH (by omega) (by omega)]; omega
 obtain ⟨p',rfl⟩:∃ p',p=a+p':=⟨p - a,by omega⟩
 obtain ⟨q',rfl⟩:∃ q',q=a+q':=⟨q - a,by omega⟩
 exact h4 p' q' (by omega) (by omega) (by omega)
end Go.Proofs.Ytmchbhheoieepaa
namespace Go.Proofs.Ytmchbhheoieepaa
open Go Go.Am
theorem Ev.cmp4 {β:Type} {d:List TLane} {I J:Int} {f:Int→Option β} {Q:β→Prop} (i j:Nat) (hI:I=i) (hJ:J=j) (hi:i < d.length) (hj:j < d.length)
  (h1:∀ r,r < 0→Le ltL d i j→¬ Le ltL d j i→Ev (f r) Q) (h2:∀ r,¬ r < 0→Le ltL d j i→Ev (f r) Q) :
  Ev ((Go.Am.idx d I).bind fun x=>(Go.Am.idx d J).bind fun y=>(p47 (x.From,x.To,x.Ahead,y.From,y.To,y.Ahead)).bind f) Q:=by
 subst hI hJ
 rw [bv hi,bv hj]
 simp only [Option.bind_some]
 refine ae.2 ((F7 d[i] d[j]).imp fun r h=>?_)
 by_cases c:r < 0
 ·refine h1 r c (fun x y hx hy=>?_) (fun hh=>hh _ _ (List.getElem?_eq_getElem hj) (List.getElem?_eq_getElem hi) (h.1 c))
  rw [List.getElem?_eq_getElem hi] at hx
  rw [List.getElem?_eq_getElem hj] at hy
  cases hx; cases hy
  exact bA.asy _ _ (h.1 c)
 refine h2 r c fun x y hx hy=>?_
 rw [List.getElem?_eq_getElem hi] at hy
 rw [List.getElem?_eq_getElem hj] at hx
 cases hx; cases hy
 exact fun hh=>c (h.2 hh)
theorem gv {d:List TLane} {a b:Nat} (ha:a < d.length) (hb:b < d.length) (s:Int):Ev (dU (d,(a:Int),(b:Int),s)) (fun r=>r.1=(a:Int)∧r.2.1=(b:Int)∨r.1=(b:Int)∧r.2.1=(a:Int)):=by
 unfold dU
 dsimp only
 refine Ev.cmp b a rfl rfl hb ha (fun r hr _=>?_) (fun r hr _=>?_)
 ·rw [if_pos hr]; exact aa.2 (.inr ⟨rfl,rfl⟩)
 rw [if_neg hr]; exact aa.2 (.inl ⟨rfl,rfl⟩)
theorem qf {d:List TLane} {a b c:Nat} (ha:a < d.length) (hb:b < d.length) (hc:c < d.length) (s:Int):Ev (eV (d,(a:Int),(b:Int),(c:Int),s)) (fun r=>r.1=(a:Int)∨r.1=(b:Int)∨r.1=(c:Int)):=by
 unfold eV
 dsimp only
 refine ae.2 ((gv ha hb s).imp ?_)
 rintro ⟨x1,y1,s1⟩ e1
 simp only at e1
 dsimp only
 obtain ⟨y1',rfl,hy1⟩:∃ n:Nat,y1=(n:Int)∧n < d.length:=by rcases e1 with ⟨_,rfl⟩ | ⟨_,rfl⟩<;>exact ⟨_,rfl,by assumption⟩
 obtain ⟨x1',rfl,hx1⟩:∃ n:Nat,x1=(n:Int)∧n < d.length:=by rcases e1 with ⟨rfl,_⟩ | ⟨rfl,_⟩<;>exact ⟨_,rfl,by assumption⟩
 refine ae.2 ((gv hy1 hc s1).imp ?_)
 rintro ⟨x2,y2,s2⟩ e2
 simp only at e2
 dsimp only
 obtain ⟨x2',rfl,hx2⟩:∃ n:Nat,x2=(n:Int)∧n < d.length:=by rcases e2 with ⟨rfl,_⟩ | ⟨rfl,_⟩<;>exact ⟨_,rfl,by assumption⟩
 refine ae.2 ((gv hx1 hx2 s2).imp ?_)
 rintro ⟨x3,y3,s3⟩ e3
 simp only at e3
 dsimp only
 exact aa.2 (by simp only; omega)
theorem qo {a b:Nat} {d:List TLane} (hl:d.length≤1000000) (h1:a+8 < b) (hb:b≤d.length) (h2:b < a+50):Ev (gw (d,(a:Int),(b:Int))) (fun r=>∃ m:Nat,r.1=(m:Int)∧a≤m∧m < b):=by
 unfold gw
 dsimp only
 have e0:IntKind.i64.wrap ((b:Int) - (a:Int))=((b - a:Nat):Int):=by rw [aH (by omega) (by omega)]; omega
 rw [e0]
 have e1:((b - a:Nat):Int) / 4=(((b - a) / 4:Nat):Int):=by omega
 have ek:∀ k:Nat,k≤3→IntKind.i64.wrap ((a:Int)+IntKind.i64.wrap ((((b - a) / 4:Nat):Int) * (k:Int)))=((a+(b - a) / 4 * k:Nat):Int):=fun k hk=>by
  have hm:(b - a) / 4 * k≤(b - a) / 4 * 3:=Nat.mul_le_mul_left _ hk
  have hm2:(((b - a) / 4:Nat):Int) * (k:Int)=(((b - a) / 4 * k:Nat):Int):=by rw [Int.natCast_mul]
  rw [hm2,aH (n:=(((b - a) / 4 * k:Nat):Int)) (by omega) (by omega),aH (by omega) (by omega)]; omega
 have k1:=ek 1 (by omega); have k2:=ek 2 (by omega); have k3:=ek 3 (by omega)
 simp only [show ((1:Nat):Int)=1 from rfl,show ((2:Nat):Int)=2 from rfl,show ((3:Nat):Int)=3 from rfl] at k1 k2 k3
 refine ae.2 (Ev.quoI (by omega) (by omega) (by omega) (ae.2 (Ev.quoI (by omega) (by omega) (by omega) (ae.2 (Ev.quoI (by omega) (by omega) (by omega) ?_)))))
 rw [e1,k1,k2,k3,if_pos (by omega),if_neg (by omega)]
 refine ae.2 (ae.2 (aa.2 ?_))
 dsimp only
 refine ae.2 ((qf (d:=d) (a:=a+(b - a) / 4 * 1) (b:=a+(b - a) / 4 * 2) (c:=a+(b - a) / 4 * 3) (by omega) (by omega) (by omega) 0).imp ?_)
 rintro ⟨x,s⟩ q2
 simp only at q2
 refine aa.2 ?_
 dsimp only
 obtain ⟨m,rfl,m1,m2⟩:∃ m:Nat,x=(m:Int)∧a≤m∧m < b:=by
  rcases q2 with rfl | rfl | rfl
  ·exact ⟨_,rfl,by omega,by omega⟩
  ·exact ⟨_,rfl,by omega,by omega⟩
  exact ⟨_,rfl,by omega,by omega⟩
 split
 ·exact aa.2 ⟨m,rfl,m1,m2⟩
 split<;>exact aa.2 ⟨m,rfl,m1,m2⟩
theorem yy (b:Int):∃ w,Bt b=some (w,w):=by
 unfold Bt Bj wT
 simp
theorem yM {n:Nat} (h1:12 < n) (h2:n≤20):Cu (n:Int)=some (if n < 16 then 16 else 32):=by
 have:n=13∨n=14∨n=15∨n=16∨n=17∨n=18∨n=19∨n=20:=by omega
 rcases this with rfl | rfl | rfl | rfl | rfl | rfl | rfl | rfl<;>rfl
theorem AM:((List.range 21).all fun n=>match p70 (IntKind.u64.wrap (n:Int)) with
  | some q=>decide (0≤q)&&decide (q≤1000)
  | none=>false)=true:=by kernel_rfl
theorem Cw {n:Nat} (h:n≤20):Ev (p70 (IntKind.u64.wrap (n:Int))) (fun q=>0≤q∧q≤1000):=by
 have:=List.all_eq_true.1 AM n (List.mem_range.2 (by omega))
 revert this
 cases hq:p70 (IntKind.u64.wrap (n:Int)) with
 | none=>intro h; cases h
 | some q=>
  intro h
  simp only [Bool.and_eq_true,decide_eq_true_eq] at h
  exact aa.2 h
theorem qK {a b:Nat} {d0:List TLane} (hl:d0.length≤1000000) (h1:a+12 < b) (hb:b≤d0.length) (h2:b≤a+20):Ev (gA ((a:Int),(b:Int),d0)) (fun u=>SegE a b d0 u):=by
 obtain ⟨n,rfl⟩:∃ n,b=a+n:=⟨b - a,by omega⟩
 have e0:IntKind.i64.wrap (((a+n:Nat):Int) - (a:Int))=(n:Int):=by rw [aH (by omega) (by omega)]; omega
 unfold gA
 dsimp only
 rw [e0,if_pos (by omega),yM (by omega) (by omega)]
 rw [Option.bind_some]
 have e2:IntKind.i64.wrap ((a:Int)+IntKind.i64.wrap ((n:Int) / 4 * 2))=((a+n / 4 * 2:Nat):Int):=by
  rw [aH (n:=(n:Int) / 4 * 2) (by omega) (by omega),aH (by omega) (by omega)]; omega
 have e3:IntKind.i64.wrap (((a+n / 4 * 2:Nat):Int) - 1)=((a+n / 4 * 2 - 1:Nat):Int):=eU (by omega) (by omega)
 refine ae.2 (Ev.quoI (by omega) (by omega) (by omega) ?_)
 rw [e2,e3]
 generalize hM:(if n < 16 then (16:Int) else 32)=M
 have hM2:M=16∨M=32:=by subst hM; split<;>simp
 have hMn:M≤2 * n:=by subst hM; split<;>omega
 refine ae.2 (Ev.loop (fun s=>∃ i:Nat,s.1=(i:Int)∧a+n / 4 * 2 - 1≤i∧i≤a+n / 4 * 2+2∧SegE a (a+n) d0 s.2.1) (fun s=>a+n / 4 * 2+3 - s.1.toNat) ⟨a+n / 4 * 2 - 1,rfl,by omega,by omega,SegE.refl _ _ _⟩ (by dsimp only; omega) ?_)
 rintro ⟨I,d,w⟩ ⟨i,e,k1,k2,k3⟩
 simp only at e k3
 subst e
 have hlen:=k3.len
 dsimp only
 refine ae.2 (Ev.quoI (by omega) (by omega) (by omega) ?_)
 have e4:IntKind.i64.wrap (((a+n / 4 * 2:Nat):Int)+1)=((a+n / 4 * 2+1:Nat):Int):=aN (by omega)
 rw [e2,e4]
 refine Ev.ite (fun c=>?_) (fun c=>aa.2 (aA.2 (aa.2 k3)))
 obtain ⟨x,hx⟩:=yy w
 rw [hx]
 rw [Option.bind_some]
 have hand:∃ o:Nat,IntKind.i64.wrap (IntKind.u64.wrap (((BitVec.ofInt IntKind.u64.bits x &&& BitVec.ofInt IntKind.u64.bits (IntKind.u64.wrap (M - 1))).toNat:Nat):Int))=(o:Int)∧(o:Int) < M:=by
  have hb2:(BitVec.ofInt (IntKind.bits .u64) (IntKind.wrap .u64 (M - 1))).toNat=(M - 1).toNat:=by rcases hM2 with rfl | rfl<;>rfl
  have hle:(BitVec.ofInt (IntKind.bits .u64) x &&& BitVec.ofInt (IntKind.bits .u64) (IntKind.wrap .u64 (M - 1))).toNat≤(M - 1).toNat:=by
   rw [BitVec.toNat_and,hb2]; exact Nat.and_le_right
  generalize (BitVec.ofInt (IntKind.bits .u64) x &&& BitVec.ofInt (IntKind.bits .u64) (IntKind.wrap .u64 (M - 1))).toNat=o at hle
  refine ⟨o,?_,by omega⟩
  rw [IntWalk.u64_in _ (by omega),aH (by omega) (by omega)]
 obtain ⟨o,ho,ho2⟩:=hand
 rw [ho]
 refine ae.2 (Ev.imp (P:=fun y=>∃ o':Nat,o' < n∧y=Sum.inl ((i:Int),(o':Int),d,x)) (Ev.ite (fun c2=>aa.2 ⟨o - n,by omega,by rw [show IntKind.i64.wrap ((o:Int) - (n:Int))=((o - n:Nat):Int) by rw [aH (by omega) (by omega)]; omega]⟩) (fun c2=>aa.2 ⟨o,by omega,rfl⟩)) ?_)
 rintro y ⟨o',h,rfl⟩
 dsimp only
 have eo:IntKind.i64.wrap ((a:Int)+(o':Int))=((a+o':Nat):Int):=by rw [aH (by omega) (by omega)]; omega
 have ei:IntKind.i64.wrap ((i:Int)+1)=((i+1:Nat):Int):=aN (by omega)
 refine Ev.swap (a+o') i eo rfl (by omega) (by omega) (K:=fun d'=>some (Sum.inl (IntKind.i64.wrap ((i:Int)+1),d',x))) (aa.2 (aC.2 ⟨⟨i+1,ei,by omega,by omega,k3.trans (SegE.swap (by omega) (by omega) (by omega) (by omega) (by omega))⟩,by simp only [ei]; omega⟩))
theorem Ev.up {f:Int×List TLane→Option ((Int×List TLane)⊕(Int×List TLane))} {lo e:Nat} {d:List TLane} (he:e≤1000000000) (hle:lo≤e) (P N:Nat→Prop)
  (step:∀ i:Nat,lo≤i→i < e→Ev (f ((i:Int),d)) (fun x=>x=.inl (IntKind.i64.wrap ((i:Int)+1),d)∧P i∨x=.inr ((i:Int),d)∧N i)) (fin:Ev (f ((e:Int),d)) (fun x=>x=.inr ((e:Int),d))) :
  Ev (aq f ((lo:Int),d)) (fun r=>∃ m:Nat,r=((m:Int),d)∧lo≤m∧m≤e∧(∀ k,lo≤k→k < m→P k)∧(m=e∨N m)):=by
 refine Ev.loop (fun s=>∃ i:Nat,s=((i:Int),d)∧lo≤i∧i≤e∧∀ k,lo≤k→k < i→P k) (fun s=>e+1 - s.1.toNat) ⟨lo,rfl,Nat.le_refl _,hle,fun k h1 h2=>by omega⟩ (by dsimp only; omega) ?_
 rintro _ ⟨i,rfl,h1,h2,h3⟩
 by_cases hi:i < e
 ·refine (step i h1 hi).imp ?_
  rintro x (⟨rfl,k2⟩ | ⟨rfl,k2⟩)
  ·refine aC.2 ⟨⟨i+1,by rw [aN (by omega)],by omega,by omega,fun k q1 q2=>?_⟩,by simp only [aN (show i≤1000000000000 by omega)]; omega⟩
   by_cases hk:k=i
   ·rw [hk]; exact k2
   exact h3 k q1 (by omega)
  exact aA.2 ⟨i,rfl,h1,h2,h3,.inr k2⟩
 obtain rfl:i=e:=by omega
 refine fin.imp ?_
 rintro x rfl
 exact aA.2 ⟨i,rfl,h1,h2,h3,.inl rfl⟩
theorem Ev.dn {f:Int×List TLane→Option ((Int×List TLane)⊕(Int×List TLane))} {lo j:Nat} {d:List TLane} (hj:j≤1000000000) (hlo:0 < lo) (hle:lo≤j+1) (P N:Nat→Prop)
  (step:∀ i:Nat,lo≤i→i≤j→Ev (f ((i:Int),d)) (fun x=>x=.inl (IntKind.i64.wrap ((i:Int) - 1),d)∧P i∨x=.inr ((i:Int),d)∧N i)) (fin:Ev (f (((lo - 1:Nat):Int),d)) (fun x=>x=.inr (((lo - 1:Nat):Int),d))) :
  Ev (aq f ((j:Int),d)) (fun r=>∃ m:Nat,r=((m:Int),d)∧lo≤m+1∧m≤j∧(∀ k,m < k→k≤j→P k)∧(m+1=lo∨N m)):=by
 refine Ev.loop (fun s=>∃ i:Nat,s=((i:Int),d)∧lo≤i+1∧i≤j∧∀ k,i < k→k≤j→P k) (fun s=>s.1.toNat+1 - (if s.1=((lo - 1:Nat):Int) then 1 else 0)) ⟨j,rfl,hle,Nat.le_refl _,fun k h1 h2=>by omega⟩ (by dsimp only; split<;>omega) ?_
 rintro _ ⟨i,rfl,h1,h2,h3⟩
 by_cases hi:lo≤i
 ·refine (step i hi h2).imp ?_
  rintro x (⟨rfl,k2⟩ | ⟨rfl,k2⟩)
  ·have ei:IntKind.i64.wrap ((i:Int) - 1)=((i - 1:Nat):Int):=eU (by omega) (by omega)
   refine aC.2 ⟨⟨i - 1,by rw [ei],by omega,by omega,fun k q1 q2=>?_⟩,?_⟩
   ·by_cases hk:k=i
    ·rw [hk]; exact k2
    exact h3 k (by omega) q2
   simp only [ei]; split<;>split<;>omega
  exact aA.2 ⟨i,rfl,h1,h2,h3,.inr k2⟩
 have:i=lo - 1:=by omega
 subst this
 refine fin.imp ?_
 rintro x rfl
 exact aA.2 ⟨_,rfl,h1,h2,h3,.inl (by omega)⟩
end Go.Proofs.Ytmchbhheoieepaa
namespace Go.Proofs.Ytmchbhheoieepaa
open Go Go.Am
theorem nD {d u:List TLane} {lo hi i:Nat} (hs:SegE lo hi d u) (hd:(∀ k,lo≤k→k < hi→Le ltL d i k)) (hi':u[i]? = d[i]?):∀ k,lo≤k→k < hi→Le ltL u i k:=fun k h1 h2=>by
 obtain ⟨j,j1,j2,j3⟩:=hs.fro k h1 h2
 exact (hd j j1 j2).of hi' j3
theorem pp {d:List TLane} {a n:Nat} (ha:a < d.length) (hn:n < d.length):swq d a n=swq d n a:=by
 apply List.ext_getElem?
 intro k
 rw [cU (by omega) (by omega),cU (by omega) (by omega)]
 by_cases q1:k=a
 ·by_cases q2:k=n
  ·rw [if_pos q1,if_pos q2,← q1,← q2]
  rw [if_pos q1,if_neg q2,if_pos q1]
 by_cases q2:k=n
 ·rw [if_neg q1,if_pos q2,if_pos q2]
 rw [if_neg q1,if_neg q2,if_neg q2,if_neg q1]
theorem qu {a b p:Nat} {d0:List TLane} (hl:d0.length≤1000000) (hb:b≤d0.length) (h1:a≤p) (h2:p < b) (hp:∀ k,a≤k→k < b→Le ltL d0 p k) :
  Ev (gl ((a:Int),(b:Int),(p:Int),d0)) (fun r=>∃ m:Nat,r.1=(m:Int)∧SegE a b d0 r.2∧a < m∧m≤b∧∀ i k,a≤i→i < m→a≤k→k < b→Le ltL r.2 i k):=by
 unfold gl
 dsimp only
 rw [aN (show a≤1000000000000 by omega),eU (show 0 < b by omega) (by omega)]
 refine Ev.swap p a rfl rfl (by omega) (by omega) (K:=fun d'=>(aq _ (((a+1:Nat):Int),((b - 1:Nat):Int),d')).bind fun (x5:Int×List TLane)=>some (x5.fst,x5.snd)) ?_
 have hg:=fun k=>cU (d:=d0) (i:=p) (j:=a) (by omega) (by omega) k
 have hsw:SegE a b d0 (swq d0 p a):=SegE.swap hb h1 h2 (Nat.le_refl _) (by omega)
 have hp1:∀ k,a≤k→k < b→Le ltL (swq d0 p a) a k:=fun k k1 k2=>by
  obtain ⟨j,j1,j2,j3⟩:=hsw.fro k k1 k2
  refine (hp j j1 j2).of ?_ j3
  rw [hg]; split
  ·rename_i e; rw [e]
  rw [if_pos rfl]
 have hsl:=hsw.len
 generalize swq d0 p a=d1 at *
 refine ae.2 (Ev.imp (P:=fun q:Int×List TLane=>∃ m:Nat,q.1=(m:Int)∧SegE a b d0 q.2∧a < m∧m≤b∧∀ i k,a≤i→i < m→a≤k→k < b→Le ltL q.2 i k) ?_ (fun q hq=>aa.2 hq))
 refine Ev.loop (fun s=>∃ i j:Nat,s.1=(i:Int)∧s.2.1=(j:Int)∧a < i∧i≤j+1∧j < b∧SegE a b d0 s.2.2∧(∀ k,a≤k→k < b→Le ltL s.2.2 a k)∧∀ k,a≤k→k < i→Le ltL s.2.2 k a) (fun s=>(s.2.1+1 - s.1).toNat) ⟨a+1,b - 1,rfl,rfl,by omega,by omega,by omega,hsw,hp1,fun k k1 k2=>by
  obtain rfl:k=a:=by omega
  exact Le.refl bA _ _⟩ (by dsimp only; omega) ?_
 rintro ⟨I,J,d⟩ ⟨i,j,e1,e2,k1,k2,k3,k4,k5,k6⟩
 simp only at e1 e2 k4 k5 k6
 subst e1 e2
 have hlen:=k4.len
 dsimp only
 refine ae.2 (Ev.imp (Ev.up (d:=d) (lo:=i) (e:=j+1) (by omega) (by omega) (fun k=>Le ltL d k a) (fun k=>¬ Le ltL d k a)
  (fun k y1 y2=>by
   dsimp only
   rw [if_pos (by omega)]
   refine ae.2 (Ev.cmp4 a k rfl rfl (by omega) (by omega) (fun r hr z1 z2=>aa.2 ?_) (fun r hr z1=>aa.2 ?_))
   ·simp only [hr,decide_true,Bool.not_true,Bool.false_eq_true,if_false]
    exact aa.2 (.inr ⟨rfl,z2⟩)
   simp only [hr,decide_false,Bool.not_false,if_true]
   exact aa.2 (.inl ⟨rfl,z1⟩))
  (by dsimp only; rw [if_neg (by omega)]; exact ae.2 (aa.2 (aa.2 rfl)))) ?_)
 rintro x ⟨m,rfl,x2,x3,x4,x5⟩
 dsimp only
 refine ae.2 (Ev.imp (Ev.dn (d:=d) (lo:=m) (j:=j) (by omega) (by omega) (by omega) (fun _=>True) (fun k=>Le ltL d k a)
  (fun k y1 y2=>by
   dsimp only
   rw [if_pos (by omega)]
   refine ae.2 (Ev.cmp a k rfl rfl (by omega) (by omega) (fun r hr z1=>aa.2 ?_) (fun r hr z1=>aa.2 ?_))
   ·simp only [hr,decide_true,if_true]
    exact aa.2 (.inl ⟨rfl,trivial⟩)
   simp only [hr,decide_false,Bool.false_eq_true,if_false]
   exact aa.2 (.inr ⟨rfl,z1⟩))
  (by dsimp only; rw [if_neg (by omega)]; exact ae.2 (aa.2 (aa.2 rfl)))) ?_)
 rintro x ⟨n,rfl,y2,y3,y4,y5⟩
 dsimp only
 have k7:∀ k,a≤k→k < m→Le ltL d k a:=fun k z1 z2=>by
  by_cases h:k < i
  ·exact k6 k z1 h
  exact x4 k (by omega) z2
 refine Ev.ite (fun c=>aa.2 (aA.2 ⟨m,rfl,k4,by omega,by omega,fun x y z1 z2 z3 z4=>(k7 x z1 z2).trans bA (by show a < d.length; omega) (k5 y z3 z4)⟩)) (fun c=>?_)
 rw [aN (show m≤1000000000000 by omega),eU (show 0 < n by omega) (by omega)]
 refine Ev.swap n m rfl rfl (by omega) (by omega) (K:=fun d'=>some (Sum.inl (((m+1:Nat):Int),((n - 1:Nat):Int),d'))) (aa.2 (aC.2 ?_))
 have hg:=fun k=>cU (d:=d) (i:=n) (j:=m) (by omega) (by omega) k
 have hn:Le ltL d n a:=by rcases y5 with h | h; omega; exact h
 have hne:n≠m:=fun e=>by
  rcases x5 with h | h
  ·omega
  exact h (e▸hn)
 have hs2:SegE a b d (swq d n m):=SegE.swap (by omega) (by omega) (by omega) (by omega) (by omega)
 have ha:(swq d n m)[a]? = d[a]?:=by rw [hg,if_neg (by omega),if_neg (by omega)]
 refine ⟨⟨m+1,n - 1,rfl,rfl,by omega,by omega,by omega,k4.trans hs2,nD hs2 k5 ha,fun k z1 z2=>?_⟩,by simp only; omega⟩
 by_cases hk:k=m
 ·subst hk
  refine hn.of ?_ ha
  rw [hg]; split
  ·rename_i e; rw [e]
  rw [if_pos rfl]
 exact (k7 k z1 (by omega)).of (by rw [hg,if_neg (by omega),if_neg (by omega)]) ha
theorem pJ {a b:Nat} {d0:List TLane} (hb:b≤d0.length) (d:List TLane) (j:Nat) (k1:SegE a b d0 d) (k2:a≤j) (k3:j < b) (k4:∀ k,a < k→k≤j→Le ltL d k a) (k5:∀ k,j < k→k < b→Le ltL d a k):SegE a b d0 (swq d j a)∧(∀ k,a≤k→k < j→Le ltL (swq d j a) k j)∧∀ k,j < k→k < b→Le ltL (swq d j a) j k:=by
 have hlen:=k1.len
 have hg:=fun k=>cU (d:=d) (i:=j) (j:=a) (by omega) (by omega) k
 refine ⟨k1.trans (SegE.swap (by omega) (by omega) (by omega) (by omega) (by omega)),fun k z1 z2=>?_,fun k z1 z2=>?_⟩
 ·by_cases hk:k=a
  ·subst hk
   exact (k4 j (by omega) (Nat.le_refl _)).of (by rw [hg,if_neg (by omega),if_pos rfl]) (by rw [hg,if_pos rfl])
  exact (k4 k (by omega) (by omega)).of (by rw [hg,if_neg (by omega),if_neg hk]) (by rw [hg,if_pos rfl])
 exact (k5 k z1 z2).of (by rw [hg,if_pos rfl]) (by rw [hg,if_neg (by omega),if_neg (by omega)])
theorem ql {a b p:Nat} {d0:List TLane} (hl:d0.length≤1000000) (hb:b≤d0.length) (h1:a≤p) (h2:p < b) :
  Ev (gH ((a:Int),(b:Int),(p:Int),d0)) (fun r=>∃ m:Nat,r.1=(m:Int)∧SegE a b d0 r.2.2∧a≤m∧m < b∧(∀ k,a≤k→k < m→Le ltL r.2.2 k m)∧∀ k,m < k→k < b→Le ltL r.2.2 m k):=by
 unfold gH
 dsimp only
 rw [aN (show a≤1000000000000 by omega),eU (show 0 < b by omega) (by omega)]
 refine ae.2 (Ev.idx p rfl (by omega) (ae.2 (Ev.idx a rfl (by omega) (ae.2 (Ev.idx a rfl (by omega) (ae.2 ?_))))))
 refine Ev.idx p rfl (by rw [List.length_set]; omega) ?_
 rw [Int.toNat_natCast,Int.toNat_natCast,t7 (show p < d0.length by omega) (show a < d0.length by omega)]
 have hsw:SegE a b d0 (swq d0 p a):=SegE.swap hb h1 h2 (Nat.le_refl _) (by omega)
 have hsl:=hsw.len
 generalize swq d0 p a=d1 at *
 refine ae.2 (Ev.imp (Ev.up (d:=d1) (lo:=a+1) (e:=b) (by omega) (by omega) (fun k=>Le ltL d1 k a) (fun k=>Le ltL d1 a k)
  (fun k y1 y2=>by
   dsimp only
   rw [if_pos (by omega)]
   refine ae.2 (Ev.cmp k a rfl rfl (by omega) (by omega) (fun r hr z1=>aa.2 ?_) (fun r hr z1=>aa.2 ?_))
   ·simp only [hr,decide_true,if_true]
    exact aa.2 (.inl ⟨rfl,z1⟩)
   simp only [hr,decide_false,Bool.false_eq_true,if_false]
   exact aa.2 (.inr ⟨rfl,z1⟩))
  (by dsimp only; rw [if_neg (by omega)]; exact ae.2 (aa.2 (aa.2 rfl)))) ?_)
 rintro x ⟨m,rfl,x2,x3,x4,x5⟩
 dsimp only
 refine ae.2 (Ev.imp (Ev.dn (d:=d1) (lo:=m) (j:=b - 1) (by omega) (by omega) (by omega) (fun k=>Le ltL d1 a k) (fun k=>Le ltL d1 k a∧¬ Le ltL d1 a k)
  (fun k y1 y2=>by
   dsimp only
   rw [if_pos (by omega)]
   refine ae.2 (Ev.cmp4 k a rfl rfl (by omega) (by omega) (fun r hr z1 z2=>aa.2 ?_) (fun r hr z1=>aa.2 ?_))
   ·simp only [hr,decide_true,Bool.not_true,Bool.false_eq_true,if_false]
    exact aa.2 (.inr ⟨rfl,z1,z2⟩)
   simp only [hr,decide_false,Bool.not_false,if_true]
   exact aa.2 (.inl ⟨rfl,z1⟩))
  (by dsimp only; rw [if_neg (by omega)]; exact ae.2 (aa.2 (aa.2 rfl)))) ?_)
 rintro x ⟨n,rfl,y2,y3,y4,y5⟩
 dsimp only
 refine Ev.ite (fun c=>?_) (fun c=>?_)
 ·refine Ev.swap a n rfl rfl (by omega) (by omega) (K:=fun d'=>some ((n:Int),true,d')) (aa.2 ?_)
  rw [pp (by omega) (by omega)]
  obtain ⟨l1,l2,l3⟩:=pJ hb d1 n hsw (by omega) (by omega) (fun k z1 z2=>x4 k (by omega) (by omega)) (fun k z1 z2=>y4 k z1 (by omega))
  exact ⟨n,rfl,l1,by omega,by omega,l2,l3⟩
 have hn:Le ltL d1 n a∧¬ Le ltL d1 a n:=by rcases y5 with h | h; omega; exact h
 have hm:Le ltL d1 a m:=by rcases x5 with h | h; omega; exact h
 have hne:n≠m:=fun e=>hn.2 (e▸hm)
 replace hn:=hn.1
 rw [aN (show m≤1000000000000 by omega),eU (show 0 < n by omega) (by omega)]
 refine ae.2 (Ev.idx n rfl (by omega) (ae.2 (Ev.idx m rfl (by omega) (ae.2 (Ev.idx m rfl (by omega) (ae.2 ?_))))))
 refine Ev.idx n rfl (by rw [List.length_set]; omega) ?_
 rw [Int.toNat_natCast,Int.toNat_natCast,t7 (show n < d1.length by omega) (show m < d1.length by omega)]
 have hsw2:SegE a b d1 (swq d1 n m):=SegE.swap (by omega) (by omega) (by omega) (by omega) (by omega)
 have hg:=fun k=>cU (d:=d1) (i:=n) (j:=m) (by omega) (by omega) k
 have ha:(swq d1 n m)[a]? = d1[a]?:=by rw [hg,if_neg (by omega),if_neg (by omega)]
 have hge:∀ k,a < k→k < m+1→Le ltL (swq d1 n m) k a:=fun k z1 z2=>by
  by_cases hk:k=m
  ·subst hk
   refine hn.of ?_ ha
   rw [hg]; split
   ·rename_i e; rw [e]
   rw [if_pos rfl]
  exact (x4 k (by omega) (by omega)).of (by rw [hg,if_neg (by omega),if_neg (by omega)]) ha
 have hle:∀ k,n - 1 < k→k < b→Le ltL (swq d1 n m) a k:=fun k z1 z2=>by
  by_cases hk:k=n
  ·subst hk
   exact hm.of ha (by rw [hg,if_pos rfl])
  refine (y4 k (by omega) (by omega)).of ha (by rw [hg,if_neg (by omega),if_neg (by omega)])
 refine ae.2 (Ev.imp (P:=fun q:Int×List TLane=>∃ j:Nat,q.1=(j:Int)∧SegE a b d0 q.2∧a≤j∧j < b∧(∀ k,a < k→k≤j→Le ltL q.2 k a)∧(∀ k,j < k→k < b→Le ltL q.2 a k)) ?_ ?_)
 ·refine Ev.loop (fun s=>∃ i j:Nat,s.1=(i:Int)∧s.2.1=(j:Int)∧a < i∧i≤j+1∧j < b∧SegE a b d0 s.2.2∧(∀ k,a < k→k < i→Le ltL s.2.2 k a)∧∀ k,j < k→k < b→Le ltL s.2.2 a k) (fun s=>(s.2.1+1 - s.1).toNat) ⟨m+1,n - 1,rfl,rfl,by omega,by omega,by omega,hsw.trans hsw2,hge,hle⟩ (by dsimp only; omega) ?_
  rintro ⟨I,J,d⟩ ⟨i,j,e1,e2,k1,k2,k3,k4,k5,k6⟩
  simp only at e1 e2 k4 k5 k6
  subst e1 e2
  have hlen:=k4.len
  dsimp only
  refine ae.2 (Ev.imp (Ev.up (d:=d) (lo:=i) (e:=j+1) (by omega) (by omega) (fun k=>Le ltL d k a) (fun k=>Le ltL d a k)
   (fun k y1 y2=>by
    dsimp only
    rw [if_pos (by omega)]
    refine ae.2 (Ev.cmp k a rfl rfl (by omega) (by omega) (fun r hr z1=>aa.2 ?_) (fun r hr z1=>aa.2 ?_))
    ·simp only [hr,decide_true,if_true]
     exact aa.2 (.inl ⟨rfl,z1⟩)
    simp only [hr,decide_false,Bool.false_eq_true,if_false]
    exact aa.2 (.inr ⟨rfl,z1⟩))
   (by dsimp only; rw [if_neg (by omega)]; exact ae.2 (aa.2 (aa.2 rfl)))) ?_)
  rintro x ⟨m,rfl,x2,x3,x4,x5⟩
  dsimp only
  refine ae.2 (Ev.imp (Ev.dn (d:=d) (lo:=m) (j:=j) (by omega) (by omega) (by omega) (fun k=>Le ltL d a k) (fun k=>Le ltL d k a∧¬ Le ltL d a k)
   (fun k y1 y2=>by
    dsimp only
    rw [if_pos (by omega)]
    refine ae.2 (Ev.cmp4 k a rfl rfl (by omega) (by omega) (fun r hr z1 z2=>aa.2 ?_) (fun r hr z1=>aa.2 ?_))
    ·simp only [hr,decide_true,Bool.not_true,Bool.false_eq_true,if_false]
     exact aa.2 (.inr ⟨rfl,z1,z2⟩)
    simp only [hr,decide_false,Bool.not_false,if_true]
    exact aa.2 (.inl ⟨rfl,z1⟩))
   (by dsimp only; rw [if_neg (by omega)]; exact ae.2 (aa.2 (aa.2 rfl)))) ?_)
  rintro x ⟨n,rfl,y2,y3,y4,y5⟩
  dsimp only
  have k7:∀ k,a < k→k < m→Le ltL d k a:=fun k z1 z2=>by
   by_cases h:k < i
   ·exact k5 k z1 h
   exact x4 k (by omega) z2
  have k8:∀ k,n < k→k < b→Le ltL d a k:=fun k z1 z2=>by
   by_cases h:k≤j
   ·exact y4 k z1 h
   exact k6 k (by omega) z2
  refine Ev.ite (fun c=>aa.2 (aA.2 ⟨n,rfl,k4,by omega,by omega,fun k z1 z2=>k7 k z1 (by omega),k8⟩)) (fun c=>?_)
  rw [aN (show m≤1000000000000 by omega),eU (show 0 < n by omega) (by omega)]
  refine Ev.swap n m rfl rfl (by omega) (by omega) (K:=fun d'=>some (Sum.inl (((m+1:Nat):Int),((n - 1:Nat):Int),d'))) (aa.2 (aC.2 ?_))
  have hg:=fun k=>cU (d:=d) (i:=n) (j:=m) (by omega) (by omega) k
  have hs2:SegE a b d (swq d n m):=SegE.swap (by omega) (by omega) (by omega) (by omega) (by omega)
  have ha:(swq d n m)[a]? = d[a]?:=by rw [hg,if_neg (by omega),if_neg (by omega)]
  have hn:Le ltL d n a∧¬ Le ltL d a n:=by rcases y5 with h | h; omega; exact h
  have hm:Le ltL d a m:=by rcases x5 with h | h; omega; exact h
  have hne:n≠m:=fun e=>hn.2 (e▸hm)
  replace hn:=hn.1
  refine ⟨⟨m+1,n - 1,rfl,rfl,by omega,by omega,by omega,k4.trans hs2,fun k z1 z2=>?_,fun k z1 z2=>?_⟩,by simp only; omega⟩
  ·by_cases hk:k=m
   ·subst hk
    refine hn.of ?_ ha
    rw [hg]; split
    ·rename_i e; rw [e]
    rw [if_pos rfl]
   exact (k7 k z1 (by omega)).of (by rw [hg,if_neg (by omega),if_neg (by omega)]) ha
  by_cases hk:k=n
  ·subst hk
   exact hm.of ha (by rw [hg,if_pos rfl])
  exact (k8 k (by omega) z2).of ha (by rw [hg,if_neg (by omega),if_neg (by omega)])
 rintro ⟨q1,q2⟩ ⟨j,e,k2,k3,k4,k5,k6⟩
 simp only at e k2 k5 k6
 subst e
 dsimp only
 have:=k2.len
 refine Ev.swap a j rfl rfl (by omega) (by omega) (K:=fun d'=>some ((j:Int),false,d')) (aa.2 ?_)
 rw [pp (by omega) (by omega)]
 obtain ⟨l1,l2,l3⟩:=pJ hb q2 j k2 k3 k4 k5 k6
 exact ⟨j,rfl,l1,k3,k4,l2,l3⟩
end Go.Proofs.Ytmchbhheoieepaa
namespace Go.Proofs.Ytmchbhheoieepaa
open Go Go.Am
def BZ (A B a b:Nat) (d:List TLane):Prop:=∀ i j,A≤i→i < j→j < B→(i < a∨b≤j)→Le ltL d i j
def Pr (a b:Nat) (d:List TLane):Prop:=a=0∨∀ k,a≤k→k < b→Le ltL d (a - 1) k
theorem iH {a b:Nat} {d u:List TLane} (h:SegE a b d u) (i:Nat):∃ i',u[i]? = d[i']?∧((i < a∨b≤i)∧i'=i∨a≤i∧i < b∧a≤i'∧i' < b):=by
 by_cases hi:a≤i∧i < b
 ·obtain ⟨j,j1,j2,j3⟩:=h.fro i hi.1 hi.2
  exact ⟨j,j3,.inr ⟨hi.1,hi.2,j1,j2⟩⟩
 exact ⟨i,h.out i (by omega),.inl ⟨by omega,rfl⟩⟩
theorem kT {A B a b:Nat} {d u:List TLane} (hA:A≤a) (hB:b≤B) (hab:a≤b) (h:BZ A B a b d) (s:SegE a b d u):BZ A B a b u:=fun i j h1 h2 h3 h4=>by
 obtain ⟨i',e1,k1⟩:=iH s i
 obtain ⟨j',e2,k2⟩:=iH s j
 exact (h i' j' (by omega) (by omega) (by omega) (by omega)).of e1 e2
theorem nv {A B a b:Nat} {d u:List TLane} (hA:A≤a) (hB:b≤B) (hab:a≤b) (h:BZ A B a b d) (s:SegE a b d u) (k:Srt ltL a b u):Srt ltL A B u:=fun i j h1 h2 h3=>by
 by_cases hh:i < a∨b≤j
 ·exact kT hA hB hab h s i j h1 h2 h3 hh
 exact k i j (by omega) h2 (by omega)
theorem wo {a b:Nat} {d u:List TLane} (h:Pr a b d) (s:SegE a b d u):Pr a b u:=by
 rcases Nat.eq_zero_or_pos a with h0 | h0
 ·exact .inl h0
 rcases h with h | h
 ·omega
 exact .inr (nD s h (s.out _ (by omega)))
def BE (k:Nat) (g:Int×Int×Int×List TLane→Option (List TLane)):Prop:=
 ∀ (d:List TLane) (a b:Nat) (lim:Int),b - a < k→a≤b→b≤d.length→d.length≤1000000→b - a≤20→0≤lim→lim≤1000→Pr a b d→Ev (g ((a:Int),(b:Int),lim,d)) (fun u=>SegE a b d u∧Srt ltL a b u)
abbrev QS:=Int×Int×Int×Bool×Bool×List TLane
def Inv (A B:Nat) (d0:List TLane) (s:QS):Prop:=
 ∃ a b:Nat,s.1=(a:Int)∧s.2.1=(b:Int)∧A≤a∧a≤b∧b≤B∧0≤s.2.2.1∧s.2.2.1≤1000∧SegE A B d0 s.2.2.2.2.2∧BZ A B a b s.2.2.2.2.2∧Pr a b s.2.2.2.2.2
def tp (A B:Nat) (d0:List TLane) (μ:Nat):QS⊕List TLane→Prop:=Nx (fun s'=>Inv A B d0 s'∧(s'.2.1 - s'.1).toNat < μ) (fun r=>SegE A B d0 r∧Srt ltL A B r)
variable {A B:Nat} {d0:List TLane} {g:Int×Int×Int×List TLane→Option (List TLane)} {k:Nat}
structure Here (A B:Nat) (d0:List TLane) (a b:Nat) (lim:Int) (d:List TLane):Prop where
 l6:d0.length≤1000000
 BL:B≤d0.length
 AB:B - A≤20
 Aa:A≤a
 ab:a+12 < b
 bB:b≤B
 l0:0≤lim
 l1:lim≤1000
 s:SegE A B d0 d
 f:BZ A B a b d
 p:Pr a b d
theorem Here.seg {a b:Nat} {lim:Int} {d u:List TLane} (H:Here A B d0 a b lim d) (s:SegE a b d u):Here A B d0 a b lim u:=
 ⟨H.l6,H.BL,H.AB,H.Aa,H.ab,H.bB,H.l0,H.l1,H.s.trans (s.wide H.Aa H.bB),kT H.Aa H.bB (by have:=H.ab; omega) H.f s,wo H.p s⟩
theorem FD {a b m:Nat} {lim:Int} {d u:List TLane} (H:Here A B d0 a b lim d) (q2:SegE a b d u) (q3:a < m) (q4:m≤b) (q5:∀ i k,a≤i→i < m→a≤k→k < b→Le ltL u i k) (w1 w2:Bool):tp A B d0 (b - a) (.inl ((m:Int),(b:Int),lim,w1,w2,u)):=by
 obtain ⟨l6,BL,AB,Aa,ab,bB,l0,l1,sE,fE,pE⟩:=H
 have hlen:=sE.len
 refine aC.2 ⟨⟨m,b,rfl,rfl,by omega,q4,bB,l0,l1,sE.trans (q2.wide Aa bB),fun i j x1 x2 x3 x4=>?_,.inr fun j x1 x2=>q5 _ _ (by omega) (by omega) (by omega) x2⟩,by simp only; omega⟩
 by_cases hh:i < a∨b≤j
 ·exact kT Aa bB (by omega) fE q2 i j x1 x2 x3 hh
 exact q5 i j (by omega) (by omega) (by omega) (by omega)
theorem Fk (hr:BE k g) (hk:B - A≤k) {a b m:Nat} {lim:Int} {d u:List TLane} (H:Here A B d0 a b lim d) (q2:SegE a b d u) (q3:a≤m) (q4:m < b) (q5:∀ k,a≤k→k < m→Le ltL u k m) (q6:∀ k,m < k→k < b→Le ltL u m k) (w1 w2 w3 w4:Bool) {c:Prop} [Decidable c] :
  Ev (if c then (g ((a:Int),(m:Int),lim,u)).bind fun (l14:List TLane)=>some (Sum.inl (IntKind.i64.wrap ((m:Int)+1),(b:Int),lim,w1,w2,l14)) else (g (IntKind.i64.wrap ((m:Int)+1),(b:Int),lim,u)).bind fun (l14:List TLane)=>some (Sum.inl ((a:Int),(m:Int),lim,w3,w4,l14))) (tp A B d0 (b - a)):=by
 obtain ⟨l6,BL,AB,Aa,ab,bB,l0,l1,sE,fE,pE⟩:=H
 have hlen:=sE.len
 have hul:=q2.len
 have fU:=kT Aa bB (by omega) fE q2
 have pU:=wo pE q2
 refine Ev.ite (fun hlr=>?_) (fun hlr=>?_)
 ·refine ae.2 ((hr u a m lim (by omega) (by omega) (by omega) (by omega) (by omega) l0 l1 (by
    rcases pU with h | h
    ·exact .inl h
    exact .inr fun j x1 x2=>h j x1 (by omega))).imp ?_)
  rintro u2 ⟨r2,r3⟩
  have hm:u2[m]? = u[m]?:=r2.out m (by omega)
  refine aa.2 (aC.2 ⟨⟨m+1,b,aN (by omega),rfl,by omega,by omega,bB,l0,l1,(sE.trans (q2.wide Aa bB)).trans (r2.wide Aa (by omega)),fun i j x1 x2 x3 x4=>?_,.inr fun j x1 x2=>?_⟩,?_⟩)
  ·simp only
   by_cases y1:i < a∨b≤j
   ·obtain ⟨i',e1,z1⟩:=iH r2 i
    obtain ⟨j',e2,z2⟩:=iH r2 j
    exact (fU i' j' (by omega) (by omega) (by omega) (by omega)).of e1 e2
   by_cases y2:j < m
   ·exact r3 i j (by omega) x2 y2
   by_cases y3:i=m
   ·exact (q6 j (by omega) (by omega)).of (by rw [y3,hm]) (r2.out j (by omega))
   obtain ⟨i',e1,z1⟩:=iH r2 i
   have hi:Le ltL u2 i m:=(q5 i' (by omega) (by omega)).of e1 hm
   by_cases y4:j=m
   ·rw [y4]; exact hi
   have hl2:=r2.len
   exact hi.trans bA (by omega) ((q6 j (by omega) (by omega)).of hm (r2.out j (by omega)))
  ·simp only
   exact (q6 j (by omega) x2).of (by rw [Nat.add_sub_cancel]; exact hm) (r2.out j (by omega))
  simp only; rw [aN (by omega)]; omega
 rw [aN (by omega)]
 refine ae.2 ((hr u (m+1) b lim (by omega) (by omega) (by omega) (by omega) (by omega) l0 l1 (.inr fun j x1 x2=>q6 j (by omega) x2)).imp ?_)
 rintro u2 ⟨r2,r3⟩
 have hm:u2[m]? = u[m]?:=r2.out m (by omega)
 have hl2:=r2.len
 have hgt:∀ j,m < j→j < b→Le ltL u2 m j:=nD (lo:=m+1) (hi:=b) r2 (fun j x1 x2=>q6 j (by omega) x2) hm |> fun h j x1 x2=>h j (by omega) x2
 refine aa.2 (aC.2 ⟨⟨a,m,rfl,rfl,Aa,q3,by omega,l0,l1,(sE.trans (q2.wide Aa bB)).trans (r2.wide (by omega) bB),fun i j x1 x2 x3 x4=>?_,?_⟩,?_⟩)
 ·simp only
  by_cases y1:i < a∨b≤j
  ·obtain ⟨i',e1,z1⟩:=iH r2 i
   obtain ⟨j',e2,z2⟩:=iH r2 j
   exact (fU i' j' (by omega) (by omega) (by omega) (by omega)).of e1 e2
  by_cases y2:m < i
  ·exact r3 i j (by omega) x2 (by omega)
  by_cases y3:i=m
  ·rw [y3]; exact hgt j (by omega) (by omega)
  have hi:Le ltL u2 i m:=(q5 i (by omega) (by omega)).of (r2.out i (by omega)) hm
  by_cases y4:j=m
  ·rw [y4]; exact hi
  exact hi.trans bA (by omega) (hgt j (by omega) (by omega))
 ·simp only
  rcases pU with h | h
  ·exact .inl h
  rcases Nat.eq_zero_or_pos a with h0 | h0
  ·exact .inl h0
  exact .inr fun j x1 x2=>(h j x1 (by omega)).of (r2.out _ (by omega)) (r2.out j (by omega))
 simp only; omega
theorem qF:∀ k,BE k (xo eO k):=by
 intro k
 induction k with
 | zero=>intro d a b lim h; omega
 | succ k ih=>
  intro d A B lim hk hab hb h6 h20 l0 l1 hp
  show Ev (eO (xo eO k) ((A:Int),(B:Int),lim,d)) _
  generalize xo eO k=g at ih
  unfold eO
  dsimp only
  refine ae.2 (Ev.imp (P:=fun u=>SegE A B d u∧Srt ltL A B u) ?_ (fun u hu=>aa.2 hu))
  refine Ev.loop (Inv A B d) (fun s=>(s.2.1 - s.1).toNat) ⟨A,B,rfl,rfl,Nat.le_refl _,hab,Nat.le_refl _,l0,l1,SegE.refl _ _ _,fun i j x1 x2 x3 x4=>by omega,hp⟩ (by dsimp only; omega) ?_
  rintro ⟨I,J,lim,w1,w2,e⟩ ⟨a,b,e1,e2,k1,k2,k3,k4,k5,k6,k7,k8⟩
  simp only at e1 e2 k4 k5 k6 k7 k8
  subst e1 e2
  have hlen:=k6.len
  have eb:IntKind.i64.wrap ((b:Int) - (a:Int))=((b - a:Nat):Int):=by rw [aH (by omega) (by omega)]; omega
  show Ev _ (tp A B d ((b:Int) - (a:Int)).toNat)
  rw [show ((b:Int) - (a:Int)).toNat=b - a by omega]
  dsimp only
  rw [eb]
  refine Ev.ite (fun c=>ae.2 ((qO (a:=a) (b:=b) (d0:=e) (by omega) k2 (by omega)).imp fun u hu=>aa.2 (aA.2 ⟨k6.trans (hu.1.wide k1 k3),nv k1 k3 k2 k7 hu.1 hu.2⟩))) (fun c=>?_)
  refine Ev.ite (fun c2=>ae.2 ((qL (a:=a) (b:=b) (d0:=e) (by omega) (by omega) (by omega)).imp fun u hu=>aa.2 (aA.2 ⟨k6.trans (hu.1.wide k1 k3),nv k1 k3 k2 k7 hu.1 hu.2⟩))) (fun c2=>?_)
  have H:∀ l:Int,0≤l→l≤1000→Here A B d a b l e:=fun l x1 x2=>⟨h6,hb,h20,k1,by omega,k3,x1,x2,k6,k7,k8⟩
  have hL:a+12 < b:=by omega
    -- a new order by chance
  refine ae.2 (Ev.imp (P:=fun x=>∃ (l:Int) (d':List TLane),x=Sum.inl ((a:Int),(b:Int),l,w1,w2,((b - a:Nat):Int),d')∧Here A B d a b l d') ?_ ?_)
  ·refine Ev.ite (fun c3=>?_) (fun c3=>aa.2 ⟨_,_,rfl,H _ k4 k5⟩)
   refine ae.2 ((qK (a:=a) (b:=b) (d0:=e) (by omega) (by omega) (by omega) (by omega)).imp fun u hu=>aa.2 ⟨_,_,rfl,(H _ ?_ ?_).seg hu⟩)
   ·rw [aH (by omega) (by omega)]; omega
   rw [aH (by omega) (by omega)]; omega
  clear H k4 k5 k6 k7 k8 hlen c2 l0 l1 lim
  rintro x ⟨lim,e,rfl,H⟩
  dsimp only
  have hlen:=H.s.len
    -- a pivot
  refine ae.2 ((qo (a:=a) (b:=b) (d:=e) (by omega) (by omega) (by omega) (by omega)).imp ?_)
  rintro ⟨y,q⟩ ⟨m,em,q2,q3⟩
  simp only at em
  subst em
  dsimp only
  refine ae.2 (Ev.imp (P:=fun x=>∃ (p:Nat) (q:Int) (d':List TLane),x=Sum.inl ((a:Int),(b:Int),lim,w1,w2,((b - a:Nat):Int),(p:Int),q,d')∧a≤p∧p < b∧Here A B d a b lim d') ?_ ?_)
  ·refine Ev.ite (fun c3=>?_) (fun c3=>aa.2 ⟨m,q,e,rfl,q2,q3,H⟩)
   refine ae.2 ((qv (a:=a) (b:=b) (d0:=e) (by omega) (by omega) (by omega)).imp fun u hu=>aa.2 ⟨b - 1 - (m - a),1,u,?_,by omega,by omega,H.seg hu⟩)
   have e:IntKind.i64.wrap (IntKind.i64.wrap ((b:Int) - 1) - IntKind.i64.wrap ((m:Int) - (a:Int)))=((b - 1 - (m - a):Nat):Int):=by
    rw [eU (by omega) (by omega),aH (n:=(m:Int) - (a:Int)) (by omega) (by omega),aH (by omega) (by omega)]; omega
   rw [e]
  clear q2 q3 H hlen
  rintro x ⟨p,q,e,rfl,h1,h2,H⟩
  dsimp only
  have hlen:=H.s.len
    -- perhaps it is in order
  refine ae.2 (Ev.imp (P:=fun x=>x=Sum.inl ((a:Int),(b:Int),lim,w1,w2,((b - a:Nat):Int),(p:Int),e)∨∃ u,x=Sum.inr (Sum.inr u)∧SegE A B d u∧Srt ltL A B u) ?_ ?_)
  ·refine ae.2 (Ev.imp (P:=fun x=>∃ w:Bool,x=Sum.inl ((a:Int),(b:Int),lim,w1,w2,((b - a:Nat):Int),(p:Int),w,e)) ?_ ?_)
   ·refine Ev.ite (fun _=>Ev.ite (fun _=>aa.2 ⟨_,rfl⟩) (fun _=>aa.2 ⟨_,rfl⟩)) (fun _=>aa.2 ⟨_,rfl⟩)
   rintro x ⟨w,rfl⟩
   dsimp only
   refine Ev.ite (fun _=>?_) (fun _=>aa.2 (.inl rfl))
   refine ae.2 ((qG (a:=a) (b:=b) (d0:=e) (by omega) (by omega) (by omega) (by omega)).imp ?_)
   rintro ⟨r,u⟩ ⟨eu,hu⟩
   simp only at eu hu
   subst eu
   dsimp only
   refine Ev.ite (fun hw=>aa.2 (.inr ⟨u,rfl,H.s,nv k1 k3 k2 H.f (SegE.refl _ _ _) (hu hw)⟩)) (fun _=>aa.2 (.inl rfl))
  intro x hx
  rcases hx.symm with ⟨u,rfl,u1,u2⟩ | rfl
  ·exact aa.2 (aA.2 ⟨u1,u2⟩)
  dsimp only
    -- is all of it no less than what stands ahead?
  refine ae.2 (Ev.imp (P:=fun x=>∃ w:Bool,x=Sum.inl ((a:Int),(b:Int),lim,w1,w2,((b - a:Nat):Int),(p:Int),w,e)∧(w=true→∀ q,a≤q→q < b→Le ltL e p q)) ?_ ?_)
  ·refine Ev.ite (fun ha=>?_) (fun _=>aa.2 ⟨_,rfl,fun h=>by cases h⟩)
   refine Ev.cmp (a - 1) p (eU (by omega) (by omega)) rfl (by omega) (by omega) (fun r hr z=>aa.2 ⟨_,rfl,fun h=>?_⟩) (fun r hr z=>aa.2 ⟨_,rfl,fun h q x1 x2=>?_⟩)
   ·simp [hr] at h
   rcases H.p with h | h
   ·omega
   exact z.trans bA (by omega) (h q x1 x2)
  rintro x ⟨w,rfl,hw⟩
  dsimp only
  refine Ev.ite (fun ht=>?_) (fun ht=>?_)
  ·refine ae.2 ((qu (a:=a) (b:=b) (p:=p) (d0:=e) (by omega) (by omega) h1 h2 (hw ht)).imp ?_)
   rintro ⟨r,u⟩ ⟨m,em,q2,q3,q4,q5⟩
   simp only at em q2 q5
   subst em
   exact aa.2 (FD H q2 q3 q4 q5 w1 w2)
  refine ae.2 ((ql (a:=a) (b:=b) (p:=p) (d0:=e) (by omega) (by omega) h1 h2).imp ?_)
  rintro ⟨r,w',u⟩ ⟨m,em,q2,q3,q4,q5,q6⟩
  simp only at em q2 q5 q6
  subst em
  dsimp only
  refine ae.2 (Ev.quoI (by omega) (by omega) (by omega) ?_)
  exact Fk ih (by omega) H q2 q3 q4 q5 q6 _ _ _ _
theorem qq {d:List TLane} (h:d.length≤20):Ev (gf d) (fun u=>u.length=d.length∧(∀ x,x∈u↔x∈d)∧Srt ltL 0 u.length u):=by
 unfold gf
 refine ae.2 ((Cw h).imp ?_)
 rintro q ⟨h2,h3⟩
 refine ae.2 (Ev.imp (qF 1099511627776 d 0 d.length q (by omega) (by omega) (by omega) (by omega) (by omega) h2 h3 (.inl rfl)) ?_)
 rintro u ⟨k2,k3⟩
 exact aa.2 ⟨k2.len,fun x=>k2.mem x,by rw [k2.len]; exact k3⟩
end Go.Proofs.Ytmchbhheoieepaa
namespace Go.Proofs.Ytmchbhheoieepaa
open Go Go.Am
theorem ir {α:Type} {p:α→Bool} {l:List α} {k:Nat} (h:(l.take k).any p=false) (hk:k < l.length):(l.take (k+1)).any p=p l[k]:=by
 rw [List.take_succ_eq_append_getElem hk,List.any_append,h]; simp
theorem DT {l:List TArc} {q n:Int} (h:l.length≤1000000):Ev (p35 (q,n,l)) (fun r=>r=if l.any (fun a=>decide (a.Place=q))=true then l else l++[⟨q,n⟩]):=by
 unfold p35
 refine ae.2 (Ev.cnt l.length (fun k s=>s=((k:Int),l)∧(l.take k).any (fun a=>decide (a.Place=q))=false) ⟨rfl,rfl⟩ ?_ ?_)
 ·rintro k s hk ⟨rfl,hI⟩
  dsimp only
  rw [if_pos (by omega)]
  refine ae.2 (Ev.idx k rfl hk (Ev.ite (fun c=>aa.2 (aA.2 (aa.2 ?_))) (fun c=>aa.2 (aC.2 ⟨by rw [aN (by omega)],?_⟩))))
  ·rw [if_pos (List.any_eq_true.2 ⟨l[k],List.getElem_mem hk,by simpa using c⟩)]
  rw [ir hI hk]; simpa using c
 rintro s ⟨rfl,hI⟩
 dsimp only
 rw [if_neg (by omega)]
 rw [List.take_length] at hI
 refine aa.2 (aA.2 (ae.2 (Ev.app (by simp; omega) (aa.2 ?_))))
 rw [if_neg (by rw [hI]; decide)]
def bT (m b:Nat) (l:List TArc):Prop:=l.length≤b∧(∀ a,a∈l→0≤a.Place∧a.Place < (m:Int)∧1≤a.N∧a.N≤9)∧(l.map TArc.Place).Nodup
theorem bT.nil (m b:Nat):bT m b []:=⟨Nat.zero_le _,(fun _ h=>by cases h),by simp⟩
theorem bT.le {m b c:Nat} {l:List TArc} (h:bT m b l) (hb:b≤c):bT m c l:=⟨Nat.le_trans h.1 hb,h.2⟩
theorem mm {m b:Nat} {l:List TArc} {q n:Int} (h:bT m b l) (hb:b≤1000) (h0:0≤q) (h1:q < m) (n0:1≤n) (n1:n≤9):Ev (p35 (q,n,l)) (fun r=>bT m (b+1) r∧r≠[]):=by
 refine (DT (by have:=h.1; omega)).imp ?_
 rintro r rfl
 split
 ·rename_i c
  refine ⟨h.le (Nat.le_succ _),fun e=>?_⟩
  rw [e] at c; cases c
 rename_i c
 refine ⟨⟨by rw [List.length_append,List.length_singleton]; have:=h.1; omega,fun a ha=>?_,?_⟩,by simp⟩
 ·rcases List.mem_append.1 ha with ha | ha
  ·exact h.2.1 a ha
  rw [List.mem_singleton] at ha; subst ha; exact ⟨h0,h1,n0,n1⟩
 rw [List.map_append,List.nodup_append]
 refine ⟨h.2.2,by simp,fun x hx y hy e=>?_⟩
 simp only [List.map_cons,List.map_nil,List.mem_singleton] at hy
 obtain ⟨a,ha,rfl⟩:=List.mem_map.1 hx
 exact c (List.any_eq_true.2 ⟨a,ha,by simp [e,hy]⟩)
def B8 (n:Int):Prop:=0≤n∧n≤255
structure ActOk (x:TAct):Prop where
 D:B8 x.D
 P:B8 x.P
 I:B8 x.I
 J:B8 x.J
 N:B8 x.N
 O:B8 x.O
 Q:B8 x.Q
structure DraftIn (d:List Int×List TAct):Prop where
 tok:∀ v,v∈d.1→B8 v
 act:∀ x,x∈d.2→ActOk x
def zc (k:Nat):List UInt8:=[112]++[u8 (IntKind.u8.wrap (IntKind.i64.wrap (97+(k:Int))))]
def oa (k:Nat):List UInt8:=([116]++[u8 (IntKind.u8.wrap (IntKind.i64.wrap (48+(k:Int))))])++[46,120]
structure TrOk (m i:Nat) (t:TTrans):Prop where
 name:t.Name=oa i
 ins:bT m 2 t.In
 some:t.In≠[]
 nots:bT m 1 t.Not
 outs:bT m 2 t.Out
 d0:0≤t.Delay
 d1:t.Delay≤4
 p0:0≤t.Prio
 p1:t.Prio≤2
structure NetOk (n:List TPlace×List TTrans):Prop where
 np0:0 < n.1.length
 np:n.1.length≤7
 nt:n.2.length≤9
 pl:∀ (i:Nat) p,n.1[i]? = some p→p.Name=zc i∧0≤p.Tokens∧p.Tokens≤4
 tr:∀ (i:Nat) t,n.2[i]? = some t→TrOk n.1.length i t
theorem qu8 {a b:Int} (h:B8 a) (hb:0 < b):quoI .u8 a b=some (a / b):=by
 unfold B8 at h
 unfold quoI
 rw [if_neg (by omega),Int.tdiv_eq_ediv_of_nonneg h.1,IntKind.wrap_u8]
 have h1:0≤a / b:=Int.ediv_nonneg h.1 (by omega)
 have h2:a / b≤a:=Int.ediv_le_self _ h.1
 rw [Int.emod_eq_of_lt h1 (by omega)]
theorem jc {a:Int} {m:Nat} (hm:0 < m):0≤a % (m:Int)∧a % (m:Int) < m:=⟨Int.emod_nonneg _ (by omega),Int.emod_lt_of_pos _ (by omega)⟩
theorem BK {d:List Int×List TAct} (hd:DraftIn d) (ht:d.1.length≤60) (ha:d.2.length≤12):Ev (p13 d) NetOk:=by
 obtain ⟨tk,ac⟩:=d
 simp only at ht ha
 unfold p13
 dsimp only
 have hb:IntKind.i64.wrap (1+(tk.length:Int) % 7)=((1+tk.length % 7:Nat):Int):=by rw [aH (by omega) (by omega)]; omega
 refine ae.2 (Ev.imp (P:=fun s=>∃ pl:List TPlace,s=(tk,ac,{ Places:=[],Trans:=[] },{ Places:=pl,Trans:=[] })∧0 < pl.length∧pl.length≤7∧∀ (i:Nat) p,pl[i]? = some p→p.Name=zc i∧0≤p.Tokens∧p.Tokens≤4) ?_ ?_)
 ·refine Ev.cnt (1+tk.length % 7) (fun k s=>∃ pl:List TPlace,s=((k:Int),tk,ac,{ Places:=[],Trans:=[] },{ Places:=pl,Trans:=[] })∧pl.length=k∧∀ (i:Nat) p,pl[i]? = some p→p.Name=zc i∧0≤p.Tokens∧p.Tokens≤4) ⟨[],rfl,rfl,fun i p h=>by simp at h⟩ ?_ ?_
  ·rintro k s hk ⟨pl,rfl,hl,hp⟩
   dsimp only
   refine ae.2 (Ev.remI (by omega) (by omega) ?_)
   rw [hb,if_pos (by omega)]
   refine ae.2 (Ev.imp (P:=fun x=>∃ n:Int,x=Sum.inl ((k:Int),n,tk,ac,{ Places:=[],Trans:=[] },{ Places:=pl,Trans:=[] })∧0≤n∧n≤4) ?_ ?_)
   ·refine Ev.ite (fun c=>ae.2 (Ev.idx k rfl (by omega) (ae.2 ?_))) (fun c=>aa.2 ⟨_,rfl,by omega,by omega⟩)
    have:=hd.tok tk[k] (List.getElem_mem _)
    unfold B8 at this
    refine Ev.remI this.1 (by omega) (aa.2 ⟨_,rfl,?_,?_⟩)
    ·rw [aH (by omega) (by omega)]; omega
    rw [aH (by omega) (by omega)]; omega
   rintro x ⟨n,rfl,n0,n1⟩
   dsimp only
   refine ae.2 (Ev.catS (by simp) (ae.2 (Ev.app (by simp; omega) (aa.2 (aC.2 ⟨_,by rw [aN (by omega)],by simp [hl],fun i p h=>?_⟩)))))
   rw [List.getElem?_append] at h
   split at h
   ·exact hp i p h
   rename_i hi
   have e:i=k:=by
    have:=(List.getElem?_eq_some_iff.1 h).1
    simp at this; omega
   subst e
   rw [hl,Nat.sub_self] at h
   cases h
   exact ⟨rfl,n0,n1⟩
  rintro s ⟨pl,rfl,hl,hp⟩
  dsimp only
  refine ae.2 (Ev.remI (by omega) (by omega) ?_)
  rw [hb,if_neg (by omega)]
  exact aa.2 (aA.2 ⟨pl,rfl,by omega,by omega,hp⟩)
 rintro s ⟨pl,rfl,hl0,hl1,hp⟩
 dsimp only
 refine ae.2 (Ev.imp (P:=fun s=>∃ tr:List TTrans,s=({ Places:=[],Trans:=[] },{ Places:=pl,Trans:=tr })∧tr.length≤9∧∀ (i:Nat) t,tr[i]? = some t→TrOk pl.length i t) ?_ ?_)
 ·refine Ev.cnt (min 9 ac.length) (fun k s=>∃ tr:List TTrans,s=((k:Int),tk,ac,{ Places:=[],Trans:=[] },{ Places:=pl,Trans:=tr })∧tr.length=k∧∀ (i:Nat) t,tr[i]? = some t→TrOk pl.length i t) ⟨[],rfl,rfl,fun i p h=>by simp at h⟩ ?_ ?_
  ·rintro k s hk ⟨tr,rfl,hl,htr⟩
   dsimp only
   rw [if_pos (by omega)]
   refine ae.2 (aa.2 ?_)
   dsimp only
   rw [decide_eq_true (by omega),if_pos rfl]
   refine ae.2 (Ev.idx k rfl (by omega) ?_)
   have hx:ActOk ac[k]:=hd.act _ (List.getElem_mem (show k < ac.length by omega))
   generalize ac[k]=y at hx
   obtain ⟨hD,hP,hI,hJ,hN,hO,hQ⟩:=hx
   have bD:=hD; have bP:=hP; have bI:=hI; have bJ:=hJ; have bN:=hN; have bO:=hO; have bQ:=hQ
   unfold B8 at bD bP bI bJ bN bO bQ
   refine ae.2 (Ev.catS (by simp) (ae.2 (Ev.catS (by simp) (ae.2 (Ev.remI bD.1 (by omega) (ae.2 (Ev.remI bP.1 (by omega) (ae.2 ?_))))))))
   rw [aH (n:=y.I) (by omega) (by omega)]
   refine Ev.remI bI.1 (by omega) (ae.2 ?_)
   rw [qu8 hI (by omega)]
   refine aa.2 (ae.2 ?_)
   rw [aH (n:=y.I / 64) (by omega) (by omega)]
   refine Ev.remI (by omega) (by omega) (ae.2 ?_)
   have r1:=jc (a:=y.I) hl0
   rw [aH (n:=1+y.I / 64 % 2) (by omega) (by omega),aH (n:=y.D % 5) (by omega) (by omega),aH (n:=y.P % 3) (by omega) (by omega)]
   refine (mm (m:=pl.length) (bT.nil pl.length 0) (by omega) r1.1 r1.2 (by omega) (by omega)).imp ?_
   rintro ins ⟨hin,hin0⟩
      -- a second fH
   refine ae.2 (Ev.imp (P:=fun x=>∃ l:List TArc,x=Sum.inl ((k:Int),tk,ac,{ Places:=[],Trans:=[] },{ Places:=pl,Trans:=tr },y,oa k,y.D % 5,y.P % 3,l)∧bT pl.length 2 l∧l≠[]) ?_ ?_)
   ·refine ae.2 (Ev.remI bJ.1 (by omega) (Ev.ite (fun c=>?_) (fun c=>aa.2 ⟨_,rfl,hin.le (by omega),hin0⟩)))
    rw [qu8 hJ (by omega)]
    refine ae.2 (aa.2 (ae.2 ?_))
    rw [aH (n:=y.J / 3) (by omega) (by omega)]
    have r2:=jc (a:=y.J / 3) hl0
    refine Ev.remI (by omega) (by omega) (ae.2 ((mm hin (by omega) r2.1 r2.2 (by omega) (by omega)).imp fun l h=>aa.2 ⟨_,rfl,h⟩))
   clear hin hin0 ins
   rintro x ⟨ins,rfl,hin,hin0⟩
   dsimp only
   refine ae.2 (Ev.imp (P:=fun x=>∃ l:List TArc,x=Sum.inl ((k:Int),tk,ac,{ Places:=[],Trans:=[] },{ Places:=pl,Trans:=tr },y,oa k,y.D % 5,y.P % 3,ins,l)∧bT pl.length 1 l) ?_ ?_)
   ·refine ae.2 (Ev.remI bN.1 (by omega) (Ev.ite (fun c=>?_) (fun c=>aa.2 ⟨_,rfl,bT.nil _ _⟩)))
    rw [qu8 hN (by omega)]
    refine ae.2 (aa.2 (ae.2 ?_))
    rw [aH (n:=y.N / 4) (by omega) (by omega)]
    have r2:=jc (a:=y.N / 4) hl0
    refine Ev.remI (by omega) (by omega) (ae.2 ?_)
    rw [qu8 hN (by omega)]
    refine aa.2 (ae.2 ?_)
    rw [aH (n:=y.N / 64) (by omega) (by omega),aH (n:=1+y.N / 64) (by omega) (by omega)]
    exact (mm (bT.nil _ 0) (by omega) r2.1 r2.2 (by omega) (by omega)).imp fun l h=>aa.2 ⟨_,rfl,h.1⟩
   rintro x ⟨nots,rfl,hno⟩
   dsimp only
   refine ae.2 (Ev.imp (P:=fun x=>∃ l:List TArc,x=Sum.inl ((k:Int),tk,ac,{ Places:=[],Trans:=[] },{ Places:=pl,Trans:=tr },y,oa k,y.D % 5,y.P % 3,ins,nots,l)∧bT pl.length 1 l) ?_ ?_)
   ·refine ae.2 (Ev.remI bO.1 (by omega) (Ev.ite (fun c=>?_) (fun c=>aa.2 ⟨_,rfl,bT.nil _ _⟩)))
    rw [qu8 hO (by omega)]
    refine ae.2 (aa.2 (ae.2 ?_))
    rw [aH (n:=y.O / 5) (by omega) (by omega)]
    have r2:=jc (a:=y.O / 5) hl0
    refine Ev.remI (by omega) (by omega) (ae.2 ?_)
    rw [qu8 hO (by omega)]
    refine aa.2 (ae.2 ?_)
    rw [aH (n:=y.O / 128) (by omega) (by omega),aH (n:=1+y.O / 128) (by omega) (by omega)]
    exact (mm (bT.nil _ 0) (by omega) r2.1 r2.2 (by omega) (by omega)).imp fun l h=>aa.2 ⟨_,rfl,h.1⟩
   rintro x ⟨outs,rfl,hou⟩
   dsimp only
   refine ae.2 (Ev.imp (P:=fun x=>∃ l:List TArc,x=Sum.inl ((k:Int),tk,ac,{ Places:=[],Trans:=[] },{ Places:=pl,Trans:=tr },y,oa k,y.D % 5,y.P % 3,ins,nots,l)∧bT pl.length 2 l) ?_ ?_)
   ·refine ae.2 (Ev.remI bQ.1 (by omega) (Ev.ite (fun c=>?_) (fun c=>aa.2 ⟨_,rfl,hou.le (by omega)⟩)))
    rw [qu8 hQ (by omega)]
    refine ae.2 (aa.2 (ae.2 ?_))
    rw [aH (n:=y.Q / 3) (by omega) (by omega)]
    have r2:=jc (a:=y.Q / 3) hl0
    exact Ev.remI (by omega) (by omega) (ae.2 ((mm hou (by omega) r2.1 r2.2 (by omega) (by omega)).imp fun l h=>aa.2 ⟨_,rfl,h.1⟩))
   clear hou outs
   rintro x ⟨outs,rfl,hou⟩
   dsimp only
   refine ae.2 (Ev.imp (P:=fun x=>∃ d:Int,x=Sum.inl ((k:Int),tk,ac,{ Places:=[],Trans:=[] },{ Places:=pl,Trans:=tr },oa k,d,y.P % 3,ins,nots,outs)∧0≤d∧d≤4) ?_ ?_)
   ·refine ae.2 (Ev.imp (P:=fun x=>∃ w:Bool,x=Sum.inl ((k:Int),w,tk,ac,{ Places:=[],Trans:=[] },{ Places:=pl,Trans:=tr },oa k,y.D % 5,y.P % 3,ins,nots,outs)) (Ev.ite (fun _=>aa.2 ⟨_,rfl⟩) (fun _=>aa.2 ⟨_,rfl⟩)) ?_)
    rintro x ⟨w,rfl⟩
    dsimp only
    exact Ev.ite (fun _=>aa.2 ⟨1,rfl,by omega,by omega⟩) (fun _=>aa.2 ⟨_,rfl,by omega,by omega⟩)
   rintro x ⟨dl,rfl,d0,d1⟩
   dsimp only
   refine ae.2 (Ev.app (by simp; omega) (aa.2 (aC.2 ⟨_,by rw [aN (by omega)],by simp [hl],fun i t h=>?_⟩)))
   rw [List.getElem?_append] at h
   split at h
   ·exact htr i t h
   rename_i hi
   have e:i=k:=by
    have:=(List.getElem?_eq_some_iff.1 h).1
    simp at this; omega
   subst e
   rw [hl,Nat.sub_self] at h
   cases h
   exact ⟨rfl,hin,hin0,hno,hou,d0,d1,by dsimp only; omega,by dsimp only; omega⟩
  rintro s ⟨tr,rfl,hl,htr⟩
  dsimp only
  have fin:∀ w:Bool,w=false→Ev (some (Sum.inl (((min 9 ac.length:Nat):Int),w,tk,ac,({ Places:=[],Trans:=[] }:TNet),({ Places:=pl,Trans:=tr }:TNet)))) (fun x:Int×Bool×List Int×List TAct×TNet×TNet⊕Int×List Int×List TAct×TNet×TNet⊕TNet×TNet=>x=Sum.inl (((min 9 ac.length:Nat):Int),false,tk,ac,{ Places:=[],Trans:=[] },{ Places:=pl,Trans:=tr })):=fun w hw=>aa.2 (by rw [hw])
  refine ae.2 (Ev.imp (Ev.ite (fun c=>fin _ (decide_eq_false (by omega))) (fun c=>fin _ rfl)) ?_)
  rintro x rfl
  dsimp only
  rw [if_neg (by decide)]
  exact aa.2 (aA.2 ⟨tr,rfl,by omega,htr⟩)
 rintro s ⟨tr,rfl,hl,htr⟩
 exact aa.2 ⟨hl0,hl1,hl,hp,htr⟩
end Go.Proofs.Ytmchbhheoieepaa
namespace Go.Proofs.Ytmchbhheoieepaa
open Go Go.Am
def jg (n:Nat) (ps:List TArr2_Int) (a b:Nat):Prop:=a < n∧b < n∧∃ p,p∈ps∧p.e0=(a:Int)∧p.e1=(b:Int)
inductive Joi (n:Nat) (ps:List TArr2_Int):Nat→Nat→Prop where
 | refl (a:Nat):Joi n ps a a
 | up {a b c:Nat}:Joi n ps a b→jg n ps b c→Joi n ps a c
 | dn {a b c:Nat}:Joi n ps a b→jg n ps c b→Joi n ps a c
section
variable {n:Nat} {ps:List TArr2_Int}
theorem Joi.trans {a b c:Nat} (h:Joi n ps a b) (k:Joi n ps b c):Joi n ps a c:=by
 induction k with
 | refl=>exact h
 | up _ e ih=>exact .up ih e
 | dn _ e ih=>exact .dn ih e
theorem Joi.symm {a b:Nat} (h:Joi n ps a b):Joi n ps b a:=by
 induction h with
 | refl=>exact .refl _
 | up _ e ih=>exact (Joi.dn (.refl _) e).trans ih
 | dn _ e ih=>exact (Joi.up (.refl _) e).trans ih
def kX (n:Nat) (ps:List TArr2_Int) (col:List Int):Prop:=col.length=n∧∀ v,v < n→∃ w:Nat,col[v]? = some (w:Int)∧w < n∧Joi n ps v w
def cW (n:Nat) (ps:List TArr2_Int) (col:List Int) (v:Nat):Prop:=v < n∧∀ (c:Int) (w:Nat),col[v]? = some c→Joi n ps v w→w < n→c≤w
theorem yd {col:List Int} (ok:kX n ps col) {v w:Nat} (h:cW n ps col v) (k:cW n ps col w) (j:Joi n ps v w):col[v]? = col[w]?:=by
 obtain ⟨a,a1,a2,a3⟩:=ok.2 v h.1
 obtain ⟨b,b1,b2,b3⟩:=ok.2 w k.1
 have h1:=h.2 _ b a1 (j.trans b3) b2
 have h2:=k.2 _ a b1 (j.symm.trans a3) a2
 rw [a1,b1]
 congr 1
 omega
theorem step_ok {col:List Int} (ok:kX n ps col) {x y:Nat} {c d:Int} (hx:col[x]? = some c) (hy:col[y]? = some d) (hyn:y < n) (hxn:x < n) (hj:Joi n ps y x) (hcd:c≤d):kX n ps (col.set y c)∧(∀ v,cW n ps col v→cW n ps (col.set y c) v)∧(cW n ps col x→cW n ps (col.set y c) y):=by
 have hl:=ok.1
 have hg:∀ k,(col.set y c)[k]? = if k=y then some c else col[k]?:=fun k=>by
  by_cases hk:k=y
  ·rw [if_pos hk,hk,List.getElem?_set_self (by omega)]
  rw [if_neg hk,List.getElem?_set_ne (by omega)]
 refine ⟨⟨by simpa using hl,fun v hv=>?_⟩,fun v hv=>⟨hv.1,fun e w h1 h2 h3=>?_⟩,fun h=>⟨hyn,fun e w h1 h2 h3=>?_⟩⟩
 ·rw [hg]
  split
  ·rename_i e
   subst e
   obtain ⟨a,a1,a2,a3⟩:=ok.2 x hxn
   rw [hx] at a1
   exact ⟨a,a1,a2,hj.trans a3⟩
  exact ok.2 v hv
 ·rw [hg] at h1
  split at h1
  ·rename_i e'
   subst e'
   cases h1
   have:=hv.2 _ w hy h2 h3
   omega
  exact hv.2 _ w h1 h2 h3
 rw [hg,if_pos rfl] at h1
 cases h1
 exact h.2 _ w hx (hj.symm.trans h2) h3
open Classical in
theorem DB {P Q:Nat→Prop} (n:Nat) (h:∀ v,P v→Q v) (v:Nat) (hv:v < n) (h1:¬ P v) (h2:Q v):(List.range n).countP (fun v=>decide (P v)) < (List.range n).countP (fun v=>decide (Q v)):=by
 induction n with
 | zero=>omega
 | succ n ih=>
  rw [List.range_succ,List.countP_append,List.countP_append]
  have hle:(List.range n).countP (fun v=>decide (P v))≤(List.range n).countP (fun v=>decide (Q v)):=List.countP_mono_left fun x _ hx=>by
   simp only [decide_eq_true_eq] at hx ⊢
   exact h x hx
  by_cases e:v=n
  ·subst e
   simp [h1,h2]; omega
  have:=ih (by omega)
  by_cases hp:P n
  ·simp [hp,h n hp]; omega
  by_cases hq:Q n
  ·simp [hp,hq]; omega
  simp [hp,hq]; omega
theorem uZ (v:Nat) (hv:v < n):∃ m,m < n∧Joi n ps v m∧∀ w,w < n→Joi n ps v w→m≤w:=by
 suffices h:∀ k v',v' < k→v' < n→Joi n ps v v'→∃ m,m < n∧Joi n ps v m∧∀ w,w < n→Joi n ps v w→m≤w from h (v+1) v (by omega) hv (.refl _)
 intro k
 induction k with
 | zero=>intro v' h; omega
 | succ k ih=>
  intro v' h1 h2 h3
  by_cases h:∃ w,w < v'∧w < n∧Joi n ps v w
  ·obtain ⟨w,w1,w2,w3⟩:=h
   exact ih w (by omega) w2 w3
  refine ⟨v',h2,h3,fun w w1 w2=>?_⟩
  rcases Nat.lt_or_ge w v' with hw | hw
  ·exact absurd ⟨w,hw,w1,w2⟩ h
  exact hw
theorem vT {S:Nat→Prop} {m v:Nat} (h:Joi n ps m v) (hm:S m) (hv:¬ S v):∃ a b,(jg n ps a b∨jg n ps b a)∧S a∧¬ S b:=by
 induction h with
 | refl=>exact absurd hm hv
 | @up b c _ e ih=>
  by_cases hb:S b
  ·exact ⟨b,c,.inl e,hb,hv⟩
  exact ih hb
 | @dn b c _ e ih=>
  by_cases hb:S b
  ·exact ⟨b,c,.inr e,hb,hv⟩
  exact ih hb
open Classical in
theorem CV (hn:n≤1000000) (hps:ps.length≤1000000):Ev (p82 ((n:Int),ps)) (fun G=>∃ col:Nat→Int,G.length≤n∧(∀ a b,jg n ps a b→col a=col b)∧∀ L,L∈G→L.length≤n∧∃ g,∀ x:Int,x∈L↔∃ v:Nat,x=(v:Int)∧v < n∧col v=g):=by
 unfold p82
 dsimp only
 refine ae.2 (Ev.mkS (by omega) (by omega) ?_)
  -- each has a colour of its own
 refine ae.2 (Ev.imp (P:=fun c:List Int=>c.length=n∧∀ v,v < n→c[v]? = some (v:Int)) (Ev.cnt n (fun k s=>∃ c:List Int,s=((k:Int),c)∧c.length=n∧∀ v,v < k→c[v]? = some (v:Int)) ⟨_,rfl,by simp,fun v hv=>by omega⟩ ?_ ?_) ?_)
 ·rintro k s hk ⟨c,rfl,h1,h2⟩
  dsimp only
  rw [if_pos (by omega)]
  refine ae.2 (Ev.idx k rfl (by omega) (aa.2 (aC.2 ⟨_,by rw [aN (by omega)],by simpa using h1,fun v hv=>?_⟩)))
  rw [Int.toNat_natCast]
  by_cases e:v=k
  ·subst e; rw [List.getElem?_set_self (by omega)]
  rw [List.getElem?_set_ne (by omega)]; exact h2 v (by omega)
 ·rintro s ⟨c,rfl,h⟩
  dsimp only
  rw [if_neg (by omega)]
  exact aa.2 (aA.2 h)
 rintro c0 ⟨q2,h0⟩
 have ok0:kX n ps c0:=⟨q2,fun v hv=>⟨v,h0 v hv,hv,.refl _⟩⟩
  -- the rounds
 refine ae.2 (Ev.imp (P:=fun c:List Int=>kX n ps c∧∀ v,v < n→cW n ps c v) (Ev.cnt n (fun k s=>∃ c:List Int,s=((k:Int),c)∧kX n ps c∧(∀ m,m < n→(∀ w,w < n→Joi n ps m w→m≤w)→cW n ps c m)∧((∀ v,v < n→cW n ps c v)∨k+1≤(List.range n).countP fun v=>decide (cW n ps c v))) ⟨c0,rfl,ok0,fun m hm h=>⟨hm,fun c w h1 h2 h3=>?_⟩,?_⟩ ?_ ?_) ?_)
 ·rw [h0 m hm] at h1
  cases h1
  have:=h w h3 h2
  omega
 ·by_cases hn0:n=0
  ·exact .inl fun v hv=>by omega
  right
  have h:cW n ps c0 0:=⟨by omega,fun c w h1 h2 h3=>by rw [h0 0 (by omega)] at h1; cases h1; omega⟩
  have:0 < (List.range n).countP fun v=>decide (cW n ps c0 v):=List.countP_pos_iff.2 ⟨0,List.mem_range.2 (by omega),by simpa using h⟩
  omega
 ·rintro k s hk ⟨col,rfl,ok,h2,h3⟩
  dsimp only
  rw [if_pos (by omega)]
    -- a round
  refine ae.2 (Ev.imp (P:=fun c:List Int=>kX n ps c∧(∀ v,cW n ps col v→cW n ps c v)∧∀ (i:Nat) p (a b:Nat),i < ps.length→ps[i]? = some p→p.e0=(a:Int)→p.e1=(b:Int)→a < n→b < n→(cW n ps col a→cW n ps c b)∧(cW n ps col b→cW n ps c a)) (Ev.cnt ps.length (fun k s=>∃ c:List Int,s=((k:Int),c)∧kX n ps c∧(∀ v,cW n ps col v→cW n ps c v)∧∀ (i:Nat) p (a b:Nat),i < k→ps[i]? = some p→p.e0=(a:Int)→p.e1=(b:Int)→a < n→b < n→(cW n ps col a→cW n ps c b)∧(cW n ps col b→cW n ps c a)) ⟨col,rfl,ok,fun v h=>h,fun i p a b h=>by omega⟩ ?_ ?_) ?_)
  ·clear h2 h3
   rintro k s hk ⟨c,rfl,h1,h2,h3⟩
   dsimp only
   rw [if_pos (by omega)]
   have hp:ps[k]? = some ps[k]:=List.getElem?_eq_getElem hk
   refine ae.2 (Ev.idx k rfl hk (ae.2 (Ev.idx k rfl hk ?_)))
   generalize hP:ps[k]=P at hp
   refine ae.2 (Ev.imp (P:=fun x=>x=Sum.inl ((k:Int),P.e0,P.e1,decide (¬ (0≤P.e0∧P.e0 < n∧0≤P.e1∧P.e1 < n)),c)) ?_ ?_)
   ·refine Ev.ite (fun c1=>aa.2 (by rw [decide_eq_true (by omega)])) (fun c1=>Ev.ite (fun c2=>aa.2 (by rw [decide_eq_true (by omega)])) (fun c2=>Ev.ite (fun c3=>aa.2 (by rw [decide_eq_true (by omega)])) (fun c3=>aa.2 ?_)))
    by_cases c4:(n:Int)≤P.e1
    ·rw [decide_eq_true c4,decide_eq_true (by omega)]
    rw [decide_eq_false c4,decide_eq_false (by omega)]
   rintro x rfl
   dsimp only
   by_cases hv:0≤P.e0∧P.e0 < n∧0≤P.e1∧P.e1 < n
   ·rw [if_neg (by simp only [decide_eq_true_eq]; omega)]
    obtain ⟨v1,v2,v3,v4⟩:=hv
    obtain ⟨a,ha⟩:∃ a:Nat,P.e0=(a:Int):=⟨P.e0.toNat,by omega⟩
    obtain ⟨b,hb⟩:∃ b:Nat,P.e1=(b:Int):=⟨P.e1.toNat,by omega⟩
    have pin:jg n ps a b:=⟨by omega,by omega,P,List.mem_of_getElem? hp,ha,hb⟩
    rw [ha,hb]
    obtain ⟨x,x1,x2,x3⟩:=h1.2 a (by omega)
    obtain ⟨y,y1,y2,y3⟩:=h1.2 b (by omega)
    rw [dQ x1,dQ y1]
    refine ae.2 (aa.2 (ae.2 (aa.2 ?_)))
    have more:∀ c',(∀ v,cW n ps c v→cW n ps c' v)→(cW n ps c a→cW n ps c' b)→(cW n ps c b→cW n ps c' a)→∀ (i:Nat) p (a b:Nat),i < k+1→ps[i]? = some p→p.e0=(a:Int)→p.e1=(b:Int)→a < n→b < n→(cW n ps col a→cW n ps c' b)∧(cW n ps col b→cW n ps c' a):=by
     intro c' m1 m2 m3 i p a' b' hi q1 q2 q3 q4 q5
     by_cases hik:i=k
     ·subst hik
      rw [hp] at q1; cases q1
      obtain rfl:a=a':=by omega
      obtain rfl:b=b':=by omega
      exact ⟨fun h=>m2 (h2 _ h),fun h=>m3 (h2 _ h)⟩
     obtain ⟨r1,r2⟩:=h3 i p a' b' (by omega) q1 q2 q3 q4 q5
     exact ⟨fun h=>m1 _ (r1 h),fun h=>m1 _ (r2 h)⟩
    have eqL:∀ {a b:Nat} {c':List Int},kX n ps c'→Joi n ps a b→b < n→c'[a]? = c'[b]?→cW n ps c' a→cW n ps c' b:=fun ok' j hb e h=>⟨hb,fun d w z1 z2 z3=>h.2 d w (e.trans z1) (j.trans z2) z3⟩
    have jab:Joi n ps a b:=.up (.refl _) pin
    refine Ev.ite (fun hlt=>?_) (fun hlt=>?_)
    ·obtain ⟨s1,s2,s3⟩:=step_ok h1 x1 y1 (by omega) (by omega) jab.symm (by omega)
     refine ae.2 (aa.2 (ae.2 (aa.2 (aa.2 (aC.2 ⟨_,by rw [aN (by omega),Int.toNat_natCast],s1,fun v h=>s2 v (h2 v h),more _ s2 s3 fun h=>?_⟩)))))
     refine eqL s1 jab.symm (by omega) ?_ (s2 _ h)
     have hne:a≠b:=fun e=>by subst e; rw [x1] at y1; cases y1; omega
     rw [List.getElem?_set_self (by have:=h1.1; omega),List.getElem?_set_ne (by omega),x1]
    obtain ⟨s1,s2,s3⟩:=step_ok h1 y1 x1 (by omega) (by omega) jab (by omega)
    refine ae.2 (aa.2 (ae.2 (aa.2 (aa.2 (aC.2 ⟨_,by rw [aN (by omega),Int.toNat_natCast],s1,fun v h=>s2 v (h2 v h),more _ s2 (fun h=>?_) s3⟩)))))
    refine eqL s1 jab (by omega) ?_ (s2 _ h)
    rw [List.getElem?_set_self (by have:=h1.1; omega)]
    by_cases e:a=b
    ·subst e; rw [List.getElem?_set_self (by have:=h1.1; omega)]
    rw [List.getElem?_set_ne (by omega),y1]
   rw [if_pos (decide_eq_true hv)]
   refine aa.2 (aC.2 ⟨c,by rw [aN (by omega)],h1,h2,fun i p a b hi q1 q2 q3 q4 q5=>?_⟩)
   by_cases hik:i=k
   ·subst hik
    rw [hp] at q1; cases q1
    omega
   exact h3 i p a b (by omega) q1 q2 q3 q4 q5
  ·rintro s ⟨c,rfl,h⟩
   dsimp only
   rw [if_neg (by omega)]
   exact aa.2 (aA.2 h)
  rintro c' ⟨k2,k3,k4'⟩
  have k4:∀ a b,jg n ps a b→(cW n ps col a→cW n ps c' b)∧(cW n ps col b→cW n ps c' a):=fun a b ⟨j1,j2,p,j3,j4,j5⟩=>by
   obtain ⟨i,hi⟩:=List.getElem?_of_mem j3
   exact k4' i p a b (List.getElem?_eq_some_iff.1 hi).1 hi j4 j5 j1 j2
  refine aa.2 (aC.2 ⟨c',by rw [aN (by omega)],k2,fun m hm h=>k3 _ (h2 m hm h),?_⟩)
  by_cases hall:∀ v,v < n→cW n ps col v
  ·exact .inl fun v hv=>k3 v (hall v hv)
  rcases h3 with h3 | h3
  ·exact absurd h3 hall
  right
  obtain ⟨v,hv⟩:=Classical.not_forall.1 hall
  rw [Classical.not_imp] at hv
  obtain ⟨m,m1,m2,m3⟩:=uZ (ps:=ps) v hv.1
  have hm:=h2 m m1 fun w w1 w2=>m3 w w1 (m2.trans w2)
  obtain ⟨a,b,e,sa,sb⟩:=vT (S:=cW n ps col) m2.symm hm hv.2
  have hb:cW n ps c' b:=by
   rcases e with e | e
   ·exact (k4 a b e).1 sa
   exact (k4 b a e).2 sa
  have:=DB (P:=cW n ps col) (Q:=cW n ps c') n k3 b hb.1 sb hb
  omega
 ·rintro s ⟨c,rfl,h1,h2,h3⟩
  dsimp only
  rw [if_neg (by omega)]
  refine aa.2 (aA.2 ⟨h1,?_⟩)
  rcases h3 with h3 | h3
  ·exact h3
  have:=List.countP_le_length (p:=fun v=>decide (cW n ps c v)) (l:=List.range n)
  rw [List.length_range] at this
  omega
 rintro col ⟨r2,r3⟩
 have hcol:∀ v,v < n→col[v]? = some (col.getD v 0):=fun v hv=>by
  rw [List.getD_eq_getElem?_getD,List.getElem?_eq_getElem (by have:=r2.1; omega)]; rfl
  -- lists of one colour
 refine ae.2 (Ev.imp (P:=fun G:List (List Int)=>G.length≤n∧∀ L,L∈G→L.length≤n∧∃ g,∀ x:Int,x∈L↔∃ v:Nat,x=(v:Int)∧v < n∧col.getD v 0=g) (Ev.cnt n (fun k s=>∃ G:List (List Int),s=((k:Int),col,G)∧G.length≤k∧∀ L,L∈G→L.length≤n∧∃ g,∀ x:Int,x∈L↔∃ v:Nat,x=(v:Int)∧v < n∧col.getD v 0=g) ⟨[],rfl,Nat.le_refl _,fun L h=>by cases h⟩ ?_ ?_) ?_)
 ·rintro k s hk ⟨G,rfl,h1,h2⟩
  dsimp only
  rw [if_pos (by omega)]
  refine ae.2 (Ev.imp (P:=fun s:List Int×List Int=>s.1=col∧s.2.length≤n∧∀ x:Int,x∈s.2↔∃ v:Nat,x=(v:Int)∧v < n∧col.getD v 0=(k:Int)) (Ev.cnt n (fun i s=>∃ L:List Int,s=((i:Int),col,L)∧L.length≤i∧∀ x:Int,x∈L↔∃ v:Nat,x=(v:Int)∧v < i∧col.getD v 0=(k:Int)) ⟨[],rfl,Nat.le_refl _,fun x=>⟨(fun h=>by cases h),fun ⟨v,h1,h2,h3⟩=>by omega⟩⟩ ?_ ?_) ?_)
  ·rintro i s hi ⟨L,rfl,e1,e2⟩
   dsimp only
   rw [if_pos (by omega),dQ (hcol i hi)]
   refine ae.2 (aa.2 (Ev.ite (fun hc=>ae.2 (Ev.app (by simp; omega) (aa.2 (aC.2 ⟨_,by rw [aN (by omega)],by simp; omega,fun x=>?_⟩)))) (fun hc=>aa.2 (aC.2 ⟨_,by rw [aN (by omega)],by omega,fun x=>?_⟩))))
   ·rw [List.mem_append,e2,List.mem_singleton]
    constructor
    ·rintro (⟨v,v1,v2,v3⟩ | rfl)
     ·exact ⟨v,v1,by omega,v3⟩
     exact ⟨i,rfl,by omega,hc⟩
    rintro ⟨v,v1,v2,v3⟩
    by_cases e:v=i
    ·right; rw [v1,e]
    left; exact ⟨v,v1,by omega,v3⟩
   rw [e2]
   constructor
   ·rintro ⟨v,v1,v2,v3⟩; exact ⟨v,v1,by omega,v3⟩
   rintro ⟨v,v1,v2,v3⟩
   refine ⟨v,v1,?_,v3⟩
   have:v≠i:=fun e=>hc (e▸v3)
   omega
  ·rintro s ⟨L,rfl,h⟩
   dsimp only
   rw [if_neg (by omega)]
   exact aa.2 (aA.2 ⟨rfl,h⟩)
  rintro ⟨c,L⟩ ⟨e0,e2,e3⟩
  simp only at e0 e2 e3
  subst e0
  dsimp only
  refine Ev.ite (fun hL=>ae.2 (Ev.app (by simp; omega) (aa.2 (aC.2 ⟨_,by rw [aN (by omega)],by simp; omega,fun M hM=>?_⟩)))) (fun hL=>aa.2 (aC.2 ⟨_,by rw [aN (by omega)],by omega,h2⟩))
  rcases List.mem_append.1 hM with hM | hM
  ·exact h2 M hM
  rw [List.mem_singleton] at hM; subst hM; exact ⟨e2,_,e3⟩
 ·rintro s ⟨G,rfl,h⟩
  dsimp only
  rw [if_neg (by omega)]
  exact aa.2 (aA.2 h)
 rintro G ⟨s2,s3⟩
 refine aa.2 ⟨fun v=>col.getD v 0,s2,fun a b hab=>?_,s3⟩
 have:=yd r2 (r3 a hab.1) (r3 b hab.2.1) (.up (.refl _) hab)
 rw [hcol a hab.1,hcol b hab.2.1] at this
 exact Option.some.inj this
end
end Go.Proofs.Ytmchbhheoieepaa
namespace Go.Proofs.Ytmchbhheoieepaa
open Go Go.Am
def fQ (l:List TArc) (q:Int):Bool:=l.any (fun a=>decide (a.Place=q))
def eJ (t:TTrans) (q:Int):Bool:=fQ t.In q||fQ t.Not q
def oZ (t:TTrans) (q:Int):Bool:=fQ t.Out q
abbrev tup (t:TTrans):List UInt8×Int×Int×List TArc×List TArc×List TArc:=(t.Name,t.Delay,t.Prio,t.In,t.Not,t.Out)
theorem BG {t:TTrans} {q:Int} (h1:t.In.length≤1000000) (h2:t.Not.length≤1000000):Ev (p80 (t.Name,t.Delay,t.Prio,t.In,t.Not,t.Out,q)) (fun r=>r=eJ t q):=by
 unfold p80 eJ
 refine ae.2 (Ev.imp (P:=fun x=>x=(if fQ t.In q=true then Sum.inr () else Sum.inl (tup t))) (Ev.cnt t.In.length (fun k s=>s=((k:Int),tup t)∧(t.In.take k).any (fun a=>decide (a.Place=q))=false) ⟨rfl,rfl⟩ ?_ ?_) ?_)
 ·rintro k s hk ⟨rfl,hI⟩
  dsimp only
  rw [if_pos (by omega)]
  refine ae.2 (Ev.idx k rfl hk (Ev.ite (fun c=>aa.2 (aA.2 ?_)) (fun c=>aa.2 (aC.2 ⟨by rw [aN (by omega)],?_⟩))))
  ·rw [if_pos (show fQ t.In q=true from List.any_eq_true.2 ⟨t.In[k],List.getElem_mem hk,by simpa using c⟩)]
  rw [ir hI hk]; simpa using c
 ·rintro s ⟨rfl,hI⟩
  dsimp only
  rw [if_neg (by omega)]
  rw [List.take_length] at hI
  exact aa.2 (aA.2 (by rw [if_neg (by unfold fQ; rw [hI]; decide)]))
 rintro x rfl
 by_cases hi:fQ t.In q=true
 ·rw [if_pos hi,hi]; exact aa.2 rfl
 rw [if_neg hi]
 have hi':fQ t.In q=false:=by simpa using hi
 rw [hi']
 dsimp only
 refine ae.2 (Ev.imp (P:=fun x=>x=(if fQ t.Not q=true then Sum.inr () else Sum.inl ())) (Ev.cnt t.Not.length (fun k s=>s=((k:Int),tup t)∧(t.Not.take k).any (fun a=>decide (a.Place=q))=false) ⟨rfl,rfl⟩ ?_ ?_) ?_)
 ·rintro k s hk ⟨rfl,hI⟩
  dsimp only
  rw [if_pos (by omega)]
  refine ae.2 (Ev.idx k rfl hk (Ev.ite (fun c=>aa.2 (aA.2 ?_)) (fun c=>aa.2 (aC.2 ⟨by rw [aN (by omega)],?_⟩))))
  ·rw [if_pos (show fQ t.Not q=true from List.any_eq_true.2 ⟨t.Not[k],List.getElem_mem hk,by simpa using c⟩)]
  rw [ir hI hk]; simpa using c
 ·rintro s ⟨rfl,hI⟩
  dsimp only
  rw [if_neg (by omega)]
  rw [List.take_length] at hI
  exact aa.2 (aA.2 (by rw [if_neg (by unfold fQ; rw [hI]; decide)]))
 rintro x rfl
 by_cases hn:fQ t.Not q=true
 ·rw [if_pos hn,hn]; exact aa.2 rfl
 rw [if_neg hn]
 have hn':fQ t.Not q=false:=by simpa using hn
 rw [hn']
 exact aa.2 rfl
theorem DA {t:TTrans} {q:Int} (h1:t.Out.length≤1000000):Ev (p81 (t.Name,t.Delay,t.Prio,t.In,t.Not,t.Out,q)) (fun r=>r=oZ t q):=by
 unfold p81 oZ
 refine ae.2 (Ev.imp (P:=fun x=>x=(if fQ t.Out q=true then Sum.inr () else Sum.inl ())) (Ev.cnt t.Out.length (fun k s=>s=((k:Int),tup t)∧(t.Out.take k).any (fun a=>decide (a.Place=q))=false) ⟨rfl,rfl⟩ ?_ ?_) ?_)
 ·rintro k s hk ⟨rfl,hI⟩
  dsimp only
  rw [if_pos (by omega)]
  refine ae.2 (Ev.idx k rfl hk (Ev.ite (fun c=>aa.2 (aA.2 ?_)) (fun c=>aa.2 (aC.2 ⟨by rw [aN (by omega)],?_⟩))))
  ·rw [if_pos (show fQ t.Out q=true from List.any_eq_true.2 ⟨t.Out[k],List.getElem_mem hk,by simpa using c⟩)]
  rw [ir hI hk]; simpa using c
 ·rintro s ⟨rfl,hI⟩
  dsimp only
  rw [if_neg (by omega)]
  rw [List.take_length] at hI
  exact aa.2 (aA.2 (by rw [if_neg (by unfold fQ; rw [hI]; decide)]))
 rintro x rfl
 by_cases hi:fQ t.Out q=true
 ·rw [if_pos hi,hi]; exact aa.2 rfl
 rw [if_neg hi]
 have hi':fQ t.Out q=false:=by simpa using hi
 rw [hi']
 exact aa.2 rfl
def pZ (t:TTrans) (q:Int):Bool:=eJ t q||(decide (t.Delay=0)&&oZ t q)
structure Few (n:List TPlace×List TTrans):Prop where
 np:n.1.length≤1000
 nt:n.2.length≤1000
 tr:∀ t,t∈n.2→t.In.length≤1000∧t.Not.length≤1000∧t.Out.length≤1000∧(∀ a,a∈t.In→0≤a.Place∧a.Place < (n.1.length:Int))∧(∀ a,a∈t.Not→0≤a.Place∧a.Place < (n.1.length:Int))∧(∀ a,a∈t.Out→0≤a.Place∧a.Place < (n.1.length:Int))
theorem NetOk.few {n:List TPlace×List TTrans} (h:NetOk n):Few n:=by
 refine ⟨by have:=h.np; omega,by have:=h.nt; omega,fun t ht=>?_⟩
 obtain ⟨i,hi⟩:=List.getElem?_of_mem ht
 have:=h.tr i t hi
 exact ⟨by have:=this.ins.1; omega,by have:=this.nots.1; omega,by have:=this.outs.1; omega,fun a ha=>⟨(this.ins.2.1 a ha).1,(this.ins.2.1 a ha).2.1⟩,fun a ha=>⟨(this.nots.2.1 a ha).1,(this.nots.2.1 a ha).2.1⟩,fun a ha=>⟨(this.outs.2.1 a ha).1,(this.outs.2.1 a ha).2.1⟩⟩
theorem BO {n:List TPlace×List TTrans} (hn:Few n):Ev (p68 n) (fun G=>∃ col:Nat→Int,G.length≤n.1.length+n.2.length∧
  (∀ (t p:Nat) x,n.2[t]? = some x→p < n.1.length→pZ x (p:Int)=true→col p=col (n.1.length+t))∧
  ∀ L,L∈G→L.length≤n.1.length+n.2.length∧∃ g,∀ x:Int,x∈L↔∃ v:Nat,x=(v:Int)∧v < n.1.length+n.2.length∧col v=g):=by
 obtain ⟨pl,tr⟩:=n
 have hp:=hn.np; have ht:=hn.nt
 simp only at hp ht ⊢
 unfold p68
 dsimp only
 refine ae.2 (Ev.imp (P:=fun s=>∃ ps:List TArr2_Int,s=(pl,tr,ps)∧ps.length≤tr.length * pl.length∧∀ (t p:Nat) x,t < tr.length→tr[t]? = some x→p < pl.length→pZ x (p:Int)=true→(TArr2_Int.mk (p:Int) ((pl.length+t:Nat):Int))∈ps) (Ev.cnt tr.length (fun k s=>∃ ps:List TArr2_Int,s=((k:Int),pl,tr,ps)∧ps.length≤k * pl.length∧∀ (t p:Nat) x,t < k→tr[t]? = some x→p < pl.length→pZ x (p:Int)=true→(TArr2_Int.mk (p:Int) ((pl.length+t:Nat):Int))∈ps) ⟨[],rfl,Nat.zero_le _,fun t p x h=>by omega⟩ ?_ ?_) ?_)
 ·rintro t s htl ⟨ps,rfl,h1,h2⟩
  dsimp only
  rw [if_pos (by omega)]
  have hget:tr[t]? = some tr[t]:=List.getElem?_eq_getElem htl
  have hok:=hn.tr _ (List.getElem_mem htl)
  simp only at hok
  generalize hT:tr[t]=T at hget hok
  have hmul:t * pl.length≤1000 * 1000:=Nat.mul_le_mul (by omega) hp
  refine ae.2 (Ev.imp (P:=fun s=>∃ q:List TArr2_Int,s=(pl,tr,q)∧q.length≤ps.length+pl.length∧(∀ y,y∈ps→y∈q)∧∀ p:Nat,p < pl.length→pZ T (p:Int)=true→(TArr2_Int.mk (p:Int) ((pl.length+t:Nat):Int))∈q) (Ev.cnt pl.length (fun p s=>∃ q:List TArr2_Int,s=((p:Int),pl,tr,q)∧q.length≤ps.length+p∧(∀ y,y∈ps→y∈q)∧∀ p':Nat,p' < p→pZ T (p':Int)=true→(TArr2_Int.mk (p':Int) ((pl.length+t:Nat):Int))∈q) ⟨ps,rfl,Nat.le_refl _,fun y h=>h,fun p h=>by omega⟩ ?_ ?_) ?_)
  ·rintro p s hpl ⟨q,rfl,k1,k2,k3⟩
   dsimp only
   rw [if_pos (by omega),dQ hget]
   refine ae.2 (Ev.imp (P:=fun x=>x=Sum.inl ((p:Int),pZ T (p:Int),pl,tr,q)) ?_ ?_)
   ·refine ae.2 (aa.2 (ae.2 ((BG (t:=T) (q:=(p:Int)) (by omega) (by omega)).imp ?_)))
    rintro r rfl
    refine Ev.ite (fun c=>aa.2 (by unfold pZ; rw [c]; rfl)) (fun c=>ae.2 (aa.2 (Ev.ite (fun c2=>ae.2 (aa.2 (ae.2 ((DA (t:=T) (q:=(p:Int)) (by omega)).imp ?_)))) (fun c2=>aa.2 ?_))))
    ·rintro r rfl
     refine aa.2 ?_
     unfold pZ
     rw [show eJ T (p:Int)=false by simpa using c,decide_eq_true c2]
     simp
    unfold pZ
    rw [show eJ T (p:Int)=false by simpa using c,decide_eq_false c2]
    simp
   rintro x rfl
   dsimp only
   refine Ev.ite (fun c=>ae.2 (Ev.app (by simp; omega) (aa.2 (aC.2 ⟨_,by rw [aN (by omega)],by simp; omega,fun y hy=>List.mem_append_left _ (k2 y hy),fun p' hp' htie=>?_⟩)))) (fun c=>aa.2 (aC.2 ⟨_,by rw [aN (by omega)],by omega,k2,fun p' hp' htie=>?_⟩))
   ·by_cases e:p'=p
    ·subst e
     refine List.mem_append_right _ (List.mem_singleton.2 ?_)
     rw [aH (by omega) (by omega)]
     simp
    exact List.mem_append_left _ (k3 p' (by omega) htie)
   by_cases e:p'=p
   ·subst e; exact absurd htie c
   exact k3 p' (by omega) htie
  ·rintro s ⟨q,rfl,h⟩
   dsimp only
   rw [if_neg (by omega)]
   exact aa.2 (aA.2 ⟨_,rfl,h⟩)
  rintro s ⟨q,rfl,e2,e3,e4⟩
  refine aa.2 (aC.2 ⟨q,by rw [aN (by omega)],by rw [Nat.succ_mul]; omega,fun t' p x q1 q2 q3 q4=>?_⟩)
  by_cases e:t'=t
  ·subst e
   rw [hget] at q2; cases q2
   exact e4 p q3 q4
  exact e3 _ (h2 t' p x (by omega) q2 q3 q4)
 ·rintro s ⟨ps,rfl,h⟩
  dsimp only
  rw [if_neg (by omega)]
  exact aa.2 (aA.2 ⟨_,rfl,h⟩)
 rintro s ⟨ps,rfl,h2,h3⟩
 dsimp only
 have e:IntKind.i64.wrap ((pl.length:Int)+(tr.length:Int))=((pl.length+tr.length:Nat):Int):=by rw [aH (by omega) (by omega)]; omega
 rw [e]
 have hm:tr.length * pl.length≤1000 * 1000:=Nat.mul_le_mul ht hp
 refine ae.2 ((CV (n:=pl.length+tr.length) (ps:=ps) (by omega) (by omega)).imp ?_)
 rintro G ⟨col,k2,k3,k4⟩
 refine aa.2 ⟨col,k2,fun t p x q1 q2 q3=>?_,k4⟩
 have htl:=(List.getElem?_eq_some_iff.1 q1).1
 exact k3 _ _ ⟨by omega,by omega,_,h3 t p x htl q1 q2 q3,rfl,rfl⟩
structure PartOk (n:List TPlace×List TTrans) (p:Int×List Int×List Int):Prop where
 N1:1≤p.1
 N2:p.1≤32
 lp:p.2.1.length=n.1.length
 lt:p.2.2.length=n.2.length
 vp:∀ v,v∈p.2.1→0≤v∧v < p.1
 vt:∀ v,v∈p.2.2→0≤v∧v < p.1
 tie:∀ (t q:Nat) x,n.2[t]? = some x→q < n.1.length→pZ x (q:Int)=true→p.2.1[q]? = p.2.2[t]?
theorem Cl {n:List TPlace×List TTrans} (hn:Few n) {cnt:Int} (hc:B8 cnt) {by':List Int} (hb:∀ v,v∈by'→B8 v):Ev (p45 (n.1,n.2,cnt,by')) (fun r=>1≤r.1∧r.1≤5∧PartOk n r):=by
 have hp:=hn.np; have ht:=hn.nt
 unfold B8 at hc
 unfold p45
 dsimp only
 refine ae.2 (Ev.remI hc.1 (by omega) ?_)
 have hcc:∃ c:Int,IntKind.i64.wrap (1+IntKind.i64.wrap (cnt % 5))=c∧1≤c∧c≤5:=by
  refine ⟨_,rfl,?_⟩
  rw [aH (n:=cnt % 5) (by omega) (by omega),aH (by omega) (by omega)]; omega
 obtain ⟨c,ec,c1,c5⟩:=hcc
 rw [ec]
 refine ae.2 (Ev.mkS (by omega) (by omega) (ae.2 (Ev.mkS (by omega) (by omega) (ae.2 ((BO hn).imp ?_)))))
 rintro G ⟨col,g2,g3,g4⟩
 let Ok:=fun (K:Int→Int) (pl tr:List Int)=>pl.length=n.1.length∧tr.length=n.2.length∧(∀ v,v < n.1.length→pl[v]? = some (K (col v)))∧(∀ v,v < n.2.length→tr[v]? = some (K (col (n.1.length+v))))
 refine ae.2 (Ev.imp (P:=fun q:List Int×List Int=>∃ K,Ok K q.1 q.2∧∀ g,0≤K g∧K g < c) (Ev.cnt G.length (fun k s=>∃ pl tr K,s=((k:Int),pl,tr,G)∧Ok K pl tr∧∀ g,0≤K g∧K g < c) ⟨_,_,fun _=>0,rfl,⟨by simp,by simp,fun v hv=>by simp [hv],fun v hv=>by simp [hv]⟩,fun g=>by dsimp only; omega⟩ ?_ ?_) ?_)
 ·rintro k s hk ⟨pl,tr,K,rfl,hK,hR⟩
  dsimp only
  rw [if_pos (by omega)]
  have hL:G[k]? = some G[k]:=List.getElem?_eq_getElem hk
  obtain ⟨hLl,g,hg⟩:=g4 _ (List.getElem_mem hk)
  generalize hLL:G[k]=L at hL hLl hg
  refine ae.2 (Ev.remI (by omega) (by omega) (ae.2 (Ev.imp (P:=fun x=>∃ v:Int,x=Sum.inl ((k:Int),v,pl,tr,G)∧0≤v∧v < c) ?_ ?_)))
  ·have hm:=Int.emod_nonneg (k:Int) (show c≠0 by omega)
   have hm2:=Int.emod_lt_of_pos (k:Int) (show 0 < c by omega)
   refine Ev.ite (fun hkb=>?_) (fun hkb=>aa.2 ⟨_,rfl,hm,hm2⟩)
   refine ae.2 (Ev.idx k rfl (by omega) (ae.2 ?_))
   have hv:=hb by'[k] (List.getElem_mem (by omega))
   unfold B8 at hv
   rw [aH (by omega) (by omega)]
   exact Ev.remI hv.1 (by omega) (aa.2 ⟨_,rfl,Int.emod_nonneg _ (by omega),Int.emod_lt_of_pos _ (by omega)⟩)
  rintro x ⟨v,rfl,v1,v2⟩
  dsimp only
  refine ae.2 (Ev.imp (P:=fun s:List Int×List Int×List (List Int)=>∃ a b,s=(a,b,G)∧a.length=n.1.length∧b.length=n.2.length∧(∀ x:Nat,x < n.1.length→a[x]? = some (if (x:Int)∈L.take L.length then v else K (col x)))∧∀ x:Nat,x < n.2.length→b[x]? = some (if ((n.1.length+x:Nat):Int)∈L.take L.length then v else K (col (n.1.length+x)))) (Ev.cnt L.length (fun i s=>∃ a b,s=((i:Int),a,b,G)∧a.length=n.1.length∧b.length=n.2.length∧(∀ x:Nat,x < n.1.length→a[x]? = some (if (x:Int)∈L.take i then v else K (col x)))∧∀ x:Nat,x < n.2.length→b[x]? = some (if ((n.1.length+x:Nat):Int)∈L.take i then v else K (col (n.1.length+x)))) ⟨pl,tr,rfl,hK.1,hK.2.1,fun x hx=>by rw [hK.2.2.1 x hx]; simp,fun x hx=>by rw [hK.2.2.2 x hx]; simp⟩ ?_ ?_) ?_)
  ·rintro i s hi ⟨a,b,rfl,i2,i3,i4,i5⟩
   dsimp only
   rw [dQ hL]
   refine ae.2 (aa.2 ?_)
   rw [if_pos (by omega)]
   refine ae.2 (aa.2 (ae.2 (Ev.idx i rfl hi ?_)))
   obtain ⟨w,w1,w2,w3⟩:=(hg _).1 (List.getElem_mem hi)
   have htk:∀ y:Int,y∈L.take (i+1)↔y∈L.take i∨y=(w:Int):=fun y=>by
    rw [List.take_succ_eq_append_getElem hi,List.mem_append,List.mem_singleton,w1]
   rw [w1]
   refine Ev.ite (fun hw=>?_) (fun hw=>?_)
   ·refine ae.2 (Ev.idx w rfl (by omega) (aa.2 (aC.2 ⟨_,_,by rw [aN (by omega),Int.toNat_natCast],by simpa using i2,i3,fun x hx=>?_,fun x hx=>?_⟩)))
    ·by_cases e:x=w
     ·subst e; rw [List.getElem?_set_self (by omega),if_pos ((htk _).2 (.inr rfl))]
     rw [List.getElem?_set_ne (by omega),i4 x hx]
     congr 1
     by_cases e2:(x:Int)∈L.take i
     ·rw [if_pos e2,if_pos ((htk _).2 (.inl e2))]
     rw [if_neg e2,if_neg (fun h=>by rcases (htk _).1 h with h | h; exact e2 h; omega)]
    rw [i5 x hx]
    congr 1
    by_cases e2:((n.1.length+x:Nat):Int)∈L.take i
    ·rw [if_pos e2,if_pos ((htk _).2 (.inl e2))]
    rw [if_neg e2,if_neg (fun h=>by rcases (htk _).1 h with h | h; exact e2 h; omega)]
   have es:IntKind.i64.wrap ((w:Int) - (a.length:Int))=((w - n.1.length:Nat):Int):=by rw [aH (by omega) (by omega)]; omega
   rw [es]
   refine ae.2 (Ev.idx (w - n.1.length) rfl (by omega) (aa.2 (aC.2 ⟨_,_,by rw [aN (by omega),Int.toNat_natCast],i2,by simpa using i3,fun x hx=>?_,fun x hx=>?_⟩)))
   ·rw [i4 x hx]
    congr 1
    by_cases e2:(x:Int)∈L.take i
    ·rw [if_pos e2,if_pos ((htk _).2 (.inl e2))]
    rw [if_neg e2,if_neg (fun h=>by rcases (htk _).1 h with h | h; exact e2 h; omega)]
   by_cases e:x=w - n.1.length
   ·subst e; rw [List.getElem?_set_self (by omega),if_pos ((htk _).2 (.inr (by omega)))]
   rw [List.getElem?_set_ne (by omega),i5 x hx]
   congr 1
   by_cases e2:((n.1.length+x:Nat):Int)∈L.take i
   ·rw [if_pos e2,if_pos ((htk _).2 (.inl e2))]
   rw [if_neg e2,if_neg (fun h=>by rcases (htk _).1 h with h | h; exact e2 h; omega)]
  ·rintro s ⟨a,b,rfl,h⟩
   dsimp only
   rw [dQ hL]
   refine ae.2 (aa.2 ?_)
   rw [if_neg (by omega)]
   exact aa.2 (aA.2 ⟨a,b,rfl,h⟩)
  rintro s ⟨a,b,rfl,i2,i3,i4,i5⟩
  simp only [List.take_length] at i4 i5
  refine aa.2 (aC.2 ⟨a,b,fun g'=>if g'=g then v else K g',by rw [aN (by omega)],⟨i2,i3,fun x hx=>?_,fun x hx=>?_⟩,fun g'=>?_⟩)
  ·rw [i4 x hx]; dsimp only
   by_cases e:col x=g
   ·rw [if_pos ((hg _).2 ⟨x,rfl,by omega,e⟩),if_pos e]
   rw [if_neg (fun h=>?_),if_neg e]
   obtain ⟨w,w1,w2,w3⟩:=(hg _).1 h
   obtain rfl:x=w:=by omega
   exact e w3
  ·rw [i5 x hx]; dsimp only
   by_cases e:col (n.1.length+x)=g
   ·rw [if_pos ((hg _).2 ⟨n.1.length+x,rfl,by omega,e⟩),if_pos e]
   rw [if_neg (fun h=>?_),if_neg e]
   obtain ⟨w,w1,w2,w3⟩:=(hg _).1 h
   obtain rfl:n.1.length+x=w:=by omega
   exact e w3
  dsimp only
  split
  ·exact ⟨v1,v2⟩
  exact hR g'
 ·rintro s ⟨pl,tr,K,rfl,h⟩
  dsimp only
  rw [if_neg (by omega)]
  exact aa.2 (aA.2 ⟨K,h⟩)
 rintro ⟨pl,tr⟩ ⟨K,⟨q2,q3,q4,q5⟩,q6⟩
 simp only at q2 q3 q4 q5
 refine aa.2 ⟨c1,c5,c1,by show c≤32; omega,q2,q3,fun v hv=>?_,fun v hv=>?_,fun t q x x1 x2 x3=>?_⟩
 ·obtain ⟨i,hi⟩:=List.getElem?_of_mem hv
  have:=(List.getElem?_eq_some_iff.1 hi).1
  rw [q4 i (by simp only at this; omega)] at hi
  cases hi; exact q6 _
 ·obtain ⟨i,hi⟩:=List.getElem?_of_mem hv
  have:=(List.getElem?_eq_some_iff.1 hi).1
  rw [q5 i (by simp only at this; omega)] at hi
  cases hi; exact q6 _
 have htl:=(List.getElem?_eq_some_iff.1 x1).1
 simp only
 rw [q4 q x2,q5 t htl,g3 t q x x1 x2 x3]
theorem Da {n:List TPlace×List TTrans} (hn:Few n) {cnt:Int} (hc:B8 cnt) {by':List Int} (hb:∀ v,v∈by'→B8 v):Ev (p21 (n.1,n.2,cnt,by')) (fun r=>1≤r.1∧r.1≤5∧PartOk n r):=by
 unfold p21
 exact ae.2 ((Cl hn hc hb).imp fun r h=>aa.2 h)
end Go.Proofs.Ytmchbhheoieepaa
namespace Go.Proofs.Ytmchbhheoieepaa
open Go Go.Am
theorem CW {t:TTrans} (h1:t.In.length≤1000000) (h2:t.Not.length≤1000000):Ev (p63 (t.Name,t.Delay,t.Prio,t.In,t.Not,t.Out)) (fun r=>r=(t.In++t.Not).map TArc.Place):=by
 unfold p63
 refine ae.2 (Ev.imp (P:=fun r=>r=(t.In++t.Not).map TArc.Place) (Ev.cnt 2 (fun k s=>s=((k:Int),if k=0 then [] else if k=1 then t.In.map TArc.Place else (t.In++t.Not).map TArc.Place)) rfl ?_ ?_) (fun r h=>aa.2 h))
 ·rintro k s hk rfl
  dsimp only
  rw [if_pos (by omega)]
  have inner:∀ (L:List TArc) (l:List Int),L.length≤1000000→l.length≤1000000→Ev (aq (fun (x3:Int×List Int)=>if x3.fst < (L.length:Int) then (idx L x3.fst).bind fun (x4:TArc)=>(app 8 x3.snd [x4.Place]).bind fun (l5:List Int)=>some (Sum.inl (IntKind.i64.wrap (x3.fst+1),l5)) else some (Sum.inr x3.snd)) (0,l)) (fun r=>r=l++L.map TArc.Place):=by
   intro L l hL hl
   refine Ev.cnt L.length (fun k s=>s=((k:Int),l++(L.take k).map TArc.Place)) (by simp) ?_ ?_
   ·rintro k s hk rfl
    dsimp only
    rw [if_pos (by omega)]
    refine ae.2 (Ev.idx k rfl hk (ae.2 (Ev.app (by simp; omega) (aa.2 (aC.2 ?_)))))
    rw [aN (by omega),List.take_succ_eq_append_getElem hk,List.map_append,List.append_assoc]
    rfl
   rintro s rfl
   dsimp only
   rw [if_neg (by omega)]
   exact aa.2 (aA.2 (by rw [List.take_length]))
  rcases (show k=0∨k=1 by omega) with rfl | rfl
  ·refine ae.2 (Ev.idx 0 rfl (by simp) (ae.2 ((inner _ _ h1 (by simp)).imp ?_)))
   rintro r rfl
   exact aa.2 (aC.2 (by simp; decide))
  refine ae.2 (Ev.idx 1 rfl (by simp) (ae.2 ((inner _ _ h2 (by simp; omega)).imp ?_)))
  rintro r rfl
  exact aa.2 (aC.2 (by simp; decide))
 rintro s rfl
 dsimp only
 rw [if_neg (by omega)]
 exact aa.2 (aA.2 (by simp))
theorem Ae {pl:List TPlace} {tr:List TTrans} {N:Int} {P T:List Int} (h:T.length≠tr.length):p36 (pl,tr,N,P,T)=some 1:=by
 have:Ev (p36 (pl,tr,N,P,T)) (fun r=>r=1):=by
  unfold p36
  refine ae.2 (Ev.imp (P:=fun x=>x=Sum.inl (0,true,pl,tr,N,P,T)) ?_ ?_)
  ·exact Ev.ite (fun _=>aa.2 rfl) (fun _=>Ev.ite (fun _=>aa.2 rfl) (fun c=>absurd (by simpa using c) (show ¬ ((T.length:Int)=(tr.length:Int)) by omega)))
  rintro x rfl
  exact Ev.ite (fun _=>aa.2 rfl) (fun c=>absurd rfl c)
 obtain ⟨r,h1,rfl⟩:=this
 exact h1
theorem rG {n:List TPlace×List TTrans} {p:Int×List Int×List Int} (hn:Few n) (hp:PartOk n p):p36 (n.1,n.2,p.1,p.2.1,p.2.2)=some 0:=by
 obtain ⟨pl,tr⟩:=n
 obtain ⟨N,P,T⟩:=p
 obtain ⟨N1,N2,lp,lt,vp,vt,tie⟩:=hp
 have np:=hn.np; have nt:=hn.nt
 simp only at N1 N2 lp lt vp vt tie np nt ⊢
 suffices this:Ev (p36 (pl,tr,N,P,T)) (fun r=>r=0) by
  obtain ⟨r,h1,rfl⟩:=this
  exact h1
 unfold p36
 refine ae.2 (Ev.imp (P:=fun x=>x=Sum.inl (0,false,pl,tr,N,P,T)) ?_ ?_)
 ·refine Ev.ite (fun c=>(show False by simp at c; omega).elim) (fun _=>Ev.ite (fun c=>(show False by simp at c; omega).elim) (fun _=>Ev.ite (fun c=>absurd N1 (by dsimp only at c; omega)) (fun _=>aa.2 ?_)))
  rw [decide_eq_false (by dsimp only; omega)]
 rintro x rfl
 dsimp only
 rw [if_neg (by decide)]
 refine ae.2 (Ev.imp (P:=fun x=>x=Sum.inl (0,pl,tr,N,P,T)) (Ev.cnt 2 (fun k s=>s=(0,(k:Int),pl,tr,N,P,T)) rfl ?_ ?_) ?_)
 ·rintro k s hk rfl
  dsimp only
  rw [if_pos (by omega)]
  have hl:∃ L,[P,T][k]? = some L∧L.length≤1000∧∀ v,v∈L→0≤v∧v < N:=by
   rcases (show k=0∨k=1 by omega) with rfl | rfl
   ·exact ⟨P,rfl,by omega,vp⟩
   exact ⟨T,rfl,by omega,vt⟩
  obtain ⟨L,hL,hl,hv⟩:=hl
  refine ae.2 (Ev.idx? k rfl hL ?_)
  refine ae.2 (Ev.imp (P:=fun x=>x=Sum.inl (0,pl,tr,N,P,T)) (Ev.cnt L.length (fun i s=>s=(0,(i:Int),pl,tr,N,P,T)) rfl ?_ ?_) ?_)
  ·rintro i s hi rfl
   dsimp only
   rw [if_pos (by omega)]
   refine ae.2 (Ev.idx i rfl hi ?_)
   have:=hv _ (List.getElem_mem hi)
   rw [if_neg (by omega),decide_eq_false (by omega)]
   refine ae.2 (aa.2 ?_)
   dsimp only
   rw [if_neg (by decide),aN (by omega)]
   exact aa.2 (aC.2 rfl)
  ·rintro s rfl
   dsimp only
   rw [if_neg (by omega)]
   exact aa.2 (aA.2 rfl)
  rintro x rfl
  dsimp only
  rw [aN (by omega)]
  exact aa.2 (aC.2 rfl)
 ·rintro s rfl
  dsimp only
  rw [if_neg (by omega)]
  exact aa.2 (aA.2 rfl)
 rintro x rfl
 dsimp only
 refine ae.2 (Ev.imp (P:=fun x=>x=Sum.inl ()) (Ev.cnt tr.length (fun k s=>s=(0,(k:Int),N,P,T)) rfl ?_ ?_) ?_)
 ·rintro t s ht rfl
  dsimp only
  rw [if_pos (by omega)]
  have hget:tr[t]? = some tr[t]:=List.getElem?_eq_getElem ht
  have hok:=hn.tr _ (List.getElem_mem ht)
  simp only at hok
  refine ae.2 (Ev.idx t rfl ht ?_)
  generalize hT:tr[t]=X at hget hok
  obtain ⟨o1,o2,o3,o4,o5,o6⟩:=hok
  refine ae.2 ((CW (t:=X) (by omega) (by omega)).imp ?_)
  rintro l rfl
  have htP:∀ q:Int,0≤q→q < (pl.length:Int)→pZ X q=true→∃ v,idx P q=some v∧idx T (t:Int)=some v:=fun q q0 q1 hq=>by
   obtain ⟨m,rfl⟩:∃ m:Nat,q=(m:Int):=⟨q.toNat,by omega⟩
   have h1:=tie t m X hget (by omega) hq
   have h2:T[t]? = some T[t]:=List.getElem?_eq_getElem (by omega)
   exact ⟨T[t],dQ (h1.trans h2),dQ h2⟩
  refine ae.2 (Ev.imp (P:=fun x=>x=Sum.inl (0,N,P,T,tup X)) (Ev.cnt ((X.In++X.Not).map TArc.Place).length (fun i s=>s=(0,(i:Int),N,P,T,X.Name,X.Delay,X.Prio,X.In,X.Not,X.Out,(X.In++X.Not).map TArc.Place)) rfl ?_ ?_ (by simp; omega)) ?_)
  ·rintro i s hi rfl
   dsimp only
   rw [if_pos (by omega)]
   refine ae.2 (Ev.idx i rfl hi ?_)
   have hm:=List.getElem_mem hi
   obtain ⟨a,ha,ea⟩:=List.mem_map.1 hm
   have hr:0≤a.Place∧a.Place < (pl.length:Int):=by
    rcases List.mem_append.1 ha with h | h
    ·exact o4 a h
    exact o5 a h
   have hti:pZ X a.Place=true:=by
    unfold pZ eJ fQ
    rcases List.mem_append.1 ha with h | h
    ·rw [List.any_eq_true.2 ⟨a,h,by simp⟩]; rfl
    rw [List.any_eq_true.2 ⟨a,h,by simp⟩,Bool.or_true]; rfl
   obtain ⟨v,e1,e2⟩:=htP _ hr.1 hr.2 hti
   rw [← ea,e1]
   refine ae.2 (aa.2 ?_)
   rw [e2]
   refine ae.2 (aa.2 ?_)
   rw [if_neg (by simp),aN (by simp at hi; omega)]
   exact aa.2 (aC.2 rfl)
  ·rintro s rfl
   dsimp only
   rw [if_neg (by omega)]
   exact aa.2 (aA.2 rfl)
  rintro x rfl
  dsimp only
  refine ae.2 (Ev.imp (P:=fun x=>x=Sum.inl (0,N,P,T)) (Ev.cnt X.Out.length (fun i s=>s=(0,(i:Int),N,P,T,tup X)) rfl ?_ ?_) ?_)
  ·rintro i s hi rfl
   dsimp only
   rw [if_pos (by omega)]
   refine ae.2 (Ev.idx i rfl hi ?_)
   have ha:=List.getElem_mem hi
   refine ae.2 (Ev.imp (P:=fun x=>x=Sum.inl (0,(i:Int),false,N,P,T,tup X)) ?_ ?_)
   ·refine Ev.ite (fun c=>?_) (fun c=>aa.2 rfl)
    obtain ⟨v,e1,e2⟩:=htP _ (o6 _ ha).1 (o6 _ ha).2 (by
     unfold pZ oZ fQ
     rw [decide_eq_true c,List.any_eq_true.2 ⟨_,ha,by simp⟩]; simp)
    rw [e1]
    refine ae.2 (aa.2 ?_)
    rw [e2]
    refine ae.2 (aa.2 (aa.2 ?_))
    simp
   rintro x rfl
   dsimp only
   rw [if_neg (by decide),aN (by omega)]
   exact aa.2 (aC.2 rfl)
  ·rintro s rfl
   dsimp only
   rw [if_neg (by omega)]
   exact aa.2 (aA.2 rfl)
  rintro x rfl
  dsimp only
  rw [aN (by omega)]
  exact aa.2 (aC.2 rfl)
 ·rintro s rfl
  dsimp only
  rw [if_neg (by omega)]
  exact aa.2 (aA.2 rfl)
 rintro x rfl
 exact aa.2 rfl
end Go.Proofs.Ytmchbhheoieepaa
namespace Go.Proofs.Ytmchbhheoieepaa
open Go Go.Am
theorem eW {i:Nat} (h:i≤1000000000):IntKind.wrap .i64 ((i:Int)+1)=((i+1:Nat):Int):=aN (by omega)
theorem uw {i:Nat} (h:i≤1000000000) (h0:0 < i):IntKind.wrap .i64 ((i:Int) - 1)=((i - 1:Nat):Int):=eU h0 (by omega)
def jB (x y:TLane):Bool:=decide (x.From=y.From)&&decide (x.To=y.To)
theorem B9 (x y:TLane):p51 (x.From,x.To,x.Ahead,y.From,y.To,y.Ahead)=some (jB x y):=by
 unfold p51 jB
 dsimp only
 split<;>rename_i h<;>simp [h]
def cpt {α:Type} (E:α→α→Bool) (l:List α):Nat→List α
 | 0=>[]
 | k+1=>match l[k]?,(if k=0 then none else l[k - 1]?) with
  | none,_=>cpt E l k
  | some x,none=>cpt E l k++[x]
  | some x,some y=>if E x y then cpt E l k else cpt E l k++[x]
theorem wx {α:Type} (E:α→α→Bool) (l:List α):∀ k,(cpt E l k).length≤k
 | 0=>Nat.le_refl _
 | k+1=>by
  have:=wx E l k
  unfold cpt
  split
  ·omega
  ·simp; omega
  split
  ·omega
  simp; omega
theorem iu {α:Type} {E:α→α→Bool} {l:List α} {k:Nat} (h0:0 < k) (h:k < l.length):cpt E l (k+1)=if E l[k] (l[k - 1]'(by omega)) then cpt E l k else cpt E l k++[l[k]]:=by
 conv=>lhs; unfold cpt
 rw [List.getElem?_eq_getElem h,if_neg (by omega),List.getElem?_eq_getElem (show k - 1 < l.length by omega)]
theorem sD {α:Type}:∀ (n:Nat) (l:List α) (lo:Nat) (x:α) (k:Nat),k≤lo→(wr l lo n x).take k=l.take k
 | 0,l,lo,x,k,h=>rfl
 | n+1,l,lo,x,k,h=>by
  unfold wr
  rw [sD n _ _ _ k (by omega),List.take_set_of_le (by omega)]
section
variable {E:TLane→TLane→Option Bool} {e:TLane→TLane→Bool}
theorem lw {l:List TLane} {k n:Nat} (h:k≤l.length) (hn:l.length=n:=by rfl):slc l (k:Int) (n:Int)=some (l.drop k):=by
 subst hn
 unfold slc
 rw [if_pos ⟨by omega,by omega,by omega⟩]
 simp
theorem A9 (hE:∀ x y,E x y=some (e x y)) {l:List TLane} (hl:l.length≤1000000):Ex l E=some (cpt e l l.length):=by
 unfold Ex
 by_cases h2:l.length < 2
 ·rw [if_pos (by omega)]
  match l,h2 with
  | [],_=>rfl
  | [x],_=>rfl
 rw [if_neg (by omega)]
 suffices key:∃ q,aq (oQ l E) (1:Int)=some q∧(match q with | .inl u=>u=cpt e l l.length | .inr _=>l=cpt e l l.length) by
  obtain ⟨q,h1,h3⟩:=key
  rw [h1]
  rcases q with u | u
  ·simp only at h3; rw [h3]; rfl
  simp only at h3; simp only [Option.bind_some]; exact congrArg some h3
 refine gi (fun s=>∃ k:Nat,s=(k:Int)∧0 < k∧k≤l.length∧cpt e l k=l.take k) (fun s=>l.length - s.toNat) _ ?_ ⟨1,rfl,by omega,by omega,?_⟩ (by omega)
 ·rintro _ ⟨k,rfl,h0,hk,hc⟩
  unfold oQ
  by_cases hkl:k < l.length
  ·rw [if_pos (by omega),bv hkl,uw (by omega) h0,bv (show k - 1 < l.length by omega)]
   simp only [Option.bind_some,hE]
   by_cases he:e l[k] (l[k - 1]'(by omega))=true
   ·right
    rw [if_pos he,lw (by omega)]
    simp only [Option.bind_some]
    have hc1:cpt e l (k+1)=l.take k:=by rw [iu h0 hkl,if_pos he,hc]
    suffices inner:∃ q:Int×List TLane,aq (ni l E (k:Int)) ((k:Int),1,l)=some q∧∃ w:Nat,q.1=(w:Int)∧w < l.length∧q.2.length=l.length∧q.2.take w=cpt e l l.length by
     obtain ⟨⟨q1,d⟩,i1,w,i2,i3,i4,i5⟩:=inner
     simp only at i2 i4 i5
     subst i2
     rw [i1]
     simp only [Option.bind_some]
     rw [lw (by omega)]
     simp only [Option.bind_some]
     have hne:neL (d.drop w)=some ():=by
      unfold neL
      rw [if_neg]
      simp; omega
     rw [hne]
     simp only [Option.bind_some]
     have hs:slc (wr d (w:Int).toNat (((d.length:Int):Int).toNat - (w:Int).toNat) (TLane.mk (0:Int) (0:Int) (0:Int))) (0:Int) (w:Int)=some (d.take w):=by
      unfold slc
      rw [if_pos ⟨by omega,by omega,by rw [lV]; omega⟩]
      simp only [Int.toNat_natCast,Int.toNat_zero,List.drop_zero]
      rw [sD _ _ _ _ _ (Nat.le_refl _)]
     rw [hs]
     exact ⟨_,rfl,i5⟩
    refine gi (fun s=>∃ w m:Nat,s.1=(w:Int)∧s.2.1=(m:Int)∧0 < m∧k+m≤l.length∧w < k+m∧s.2.2.length=l.length∧s.2.2.take w=cpt e l (k+m)∧∀ i,k+m≤i+1→s.2.2[i]? = l[i]?) (fun s=>l.length - s.2.1.toNat) _ ?_ ⟨k,1,rfl,rfl,by omega,by omega,by omega,rfl,hc1.symm,fun i hi=>rfl⟩ (by dsimp only; omega)
    rintro ⟨W,M,d⟩ ⟨w,m,j1,j2,j3,j4,j5,j6,j7,j8⟩
    simp only at j1 j2 j6 j7 j8
    subst j1 j2
    unfold ni
    simp only
    rw [lw (by omega) j6]
    simp only [Option.bind_some]
    by_cases hm:k+m < l.length
    ·left
     have hd:m < (d.drop k).length:=by simp; omega
     rw [if_pos (by omega),bv hd,uw (by omega) j3,bv (show m - 1 < (d.drop k).length by omega)]
     simp only [Option.bind_some,hE]
     have g1:(d.drop k)[m]=l[k+m]:=by
      have:=j8 (k+m) (by omega)
      rw [List.getElem?_eq_getElem (by omega),List.getElem?_eq_getElem hm] at this
      simp only [List.getElem_drop]
      exact Option.some.inj this
     have g2:(d.drop k)[m - 1]'(by omega)=l[k+m - 1]'(by omega):=by
      have:=j8 (k+m - 1) (by omega)
      rw [List.getElem?_eq_getElem (by omega),List.getElem?_eq_getElem (by omega)] at this
      simp only [List.getElem_drop]
      have e1:k+(m - 1)=k+m - 1:=by omega
      simp only [e1]
      exact Option.some.inj this
     rw [g1,g2]
     have hst:=iu (E:=e) (l:=l) (k:=k+m) (by omega) hm
     by_cases he2:e l[k+m] (l[k+m - 1]'(by omega))=true
     ·rw [if_neg (by simp [he2])]
      unfold ly
      refine ⟨_,rfl,⟨w,m+1,rfl,eW (by omega),by omega,by omega,by omega,j6,?_,fun i hi=>j8 i (by omega)⟩,?_⟩
      ·rw [j7,show k+(m+1)=k+m+1 by omega,hst,if_pos he2]
      simp only; rw [eW (by omega)]; omega
     rw [if_pos (by simp [he2]),bv (show w < d.length by omega)]
     simp only [Option.bind_some]
     unfold ly
     rw [Int.toNat_natCast]
     refine ⟨_,rfl,⟨w+1,m+1,eW (by omega),eW (by omega),by omega,by omega,by omega,by simp [j6],?_,fun i hi=>?_⟩,?_⟩
     ·simp only
      rw [show k+(m+1)=k+m+1 by omega,hst,if_neg he2,← j7,List.take_succ_eq_append_getElem (by simp; omega),List.take_set_of_le (Nat.le_refl _)]
      simp
     ·simp only
      rw [List.getElem?_set_ne (by omega)]
      exact j8 i (by omega)
     simp only; rw [eW (by omega)]; omega
    right
    rw [if_neg (by simp; omega)]
    refine ⟨_,rfl,w,rfl,by omega,j6,?_⟩
    rw [j7,show k+m=l.length by omega]
   left
   rw [if_neg he]
   refine ⟨_,rfl,⟨k+1,eW (by omega),by omega,by omega,?_⟩,by rw [eW (by omega)]; omega⟩
   rw [iu h0 hkl,if_neg he,hc,List.take_succ_eq_append_getElem hkl]
  right
  rw [if_neg (by omega)]
  have e:k=l.length:=by omega
  refine ⟨_,rfl,?_⟩
  simp only
  rw [← e,hc,e,List.take_length]
 have:0 < l.length:=by omega
 unfold cpt
 rw [List.getElem?_eq_getElem this,if_pos rfl]
 simp only [cpt,List.nil_append]
 rw [List.take_succ_eq_append_getElem this]
 rfl
end
theorem iz {l:List TLane} {x:TLane}:∀ k,x∈cpt jB l k→x∈l
 | 0,h=>by cases h
 | k+1,h=>by
  unfold cpt at h
  split at h
  ·exact iz k h
  ·rename_i y h1 h2
   rcases List.mem_append.1 h with h | h
   ·exact iz k h
   rw [List.mem_singleton] at h; subst h; exact List.mem_of_getElem? h1
  rename_i y z h1 h2
  split at h
  ·exact iz k h
  rcases List.mem_append.1 h with h | h
  ·exact iz k h
  rw [List.mem_singleton] at h; subst h; exact List.mem_of_getElem? h1
def ltP (x y:TLane):Prop:=x.From < y.From∨x.From=y.From∧x.To < y.To
theorem wQ {l:List TLane} (hs:Srt ltL 0 l.length l):∀ k,k≤l.length→(cpt jB l k).Pairwise ltP∧
  (∀ x,x∈cpt jB l k→∃ i,i < k∧l[i]? = some x)∧∀ i x,i < k→l[i]? = some x→∃ y,y∈cpt jB l k∧y.From=x.From∧y.To=x.To∧y.Ahead≤x.Ahead
 | 0,_=>⟨.nil,(fun x hx=>by cases hx),fun i x hi=>by omega⟩
 | k+1,hk=>by
  obtain ⟨h1,h2,h3⟩:=wQ hs k (by omega)
  have hkl:k < l.length:=by omega
  have low:∀ i x,i < k→l[i]? = some x→¬ ltL l[k] x:=fun i x hi hx=>hs i k (Nat.zero_le _) hi hkl _ _ hx (List.getElem?_eq_getElem hkl)
  rcases Nat.eq_zero_or_pos k with h0 | h0
  ·subst h0
   have e:cpt jB l (0+1)=[l[0]]:=by
    conv=>lhs; unfold cpt
    rw [List.getElem?_eq_getElem hkl,if_pos rfl]
    rfl
   rw [e]
   refine ⟨List.pairwise_singleton _ _,fun x hx=>?_,fun i x hi hx=>?_⟩
   ·rw [List.mem_singleton] at hx; subst hx; exact ⟨0,by omega,List.getElem?_eq_getElem hkl⟩
   obtain rfl:i=0:=by omega
   rw [List.getElem?_eq_getElem hkl] at hx; cases hx
   exact ⟨_,List.mem_singleton.2 rfl,rfl,rfl,Int.le_refl _⟩
  have hprev:=List.getElem?_eq_getElem (show k - 1 < l.length by omega)
  rw [iu h0 hkl]
  split
  ·rename_i he
   unfold jB at he
   simp only [Bool.and_eq_true,decide_eq_true_eq] at he
   refine ⟨h1,fun x hx=>?_,fun i x hi hx=>?_⟩
   ·obtain ⟨i,i1,i2⟩:=h2 x hx; exact ⟨i,by omega,i2⟩
   by_cases hik:i < k
   ·exact h3 i x hik hx
   obtain rfl:i=k:=by omega
   rw [List.getElem?_eq_getElem hkl] at hx; cases hx
   obtain ⟨y,y1,y2,y3,y4⟩:=h3 (i - 1) _ (by omega) hprev
   have:=low (i - 1) _ (by omega) hprev
   unfold ltL at this
   exact ⟨y,y1,by omega,by omega,by omega⟩
  rename_i he
  unfold jB at he
  simp only [Bool.and_eq_true,decide_eq_true_eq] at he
  refine ⟨?_,fun x hx=>?_,fun i x hi hx=>?_⟩
  ·rw [List.pairwise_append]
   refine ⟨h1,List.pairwise_singleton _ _,fun x hx y hy=>?_⟩
   rw [List.mem_singleton] at hy; subst hy
   obtain ⟨i,i1,i2⟩:=h2 x hx
   have q1:=low (k - 1) _ (by omega) hprev
   by_cases hik:i=k - 1
   ·subst hik
    rw [hprev] at i2; cases i2
    unfold ltL at q1; unfold ltP
    omega
   have q2:=hs i (k - 1) (Nat.zero_le _) (by omega) (by omega) _ _ i2 hprev
   unfold ltL at q1 q2; unfold ltP
   omega
  ·rcases List.mem_append.1 hx with hx | hx
   ·obtain ⟨i,i1,i2⟩:=h2 x hx; exact ⟨i,by omega,i2⟩
   rw [List.mem_singleton] at hx; subst hx; exact ⟨k,by omega,List.getElem?_eq_getElem hkl⟩
  by_cases hik:i < k
  ·obtain ⟨y,y1,y2⟩:=h3 i x hik hx
   exact ⟨y,List.mem_append_left _ y1,y2⟩
  obtain rfl:i=k:=by omega
  rw [List.getElem?_eq_getElem hkl] at hx; cases hx
  exact ⟨_,List.mem_append_right _ (List.mem_singleton.2 rfl),rfl,rfl,Int.le_refl _⟩
def InL (n:List TPlace×List TTrans) (p:Int×List Int×List Int) (x:TLane):Prop:=∃ (i:Nat) (t:TTrans) (a:TArc),n.2[i]? = some t∧a∈t.Out∧p.2.2[i]? = some x.From∧p.2.1[a.Place.toNat]? = some x.To∧x.From≠x.To∧x.Ahead=t.Delay
def outs (n:List TPlace×List TTrans):Nat:=(n.2.map fun t=>t.Out.length).sum
structure LanesOk (n:List TPlace×List TTrans) (p:Int×List Int×List Int) (u:List TLane):Prop where
 len:u.length≤20
 pw:u.Pairwise ltP
 is:∀ x,x∈u→InL n p x
 all:∀ x,InL n p x→∃ y,y∈u∧y.From=x.From∧y.To=x.To∧y.Ahead≤x.Ahead
theorem NetOk.outs {n:List TPlace×List TTrans} (h:NetOk n):outs n≤18:=by
 have key:∀ k,k≤n.2.length→((n.2.take k).map fun t=>t.Out.length).sum≤2 * k:=by
  intro k
  induction k with
  | zero=>intro _; simp
  | succ k ih=>
   intro hk
   have:=ih (by omega)
   have hk':k < n.2.length:=by omega
   rw [List.take_succ_eq_append_getElem hk',List.map_append,List.sum_append]
   have:=(h.tr k _ (List.getElem?_eq_getElem hk')).outs.1
   simp only [List.map_cons,List.map_nil,List.sum_cons,List.sum_nil]; omega
 have:=key n.2.length (Nat.le_refl _)
 rw [List.take_length] at this
 have:=h.nt
 unfold Proofs.Ytmchbhheoieepaa.outs
 omega
theorem CE {n:List TPlace×List TTrans} {p:Int×List Int×List Int} (hn:Few n) (hp:PartOk n p) (ho:outs n≤20):Ev (p24 (n.1,n.2,p.1,p.2.1,p.2.2)) (LanesOk n p):=by
 have h36:=rG hn hp
 obtain ⟨pl,tr⟩:=n
 obtain ⟨N,P,T⟩:=p
 have h1:=hn.np; have h2:=hn.nt; have h3:=hp.lp; have h4:=hp.lt
 simp only at h1 h2 h3 h4 h36 ⊢
 unfold p24
 dsimp only
 rw [h36]
 refine ae.2 (aa.2 ?_)
 rw [if_neg (by decide)]
 refine ae.2 (Ev.imp (P:=fun L:List TLane=>L.length≤outs (pl,tr)∧∀ x,x∈L↔InL (pl,tr) (N,P,T) x) ?_ ?_)
 ·refine Ev.cnt tr.length (fun k s=>∃ L:List TLane,s=((k:Int),N,P,T,L)∧L.length≤((tr.take k).map fun t=>t.Out.length).sum∧∀ x,x∈L↔∃ (i:Nat) (t:TTrans) (a:TArc),i < k∧tr[i]? = some t∧a∈t.Out∧T[i]? = some x.From∧P[a.Place.toNat]? = some x.To∧x.From≠x.To∧x.Ahead=t.Delay) ⟨[],rfl,Nat.le_refl _,fun x=>⟨(fun h=>by cases h),fun ⟨i,t,a,h,_⟩=>by omega⟩⟩ ?_ ?_
  ·rintro k s hk ⟨L,rfl,e1,e2⟩
   dsimp only
   rw [if_pos (by omega)]
   have hget:tr[k]? = some tr[k]:=List.getElem?_eq_getElem hk
   have hok:=hn.tr _ (List.getElem_mem hk)
   have hso:∀ k,k≤tr.length→((tr.take k).map fun t=>t.Out.length).sum≤1000 * k:=by
    intro k
    induction k with
    | zero=>intro _; simp
    | succ k ih=>
     intro hk
     have:=ih (by omega)
     have hk':k < tr.length:=by omega
     rw [List.take_succ_eq_append_getElem hk',List.map_append,List.sum_append]
     have:=(hn.tr _ (List.getElem_mem hk')).2.2.1
     simp only [List.map_cons,List.map_nil,List.sum_cons,List.sum_nil]; omega
   have hs:=hso k (by omega)
   have hsum:((tr.take (k+1)).map fun t=>t.Out.length).sum=((tr.take k).map fun t=>t.Out.length).sum+(tr[k]).Out.length:=by
    rw [List.take_succ_eq_append_getElem hk,List.map_append,List.sum_append]; simp
   refine ae.2 (Ev.idx k rfl hk ?_)
   simp only at hok
   generalize hT:tr[k]=X at hget hok hsum
   obtain ⟨_,_,b3,_,_,b6⟩:=hok
   have hkT:k < T.length:=by omega
   have ht:T[k]? = some T[k]:=List.getElem?_eq_getElem hkT
   generalize hF:T[k]=F at ht
   refine ae.2 (Ev.imp (P:=fun s:Int×List Int×List Int×List TLane=>∃ M,s=(N,P,T,M)∧M.length≤L.length+X.Out.length∧∀ x,x∈M↔x∈L∨∃ a,a∈X.Out∧F=x.From∧P[a.Place.toNat]? = some x.To∧x.From≠x.To∧x.Ahead=X.Delay) (Ev.cnt X.Out.length (fun j s=>∃ M:List TLane,s=((j:Int),N,P,T,M,X.Name,X.Delay,X.Prio,X.In,X.Not,X.Out)∧M.length≤L.length+j∧∀ x,x∈M↔x∈L∨∃ a,a∈X.Out.take j∧F=x.From∧P[a.Place.toNat]? = some x.To∧x.From≠x.To∧x.Ahead=X.Delay) ⟨L,rfl,Nat.le_refl _,fun x=>by simp⟩ ?_ ?_) ?_)
   ·rintro j s hj ⟨M,rfl,m1,m2⟩
    dsimp only
    rw [if_pos (by omega)]
    refine ae.2 (Ev.idx j rfl hj ?_)
    rw [dQ ht]
    refine ae.2 (aa.2 ?_)
    have hmem:=List.getElem_mem hj
    have htk:=List.take_succ_eq_append_getElem hj
    generalize X.Out[j]=a at hmem htk
    have hin:=b6 a hmem
    have hapl:a.Place.toNat < P.length:=by omega
    have hpl:P[a.Place.toNat]? = some P[a.Place.toNat]:=List.getElem?_eq_getElem hapl
    generalize hG:P[a.Place.toNat]=G at hpl
    have e3:idx P a.Place=some G:=by
     have:=dQ hpl
     rwa [Int.toNat_of_nonneg hin.1] at this
    rw [e3]
    refine ae.2 (aa.2 ?_)
    by_cases hfg:F=G
    ·rw [if_neg (by simp [hfg])]
     refine aa.2 (aC.2 ⟨M,by rw [aN (by omega)],by omega,fun x=>?_⟩)
     rw [m2,htk]
     constructor
     ·rintro (h | ⟨b,b1,b2⟩)
      ·exact .inl h
      exact .inr ⟨b,List.mem_append_left _ b1,b2⟩
     rintro (h | ⟨b,b1,b2,b3,b4,b5⟩)
     ·exact .inl h
     rcases List.mem_append.1 b1 with b1 | b1
     ·exact .inr ⟨b,b1,b2,b3,b4,b5⟩
     rw [List.mem_singleton] at b1
     subst b1
     rw [hpl] at b3; cases b3
     exact absurd (b2.symm.trans hfg) b4
    rw [if_pos (by simp [hfg])]
    refine ae.2 (Ev.app (by simp; omega) (aa.2 (aC.2 ⟨_,by rw [aN (by omega)],by simp; omega,fun x=>?_⟩)))
    rw [List.mem_append,m2,List.mem_singleton,htk]
    constructor
    ·rintro ((h | ⟨b,b1,b2⟩) | rfl)
     ·exact .inl h
     ·exact .inr ⟨b,List.mem_append_left _ b1,b2⟩
     exact .inr ⟨a,List.mem_append_right _ (List.mem_singleton.2 rfl),rfl,hpl,hfg,rfl⟩
    rintro (h | ⟨b,b1,b2,b3,b4,b5⟩)
    ·exact .inl (.inl h)
    rcases List.mem_append.1 b1 with b1 | b1
    ·exact .inl (.inr ⟨b,b1,b2,b3,b4,b5⟩)
    rw [List.mem_singleton] at b1
    subst b1
    rw [hpl] at b3
    obtain ⟨x1,x2,x3⟩:=x
    simp only at b2 b3 b4 b5
    cases b3
    subst b2 b5
    exact .inr rfl
   ·rintro s ⟨M,rfl,h⟩
    dsimp only
    rw [if_neg (by omega)]
    rw [List.take_length] at h
    exact aa.2 (aA.2 ⟨M,rfl,h⟩)
   rintro s ⟨M,rfl,i2,i3⟩
   refine aa.2 (aC.2 ⟨M,by rw [aN (by omega)],by omega,fun x=>?_⟩)
   rw [i3,e2]
   constructor
   ·rintro (⟨i,t,a,q1,q2⟩ | ⟨a,q1,q2,q3⟩)
    ·exact ⟨i,t,a,by omega,q2⟩
    exact ⟨k,X,a,by omega,hget,q1,by rw [ht,q2],q3⟩
   rintro ⟨i,t,a,q1,q2,q3,q4,q5⟩
   by_cases e:i=k
   ·subst e
    rw [hget] at q2; cases q2
    rw [ht] at q4; cases q4
    exact .inr ⟨a,q3,rfl,q5⟩
   exact .inl ⟨i,t,a,by omega,q2,q3,q4,q5⟩
  rintro s ⟨L,rfl,e1,e2⟩
  dsimp only
  rw [if_neg (by omega)]
  rw [List.take_length] at e1
  refine aa.2 (aA.2 ⟨e1,fun x=>?_⟩)
  rw [e2]
  constructor
  ·rintro ⟨i,t,a,q1,q2⟩; exact ⟨i,t,a,q2⟩
  rintro ⟨i,t,a,q2,q3⟩; exact ⟨i,t,a,(List.getElem?_eq_some_iff.1 q2).1,q2,q3⟩
 rintro L ⟨k1',k2'⟩
 refine ae.2 ((qq (d:=L) (by omega)).imp ?_)
 rintro s ⟨k2,k3,k4⟩
 unfold k9
 rw [A9 (e:=jB) B9 (by omega)]
 obtain ⟨q1,q2,q3⟩:=wQ k4 s.length (Nat.le_refl _)
 refine ae.2 (aa.2 (aa.2 ⟨by have:=wx jB s s.length; omega,q1,fun x hx=>(k2' x).1 ((k3 x).1 (iz _ hx)),fun x hx=>?_⟩))
 obtain ⟨i,hi⟩:=List.getElem?_of_mem ((k3 x).2 ((k2' x).2 hx))
 exact q3 i x (List.getElem?_eq_some_iff.1 hi).1 hi
end Go.Proofs.Ytmchbhheoieepaa
namespace Go.Proofs.Ytmchbhheoieepaa
open Go Go.Am
def mk' (l:List Int) (q:Int):Int:=l.getD q.toNat 0
def Ei (t:TTrans) (marks:List Int):Bool:=t.In.all (fun a=>decide (a.N≤mk' marks a.Place))&&t.Not.all (fun a=>decide (mk' marks a.Place < a.N))
def InR (m:Nat) (l:List TArc):Prop:=∀ a,a∈l→0≤a.Place∧a.Place < (m:Int)
theorem wJ {l:List Int} {q:Int} (h0:0≤q) (h1:q < (l.length:Int)):idx l q=some (mk' l q):=by
 obtain ⟨m,rfl⟩:∃ m:Nat,q=(m:Int):=⟨q.toNat,by omega⟩
 rw [bv (by omega)]
 unfold mk'
 rw [Int.toNat_natCast,List.getD_eq_getElem?_getD,List.getElem?_eq_getElem (show m < l.length by omega)]; rfl
theorem pX {α:Type} {p:α→Bool} {l:List α} {k:Nat} (h:(l.take k).all p=true) (hk:k < l.length):(l.take (k+1)).all p=p l[k]:=by
 rw [List.take_succ_eq_append_getElem hk,List.all_append,h]; simp
theorem Dw {t:TTrans} {marks:List Int} (h1:t.In.length≤1000000) (h2:t.Not.length≤1000000) (i1:InR marks.length t.In) (i2:InR marks.length t.Not):Ev (p66 (t.Name,t.Delay,t.Prio,t.In,t.Not,t.Out,marks)) (fun r=>r=Ei t marks):=by
 unfold p66 Ei
 refine ae.2 (Ev.imp (P:=fun x=>x=(if t.In.all (fun a=>decide (a.N≤mk' marks a.Place))=true then Sum.inl (tup t) else Sum.inr ())) (Ev.cnt t.In.length (fun k s=>s=((k:Int),tup t)∧(t.In.take k).all (fun a=>decide (a.N≤mk' marks a.Place))=true) ⟨rfl,rfl⟩ ?_ ?_) ?_)
 ·rintro k s hk ⟨rfl,hI⟩
  dsimp only
  rw [if_pos (by omega)]
  refine ae.2 (Ev.idx k rfl hk ?_)
  have hr:=i1 _ (List.getElem_mem hk)
  rw [wJ hr.1 hr.2]
  refine ae.2 (aa.2 (Ev.ite (fun c=>aa.2 (aA.2 ?_)) (fun c=>aa.2 (aC.2 ⟨by rw [aN (by omega)],?_⟩))))
  ·rw [if_neg (fun h=>?_)]
   have:=List.all_eq_true.1 h _ (List.getElem_mem hk)
   simp only [decide_eq_true_eq] at this
   omega
  rw [pX hI hk,decide_eq_true (by omega)]
 ·rintro s ⟨rfl,hI⟩
  dsimp only
  rw [if_neg (by omega)]
  rw [List.take_length] at hI
  exact aa.2 (aA.2 (by rw [if_pos hI]))
 rintro x rfl
 by_cases hi:t.In.all (fun a=>decide (a.N≤mk' marks a.Place))=true
 ·rw [if_pos hi,hi]
  dsimp only
  refine ae.2 (Ev.imp (P:=fun x=>x=(if t.Not.all (fun a=>decide (mk' marks a.Place < a.N))=true then Sum.inl () else Sum.inr ())) (Ev.cnt t.Not.length (fun k s=>s=(k:Int)∧(t.Not.take k).all (fun a=>decide (mk' marks a.Place < a.N))=true) ⟨rfl,rfl⟩ ?_ ?_) ?_)
  ·rintro k s hk ⟨rfl,hI⟩
   rw [if_pos (by omega)]
   refine ae.2 (Ev.idx k rfl hk ?_)
   have hr:=i2 _ (List.getElem_mem hk)
   rw [wJ hr.1 hr.2]
   refine ae.2 (aa.2 (Ev.ite (fun c=>aa.2 (aA.2 ?_)) (fun c=>aa.2 (aC.2 ⟨by rw [aN (by omega)],?_⟩))))
   ·rw [if_neg (fun h=>?_)]
    have:=List.all_eq_true.1 h _ (List.getElem_mem hk)
    simp only [decide_eq_true_eq] at this
    omega
   rw [pX hI hk,decide_eq_true (by omega)]
  ·rintro s ⟨rfl,hI⟩
   rw [if_neg (by omega)]
   rw [List.take_length] at hI
   exact aa.2 (aA.2 (by rw [if_pos hI]))
  rintro x rfl
  by_cases hn:t.Not.all (fun a=>decide (mk' marks a.Place < a.N))=true
  ·rw [if_pos hn,hn]; exact aa.2 rfl
  rw [if_neg hn]
  have hn':t.Not.all (fun a=>decide (mk' marks a.Place < a.N))=false:=by simpa only [Bool.not_eq_true] using hn
  rw [hn']
  exact aa.2 rfl
 rw [if_neg hi]
 have hi':t.In.all (fun a=>decide (a.N≤mk' marks a.Place))=false:=by simpa only [Bool.not_eq_true] using hi
 rw [hi']
 exact aa.2 rfl
theorem Bv {n:List TPlace×List TTrans} (h:n.1.length≤1000000):Ev (p64 n) (fun r=>r=n.1.map TPlace.Tokens):=by
 obtain ⟨pl,tr⟩:=n
 simp only at h
 unfold p64
 dsimp only
 refine ae.2 (Ev.mkS (by omega) (by omega) (ae.2 (Ev.imp (P:=fun l:List Int=>l=pl.map TPlace.Tokens) (Ev.cnt pl.length (fun k s=>∃ l:List Int,s=((k:Int),l)∧l.length=pl.length∧∀ i,i < k→l[i]? = (pl.map TPlace.Tokens)[i]?) ⟨_,rfl,by simp,fun i h=>by omega⟩ ?_ ?_) (fun l e=>aa.2 e))))
 ·rintro k s hk ⟨l,rfl,hl,he⟩
  dsimp only
  rw [if_pos (by omega)]
  refine ae.2 (Ev.idx k rfl hk (ae.2 (Ev.idx k rfl (by omega) (aa.2 (aC.2 ⟨_,by rw [aN (by omega),Int.toNat_natCast],by simpa using hl,fun i hi=>?_⟩)))))
  by_cases e:i=k
  ·subst e
   rw [List.getElem?_set_self (by omega),List.getElem?_map,List.getElem?_eq_getElem hk]; rfl
  rw [List.getElem?_set_ne (by omega)]; exact he i (by omega)
 rintro s ⟨l,rfl,hl,he⟩
 dsimp only
 rw [if_neg (by omega)]
 refine aa.2 (aA.2 (List.ext_getElem? fun i=>?_))
 by_cases hi:i < pl.length
 ·exact he i hi
 rw [List.getElem?_eq_none (by omega),List.getElem?_eq_none (by simp; omega)]
theorem CT {l:List Bool} {k:Nat}:p65 (l,(k:Int))=some (l.getD k false):=by
 unfold p65
 dsimp only
 by_cases h:k < l.length
 ·rw [if_pos (by omega),bv h,Option.bind_some,List.getD_eq_getElem?_getD,List.getElem?_eq_getElem h]; rfl
 rw [if_neg (by omega),List.getD_eq_getElem?_getD,List.getElem?_eq_none (by omega)]; rfl
structure NearOk (tr:List TTrans) (mine:List Bool) (m:Nat) (N:List (List Int)):Prop where
 len:N.length=m
 few:∀ l,l∈N→l.length≤1000000
 mem:∀ (q:Nat) l,N[q]? = some l→∀ i:Int,i∈l↔∃ (k:Nat) (t:TTrans),i=(k:Int)∧tr[k]? = some t∧mine.getD k false=true∧eJ t (q:Int)=true
structure ReadyOk (tr:List TTrans) (mine:List Bool) (marks:List Int) (R:List Bool):Prop where
 len:R.length=tr.length
 at_:∀ (k:Nat) t,tr[k]? = some t→R[k]? = some (mine.getD k false&&Ei t marks)
theorem CP {n:List TPlace×List TTrans} (hn:NetOk n) {mine away:List Bool}:Ev (p37 (n.1,n.2,mine,away)) (fun e=>∃ N R,e={ n:={ Places:=n.1,Trans:=n.2 },mine:=mine,near:=N,ready:=R,marks:=n.1.map TPlace.Tokens,wait:={ l:=[] },in_:=none,log:=[],way:=List.replicate n.1.length 0,time:=0,out:=[],away:=away,count:=0 }∧NearOk n.2 mine n.1.length N∧ReadyOk n.2 mine (n.1.map TPlace.Tokens) R):=by
 have hf:=hn.few
 have hnp:=hn.np; have hnt:=hn.nt
 have htr:=hn.tr
 have h64:=Bv (n:=n) (by omega)
 obtain ⟨pl,tr⟩:=n
 simp only at hnp hnt htr h64 ⊢
 unfold p37
 dsimp only
 refine ae.2 (Ev.mkS (by omega) (by omega) (ae.2 (Ev.mkS (by omega) (by omega) (ae.2 (Ev.mkS (by omega) (by omega) (ae.2 (h64.imp ?_)))))))
 rintro marks rfl
 have hz:List.replicate ((pl.length:Int)).toNat (0:Int)=List.replicate pl.length 0:=by rw [Int.toNat_natCast]
 rw [hz]
 generalize hM:pl.map TPlace.Tokens=marks
 have hml:marks.length=pl.length:=by rw [← hM]; simp
 generalize List.replicate pl.length (0:Int)=way
 refine ae.2 (Ev.imp (P:=fun s=>∃ N R,s=(pl,tr,mine,(0:Int),away,(0:Int),N,R,marks,way)∧NearOk tr mine pl.length N∧ReadyOk tr mine marks R) (Ev.cnt tr.length (fun k s=>∃ N R,s=((k:Int),pl,tr,mine,(0:Int),away,(0:Int),N,R,marks,way)∧N.length=pl.length∧(∀ l,l∈N→l.length≤8 * k)∧(∀ (q:Nat) l,N[q]? = some l→∀ i:Int,i∈l↔∃ (j:Nat) (t:TTrans),i=(j:Int)∧j < k∧tr[j]? = some t∧mine.getD j false=true∧eJ t (q:Int)=true)∧R.length=tr.length∧(∀ (j:Nat) t,j < k→tr[j]? = some t→R[j]? = some (mine.getD j false&&Ei t marks))∧∀ j,k≤j→j < tr.length→R[j]? = some false) ⟨_,_,rfl,by simp,(fun l hl=>by rw [List.mem_replicate] at hl; rw [hl.2]; simp),(fun q l hq i=>?_),by simp,(fun j t hj=>by omega),fun j _ hj=>by simp [hj]⟩ ?_ ?_) ?_)
 ·have hq':=(List.getElem?_eq_some_iff.1 hq)
  obtain ⟨hq1,hq2⟩:=hq'
  rw [List.getElem_replicate] at hq2
  subst hq2
  exact ⟨fun h=>(by cases h),fun ⟨j,t,_,h,_⟩=>by omega⟩
 ·rintro k s hk ⟨N,R,rfl,n1,n2,n3,r1,r2,r3⟩
  dsimp only
  rw [if_pos (by omega)]
  have hget:tr[k]? = some tr[k]:=List.getElem?_eq_getElem hk
  have hok:=hf.tr _ (List.getElem_mem hk)
  have hok2:=htr k _ hget
  simp only at hok
  refine ae.2 (Ev.idx k rfl hk ?_)
  generalize hT:tr[k]=X at hget hok hok2
  obtain ⟨b1,b2,b3,b4,b5,b6⟩:=hok
  rw [CT]
  refine ae.2 (aa.2 (Ev.ite (fun c=>?_) (fun c=>?_)))
  ·have hm:mine.getD k false=false:=by simpa using c
   refine aa.2 (aC.2 ⟨N,R,by rw [aN (by omega)],n1,fun l hl=>by have:=n2 l hl; omega,fun q l hq i=>?_,r1,fun j t hj ht=>?_,fun j h1 h2=>r3 j (by omega) h2⟩)
   ·rw [n3 q l hq]
    constructor
    ·rintro ⟨j,t,e1,e2,e3⟩; exact ⟨j,t,e1,by omega,e3⟩
    rintro ⟨j,t,e1,e2,e3,e4,e5⟩
    by_cases e:j=k
    ·subst e; rw [hm] at e4; cases e4
    exact ⟨j,t,e1,by omega,e3,e4,e5⟩
   by_cases e:j=k
   ·subst e; rw [r3 j (by omega) hk,hm]; rfl
   exact r2 j t (by omega) ht
  have hm:mine.getD k false=true:=by simpa using c
     -- both lists of arcs
  refine ae.2 (Ev.imp (P:=fun s=>∃ N',s=(pl,tr,mine,(0:Int),away,(0:Int),X,N',R,marks,way)∧N'.length=pl.length∧(∀ l,l∈N'→l.length≤8 * (k+1))∧∀ (q:Nat) l',N'[q]? = some l'→∃ l,N[q]? = some l∧∀ i:Int,i∈l'↔i∈l∨i=(k:Int)∧eJ X (q:Int)=true) (Ev.cnt 2 (fun a s=>∃ N',s=((a:Int),pl,tr,mine,(0:Int),away,(0:Int),X,[X.In,X.Not],N',R,marks,way)∧N'.length=pl.length∧(∀ l,l∈N'→l.length≤8 * k+2 * a)∧∀ (q:Nat) l',N'[q]? = some l'→∃ l,N[q]? = some l∧∀ i:Int,i∈l'↔i∈l∨i=(k:Int)∧(0 < a∧fQ X.In (q:Int)=true∨1 < a∧fQ X.Not (q:Int)=true)) ⟨N,rfl,n1,n2,fun q l' h=>⟨l',h,fun i=>by simp⟩⟩ ?_ ?_) ?_)
  ·rintro a s ha ⟨N',rfl,m1,m2,m3⟩
   dsimp only
   rw [if_pos (by simp only [List.length_cons,List.length_nil]; omega)]
   have hl:∃ L,[X.In,X.Not][a]? = some L∧L.length≤2∧InR pl.length L∧L=(if a=0 then X.In else X.Not):=by
    rcases (show a=0∨a=1 by omega) with rfl | rfl
    ·exact ⟨X.In,rfl,hok2.ins.1,b4,rfl⟩
    exact ⟨X.Not,rfl,by have:=hok2.nots.1; omega,b5,rfl⟩
   obtain ⟨L,hL,l2,lR,lE⟩:=hl
   refine ae.2 (Ev.idx? a rfl hL ?_)
   refine ae.2 (Ev.imp (P:=fun s=>∃ N'',s=(pl,tr,mine,(0:Int),away,(0:Int),X,[X.In,X.Not],N'',R,marks,way)∧N''.length=pl.length∧(∀ l,l∈N''→l.length≤8 * k+2 * a+L.length)∧∀ (q:Nat) l',N''[q]? = some l'→∃ l,N'[q]? = some l∧∀ i:Int,i∈l'↔i∈l∨i=(k:Int)∧fQ (L.take L.length) (q:Int)=true) (Ev.cnt L.length (fun j s=>∃ N'',s=((j:Int),pl,tr,mine,(0:Int),away,(0:Int),X,[X.In,X.Not],N'',R,marks,way)∧N''.length=pl.length∧(∀ l,l∈N''→l.length≤8 * k+2 * a+j)∧∀ (q:Nat) l',N''[q]? = some l'→∃ l,N'[q]? = some l∧∀ i:Int,i∈l'↔i∈l∨i=(k:Int)∧fQ (L.take j) (q:Int)=true) ⟨N',rfl,m1,m2,fun q l' h=>⟨l',h,fun i=>by simp [fQ]⟩⟩ ?_ ?_) ?_)
   ·rintro j s hj ⟨N'',rfl,u1,u2,u3⟩
    dsimp only
    rw [if_pos (by omega)]
    refine ae.2 (Ev.idx j rfl hj ?_)
    have hmem:=List.getElem_mem hj
    have htk:=List.take_succ_eq_append_getElem hj
    generalize L[j]=A at hmem htk
    have hin:=lR A hmem
    obtain ⟨w,hw⟩:∃ w:Nat,A.Place=(w:Int):=⟨A.Place.toNat,by omega⟩
    rw [hw]
    have hwl:w < N''.length:=by omega
    have hu2:=u2 _ (List.getElem_mem hwl)
    refine ae.2 (Ev.idx w rfl hwl (ae.2 (Ev.app (by simp; omega) (ae.2 (Ev.idx w rfl hwl ?_)))))
    rw [if_pos rfl,Int.toNat_natCast]
    refine aa.2 (aC.2 ⟨_,by rw [aN (by omega)],by simpa using u1,fun l hl=>?_,fun q l' hq=>?_⟩)
    ·rcases List.mem_or_eq_of_mem_set hl with h | h
     ·have:=u2 l h; omega
     rw [h,List.length_append,List.length_singleton]; omega
    have hh:∀ q:Nat,fQ (L.take (j+1)) (q:Int)=(fQ (L.take j) (q:Int)||decide (w=q)):=fun q=>by
     rw [htk]
     unfold fQ
     rw [List.any_append]
     congr 1
     simp only [List.any_cons,List.any_nil,Bool.or_false,hw]
     rw [Bool.eq_iff_iff]
     simp only [decide_eq_true_eq]; omega
    by_cases e:q=w
    ·subst e
     rw [List.getElem?_set_self hwl] at hq
     cases hq
     obtain ⟨l,h1,h2⟩:=u3 q _ (List.getElem?_eq_getElem hwl)
     refine ⟨l,h1,fun i=>?_⟩
     rw [List.mem_append,h2,List.mem_singleton,hh]
     simp only [decide_true,Bool.or_true,and_true]
     constructor
     ·rintro ((h | h) | h)
      ·exact .inl h
      ·exact .inr h.1
      exact .inr h
     rintro (h | h)
     ·exact .inl (.inl h)
     exact .inr h
    rw [List.getElem?_set_ne (by omega)] at hq
    obtain ⟨l,h1,h2⟩:=u3 q _ hq
    refine ⟨l,h1,fun i=>?_⟩
    rw [h2,hh,decide_eq_false (fun h=>e h.symm),Bool.or_false]
   ·rintro s ⟨N'',rfl,h⟩
    dsimp only
    rw [if_neg (by omega)]
    exact aa.2 (aA.2 ⟨N'',rfl,h⟩)
   rintro s ⟨N'',rfl,u1,u2,u3⟩
   refine aa.2 (aC.2 ⟨N'',by rw [aN (by omega)],u1,fun l hl=>by have:=u2 l hl; omega,fun q l' hq=>?_⟩)
   obtain ⟨l1,h1,h2⟩:=u3 q l' hq
   obtain ⟨l,h3,h4⟩:=m3 q l1 h1
   refine ⟨l,h3,fun i=>?_⟩
   rw [h2,h4,List.take_length,lE]
   rcases (show a=0∨a=1 by omega) with rfl | rfl
   ·simp
   simp only [show (0:Nat) < 1 from by omega,true_and,show ¬ (1:Nat) < 1 from by omega,false_and,or_false,show (1:Nat)≠0 from by omega,if_false,show (0:Nat) < 1+1 from by omega,show (1:Nat) < 1+1 from by omega]
   constructor
   ·rintro ((h | h) | h)
    ·exact .inl h
    ·exact .inr ⟨h.1,.inl h.2⟩
    exact .inr ⟨h.1,.inr h.2⟩
   rintro (h | ⟨h,h' | h'⟩)
   ·exact .inl (.inl h)
   ·exact .inl (.inr ⟨h,h'⟩)
   exact .inr ⟨h,h'⟩
  ·rintro s ⟨N',rfl,m1,m2,m3⟩
   dsimp only
   rw [if_neg (by simp)]
   refine aa.2 (aA.2 ⟨N',rfl,m1,fun l hl=>by have:=m2 l hl; omega,fun q l' hq=>?_⟩)
   obtain ⟨l,h1,h2⟩:=m3 q l' hq
   refine ⟨l,h1,fun i=>?_⟩
   rw [h2]
   unfold eJ
   rw [Bool.or_eq_true]
   simp
  rintro s ⟨N',rfl,m1,m2,m3⟩
  dsimp only
  refine ae.2 ((Dw (t:=X) (marks:=marks) (by omega) (by omega) (by rw [hml]; exact b4) (by rw [hml]; exact b5)).imp ?_)
  rintro b rfl
  refine ae.2 (Ev.idx k rfl (by omega) (aa.2 (aC.2 ⟨N',_,by rw [aN (by omega),Int.toNat_natCast],m1,m2,fun q l' hq i=>?_,by simpa using r1,fun j t hj ht=>?_,fun j h1 h2=>?_⟩)))
  ·obtain ⟨l,h1,h2⟩:=m3 q l' hq
   rw [h2,n3 q l h1]
   constructor
   ·rintro (⟨j,t,e1,e2,e3⟩ | ⟨rfl,h⟩)
    ·exact ⟨j,t,e1,by omega,e3⟩
    exact ⟨k,X,rfl,by omega,hget,hm,h⟩
   rintro ⟨j,t,e1,e2,e3,e4,e5⟩
   by_cases e:j=k
   ·subst e
    rw [hget] at e3; cases e3
    exact .inr ⟨e1,e5⟩
   exact .inl ⟨j,t,e1,by omega,e3,e4,e5⟩
  ·by_cases e:j=k
   ·subst e
    rw [hget] at ht; cases ht
    rw [List.getElem?_set_self (by omega),hm]; rfl
   rw [List.getElem?_set_ne (by omega)]; exact r2 j t (by omega) ht
  rw [List.getElem?_set_ne (by omega)]; exact r3 j (by omega) h2
 ·rintro s ⟨N,R,rfl,n1,n2,n3,r1,r2,r3⟩
  dsimp only
  rw [if_neg (by omega)]
  refine aa.2 (aA.2 ⟨N,R,rfl,⟨n1,fun l hl=>by have:=n2 l hl; omega,fun q l hq i=>?_⟩,r1,fun k t ht=>r2 k t (List.getElem?_eq_some_iff.1 ht).1 ht⟩)
  rw [n3 q l hq]
  constructor
  ·rintro ⟨j,t,e1,e2,e3⟩; exact ⟨j,t,e1,e3⟩
  rintro ⟨j,t,e1,e3,e4⟩; exact ⟨j,t,e1,(List.getElem?_eq_some_iff.1 e3).1,e3,e4⟩
 rintro s ⟨N,R,rfl,h⟩
 exact aa.2 ⟨N,R,rfl,h⟩
end Go.Proofs.Ytmchbhheoieepaa
namespace Go.Proofs.Ytmchbhheoieepaa
open Go Go.Am
structure Eng0 (n:List TPlace×List TTrans) (mine away:List Bool) (e:TEngine):Prop where
 ex:∃ N R,e={ n:={ Places:=n.1,Trans:=n.2 },mine:=mine,near:=N,ready:=R,marks:=n.1.map TPlace.Tokens,wait:={ l:=[] },in_:=none,log:=[],way:=List.replicate n.1.length 0,time:=0,out:=[],away:=away,count:=0 }∧NearOk n.2 mine n.1.length N∧ReadyOk n.2 mine (n.1.map TPlace.Tokens) R
def qh (u:List TLane) (id:Int):List TLane:=u.filter fun x=>decide (x.To=id)
def fY (u:List TLane) (id:Int):List TLane:=u.filter fun x=>decide (x.From=id)
def fg (T:List Int) (id:Int):List Bool:=T.map fun v=>decide (v=id)
def iU (P:List Int) (id:Int):List Bool:=P.map fun v=>!decide (v=id)
def hor (h:Int):Int:=if 1099511627777 < h then 1099511627777 else h
structure Proc0 (n:List TPlace×List TTrans) (p:Int×List Int×List Int) (u:List TLane) (id h:Int) (x:TProcess):Prop where
 ex:∃ e,x={ id:=id,x:=some e,p:={ N:=p.1,Places:=p.2.1,Trans:=p.2.2 },in_:=qh u id,out:=fY u id,clocks:=List.replicate (qh u id).length 0,sent:=List.replicate (fY u id).length 0,horizon:=hor h,began:=false,done:=false }∧Eng0 n (fg p.2.2 id) (iU p.2.1 id) e
theorem zE {n:List TPlace×List TTrans} {p:Int×List Int×List Int} (hn:Few n) (hp:PartOk n p) {id h:Int} (hid:id < 0∨p.1≤id):p14 (n.1,n.2,p.1,p.2.1,p.2.2,id,h)=some (1,none):=by
 have h36:=rG hn hp
 suffices this:Ev (p14 (n.1,n.2,p.1,p.2.1,p.2.2,id,h)) (fun r=>r=(1,none)) by
  obtain ⟨r,h1,rfl⟩:=this
  exact h1
 unfold p14
 dsimp only
 rw [h36]
 refine ae.2 (aa.2 ?_)
 rw [if_neg (by decide)]
 refine ae.2 (Ev.imp (P:=fun x=>x=Sum.inl (id,h,true,n.1,n.2,p.1,p.2.1,p.2.2)) (Ev.ite (fun c=>aa.2 rfl) (fun c=>aa.2 (by rw [decide_eq_true (by omega)]))) ?_)
 rintro x rfl
 dsimp only
 rw [if_pos rfl]
 exact aa.2 rfl
theorem yT {pl:List TPlace} {tr:List TTrans} {N:Int} {P T:List Int} {id h:Int} (hl:T.length≠tr.length):p14 (pl,tr,N,P,T,id,h)=some (1,none):=by
 suffices this:Ev (p14 (pl,tr,N,P,T,id,h)) (fun r=>r=(1,none)) by
  obtain ⟨r,h1,rfl⟩:=this
  exact h1
 unfold p14
 dsimp only
 rw [Ae hl]
 refine ae.2 (aa.2 ?_)
 rw [if_pos (by decide)]
 exact aa.2 rfl
theorem DL {n:List TPlace×List TTrans} {p:Int×List Int×List Int} (hn:NetOk n) (hp:PartOk n p) {id h:Int} (h0:0≤id) (h1:id < p.1):Ev (p14 (n.1,n.2,p.1,p.2.1,p.2.2,id,h)) (fun r=>∃ u x,r=(0,some x)∧p24 (n.1,n.2,p.1,p.2.1,p.2.2)=some u∧LanesOk n p u∧Proc0 n p u id h x):=by
 have hf:=hn.few
 have h36:=rG hf hp
 have h37:=fun m a=>CP hn (mine:=m) (away:=a)
 have h24:=CE hf hp (by have:=hn.outs; omega)
 have hnp:=hn.np; have hnt:=hn.nt; have lp:=hp.lp; have lt:=hp.lt
 obtain ⟨pl,tr⟩:=n
 obtain ⟨N,P,T⟩:=p
 simp only at h36 h37 h24 hnp hnt lp lt h1 ⊢
 unfold p14
 dsimp only
 rw [h36]
 refine ae.2 (aa.2 ?_)
 rw [if_neg (by decide)]
 refine ae.2 (Ev.imp (P:=fun x=>x=Sum.inl (id,h,false,pl,tr,N,P,T)) (Ev.ite (fun c=>absurd c (by omega)) (fun c=>aa.2 (by rw [decide_eq_false (by omega)]))) ?_)
 rintro x rfl
 dsimp only
 rw [if_neg (by decide)]
 refine ae.2 (Ev.mkS (by omega) (by omega) (ae.2 (Ev.mkS (by omega) (by omega) ?_)))
 generalize hX:({ id:=id,x:=none,p:={ N:=N,Places:=P,Trans:=T },in_:=[],out:=[],clocks:=[],sent:=[],horizon:=if 1099511627777 < h then 1099511627777 else h,began:=false,done:=false }:TProcess)=X
 generalize hA:List.replicate ((pl.length:Int)).toNat false=away0
 have la:away0.length=pl.length:=by rw [← hA]; simp
 refine ae.2 (Ev.imp (P:=fun s=>s=(pl,tr,N,P,T,X,fg T id,away0)) (Ev.cnt T.length (fun k s=>∃ m,s=((k:Int),pl,tr,N,P,T,X,m,away0)∧m.length=T.length∧∀ i,i < k→m[i]? = (fg T id)[i]?) ⟨_,rfl,by simp [lt],fun i hi=>by omega⟩ ?_ ?_) ?_)
 ·rintro k s hk ⟨m,rfl,m1,m2⟩
  dsimp only
  rw [if_pos (by omega)]
  refine ae.2 (Ev.idx k rfl hk (ae.2 (Ev.idx k rfl (by omega) (aa.2 (aC.2 ⟨_,by rw [aN (by omega),Int.toNat_natCast],by simpa using m1,fun i hi=>?_⟩)))))
  by_cases e:i=k
  ·subst e
   unfold fg
   rw [List.getElem?_set_self (by omega),List.getElem?_map,List.getElem?_eq_getElem hk]; rfl
  rw [List.getElem?_set_ne (by omega)]; exact m2 i (by omega)
 ·rintro s ⟨m,rfl,m1,m2⟩
  dsimp only
  rw [if_neg (by omega)]
  refine aa.2 (aA.2 ?_)
  have:m=fg T id:=List.ext_getElem? fun i=>by
   by_cases hi:i < T.length
   ·exact m2 i hi
   rw [List.getElem?_eq_none (by omega),List.getElem?_eq_none (by unfold fg; simp; omega)]
  rw [this]
 rintro s rfl
 dsimp only
 refine ae.2 (Ev.imp (P:=fun s=>s=(pl,tr,N,P,T,X,fg T id,iU P id)) (Ev.cnt P.length (fun k s=>∃ m,s=((k:Int),pl,tr,N,P,T,X,fg T id,m)∧m.length=P.length∧∀ i,i < k→m[i]? = (iU P id)[i]?) ⟨_,rfl,by omega,fun i hi=>by omega⟩ ?_ ?_) ?_)
 ·rintro k s hk ⟨m,rfl,m1,m2⟩
  dsimp only
  rw [if_pos (by omega)]
  refine ae.2 (Ev.idx k rfl hk (ae.2 (Ev.idx k rfl (by omega) (aa.2 (aC.2 ⟨_,by rw [aN (by omega),Int.toNat_natCast],by simpa using m1,fun i hi=>?_⟩)))))
  by_cases e:i=k
  ·subst e
   unfold iU
   rw [List.getElem?_set_self (by omega),List.getElem?_map,List.getElem?_eq_getElem hk]; rfl
  rw [List.getElem?_set_ne (by omega)]; exact m2 i (by omega)
 ·rintro s ⟨m,rfl,m1,m2⟩
  dsimp only
  rw [if_neg (by omega)]
  refine aa.2 (aA.2 ?_)
  have:m=iU P id:=List.ext_getElem? fun i=>by
   by_cases hi:i < P.length
   ·exact m2 i hi
   rw [List.getElem?_eq_none (by omega),List.getElem?_eq_none (by unfold iU; simp; omega)]
  rw [this]
 rintro s rfl
 dsimp only
 refine ae.2 ((h37 (fg T id) (iU P id)).imp ?_)
 intro e he
 obtain ⟨u,eu,hu⟩:=h24
 rw [eu]
 refine ae.2 (aa.2 ?_)
 have hul:=hu.len
 refine ae.2 (Ev.imp (P:=fun x=>x=({ id:=X.id,x:=some e,p:=X.p,in_:=qh u id,out:=fY u id,clocks:=List.replicate (qh u id).length 0,sent:=List.replicate (fY u id).length 0,horizon:=X.horizon,began:=X.began,done:=X.done }:TProcess)) (Ev.cnt u.length (fun k s=>s=((k:Int),{ id:=X.id,x:=some e,p:=X.p,in_:=qh (u.take k) id,out:=fY (u.take k) id,clocks:=List.replicate (qh (u.take k) id).length 0,sent:=List.replicate (fY (u.take k) id).length 0,horizon:=X.horizon,began:=X.began,done:=X.done },u)) ?_ ?_ ?_) ?_)
 ·rw [← hX]; rfl
 ·rintro k s hk rfl
  dsimp only
  rw [if_pos (by omega)]
  have li:(qh (u.take k) id).length≤20:=Nat.le_trans (List.length_filter_le _ _) (by rw [List.length_take]; omega)
  have lo:(fY (u.take k) id).length≤20:=Nat.le_trans (List.length_filter_le _ _) (by rw [List.length_take]; omega)
  have si:qh (u.take (k+1)) id=if u[k].To=id then qh (u.take k) id++[u[k]] else qh (u.take k) id:=by
   unfold qh
   rw [List.take_succ_eq_append_getElem hk,List.filter_append]
   by_cases c:u[k].To=id
   ·simp [c]
   simp [c]
  have so:fY (u.take (k+1)) id=if u[k].From=id then fY (u.take k) id++[u[k]] else fY (u.take k) id:=by
   unfold fY
   rw [List.take_succ_eq_append_getElem hk,List.filter_append]
   by_cases c:u[k].From=id
   ·simp [c]
   simp [c]
  refine ae.2 (Ev.idx k rfl hk ?_)
  refine ae.2 (Ev.imp (P:=fun x=>x=Sum.inl ((k:Int),({ id:=X.id,x:=some e,p:=X.p,in_:=qh (u.take (k+1)) id,out:=fY (u.take k) id,clocks:=List.replicate (qh (u.take (k+1)) id).length 0,sent:=List.replicate (fY (u.take k) id).length 0,horizon:=X.horizon,began:=X.began,done:=X.done }:TProcess),u[k],u)) ?_ ?_)
  ·rw [si]
   refine Ev.ite (fun c=>?_) (fun c=>aa.2 (by rw [if_neg c]))
   refine ae.2 (Ev.app (by simp; omega) (ae.2 (Ev.app (by simp; omega) (aa.2 ?_))))
   rw [if_pos c,List.length_append,List.length_singleton,List.replicate_succ']
  rintro x rfl
  dsimp only
  rw [so]
  refine Ev.ite (fun c=>?_) (fun c=>aa.2 (aC.2 (by rw [if_neg c,aN (by omega)])))
  refine ae.2 (Ev.app (by simp; omega) (ae.2 (Ev.app (by simp; omega) (aa.2 (aC.2 ?_)))))
  rw [if_pos c,List.length_append,List.length_singleton,List.replicate_succ',aN (by omega)]
 ·rintro s rfl
  dsimp only
  rw [if_neg (by omega),List.take_length]
  exact aa.2 (aA.2 rfl)
 rintro x rfl
 refine aa.2 ⟨u,_,rfl,rfl,hu,⟨e,?_,⟨he⟩⟩⟩
 rw [← hX]
 rfl
end Go.Proofs.Ytmchbhheoieepaa
namespace Go.Proofs.Ytmchbhheoieepaa
open Go Go.Am
theorem wf8 {n:Int} (h:(Lit.int .u8 n).wf=true):0≤n∧n≤255:=by
 simp only [Lit.wf,Bool.and_eq_true,decide_eq_true_eq] at h
 exact h
theorem Dn {h:Heap}:∀ c,TyC (.agg [(.int .u8),(.int .u8),(.int .u8),(.int .u8),(.int .u8),(.int .u8),(.int .u8)]) h c→∃ x:TAct,(tE.r (.st 14)).R (Frz h) c x∧ActOk x:=by
 intro c ht
 simp only [TyC,TyCs] at ht
 obtain ⟨_,_,rfl,⟨n1,rfl,w1⟩,_,_,rfl,⟨n2,rfl,w2⟩,_,_,rfl,⟨n3,rfl,w3⟩,_,_,rfl,⟨n4,rfl,w4⟩,_,_,rfl,⟨n5,rfl,w5⟩,_,_,rfl,⟨n6,rfl,w6⟩,_,_,rfl,⟨n7,rfl,w7⟩,rfl⟩:=ht
 exact ⟨⟨n1,n2,n3,n4,n5,n6,n7⟩,reR (T:=tE) (t:=.st 14) ⟨[_],_,rfl,rfl,[_],_,rfl,rfl,[_],_,rfl,rfl,[_],_,rfl,rfl,[_],_,rfl,rfl,[_],_,rfl,rfl,[_],_,rfl,rfl,rfl⟩,wf8 w1,wf8 w2,wf8 w3,wf8 w4,wf8 w5,wf8 w6,wf8 w7⟩
theorem vl {h:Heap} {a:AV} (ht:TyA (.agg [(.sl (.int .u8)),(.sl (.agg [(.int .u8),(.int .u8),(.int .u8),(.int .u8),(.int .u8),(.int .u8),(.int .u8)]))]) h a) :
  ∃ (a0 a1:AV) (d:List Int×List TAct),a=.agg [a0,a1]∧SlR (rI .u8) (Bo h fr) a0 d.1∧SlR (tE.r (.st 14)) (Bo h fr) a1 d.2∧DraftIn d:=by
 obtain ⟨cs,rfl,ht⟩:=ht
 simp only [TyCs] at ht
 obtain ⟨_,_,rfl,h1,_,_,rfl,h2,rfl⟩:=ht
 obtain ⟨s0,l0,rfl,k1,k2,_⟩:=ua (r:=rI .u8) (ok:=B8) rfl (fun c hc=>by obtain ⟨n,q1,q2⟩:=vv hc; exact ⟨n,q1,wf8 q2⟩) h1
 obtain ⟨s1,l1,rfl,k3,k4,_⟩:=ua (r:=tE.r (.st 14)) (ok:=ActOk) rfl Dn h2
 exact ⟨s0,s1,⟨l0,l1⟩,rfl,k1.mono fun o cs v hf=>.inl hf,k3.mono fun o cs v hf=>.inl hf,k2,k4⟩
end Go.Proofs.Ytmchbhheoieepaa
namespace Go.Proofs.Ytmchbhheoieepaa
open Go Go.Am
theorem uR:p11 ()=some true:=by kernel_rfl
theorem Ck {tk:List Int} {ac:List TAct}:p12 (tk,ac)=some (decide (tk.length≤60∧ac.length≤12)):=by
 unfold p12
 dsimp only
 by_cases h:tk.length≤60
 ·rw [if_pos (by omega)]
  congr 1
  rw [Bool.eq_iff_iff]
  simp only [decide_eq_true_eq]
  omega
 rw [if_neg (by omega),decide_eq_false (by omega)]
theorem xB {tk:List Int} {ac:List TAct} {id c:Int} {m1 m2 m3 m4 m5:Int} (hd:DraftIn (tk,ac)) (hc:B8 c):p5 (tk,ac,id,c,m1,m2,m3,m4,m5)=some true:=by
 suffices this:Ev (p5 (tk,ac,id,c,m1,m2,m3,m4,m5)) (fun r=>r=true) by
  obtain ⟨r,h1,rfl⟩:=this
  exact h1
 unfold p5
 dsimp only
 rw [uR,Ck]
 refine ae.2 (Ev.imp (P:=fun x=>x=Sum.inl (id,c,!decide (tk.length≤60∧ac.length≤12),tk,ac,({ From:=m1,To:=m2,E:={ Time:=m3,Place:=m4,N:=m5 } }:TMail))) ?_ ?_)
 ·refine ae.2 (aa.2 ?_)
  rw [if_neg (by decide)]
  exact ae.2 (aa.2 (aa.2 rfl))
 rintro x rfl
 dsimp only
 refine Ev.ite (fun h=>ae.2 (aa.2 (aa.2 rfl))) (fun h=>?_)
 have hf:tk.length≤60∧ac.length≤12:=by simpa using h
 refine ae.2 ((BK hd hf.1 hf.2).imp ?_)
 intro n hn
 refine ae.2 ((Da hn.few hc (by':=[]) (fun v h=>by cases h)).imp ?_)
 rintro p ⟨c1,c5,hp⟩
  -- the process
 have key:Ev (p14 (n.1,n.2,p.1,p.2.1,p.2.2,id,5)) (fun r=>decide (r.1=0)=decide (0≤id∧id < p.1)∧(¬ (0≤id∧id < p.1)→r=(1,none))):=by
  by_cases hid:0≤id∧id < p.1
  ·refine (DL hn hp hid.1 hid.2).imp ?_
   rintro r ⟨u,x,rfl,_,_,_⟩
   exact ⟨by rw [decide_eq_true hid]; rfl,fun h=>absurd hid h⟩
  refine Ev.of (zE hn.few hp (by omega)) ⟨by rw [decide_eq_false hid]; rfl,fun _=>rfl⟩
 refine ae.2 (key.imp ?_)
 rintro ⟨e,x⟩ ⟨k1,k2⟩
 simp only at k1
 dsimp only
 refine ae.2 (Ev.imp (P:=fun y=>y=Sum.inl (id,e,decide (0≤id∧id < p.1),({ From:=m1,To:=m2,E:={ Time:=m3,Place:=m4,N:=m5 } }:TMail),n.1,n.2,p.1,p.2.1,p.2.2,x)) ?_ ?_)
 ·refine Ev.ite (fun h0=>aa.2 ?_) (fun h0=>aa.2 (by rw [decide_eq_false (by omega)]))
  by_cases h1:id < p.1
  ·rw [decide_eq_true h1,decide_eq_true ⟨h0,h1⟩]
  rw [decide_eq_false h1,decide_eq_false (by omega)]
 rintro y rfl
 dsimp only
 have lt:=hp.lt; have nt:=hn.nt
 refine ae.2 (Ev.app (by simp; omega) (ae.2 (Ev.app (by simp; omega) ?_)))
 rw [yT (by simp; omega)]
 refine ae.2 (aa.2 ?_)
 refine ae.2 (aa.2 ?_)
 have e30:iM ()=some 0:=rfl
 have e31:gp ()=some 0:=rfl
 have e29:eM ()=some ():=rfl
 have e32:fS ()=some ():=rfl
 have e33:gr ()=some 0:=rfl
 rw [e30]
 refine ae.2 (aa.2 ?_)
 rw [if_pos (by simp only [k1,beq_self_eq_true])]
 rw [e31,e29,e32,e33]
 have fin:Ev ((some (0:Int)).bind fun (n13:Int)=>if n13=0 then (some ()).bind fun (x14:Unit)=>if (0:Int)=0 then (some ()).bind fun (x15:Unit)=>(some (0:Int)).bind fun (n16:Int)=>some (decide (((0:Nat):Int)=0)) else some false else some false) (fun r=>r=true):=by
  refine ae.2 (aa.2 ?_)
  rw [if_pos rfl]
  refine ae.2 (aa.2 ?_)
  rw [if_pos rfl]
  exact ae.2 (aa.2 (ae.2 (aa.2 (aa.2 rfl))))
 refine Ev.ite (fun h=>?_) (fun h=>?_)
 ·exact Ev.ite (fun _=>Ev.ite (fun _=>fin) (fun h=>absurd rfl h)) (fun h=>absurd rfl h)
 have hid:¬ (0≤id∧id < p.1):=by simpa using h
 have:=k2 hid
 cases this
 exact Ev.ite (fun _=>Ev.ite (fun _=>Ev.ite (fun _=>Ev.ite (fun _=>fin) (fun h=>absurd rfl h)) (fun h=>absurd rfl h)) (fun h=>absurd rfl h)) (fun h=>absurd rfl h)
theorem law_processErrs:∀ h xs,uH [(.agg [(.sl (.int .u8)),(.sl (.agg [(.int .u8),(.int .u8),(.int .u8),(.int .u8),(.int .u8),(.int .u8),(.int .u8)]))]),(.int .i64),(.int .u8),(.agg [(.int .i64),(.int .i64),(.agg [(.int .i64),(.int .i64),(.int .i64)])])] h xs→dx F 5 xs h fun v _=>v=.bool true:=by
 intro h xs ht
 obtain ⟨_,_,rfl,t0,_,_,rfl,⟨n1,e1,w1⟩,_,_,rfl,⟨n2,e2,w2⟩,_,_,rfl,t3,h4⟩:=ht
 simp only [uH] at h4
 subst h4
 cases e1
 cases e2
 obtain ⟨a0,a1,d,rfl,k0,k1,hd⟩:=vl t0
 obtain ⟨cs,rfl,t3⟩:=t3
 simp only [TyCs,TyC] at t3
 obtain ⟨_,_,rfl,⟨m1,rfl,_⟩,_,_,rfl,⟨m2,rfl,_⟩,_,_,rfl,⟨_,_,rfl,⟨m3,rfl,_⟩,_,_,rfl,⟨m4,rfl,_⟩,_,_,rfl,⟨m5,rfl,_⟩,rfl⟩,rfl⟩:=t3
 exact law_bool o5 (x:=(d.1,d.2,n1,n2,m1,m2,m3,m4,m5,())) (xB hd (wf8 w2)) rfl (Fz.refl h) (am:=fun _=>.nilPtr)
  ⟨a0,iE k0.is,⟨a0,rfl,k0⟩,a1,iE k1.is,⟨a1,rfl,k1⟩,rfl,_,rfl,rfl,⟨_,rfl,rfl⟩,_,rfl,rfl,⟨_,rfl,rfl⟩,_,rfl,rfl,_,rfl,rfl,_,rfl,rfl,_,rfl,rfl,_,rfl,rfl,rfl,rfl⟩
end Go.Proofs.Ytmchbhheoieepaa
