/- Parts of a heap, what they stand for, and what each operation makes of them. No condition. Own work. -/
import Derived.Test.YtmchbhheoieepaaPm1ProcessErrs
import Derived.Test.YtmchbhheoieepaaAm7ProcessErrs
import Derived.IntWalk
set_option linter.unusedSimpArgs false
set_option linter.unusedVariables false
namespace Go.Am
open Go
def JZ (s:List UInt8) (c:Int):Int:=Go.Lib.indexByte s c.toNat.toUInt8
def JX (s:List UInt8) (c:Int):Int:=((Go.Lib.countByte s c.toNat.toUInt8:Nat):Int)
def Ee (s:List UInt8) (i:Int):Option Int:=if 0≤i then match s[i.toNat]? with
 | some b=>some (b.toNat:Int)
 | none=>none else none
theorem xS {s:List UInt8} {i n:Int} {k:IntKind} (h:Ee s i=some n):POp.ev .indexStr [.str s,.int k i]=some (.int .u8 n):=by
 unfold Ee at h
 simp only [POp.ev]
 split at h
 ·rename_i h0
  rw [if_pos h0]
  split at h
  ·rename_i b hb; cases h; rw [hb]
  cases h
 cases h
theorem lM {s q:List UInt8} {k k':IntKind} {lo hi:Int} (h:slc s lo hi=some q):POp.ev (.sliceStr true true) [.str s,.int k lo,.int k' hi]=some (.str q):=by
 obtain ⟨h1,h2,h3,rfl⟩:=cv h
 simp only [POp.ev,cL,cq,ce,if_pos h1,if_pos (Int.le_trans h1 h2)]
 rw [if_pos (by omega)]
theorem kF {s q:List UInt8} {k:IntKind} {hi:Int} (h:slc s 0 hi=some q):POp.ev (.sliceStr false true) [.str s,.int k hi]=some (.str q):=by
 obtain ⟨h1,h2,h3,rfl⟩:=cv h
 simp only [POp.ev,cL,cq,ce,if_pos h2]
 rw [if_pos (by omega)]; rfl
theorem kG {s q:List UInt8} {k:IntKind} {lo:Int} (h:slc s lo (s.length:Int)=some q):POp.ev (.sliceStr true false) [.str s,.int k lo]=some (.str q):=by
 obtain ⟨h1,h2,h3,rfl⟩:=cv h
 simp only [POp.ev,cL,cq,ce,if_pos h1]
 rw [if_pos (by omega)]; rfl
theorem lq {s q:List UInt8} (h:slc s 0 (s.length:Int)=some q):POp.ev (.sliceStr false false) [.str s]=some (.str q):=by
 obtain ⟨h1,h2,h3,rfl⟩:=cv h
 simp only [POp.ev,cL,cq,ce]
 rw [if_pos (by omega)]; rfl
def Gm (s:List UInt8):Option (List Int):=if s.length≤aE then some (s.map fun b=>(b.toNat:Int)) else none
def JT (s:List UInt8):List Int:=s.map fun b=>(b.toNat:Int)
theorem St.byteConv {g h:Heap} {M:Nat→Prop} {Γ:List Ch} {α:Type} {r:ORep α} {s:AV} {l:List α} (S:St g M Γ h) (hm:own (oSl r) [s] l∈Γ) (hn:s.slen≠0):EOp.ev .byteConv [s] h=some (s,h):=by
 obtain ⟨fp,s',e,a⟩:=S.mem hm
 cases e
 rcases a with ⟨rfl,_,_⟩ | ⟨o,v,off,row,els,fps,rfl,hg,_⟩
 ·exact absurd rfl hn
 simp only [EOp.ev,hg]
 rw [if_pos ⟨trivial,hn⟩]
def mK (s:List UInt8) (p:Nat):Int:=(Utf8.decode ⟨s.toArray⟩ p).1
def we (s:List UInt8) (p:Nat):Nat:=p+(Utf8.decode ⟨s.toArray⟩ p).2
theorem St.next {g h:Heap} {M:Nat→Prop} {Γ:List Ch} {o pos:Nat} {s:List UInt8} (S:St g M (itC o s pos::Γ) h) (hp:pos < s.length) :
  ∃ h',EOp.ev .nextStr [.iter o] h=some (.tuple [.bool true,.int .i64 (pos:Int),.int .i32 (mK s pos)],h')∧St g M (itC o s (we s pos)::Γ) h':=by
 obtain ⟨fp,⟨rfl,hg⟩,k⟩:=S.turn1
 refine ⟨h.set o (.iter s (pos+(Utf8.decode ⟨s.toArray⟩ pos).2)),?_,k _ (itC o s (pos+(Utf8.decode ⟨s.toArray⟩ pos).2)) [o] ?_ (Nat.le_refl _) ?_ ⟨rfl,?_⟩ (fun p hp=>.inl hp)⟩
 ·simp only [EOp.ev,hg]
  rw [if_pos hp]
  rfl
 ·intro p c u hp
  have hp:h.get p=_:=hp
  show (h.set _ _).get p=_
  have:p≠o:=fun e=>by rw [e,hg] at hp; cases hp
  rw [aJ hg this]; exact hp
 ·intro p y hp hy
  rw [List.mem_singleton] at hp
  rw [aJ hg hp]; exact hy
 rw [cp hg]
end Go.Am
namespace Go.Am
open Go
structure KE (κ:Type) where
 f:κ→AV
 eq:κ→κ→Bool
 q:Nat
 ok:∀ k,iy q (f k)=true
 eqk:∀ a b,mh (f a) (f b)=some (eq a b)
 iff:∀ a b,eq a b=true↔a=b
def keS:KE (List UInt8):=⟨AV.str,fun a b=>a==b,2,fun _=>rfl,fun _ _=>rfl,fun a b=>by simp⟩
def keI (k:IntKind):KE Int:=⟨AV.int k,fun a b=>decide (a=b),1,fun _=>rfl,fun a b=>by simp [mh],fun a b=>by simp⟩
def qp {κ β:Type} (e:KE κ):List (κ×β)→κ→Option β
 | [],_=>none
 | x::m,k=>if e.eq k x.1=true then some x.2 else qp e m k
def lP {κ β:Type} (e:KE κ):List (κ×β)→κ→β→List (κ×β)
 | [],k,v=>[(k,v)]
 | x::m,k,v=>if e.eq k x.1=true then (k,v)::m else x::lP e m k v
def oA {κ β:Type} (e:KE κ) (ve:β→AV) (m:List (κ×β)):List (AV×AV):=m.map fun x=>(e.f x.1,ve x.2)
theorem fZ {κ β:Type} (e:KE κ) (ve:β→AV) (k:κ):∀ m:List (κ×β),i8 (e.f k) (oA e ve m)=some ((qp e m k).map ve)
 | []=>rfl
 | x::m=>by
  have ih:=fZ e ve k m
  simp only [oA,List.map_cons,i8,e.eqk] at ih ⊢
  unfold qp
  by_cases h:e.eq k x.1=true
  ·rw [if_pos h,h]; rfl
  rw [if_neg h]
  have h':e.eq k x.1=false:=by simpa using h
  rw [h']
  exact ih
theorem mU {κ β:Type} (e:KE κ) (ve:β→AV) (k:κ) (v:β):∀ m:List (κ×β),qR (e.f k) (ve v) (oA e ve m)=some (oA e ve (lP e m k v))
 | []=>rfl
 | x::m=>by
  have ih:=mU e ve k v m
  simp only [oA,List.map_cons,qR,e.eqk] at ih ⊢
  unfold lP
  by_cases h:e.eq k x.1=true
  ·rw [if_pos h,h]; rfl
  rw [if_neg h]
  have h':e.eq k x.1=false:=by simpa using h
  rw [h']
  simp only [ih,List.map_cons]
def AV.isMap:AV→Bool
 | .map _=>true
 | _=>false
def IJ (α:Type):Rep α:=⟨1,fun _ cs _=>∃ s,cs=[s]∧s.isMap=true,(by rintro _ _ _ ⟨s,rfl,_⟩; rfl),fun _ h=>h⟩
def ll {κ β:Type} (e:KE κ) (ve:β→AV):ORep (List (κ×β)) where
 rep:=IJ _
 O h cs m fp:=∃ o,cs=[.map o]∧h.get o=some (.map (oA e ve m))∧fp=[o]
 nd:=by rintro _ _ _ _ ⟨o,_,_,rfl⟩; simp
 bd:=by rintro _ _ _ _ ⟨o,_,hg,rfl⟩ p hp; rw [List.mem_singleton] at hp; subst hp; exact ⟨_,hg⟩
 stay:=by rintro h h' cs m fp ⟨o,e1,hg,rfl⟩ hs hz; exact ⟨o,e1,by rw [hs o (by simp)]; exact hg,rfl⟩
 snap:=by rintro _ _ _ _ ⟨o,rfl,_,_⟩; exact ⟨_,rfl,rfl⟩
 frz:=by rintro h _ _ _ ⟨o,rfl,_,_⟩; exact ⟨h,Fz.refl _,fun _ _=>rfl,_,rfl,rfl⟩
theorem St.pushM {g h:Heap} {M:Nat→Prop} {Γ:List Ch} {κ β:Type} (S:St g M Γ h) (e:KE κ) (ve:β→AV):St g M (own (ll e ve) [.map h.n] []::Γ) (h.push (.map [])):=
 S.new (c:=own (ll e ve) [.map h.n] []) (fp:=[h.n]) ⟨_,rfl,kA h _,rfl⟩ (by simp)
theorem St.mp {g h:Heap} {M:Nat→Prop} {Γ:List Ch} (S:St g M Γ h) {κ β:Type} {e:KE κ} {ve:β→AV} {s:AV} {m:List (κ×β)} (hm:own (ll e ve) [s] m∈Γ):s.isMap=true:=by
 obtain ⟨fp,o,h1,_⟩:=S.mem hm
 cases h1; rfl
theorem St.look1 {g h:Heap} {M:Nat→Prop} {Γ:List Ch} (S:St g M Γ h) {κ β:Type} {e:KE κ} {ve:β→AV} {s:AV} {m:List (κ×β)} (hm:own (ll e ve) [s] m∈Γ) (k:κ) (z:β) :
  ROp.ev (.lookup e.q false (ve z)) [s,e.f k] h=some (ve ((qp e m k).getD z)):=by
 obtain ⟨fp,o,h1,hg,_⟩:=S.mem hm
 cases h1
 simp only [ROp.ev,hg,e.ok,fZ]
 cases qp e m k<;>rfl
theorem St.look2 {g h:Heap} {M:Nat→Prop} {Γ:List Ch} (S:St g M Γ h) {κ β:Type} {e:KE κ} {ve:β→AV} {s:AV} {m:List (κ×β)} (hm:own (ll e ve) [s] m∈Γ) (k:κ) (z:β) :
  ROp.ev (.lookup e.q true (ve z)) [s,e.f k] h=some (.tuple [ve ((qp e m k).getD z),.bool (qp e m k).isSome]):=by
 obtain ⟨fp,o,h1,hg,_⟩:=S.mem hm
 cases h1
 simp only [ROp.ev,hg,e.ok,fZ]
 cases qp e m k<;>rfl
theorem St.setM {g h:Heap} {M:Nat→Prop} {Γ:List Ch} {κ β:Type} {e:KE κ} {ve:β→AV} {s:AV} {m:List (κ×β)} (S:St g M (own (ll e ve) [s] m::Γ) h) (k:κ) (v:β) :
  ∃ h',EOp.ev (.mapSet e.q) [s,e.f k,ve v] h=some (.undef,h')∧St g M (own (ll e ve) [s] (lP e m k v)::Γ) h':=by
 obtain ⟨fp,⟨o,h1,hg,rfl⟩,kk⟩:=S.turn1
 cases h1
 refine ⟨h.set o (.map (oA e ve (lP e m k v))),?_,kk _ (own (ll e ve) [.map o] (lP e m k v)) [o] ?_ (Nat.le_refl _) ?_ ⟨o,rfl,?_,rfl⟩ (fun p hp=>.inl hp)⟩
 ·simp only [EOp.ev,hg,e.ok,mU,if_pos]
 ·intro p c u hp
  have hp:h.get p=_:=hp
  show (h.set _ _).get p=_
  have:p≠o:=fun e=>by rw [e,hg] at hp; cases hp
  rw [aJ hg this]; exact hp
 ·intro p y hp hy
  rw [List.mem_singleton] at hp
  rw [aJ hg hp]; exact hy
 rw [cp hg]
theorem BS {h:Heap} {p y:AV} (e:h.rd1 p=some y):ROp.ev .load1 [p] h=some y:=e
theorem Ab {α:Type} {l:List α} {i:Int} {x y:α} (h:idx l i=some x):idx (l.set i.toNat y) i=some y:=by
 obtain ⟨h0,h1⟩:=bL h
 unfold idx
 rw [if_pos h0]
 have:=(List.getElem?_eq_some_iff.1 h1).1
 rw [List.getElem?_set]
 simp [this]
theorem St.cast1 {g:Heap} {M:Nat→Prop} {Γ:List Ch} {h:Heap} {c c':Ch} (S:St g M (c::Γ) h) (e:c=c'):St g M (c'::Γ) h:=e▸S
theorem m0 {α:Type} {x0:α} {l:List α}:x0∈x0::l:=.head _
theorem m1 {α:Type} {x0 x1:α} {l:List α}:x1∈x0::x1::l:=.tail _ (.head _)
theorem m2 {α:Type} {x0 x1 x2:α} {l:List α}:x2∈x0::x1::x2::l:=.tail _ (.tail _ (.head _))
theorem m3 {α:Type} {x0 x1 x2 x3:α} {l:List α}:x3∈x0::x1::x2::x3::l:=.tail _ (.tail _ (.tail _ (.head _)))
theorem m4 {α:Type} {x0 x1 x2 x3 x4:α} {l:List α}:x4∈x0::x1::x2::x3::x4::l:=.tail _ (.tail _ (.tail _ (.tail _ (.head _))))
theorem m5 {α:Type} {x0 x1 x2 x3 x4 x5:α} {l:List α}:x5∈x0::x1::x2::x3::x4::x5::l:=.tail _ (.tail _ (.tail _ (.tail _ (.tail _ (.head _)))))
theorem xJ {h:Heap} {Γ Γ':List Ch} (p:Γ.Perm Γ'):∀ {fps:List (List Nat)},Cs h Γ fps→∃ fps',Cs h Γ' fps'∧fps.Perm fps':=by
 induction p with
 | nil=>intro fps hc; exact ⟨fps,hc,List.Perm.refl _⟩
 | cons x _ ih=>
  intro fps hc
  cases hc with
  | cons a t=>
   obtain ⟨f,h1,h2⟩:=ih t
   exact ⟨_::f,.cons a h1,h2.cons _⟩
 | swap x y l=>
  intro fps hc
  cases hc with
  | cons a t=>cases t with
   | cons b t=>exact ⟨_::_::_,.cons b (.cons a t),List.Perm.swap _ _ _⟩
 | trans _ _ ih1 ih2=>
  intro fps hc
  obtain ⟨f,h1,h2⟩:=ih1 hc
  obtain ⟨f',h3,h4⟩:=ih2 h1
  exact ⟨f',h3,h2.trans h4⟩
theorem St.perm {g h:Heap} {M:Nat→Prop} {Γ Γ':List Ch} (S:St g M Γ h) (p:Γ.Perm Γ'):St g M Γ' h:=by
 obtain ⟨fps,h1,h2,h3⟩:=S.ex
 obtain ⟨f,h4,h5⟩:=xJ p h1
 exact ⟨S.hz,S.n,S.old,f,h4,(h5.pairwise_iff (fun hab=>Dj.symm hab)).1 h2,fun q hq o ho=>h3 q (h5.mem_iff.2 hq) o ho⟩
theorem nl {a b:Nat} (h:Nat.ble a b=true):a≤b:=Nat.le_of_ble_eq_true h
theorem oi {α:Type} {a b:α} (h:some a=some b):a=b:=Option.some.inj h
theorem ifT {c:Bool} {α:Type} {a b:α} (h:c=true):(if c=true then a else b)=a:=if_pos h
theorem ifF {c:Bool} {α:Type} {a b:α} (h:c=false):(if c=true then a else b)=b:=if_neg (by rw [h]; exact Bool.false_ne_true)
theorem ifD {p:Prop} [Decidable p] {α:Type} {a b:α} (h:decide p=true):(if p then a else b)=a:=if_pos (of_decide_eq_true h)
theorem ifE {p:Prop} [Decidable p] {α:Type} {a b:α} (h:decide p=false):(if p then a else b)=b:=if_neg (of_decide_eq_false h)
theorem qC {α:Type} {r:Rep α} {G:Hp} {h:Heap} {s:AV} {l:List α} {i n:Int} {x:α} {P:Prop} (a:SlR r G s l) (hG:Hp.le G (dX h)) (hi:idx l i=some x) (k:(s.at (i.toNat * r.z)).isPtr=true→P) (hn:n=(s.slen:Int)∨n=(l.length:Int):=by first | exact .inl rfl | exact .inr rfl):ifP s.isSlice (0≤i∧i < n∧P):=by
 obtain ⟨q,q0,q1⟩:=SlR.ix a hi
 refine iI.2 ⟨q,q0,?_,k (SlR.idx a hG hi).1⟩
 rcases hn with rfl | rfl
 ·exact q1
 exact (vY hi).2
end Go.Am
namespace Go.Am
open Go
def wr {β:Type}:List β→Nat→Nat→β→List β
 | l,_,0,_=>l
 | l,lo,n+1,x=>wr (l.set lo x) (lo+1) n x
theorem lV {β:Type}:∀ (n:Nat) (l:List β) (lo:Nat) (x:β),(wr l lo n x).length=l.length
 | 0,l,lo,x=>rfl
 | n+1,l,lo,x=>by unfold wr; rw [lV n]; simp
theorem qE {row a b:List AV} {p:Nat} (h:p+a.length+b.length≤row.length):splice (splice row p a) (p+a.length) b=splice row p (a++b):=by
 unfold splice
 have h1:(row.take p).length=p:=by simp; omega
 have h2:(row.take p++(a++row.drop (p+a.length))).take (p+a.length)=row.take p++a:=by
  rw [← List.append_assoc,List.take_left']
  simp; omega
 have h3:(row.take p++(a++row.drop (p+a.length))).drop (p+a.length+b.length)=row.drop (p+(a++b).length):=by
  rw [← List.append_assoc,← List.drop_drop,List.drop_left',List.drop_drop,List.length_append,Nat.add_assoc]
  simp; omega
 rw [h2,h3]
 simp
theorem wB {z:Nat} {z0:List AV} (hz0:z0.length=z) {off N:Nat}:∀ (n lo:Nat) (row:List AV) (els:List (List AV)),(∀ d,d∈els→d.length=z)→els.length=N→els.flatten=(row.drop off).take (N * z)→off+N * z≤row.length→lo+n≤N→
  (wr els lo n z0).flatten=((splice row (off+lo * z) (d7 z0 n)).drop off).take (N * z)∧(splice row (off+lo * z) (d7 z0 n)).length=row.length
 | 0,lo,row,els,hz,hlen,hl,hr,hn=>by
  have:splice row (off+lo * z) (d7 z0 0)=row:=by unfold splice d7; simp
  rw [this]
  exact ⟨hl,rfl⟩
 | n+1,lo,row,els,hz,hlen,hl,hr,hn=>by
  have hlt:lo < els.length:=by omega
  have hc:els[lo]? = some els[lo]:=List.getElem?_eq_getElem hlt
  have hcl:=hz _ (List.getElem_mem hlt)
  obtain ⟨q1,q2⟩:=jy hz hlen hl hr (i:=lo) (by omega) hc (k:=0) (cs:=z0) (by omega)
  have e1:splice els[lo] 0 z0=z0:=by
   unfold splice
   rw [List.take_zero,List.nil_append,Nat.zero_add,List.drop_eq_nil_of_le (by omega),List.append_nil]
  rw [e1,Nat.add_zero] at q1
  rw [Nat.add_zero] at q2
  have hm:lo * z+z+n * z≤N * z:=by rw [← Nat.succ_mul,← Nat.add_mul]; exact Nat.mul_le_mul_right _ (by omega)
  obtain ⟨r1,r2⟩:=wB hz0 n (lo+1) (splice row (off+lo * z) z0) (els.set lo z0) (fun d hd=>by
   rcases List.mem_or_eq_of_mem_set hd with hd | rfl
   ·exact hz d hd
   exact hz0) (by simpa using hlen) q1 (by rw [q2]; exact hr) (by omega)
  have e2:splice (splice row (off+lo * z) z0) (off+(lo+1) * z) (d7 z0 n)=splice row (off+lo * z) (d7 z0 (n+1)):=by
   have:=qE (row:=row) (a:=z0) (b:=d7 z0 n) (p:=off+lo * z) (by rw [be,hz0]; omega)
   rw [hz0] at this
   rw [show off+(lo+1) * z=off+lo * z+z by rw [Nat.succ_mul]; omega,this]
   rfl
  rw [e2] at r1 r2
  exact ⟨r1,by rw [r2,q2]⟩
theorem All3.wr_fz {α:Type} {r:Rep α} {h:Heap} {z0:List AV} {x:α} (hx:r.R (Frz h) z0 x):∀ (n lo:Nat) {els:List (List AV)} {l:List α} {fps:List (List Nat)},All3 ((fz r).O h) els l fps→All3 ((fz r).O h) (wr els lo n z0) (wr l lo n x) fps
 | 0,lo,els,l,fps,a=>a
 | n+1,lo,els,l,fps,a=>All3.wr_fz hx n (lo+1) (a.set_fz lo hx)
theorem St.clearE {g h:Heap} {M:Nat→Prop} {Γ:List Ch} {α:Type} {r:Rep α} {s:AV} {l:List α} (S:St g M (own (oSl (fz r)) [s] l::Γ) h) {lo hi:Nat} (h1:lo < hi) (h2:hi≤l.length) {z0:List AV} {x0:α} (hz0:z0.length=r.z) (hx:∀ G,r.R G z0 x0) :
  ∃ h',EOp.ev (.clear z0) [s.sub r.z lo hi] h=some (.tuple [],h')∧St g M (own (oSl (fz r)) [s] (wr l lo (hi - lo) x0)::Γ) h':=by
 obtain ⟨fp,⟨s',e,a⟩,kk⟩:=S.turn1
 cases e
 rcases a with ⟨rfl,rfl,_⟩ | ⟨o,v,off,row,els,fps,rfl,hg,h3,h4,h5,rfl,h7⟩
 ·simp at h2; omega
 have hz:=dE h5
 have h3':off+l.length * r.z≤row.length:=h3
 obtain ⟨q1,q2⟩:=wB (z:=r.z) hz0 (off:=off) (N:=l.length) (hi - lo) lo row els hz h5.lens.1 h4 h3 (by omega)
 have hm:lo * r.z+(hi - lo) * r.z≤l.length * r.z:=by rw [← Nat.add_mul]; exact Nat.mul_le_mul_right _ (by omega)
 have hst:EOp.ev (.clear z0) [(AV.slice o v off l.length r.z).sub r.z lo hi] h=some (.tuple [],h.set o (.row (splice row (off+lo * r.z) (d7 z0 (hi - lo))) v true)):=by
  simp only [AV.sub,EOp.ev,hg]
  rw [if_pos ⟨trivial,by rw [hz0]; omega,trivial,by omega,hz0⟩]
 have hHZ:HZ h (h.set o (.row (splice row (off+lo * r.z) (d7 z0 (hi - lo))) v true)):=by
  intro p cc u hp
  have hp:h.get p=_:=hp
  show (h.set _ _).get p=_
  have:p≠o:=fun e=>by rw [e,hg] at hp; cases hp
  rw [aJ hg this]; exact hp
 have hn:=List.nodup_cons.1 h7
 refine ⟨_,hst,kk _ (own (oSl (fz r)) [_] _) (o::fps.flatten) hHZ (Nat.le_refl _) ?_ ⟨_,rfl,.inr ⟨o,v,off,_,wr els lo (hi - lo) z0,fps,?_,cp hg,?_,?_,?_,rfl,h7⟩⟩ (fun p hp=>.inl hp)⟩
 ·intro p w hp hw
  rw [List.mem_cons,not_or] at hp
  rw [aJ hg hp.1]; exact hw
 ·rw [lV]
 ·rw [lV,q2]; exact h3
 ·rw [lV]; exact q1
 refine All3.stay (h:=h) (All3.wr_fz (hx _) _ _ h5) (fun p hp=>?_) hHZ
 exact aJ hg (fun e=>hn.1 (by rw [← e]; exact hp))
def neL {α:Type} (l:List α):Option Unit:=if l.isEmpty=true then none else some ()
theorem St.clearV {g h:Heap} {M:Nat→Prop} {Γ:List Ch} {α:Type} {r:Rep α} {s:AV} {l n:List α} (S:St g M (own (oSl (fz r)) [s] l::Γ) h) {lo hi:Int} (hs:slc l lo hi=some n) {u:Unit} (hu:neL n=some u) {z:Nat} {z0:List AV} {x0:α} (hz:r.z=z) (hz0:z0.length=z) (hx:∀ G,r.R G z0 x0) :
  ∃ h',EOp.ev (.clear z0) [s.sub z lo.toNat hi.toNat] h=some (.tuple [],h')∧St g M (own (oSl (fz r)) [s] (wr l lo.toNat (hi.toNat - lo.toNat) x0)::Γ) h':=by
 obtain ⟨h0,h1,h2,rfl⟩:=cv hs
 subst hz
 have hne:lo.toNat < hi.toNat:=by
  rcases Nat.lt_or_ge lo.toNat hi.toNat with h | h
  ·exact h
  exfalso
  have:((l.take hi.toNat).drop lo.toNat)=[]:=List.drop_eq_nil_of_le (by simp; omega)
  rw [this] at hu
  cases hu
 exact St.clearE S hne (by omega) hz0 hx
end Go.Am
namespace Go.Am
open Go
end Go.Am
namespace Go.Am
open Go
def cpl {β:Type} (l:List β) (lo hi:Nat) (m:List β):List β:=l.take lo++(m.take (hi - lo)++l.drop (lo+(m.take (hi - lo)).length))
theorem All2.append' {α β:Type} {P:α→β→Prop}:∀ {l:List α} {m:List β} {l':List α} {m':List β},All2 P l m→All2 P l' m'→All2 P (l++l') (m++m')
 | _,_,_,_,.nil,k=>k
 | _,_,_,_,.cons h t,k=>.cons h (All2.append' t k)
end Go.Am
namespace Go.Am
open Go
def IfR {α:Type} (t:Nat) (r:Rep α) (G:Hp) (c:AV) (x:Option α):Prop:=(c=.nilIface∧x=none)∨∃ p,c=.iface t p∧PtR r G p x
def Ji {α:Type} (t:Nat) (r:Rep α):Rep (Option α):=⟨1,fun G cs x=>∃ c,cs=[c]∧IfR t r G c x,(by rintro _ _ _ ⟨c,rfl,_⟩; rfl),fun hG ⟨c,e,a⟩=>⟨c,e,by
 rcases a with a | ⟨p,h1,h3⟩
 ·exact .inl a
 exact .inr ⟨p,h1,h3.mono hG⟩⟩⟩
def Bn {α:Type} (t:Nat) (r:ORep α):ORep (Option α) where
 rep:=Ji t r.rep
 O h cs x fp:=(cs=[.nilIface]∧x=none∧fp=[])∨∃ p,cs=[.iface t p]∧(m9 r).O h [p] x fp
 nd:=by
  rintro _ _ _ _ (⟨_,_,rfl⟩ | ⟨p,_,h⟩)
  ·simp
  exact (m9 r).nd h
 bd:=by
  rintro _ _ _ _ (⟨_,_,rfl⟩ | ⟨p,_,h⟩) q hq
  ·cases hq
  exact (m9 r).bd h q hq
 stay:=by
  rintro _ _ _ _ _ (a | ⟨p,e,h⟩) hs hz
  ·exact .inl a
  exact .inr ⟨p,e,(m9 r).stay h hs hz⟩
 snap:=by
  rintro _ _ _ _ (⟨rfl,rfl,_⟩ | ⟨p,rfl,h⟩)
  ·exact ⟨_,rfl,.inl ⟨rfl,rfl⟩⟩
  exact ⟨_,rfl,.inr ⟨p,rfl,cP ((m9 r).snap h)⟩⟩
 frz:=by
  rintro h _ _ _ (⟨rfl,rfl,rfl⟩ | ⟨p,rfl,hO⟩)
  ·exact ⟨h,Fz.refl _,fun _ _=>rfl,_,rfl,.inl ⟨rfl,rfl⟩⟩
  obtain ⟨h',k1,k2,k3⟩:=(m9 r).frz hO
  exact ⟨h',k1,k2,_,rfl,.inr ⟨p,rfl,cP k3⟩⟩
theorem vE {α:Type} (t:Nat) (r:ORep α) (h:Heap):(own (Bn t r) [.nilIface] none).P h []:=.inl ⟨rfl,rfl,rfl⟩
theorem St.ifcOpen {g h:Heap} {M:Nat→Prop} {Γ:List Ch} {α:Type} {t:Nat} {r:ORep α} {c:AV} {q:Option α} {b:α} (e:q=some b) (S:St g M (own (Bn t r) [c] q::Γ) h):∃ a,c=.iface t a∧St g M (own (m9 r) [a] (some b)::Γ) h:=by
 subst e
 obtain ⟨fp,hO,k⟩:=S.turn1
 rcases hO with ⟨_,e,_⟩ | ⟨p,e,hO⟩
 ·cases e
 cases e
 exact ⟨p,rfl,k h (own (m9 r) [p] (some b)) fp (HZ.refl _) (Nat.le_refl _) (fun _ _ _ hy=>hy) hO (fun q hq=>.inl hq)⟩
theorem St.ifcClose {g h:Heap} {M:Nat→Prop} {Γ:List Ch} {α:Type} {t:Nat} {r:ORep α} {a:AV} {q:Option α} (S:St g M (own (m9 r) [a] q::Γ) h):St g M (own (Bn t r) [.iface t a] q::Γ) h:=by
 obtain ⟨fp,hO,k⟩:=S.turn1
 exact k h (own (Bn t r) [.iface t a] q) fp (HZ.refl _) (Nat.le_refl _) (fun _ _ _ hy=>hy) (.inr ⟨a,rfl,hO⟩) (fun q hq=>.inl hq)
def AV.isNM:AV→Bool
 | .map _=>true
 | .nilMap=>true
 | _=>false
def BB (α:Type):Rep (Option α):=⟨1,fun _ cs _=>∃ s,cs=[s]∧s.isNM=true,(by rintro _ _ _ ⟨s,rfl,_⟩; rfl),fun _ h=>h⟩
def ia {κ β:Type} (e:KE κ) (ve:β→AV):ORep (Option (List (κ×β))) where
 rep:=BB _
 O h cs x fp:=(cs=[.nilMap]∧x=none∧fp=[])∨∃ m,x=some m∧(ll e ve).O h cs m fp
 nd:=by
  rintro _ _ _ _ (⟨_,_,rfl⟩ | ⟨m,_,h⟩)
  ·simp
  exact (ll e ve).nd h
 bd:=by
  rintro _ _ _ _ (⟨_,_,rfl⟩ | ⟨m,_,h⟩) q hq
  ·cases hq
  exact (ll e ve).bd h q hq
 stay:=by
  rintro _ _ _ _ _ (a | ⟨m,e2,h⟩) hs hz
  ·exact .inl a
  exact .inr ⟨m,e2,(ll e ve).stay h hs hz⟩
 snap:=by
  rintro _ _ _ _ (⟨rfl,rfl,_⟩ | ⟨m,rfl,o,rfl,_,_⟩)
  ·exact ⟨_,rfl,rfl⟩
  exact ⟨_,rfl,rfl⟩
 frz:=by
  rintro h _ _ _ (⟨rfl,rfl,rfl⟩ | ⟨m,rfl,o,rfl,_,_⟩)
  ·exact ⟨h,Fz.refl _,fun _ _=>rfl,_,rfl,rfl⟩
  exact ⟨h,Fz.refl _,fun _ _=>rfl,_,rfl,rfl⟩
theorem dr {κ β:Type} (e:KE κ) (ve:β→AV) (h:Heap):(own (ia e ve) [.nilMap] none).P h []:=.inl ⟨rfl,rfl,rfl⟩
theorem St.nmOpen {g h:Heap} {M:Nat→Prop} {Γ:List Ch} {κ β:Type} {k:KE κ} {ve:β→AV} {c:AV} {q:Option (List (κ×β))} {m:List (κ×β)} (e:q=some m) (S:St g M (own (ia k ve) [c] q::Γ) h):St g M (own (ll k ve) [c] m::Γ) h:=by
 subst e
 obtain ⟨fp,hO,kk⟩:=S.turn1
 rcases hO with ⟨_,e,_⟩ | ⟨m',e,hO⟩
 ·cases e
 cases e
 exact kk h (own (ll k ve) [c] m) fp (HZ.refl _) (Nat.le_refl _) (fun _ _ _ hy=>hy) hO (fun q hq=>.inl hq)
theorem St.nmClose {g h:Heap} {M:Nat→Prop} {Γ:List Ch} {κ β:Type} {k:KE κ} {ve:β→AV} {c:AV} {m:List (κ×β)} (S:St g M (own (ll k ve) [c] m::Γ) h):St g M (own (ia k ve) [c] (some m)::Γ) h:=by
 obtain ⟨fp,hO,kk⟩:=S.turn1
 exact kk h (own (ia k ve) [c] (some m)) fp (HZ.refl _) (Nat.le_refl _) (fun _ _ _ hy=>hy) (.inr ⟨m,rfl,hO⟩) (fun q hq=>.inl hq)
end Go.Am
namespace Go.Am
open Go
theorem pS {α:Type} {s:Sh} {r:Rep α} {ok:α→Prop} {h:Heap} (conv:∀ c,TyC s h c→∃ x,r.R (Frz h) c x∧ok x):∀ (els:List (List AV)),(∀ x,x∈els→TyC s h x)→∃ l:List α,All2 (r.R (Frz h)) els l∧∀ x,x∈l→ok x
 | [],_=>⟨[],.nil,fun _ h=>by cases h⟩
 | e::els,he=>by
  obtain ⟨x,h1,h2⟩:=conv e (he e (List.mem_cons_self ..))
  obtain ⟨l,h3,h4⟩:=pS conv els (fun y hy=>he y (List.mem_cons_of_mem _ hy))
  refine ⟨x::l,.cons h1 h3,fun y hy=>?_⟩
  rcases List.mem_cons.1 hy with rfl | hy
  ·exact h2
  exact h4 y hy
theorem ua {α:Type} {s:Sh} {r:Rep α} {ok:α→Prop} {h:Heap} (hz:r.z=s.n) (conv:∀ c,TyC s h c→∃ x,r.R (Frz h) c x∧ok x) {cs:List AV} (ht:TyC (.sl s) h cs):∃ sv l,cs=[sv]∧SlR r (Frz h) sv l∧(∀ x,x∈l→ok x)∧l.length≤maxLen:=by
 simp only [TyC] at ht
 obtain ⟨sv,rfl,rfl | ⟨o,els,rfl,h1,h2,h3⟩⟩:=ht
 ·exact ⟨_,[],rfl,.inl ⟨rfl,rfl⟩,fun _ h=>(by cases h),Nat.zero_le _⟩
 obtain ⟨l,k1,k2⟩:=pS conv els h3
 have hl:=k1.len
 have hfl:els.flatten.length=els.length * r.z:=cr els fun d hd=>by rw [TyC.len s (h3 d hd),hz]
 refine ⟨_,l,rfl,.inr ⟨o,0,0,els.flatten,els,by rw [hz,hl],h2,by rw [← hl]; omega,?_,k1⟩,k2,by omega⟩
 rw [List.drop_zero,← hl,List.take_of_length_le (by omega)]
theorem SlR.frz {α:Type} {r:Rep α} {h:Heap} {s:AV} {l:List α} (a:SlR r (Frz h) s l):SlR r (dX h) s l:=a.mono (lH h)
theorem vv {k:IntKind} {h:Heap} {c:List AV} (ht:TyC (.int k) h c):∃ n,(rI k).R (Frz h) c n∧(Lit.int k n).wf=true:=by
 simp only [TyC] at ht
 exact ht
end Go.Am
namespace Go.Am
open Go
theorem aH {n:Int} (h1 : -9223372036854775808≤n) (h2:n≤9223372036854775807):IntKind.wrap .i64 n=n:=IntWalk.i64_in _ (by omega)
theorem nH {n b:Nat} (hn:n≤1000000000) (hb:b≤1000):n * b≤aE:=by
 have:n * b≤1000000000 * 1000:=Nat.mul_le_mul hn hb
 unfold aE; omega
theorem CJ {α:Type} {b:Nat} {l k:List α} (h:l.length+k.length≤1000000000) (hb:b≤1000:=by decide):app b l k=some (l++k):=by
 unfold app; rw [if_pos (nH h hb)]
theorem Dr {α:Type} {b:Nat} {n:Int} {x:α} (h0:0≤n) (h:n≤1000000000) (hb:b≤1000:=by decide):mkS b n n x=some (List.replicate n.toNat x):=by
 unfold mkS
 have h1:=nH (n:=n.toNat) (b:=b) (by omega) hb
 have h2:=nH (n:=n.toNat) (b:=1) (by omega) (by decide)
 have h3:n * (b:Int)=((n.toNat * b:Nat):Int):=by rw [Int.natCast_mul,Int.toNat_of_nonneg h0]
 have h4:n * (b:Int)≤aE:=by rw [h3]; exact_mod_cast h1
 have h5:n≤(aE:Int):=by omega
 exact if_pos ⟨h0,Int.le_refl _,h4,h5⟩
theorem dQ {α:Type} {l:List α} {k:Nat} {x:α} (h:l[k]? = some x):idx l (k:Int)=some x:=by
 unfold idx; rw [if_pos (by omega),Int.toNat_natCast]; exact h
theorem bv {α:Type} {l:List α} {k:Nat} (h:k < l.length):idx l (k:Int)=some l[k]:=dQ (List.getElem?_eq_getElem h)
theorem Be {a b:List UInt8} (h:a.length+b.length≤1000000000):catS a b=some (a++b):=by
 unfold catS; rw [if_pos (by omega)]
theorem xh {k:IntKind} {a b:Int} (h:b≠0):remI k a b=some (a.tmod b):=by unfold remI; rw [if_neg h]
inductive Walk {α:Type} (E:α→α→Prop):α→α→Prop where
 | one {a b:α}:E a b→Walk E a b
 | step {a b c:α}:Walk E a b→E b c→Walk E a c
theorem Walk.trans {α:Type} {E:α→α→Prop} {a b c:α} (h:Walk E a b) (k:Walk E b c):Walk E a c:=by
 induction k with
 | one e=>exact .step h e
 | step _ e ih=>exact .step ih e
end Go.Am
