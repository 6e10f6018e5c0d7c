/- Parts of a heap, what they stand for, and what each operation makes of them. No condition. Own work. -/
import Derived.Test.YtgbkpiaonlabgaaPm1LaneRing
import Derived.Test.YtgbkpiaonlabgaaAm7LaneRing
import Derived.IntWalk
set_option linter.unusedSimpArgs false
set_option linter.unusedVariables false
namespace Go.Am
open Go
def idxB (s:List UInt8) (c:Int):Int:=Go.Lib.indexByte s c.toNat.toUInt8
def cntB (s:List UInt8) (c:Int):Int:=((Go.Lib.countByte s c.toNat.toUInt8:Nat):Int)
def idxS (s:List UInt8) (i:Int):Option Int:=if 0≤i then match s[i.toNat]? with
 | some b=>some (b.toNat:Int)
 | none=>none else none
theorem idxS_ev {s:List UInt8} {i n:Int} {k:IntKind} (h:idxS s i=some n):POp.ev .indexStr [.str s,.int k i]=some (.int .u8 n):=by
 unfold idxS at h
 simp only [POp.ev]
 split at h
 ·rename_i h0
  rw [if_pos h0]
  split at h
  ·rename_i b hb; cases h; rw [hb]
  cases h
 cases h
def bytesI (s:List UInt8):Option (List Int):=if s.length≤roomCells then some (s.map fun b=>(b.toNat:Int)) else none
def strI (s:List UInt8):List Int:=s.map fun b=>(b.toNat:Int)
theorem St.byteConv {g h:Heap} {M:Nat→Prop} {Γ:List Ch} {α:Type} {r:ORep α} {s:AV} {l:List α} (S:St g M Γ h) (hm:own (oSl r) [s] l∈Γ) (hn:s.slen≠0):EOp.ev .byteConv [s] h=some (s,h):=by
 obtain ⟨fp,s',e,a⟩:=S.mem hm
 cases e
 rcases a with ⟨rfl,_,_⟩ | ⟨o,v,off,row,els,fps,rfl,hg,_⟩
 ·exact absurd rfl hn
 simp only [EOp.ev,hg]
 rw [if_pos ⟨trivial,hn⟩]
def runeAt (s:List UInt8) (p:Nat):Int:=(Utf8.decode ⟨s.toArray⟩ p).1
def nextAt (s:List UInt8) (p:Nat):Nat:=p+(Utf8.decode ⟨s.toArray⟩ p).2
theorem St.next {g h:Heap} {M:Nat→Prop} {Γ:List Ch} {o pos:Nat} {s:List UInt8} (S:St g M (itC o s pos::Γ) h) (hp:pos < s.length) :
  ∃ h',EOp.ev .nextStr [.iter o] h=some (.tuple [.bool true,.int .i64 (pos:Int),.int .i32 (runeAt s pos)],h')∧St g M (itC o s (nextAt s pos)::Γ) h':=by
 obtain ⟨fp,⟨rfl,hg⟩,k⟩:=S.turn1
 refine ⟨h.set o (.iter s (pos+(Utf8.decode ⟨s.toArray⟩ pos).2)),?_,k _ (itC o s (pos+(Utf8.decode ⟨s.toArray⟩ pos).2)) [o] ?_ (Nat.le_refl _) ?_ ⟨rfl,?_⟩ (fun p hp=>.inl hp)⟩
 ·simp only [EOp.ev,hg]
  rw [if_pos hp]
  rfl
 ·intro p c u hp
  have hp:h.get p=_:=hp
  show (h.set _ _).get p=_
  have:p≠o:=fun e=>by rw [e,hg] at hp; cases hp
  rw [get_set_ne hg this]; exact hp
 ·intro p y hp hy
  rw [List.mem_singleton] at hp
  rw [get_set_ne hg hp]; exact hy
 rw [get_set_eq hg]
end Go.Am
namespace Go.Am
open Go
structure KE (κ:Type) where
 f:κ→AV
 eq:κ→κ→Bool
 q:Nat
 ok:∀ k,keyOk q (f k)=true
 eqk:∀ a b,keyEq (f a) (f b)=some (eq a b)
 iff:∀ a b,eq a b=true↔a=b
def keS:KE (List UInt8):=⟨AV.str,fun a b=>a==b,2,fun _=>rfl,fun _ _=>rfl,fun a b=>by simp⟩
def keI (k:IntKind):KE Int:=⟨AV.int k,fun a b=>decide (a=b),1,fun _=>rfl,fun a b=>by simp [keyEq],fun a b=>by simp⟩
def mget {κ β:Type} (e:KE κ):List (κ×β)→κ→Option β
 | [],_=>none
 | x::m,k=>if e.eq k x.1=true then some x.2 else mget e m k
def mput {κ β:Type} (e:KE κ):List (κ×β)→κ→β→List (κ×β)
 | [],k,v=>[(k,v)]
 | x::m,k,v=>if e.eq k x.1=true then (k,v)::m else x::mput e m k v
def mapAV {κ β:Type} (e:KE κ) (ve:β→AV) (m:List (κ×β)):List (AV×AV):=m.map fun x=>(e.f x.1,ve x.2)
def AV.isMap:AV→Bool
 | .map _=>true
 | _=>false
def rMap (α:Type):Rep α:=⟨1,fun _ cs _=>∃ s,cs=[s]∧s.isMap=true,(by rintro _ _ _ ⟨s,rfl,_⟩; rfl),fun _ h=>h⟩
def oMap {κ β:Type} (e:KE κ) (ve:β→AV):ORep (List (κ×β)) where
 rep:=rMap _
 O h cs m fp:=∃ o,cs=[.map o]∧h.get o=some (.map (mapAV e ve m))∧fp=[o]
 nd:=by rintro _ _ _ _ ⟨o,_,_,rfl⟩; simp
 bd:=by rintro _ _ _ _ ⟨o,_,hg,rfl⟩ p hp; rw [List.mem_singleton] at hp; subst hp; exact ⟨_,hg⟩
 stay:=by rintro h h' cs m fp ⟨o,e1,hg,rfl⟩ hs hz; exact ⟨o,e1,by rw [hs o (by simp)]; exact hg,rfl⟩
 snap:=by rintro _ _ _ _ ⟨o,rfl,_,_⟩; exact ⟨_,rfl,rfl⟩
 frz:=by rintro h _ _ _ ⟨o,rfl,_,_⟩; exact ⟨h,Fz.refl _,fun _ _=>rfl,_,rfl,rfl⟩
theorem rd1_ev {h:Heap} {p y:AV} (e:h.rd1 p=some y):ROp.ev .load1 [p] h=some y:=e
theorem idx_set {α:Type} {l:List α} {i:Int} {x y:α} (h:idx l i=some x):idx (l.set i.toNat y) i=some y:=by
 obtain ⟨h0,h1⟩:=idx_some h
 unfold idx
 rw [if_pos h0]
 have:=(List.getElem?_eq_some_iff.1 h1).1
 rw [List.getElem?_set]
 simp [this]
theorem all2_intL {k:IntKind} {G:Hp}:∀ l:List Int,All2 ((rI k).R G) (l.map fun n=>[AV.int k n]) l
 | []=>.nil
 | _::l=>.cons rfl (all2_intL l)
theorem St.cast1 {g:Heap} {M:Nat→Prop} {Γ:List Ch} {h:Heap} {c c':Ch} (S:St g M (c::Γ) h) (e:c=c'):St g M (c'::Γ) h:=e▸S
theorem m0 {α:Type} {x0:α} {l:List α}:x0∈x0::l:=.head _
theorem m1 {α:Type} {x0 x1:α} {l:List α}:x1∈x0::x1::l:=.tail _ (.head _)
theorem m2 {α:Type} {x0 x1 x2:α} {l:List α}:x2∈x0::x1::x2::l:=.tail _ (.tail _ (.head _))
theorem m3 {α:Type} {x0 x1 x2 x3:α} {l:List α}:x3∈x0::x1::x2::x3::l:=.tail _ (.tail _ (.tail _ (.head _)))
theorem m4 {α:Type} {x0 x1 x2 x3 x4:α} {l:List α}:x4∈x0::x1::x2::x3::x4::l:=.tail _ (.tail _ (.tail _ (.tail _ (.head _))))
theorem m5 {α:Type} {x0 x1 x2 x3 x4 x5:α} {l:List α}:x5∈x0::x1::x2::x3::x4::x5::l:=.tail _ (.tail _ (.tail _ (.tail _ (.tail _ (.head _)))))
theorem m6 {α:Type} {x0 x1 x2 x3 x4 x5 x6:α} {l:List α}:x6∈x0::x1::x2::x3::x4::x5::x6::l:=.tail _ (.tail _ (.tail _ (.tail _ (.tail _ (.tail _ (.head _))))))
theorem m7 {α:Type} {x0 x1 x2 x3 x4 x5 x6 x7:α} {l:List α}:x7∈x0::x1::x2::x3::x4::x5::x6::x7::l:=.tail _ (.tail _ (.tail _ (.tail _ (.tail _ (.tail _ (.tail _ (.head _)))))))
theorem nl {a b:Nat} (h:Nat.ble a b=true):a≤b:=Nat.le_of_ble_eq_true h
theorem oi {α:Type} {a b:α} (h:some a=some b):a=b:=Option.some.inj h
theorem ifT {c:Bool} {α:Type} {a b:α} (h:c=true):(if c=true then a else b)=a:=if_pos h
theorem ifF {c:Bool} {α:Type} {a b:α} (h:c=false):(if c=true then a else b)=b:=if_neg (by rw [h]; exact Bool.false_ne_true)
theorem ifD {p:Prop} [Decidable p] {α:Type} {a b:α} (h:decide p=true):(if p then a else b)=a:=if_pos (of_decide_eq_true h)
theorem ifE {p:Prop} [Decidable p] {α:Type} {a b:α} (h:decide p=false):(if p then a else b)=b:=if_neg (of_decide_eq_false h)
theorem ix_go {α:Type} {r:Rep α} {G:Hp} {h:Heap} {s:AV} {l:List α} {i n:Int} {x:α} {P:Prop} (a:SlR r G s l) (hG:Hp.le G (Snap h)) (hi:idx l i=some x) (k:(s.at (i.toNat * r.z)).isPtr=true→P) (hn:n=(s.slen:Int)∨n=(l.length:Int):=by first | exact .inl rfl | exact .inr rfl):ifP s.isSlice (0≤i∧i < n∧P):=by
 obtain ⟨q,q0,q1⟩:=SlR.ix a hi
 refine iI.2 ⟨q,q0,?_,k (SlR.idx a hG hi).1⟩
 rcases hn with rfl | rfl
 ·exact q1
 exact (idx_lt hi).2
theorem rI_open {k:IntKind} {G:Hp} {cs:List AV} {n:Int} (h:(rI k).R G cs n):cs=[.int k n]:=h
end Go.Am
namespace Go.Am
open Go
def wr {β:Type}:List β→Nat→Nat→β→List β
 | l,_,0,_=>l
 | l,lo,n+1,x=>wr (l.set lo x) (lo+1) n x
theorem wr_len {β:Type}:∀ (n:Nat) (l:List β) (lo:Nat) (x:β),(wr l lo n x).length=l.length
 | 0,l,lo,x=>rfl
 | n+1,l,lo,x=>by unfold wr; rw [wr_len n]; simp
theorem splice_two {row a b:List AV} {p:Nat} (h:p+a.length+b.length≤row.length):splice (splice row p a) (p+a.length) b=splice row p (a++b):=by
 unfold splice
 have h1:(row.take p).length=p:=by simp; omega
 have h2:(row.take p++(a++row.drop (p+a.length))).take (p+a.length)=row.take p++a:=by
  rw [← List.append_assoc,List.take_left']
  simp; omega
 have h3:(row.take p++(a++row.drop (p+a.length))).drop (p+a.length+b.length)=row.drop (p+(a++b).length):=by
  rw [← List.append_assoc,← List.drop_drop,List.drop_left',List.drop_drop,List.length_append,Nat.add_assoc]
  simp; omega
 rw [h2,h3]
 simp
theorem wr_els {z:Nat} {z0:List AV} (hz0:z0.length=z) {off N:Nat}:∀ (n lo:Nat) (row:List AV) (els:List (List AV)),(∀ d,d∈els→d.length=z)→els.length=N→els.flatten=(row.drop off).take (N * z)→off+N * z≤row.length→lo+n≤N→
  (wr els lo n z0).flatten=((splice row (off+lo * z) (reps z0 n)).drop off).take (N * z)∧(splice row (off+lo * z) (reps z0 n)).length=row.length
 | 0,lo,row,els,hz,hlen,hl,hr,hn=>by
  have:splice row (off+lo * z) (reps z0 0)=row:=by unfold splice reps; simp
  rw [this]
  exact ⟨hl,rfl⟩
 | n+1,lo,row,els,hz,hlen,hl,hr,hn=>by
  have hlt:lo < els.length:=by omega
  have hc:els[lo]? = some els[lo]:=List.getElem?_eq_getElem hlt
  have hcl:=hz _ (List.getElem_mem hlt)
  obtain ⟨q1,q2⟩:=splice_el hz hlen hl hr (i:=lo) (by omega) hc (k:=0) (cs:=z0) (by omega)
  have e1:splice els[lo] 0 z0=z0:=by
   unfold splice
   rw [List.take_zero,List.nil_append,Nat.zero_add,List.drop_eq_nil_of_le (by omega),List.append_nil]
  rw [e1,Nat.add_zero] at q1
  rw [Nat.add_zero] at q2
  have hm:lo * z+z+n * z≤N * z:=by rw [← Nat.succ_mul,← Nat.add_mul]; exact Nat.mul_le_mul_right _ (by omega)
  obtain ⟨r1,r2⟩:=wr_els hz0 n (lo+1) (splice row (off+lo * z) z0) (els.set lo z0) (fun d hd=>by
   rcases List.mem_or_eq_of_mem_set hd with hd | rfl
   ·exact hz d hd
   exact hz0) (by simpa using hlen) q1 (by rw [q2]; exact hr) (by omega)
  have e2:splice (splice row (off+lo * z) z0) (off+(lo+1) * z) (reps z0 n)=splice row (off+lo * z) (reps z0 (n+1)):=by
   have:=splice_two (row:=row) (a:=z0) (b:=reps z0 n) (p:=off+lo * z) (by rw [reps_length,hz0]; omega)
   rw [hz0] at this
   rw [show off+(lo+1) * z=off+lo * z+z by rw [Nat.succ_mul]; omega,this]
   rfl
  rw [e2] at r1 r2
  exact ⟨r1,by rw [r2,q2]⟩
theorem All3.wr_fz {α:Type} {r:Rep α} {h:Heap} {z0:List AV} {x:α} (hx:r.R (Frz h) z0 x):∀ (n lo:Nat) {els:List (List AV)} {l:List α} {fps:List (List Nat)},All3 ((fz r).O h) els l fps→All3 ((fz r).O h) (wr els lo n z0) (wr l lo n x) fps
 | 0,lo,els,l,fps,a=>a
 | n+1,lo,els,l,fps,a=>All3.wr_fz hx n (lo+1) (a.set_fz lo hx)
theorem St.clearE {g h:Heap} {M:Nat→Prop} {Γ:List Ch} {α:Type} {r:Rep α} {s:AV} {l:List α} (S:St g M (own (oSl (fz r)) [s] l::Γ) h) {lo hi:Nat} (h1:lo < hi) (h2:hi≤l.length) {z0:List AV} {x0:α} (hz0:z0.length=r.z) (hx:∀ G,r.R G z0 x0) :
  ∃ h',EOp.ev (.clear z0) [s.sub r.z lo hi] h=some (.tuple [],h')∧St g M (own (oSl (fz r)) [s] (wr l lo (hi - lo) x0)::Γ) h':=by
 obtain ⟨fp,⟨s',e,a⟩,kk⟩:=S.turn1
 cases e
 rcases a with ⟨rfl,rfl,_⟩ | ⟨o,v,off,row,els,fps,rfl,hg,h3,h4,h5,rfl,h7⟩
 ·simp at h2; omega
 have hz:=els_len h5
 have h3':off+l.length * r.z≤row.length:=h3
 obtain ⟨q1,q2⟩:=wr_els (z:=r.z) hz0 (off:=off) (N:=l.length) (hi - lo) lo row els hz h5.lens.1 h4 h3 (by omega)
 have hm:lo * r.z+(hi - lo) * r.z≤l.length * r.z:=by rw [← Nat.add_mul]; exact Nat.mul_le_mul_right _ (by omega)
 have hst:EOp.ev (.clear z0) [(AV.slice o v off l.length r.z).sub r.z lo hi] h=some (.tuple [],h.set o (.row (splice row (off+lo * r.z) (reps z0 (hi - lo))) v true)):=by
  simp only [AV.sub,EOp.ev,hg]
  rw [if_pos ⟨trivial,by rw [hz0]; omega,trivial,by omega,hz0⟩]
 have hHZ:HZ h (h.set o (.row (splice row (off+lo * r.z) (reps z0 (hi - lo))) v true)):=by
  intro p cc u hp
  have hp:h.get p=_:=hp
  show (h.set _ _).get p=_
  have:p≠o:=fun e=>by rw [e,hg] at hp; cases hp
  rw [get_set_ne hg this]; exact hp
 have hn:=List.nodup_cons.1 h7
 refine ⟨_,hst,kk _ (own (oSl (fz r)) [_] _) (o::fps.flatten) hHZ (Nat.le_refl _) ?_ ⟨_,rfl,.inr ⟨o,v,off,_,wr els lo (hi - lo) z0,fps,?_,get_set_eq hg,?_,?_,?_,rfl,h7⟩⟩ (fun p hp=>.inl hp)⟩
 ·intro p w hp hw
  rw [List.mem_cons,not_or] at hp
  rw [get_set_ne hg hp.1]; exact hw
 ·rw [wr_len]
 ·rw [wr_len,q2]; exact h3
 ·rw [wr_len]; exact q1
 refine All3.stay (h:=h) (All3.wr_fz (hx _) _ _ h5) (fun p hp=>?_) hHZ
 exact get_set_ne hg (fun e=>hn.1 (by rw [← e]; exact hp))
def neL {α:Type} (l:List α):Option Unit:=if l.isEmpty=true then none else some ()
theorem St.clearV {g h:Heap} {M:Nat→Prop} {Γ:List Ch} {α:Type} {r:Rep α} {s:AV} {l n:List α} (S:St g M (own (oSl (fz r)) [s] l::Γ) h) {lo hi:Int} (hs:slc l lo hi=some n) {u:Unit} (hu:neL n=some u) {z:Nat} {z0:List AV} {x0:α} (hz:r.z=z) (hz0:z0.length=z) (hx:∀ G,r.R G z0 x0) :
  ∃ h',EOp.ev (.clear z0) [s.sub z lo.toNat hi.toNat] h=some (.tuple [],h')∧St g M (own (oSl (fz r)) [s] (wr l lo.toNat (hi.toNat - lo.toNat) x0)::Γ) h':=by
 obtain ⟨h0,h1,h2,rfl⟩:=slc_some hs
 subst hz
 have hne:lo.toNat < hi.toNat:=by
  rcases Nat.lt_or_ge lo.toNat hi.toNat with h | h
  ·exact h
  exfalso
  have:((l.take hi.toNat).drop lo.toNat)=[]:=List.drop_eq_nil_of_le (by simp; omega)
  rw [this] at hu
  cases hu
 exact St.clearE S hne (by omega) hz0 hx
end Go.Am
namespace Go.Am
open Go
theorem arr1_sl {α:Type} {r:Rep α} {G:Hp} {k:IntKind} {cs:List AV} {xs:List (List α)} {i:Int} {x:List α} {n:Nat} (ha:All2 (SlR r G) cs xs) (hl:xs.length=n) (h:idx xs i=some x):∃ y,POp.ev (.indexArr1 n) [.agg cs,.int k i]=some y∧SlR r G y x:=by
 obtain ⟨h0,h1⟩:=idx_some h
 obtain ⟨c,hc,hR⟩:=ha.getR h1
 refine ⟨c,?_,hR⟩
 show (if 0≤i∧i < n then cs[i.toNat]? else none)=_
 rw [if_pos ⟨h0,by have:=(idx_lt h).2; omega⟩,hc]
end Go.Am
namespace Go.Am
open Go
def cpl {β:Type} (l:List β) (lo hi:Nat) (m:List β):List β:=l.take lo++(m.take (hi - lo)++l.drop (lo+(m.take (hi - lo)).length))
theorem cpl_len {β:Type} {l m:List β} {lo hi:Nat} (h1:lo≤hi) (h2:hi≤l.length):(cpl l lo hi m).length=l.length:=by
 unfold cpl; simp; omega
theorem All3.fz_mk {α:Type} {r:Rep α} {h:Heap}:∀ {els:List (List AV)} {l:List α},All2 (r.R (Frz h)) els l→All3 ((fz r).O h) els l (l.map fun _=>[])
 | _,_,.nil=>.nil
 | _,_,.cons hp hr=>.cons ⟨rfl,hp⟩ (All3.fz_mk hr)
theorem All3.fz_all {α:Type} {r:Rep α} {h:Heap}:∀ {els:List (List AV)} {l:List α} {fps:List (List Nat)},All3 ((fz r).O h) els l fps→All2 (r.R (Frz h)) els l
 | _,_,_,.nil=>.nil
 | _,_,_,.cons hp hr=>.cons hp.2 (All3.fz_all hr)
theorem All2.append' {α β:Type} {P:α→β→Prop}:∀ {l:List α} {m:List β} {l':List α} {m':List β},All2 P l m→All2 P l' m'→All2 P (l++l') (m++m')
 | _,_,_,_,.nil,k=>k
 | _,_,_,_,.cons h t,k=>.cons h (All2.append' t k)
theorem St.copyE {g h:Heap} {M:Nat→Prop} {Γ:List Ch} {α:Type} {r:Rep α} {s t:AV} {l m:List α} (S:St g M (own (oSl (fz r)) [s] l::Γ) h) {lo hi:Nat} (h1:lo < hi) (h2:hi≤l.length) {G:Hp} (hG:Hp.le G (Snap h)) (ht:SlR r G t m) (hf:Flat r∨Hp.le G (Frz h)) (hm:m≠[]) :
  ∃ h',EOp.ev (.copy r.z) [s.sub r.z lo hi,t] h=some (.int .i64 (Nat.min m.length (hi - lo):Nat),h')∧St g M (own (oSl (fz r)) [s] (cpl l lo hi m)::Γ) h':=by
 obtain ⟨fp,⟨s',e,a⟩,kk⟩:=S.turn1
 cases e
 rcases a with ⟨rfl,rfl,_⟩ | ⟨o,v,off,row,els,fps,rfl,hg,h3,h4,h5,rfl,h7⟩
 ·simp at h2; omega
 rcases ht with ⟨_,rfl⟩ | ⟨o2,v2,off2,row2,els2,rfl,hg2,k3,k4,k5⟩
 ·exact absurd rfl hm
 obtain ⟨w2,hg2⟩:=hG _ _ _ hg2
 have hz:=els_len h5
 have hz:∀ d,d∈els→d.length=r.z:=hz
 have h3:off+l.length * r.z≤row.length:=h3
 have h4:els.flatten=(row.drop off).take (l.length * r.z):=h4
 have hz2:∀ d,d∈els2→d.length=r.z:=fun d hd=>by
  obtain ⟨k,hk⟩:=List.getElem?_of_mem hd
  obtain ⟨b,_,hb⟩:=pair_get k5 hk
  exact r.len hb
 have hml:0 < m.length:=List.length_pos_iff.2 hm
 have hel:=h5.lens.1
 have hel2:=k5.len
 generalize hk:Nat.min m.length (hi - lo)=k
 have hkm:k≤m.length:=by subst hk; exact Nat.min_le_left _ _
 have hkh:k≤hi - lo:=by subst hk; exact Nat.min_le_right _ _
 have b1:lo * r.z+k * r.z≤l.length * r.z:=by rw [← Nat.add_mul]; exact Nat.mul_le_mul_right _ (by omega)
 have b2:k * r.z≤m.length * r.z:=Nat.mul_le_mul_right _ hkm
 have b3:lo * r.z+(hi - lo) * r.z≤l.length * r.z:=by rw [← Nat.add_mul]; exact Nat.mul_le_mul_right _ (by omega)
 have hC:((row2.drop off2).take (k * r.z))=(els2.take k).flatten:=by
  rw [flatten_take els2 k hz2,k4,List.take_take,Nat.min_eq_left b2]
 have hCl:((row2.drop off2).take (k * r.z)).length=k * r.z:=by simp; omega
 have hst:EOp.ev (.copy r.z) [(AV.slice o v off l.length r.z).sub r.z lo hi,.slice o2 v2 off2 m.length r.z] h=some (.int .i64 (k:Nat),h.set o (.row (splice row (off+lo * r.z) ((row2.drop off2).take (k * r.z))) v true)):=by
  simp only [AV.sub,EOp.ev,hg,hg2]
  rw [if_pos ⟨trivial,trivial,by omega,k3,trivial,by omega,by omega,trivial,trivial⟩,hk]
 have hHZ:HZ h (h.set o (.row (splice row (off+lo * r.z) ((row2.drop off2).take (k * r.z))) v true)):=by
  intro p cc u hp
  have hp:h.get p=_:=hp
  show (h.set _ _).get p=_
  have:p≠o:=fun e=>by rw [e,hg] at hp; cases hp
  rw [get_set_ne hg this]; exact hp
 have ek:(m.take (hi - lo))=m.take k:=by rw [← hk]; simp [List.take_eq_take_iff,Nat.min_comm]
 have hcp:cpl l lo hi m=l.take lo++(m.take k++l.drop (lo+k)):=by
  unfold cpl
  rw [ek]
  congr 3
  rw [List.length_take,Nat.min_eq_left hkm]
 have hlen:(cpl l lo hi m).length=l.length:=cpl_len (by omega) h2
 have hall:All2 (r.R (Frz h)) (els.take lo++(els2.take k++els.drop (lo+k))) (l.take lo++(m.take k++l.drop (lo+k))):=by
  have e1:=All3.fz_all h5
  have e2:All2 (r.R (Frz h)) els2 m:=k5.imp fun c x hp=>by
   rcases hf with hf | hf
   ·exact hf _ _ _ _ hp
   exact r.mono hf hp
  exact (e1.take lo).append' ((e2.take k).append' (e1.drop (lo+k)))
 have hsl:(splice row (off+lo * r.z) ((row2.drop off2).take (k * r.z))).length=row.length:=by
  unfold splice
  simp only [List.length_append,List.length_take,List.length_drop,hCl]
  omega
 have hfl:(els.take lo++(els2.take k++els.drop (lo+k))).flatten=((splice row (off+lo * r.z) ((row2.drop off2).take (k * r.z))).drop off).take (l.length * r.z):=by
  rw [List.flatten_append,List.flatten_append,← hC,flatten_take els lo hz,flatten_drop els (lo+k) hz,h4]
  unfold splice
  rw [hCl]
  apply List.ext_getElem?
  intro j
  have l1:(((row.drop off).take (l.length * r.z)).take (lo * r.z)).length=lo * r.z:=by simp; omega
  have l2:(row.take (off+lo * r.z)).length=off+lo * r.z:=by simp; omega
  have hadd:(lo+k) * r.z=lo * r.z+k * r.z:=Nat.add_mul _ _ _
  by_cases j1:j < lo * r.z
  ·rw [List.getElem?_append_left (by omega),List.getElem?_take,if_pos j1,List.getElem?_take,if_pos (by omega),List.getElem?_drop,List.getElem?_take,if_pos (by omega),List.getElem?_drop,List.getElem?_append_left (by omega),List.getElem?_take,if_pos (by omega)]
  rw [List.getElem?_append_right (by omega),l1]
  by_cases j2:j < lo * r.z+k * r.z
  ·rw [List.getElem?_append_left (by omega),List.getElem?_take (l:=(row.take _++_).drop off),if_pos (by omega),List.getElem?_drop (xs:=row.take _++_),List.getElem?_append_right (by omega),l2,List.getElem?_append_left (by omega),show off+j - (off+lo * r.z)=j - lo * r.z by omega]
  rw [List.getElem?_append_right (by omega),hCl,List.getElem?_drop,List.getElem?_take,hadd]
  by_cases j3:j < l.length * r.z
  ·rw [if_pos (by omega),List.getElem?_drop,List.getElem?_take,if_pos j3,List.getElem?_drop,List.getElem?_append_right (by omega),l2,List.getElem?_append_right (by omega),hCl,List.getElem?_drop]
   congr 1; omega
  rw [if_neg (by omega),List.getElem?_take,if_neg j3]
 have hnil:∀ l:List α,(l.map fun _=>([]:List Nat)).flatten=[]:=fun l=>by induction l<;>simp_all
 refine ⟨_,hst,kk _ (own (oSl (fz r)) [_] _) [o] hHZ (Nat.le_refl _) ?_ ⟨_,rfl,.inr ⟨o,v,off,_,els.take lo++(els2.take k++els.drop (lo+k)),(cpl l lo hi m).map fun _=>[],?_,get_set_eq hg,?_,?_,?_,by rw [hnil],by simp⟩⟩ (fun p hp=>.inl ?_)⟩
 ·intro p w hp hw
  rw [List.mem_cons,not_or] at hp
  rw [get_set_ne hg hp.1]; exact hw
 ·rw [hlen]
 ·rw [hlen,hsl]; exact h3
 ·rw [hlen]; exact hfl
 ·refine All3.stay (h:=h) ?_ (fun p hp=>by rw [hnil] at hp; cases hp) hHZ
  rw [hcp]; exact All3.fz_mk hall
 rw [List.mem_singleton] at hp; subst hp; exact List.mem_cons_self ..
theorem St.copyV {g h:Heap} {M:Nat→Prop} {Γ:List Ch} {α:Type} {r:Rep α} {s t:AV} {l m n:List α} (S:St g M (own (oSl (fz r)) [s] l::Γ) h) {lo hi:Int} (hs:slc l lo hi=some n) {u v:Unit} (hu:neL n=some u) (hv:neL m=some v) (ht:SlR r (Snap h) t m) (hf:Flat r) {z:Nat} (hz:r.z=z) :
  ∃ h',EOp.ev (.copy z) [s.sub z lo.toNat hi.toNat,t] h=some (.int .i64 (Nat.min m.length n.length:Nat),h')∧St g M (own (oSl (fz r)) [s] (cpl l lo.toNat hi.toNat m)::Γ) h':=by
 obtain ⟨h0,h1,h2,rfl⟩:=slc_some hs
 subst hz
 have hne:lo.toNat < hi.toNat:=by
  rcases Nat.lt_or_ge lo.toNat hi.toNat with h | h
  ·exact h
  exfalso
  have:((l.take hi.toNat).drop lo.toNat)=[]:=List.drop_eq_nil_of_le (by simp; omega)
  rw [this] at hu
  cases hu
 have hm:m≠[]:=fun e=>by subst e; cases hv
 have hl:((l.take hi.toNat).drop lo.toNat).length=hi.toNat - lo.toNat:=by simp; omega
 rw [hl]
 exact St.copyE S hne (by omega) (Hp.le_refl _) ht (.inl hf) hm
theorem St.copyW {g h:Heap} {M:Nat→Prop} {Γ:List Ch} {α:Type} {r:Rep α} {s t:AV} {l m:List α} (S:St g M (own (oSl (fz r)) [s] l::Γ) h) {u v:Unit} (hu:neL l=some u) (hv:neL m=some v) (ht:SlR r (Snap h) t m) (hf:Flat r) {z:Nat} (hz:r.z=z) :
  ∃ h',EOp.ev (.copy z) [s,t] h=some (.int .i64 (Nat.min m.length l.length:Nat),h')∧St g M (own (oSl (fz r)) [s] (cpl l 0 l.length m)::Γ) h':=by
 subst hz
 have hl:l≠[]:=fun e=>by subst e; cases hu
 have hm:m≠[]:=fun e=>by subst e; cases hv
 have hll:0 < l.length:=List.length_pos_iff.2 hl
 have e:s.sub r.z 0 l.length=s:=by
  rcases (S.sl (.head _)) with ⟨rfl,rfl⟩ | ⟨o,v,off,row,els,rfl,_⟩
  ·exact absurd rfl hl
  show AV.slice o v (off+0 * r.z) (l.length - 0) _=_
  rw [Nat.zero_mul]; rfl
 obtain ⟨h',h1,h2⟩:=St.copyE S hll (Nat.le_refl _) (Hp.le_refl _) ht (.inl hf) hm
 rw [e,Nat.sub_zero] at h1
 exact ⟨h',h1,h2⟩
end Go.Am
namespace Go.Am
open Go
theorem els_open {α:Type} {s:Sh} {r:Rep α} {ok:α→Prop} {h:Heap} (conv:∀ c,TyC s h c→∃ x,r.R (Frz h) c x∧ok x):∀ (els:List (List AV)),(∀ x,x∈els→TyC s h x)→∃ l:List α,All2 (r.R (Frz h)) els l∧∀ x,x∈l→ok x
 | [],_=>⟨[],.nil,fun _ h=>by cases h⟩
 | e::els,he=>by
  obtain ⟨x,h1,h2⟩:=conv e (he e (List.mem_cons_self ..))
  obtain ⟨l,h3,h4⟩:=els_open conv els (fun y hy=>he y (List.mem_cons_of_mem _ hy))
  refine ⟨x::l,.cons h1 h3,fun y hy=>?_⟩
  rcases List.mem_cons.1 hy with rfl | hy
  ·exact h2
  exact h4 y hy
theorem sl_open {α:Type} {s:Sh} {r:Rep α} {ok:α→Prop} {h:Heap} (hz:r.z=s.n) (conv:∀ c,TyC s h c→∃ x,r.R (Frz h) c x∧ok x) {cs:List AV} (ht:TyC (.sl s) h cs):∃ sv l,cs=[sv]∧SlR r (Frz h) sv l∧(∀ x,x∈l→ok x)∧l.length≤maxLen:=by
 simp only [TyC] at ht
 obtain ⟨sv,rfl,rfl | ⟨o,els,rfl,h1,h2,h3⟩⟩:=ht
 ·exact ⟨_,[],rfl,.inl ⟨rfl,rfl⟩,fun _ h=>(by cases h),Nat.zero_le _⟩
 obtain ⟨l,k1,k2⟩:=els_open conv els h3
 have hl:=k1.len
 have hfl:els.flatten.length=els.length * r.z:=flatten_len els fun d hd=>by rw [TyC.len s (h3 d hd),hz]
 refine ⟨_,l,rfl,.inr ⟨o,0,0,els.flatten,els,by rw [hz,hl],h2,by rw [← hl]; omega,?_,k1⟩,k2,by omega⟩
 rw [List.drop_zero,← hl,List.take_of_length_le (by omega)]
theorem SlR.frz {α:Type} {r:Rep α} {h:Heap} {s:AV} {l:List α} (a:SlR r (Frz h) s l):SlR r (Snap h) s l:=a.mono (frz_snap h)
theorem int_open {k:IntKind} {h:Heap} {c:List AV} (ht:TyC (.int k) h c):∃ n,(rI k).R (Frz h) c n∧(Lit.int k n).wf=true:=by
 simp only [TyC] at ht
 exact ht
end Go.Am
namespace Go.Am
open Go
theorem wrap64 {n:Int} (h1 : -9223372036854775808≤n) (h2:n≤9223372036854775807):IntKind.wrap .i64 n=n:=IntWalk.i64_in _ (by omega)
theorem room_of {n b:Nat} (hn:n≤1000000000) (hb:b≤1000):n * b≤roomCells:=by
 have:n * b≤1000000000 * 1000:=Nat.mul_le_mul hn hb
 unfold roomCells; omega
theorem app_ok {α:Type} {b:Nat} {l k:List α} (h:l.length+k.length≤1000000000) (hb:b≤1000:=by decide):app b l k=some (l++k):=by
 unfold app; rw [if_pos (room_of h hb)]
theorem mkS_ok {α:Type} {b:Nat} {n:Int} {x:α} (h0:0≤n) (h:n≤1000000000) (hb:b≤1000:=by decide):mkS b n n x=some (List.replicate n.toNat x):=by
 unfold mkS
 have h1:=room_of (n:=n.toNat) (b:=b) (by omega) hb
 have h2:=room_of (n:=n.toNat) (b:=1) (by omega) (by decide)
 have h3:n * (b:Int)=((n.toNat * b:Nat):Int):=by rw [Int.natCast_mul,Int.toNat_of_nonneg h0]
 have h4:n * (b:Int)≤roomCells:=by rw [h3]; exact_mod_cast h1
 have h5:n≤(roomCells:Int):=by omega
 exact if_pos ⟨h0,Int.le_refl _,h4,h5⟩
theorem idx_ok {α:Type} {l:List α} {k:Nat} {x:α} (h:l[k]? = some x):idx l (k:Int)=some x:=by
 unfold idx; rw [if_pos (by omega),Int.toNat_natCast]; exact h
theorem idx_get {α:Type} {l:List α} {k:Nat} (h:k < l.length):idx l (k:Int)=some l[k]:=idx_ok (List.getElem?_eq_getElem h)
theorem loop_up {σ ρ:Type} {f:Int×σ→Option ((Int×σ)⊕ρ)} (n:Nat) (hn:n≤1000000000) (I:Nat→σ→Prop) (Q:ρ→Prop)
  (step:∀ k s,k < n→I k s→(∃ s',f ((k:Int),s)=some (.inl (IntKind.wrap .i64 ((k:Int)+1),s'))∧I (k+1) s')∨∃ r,f ((k:Int),s)=some (.inr r)∧Q r)
  (done:∀ s,I n s→∃ r,f ((n:Int),s)=some (.inr r)∧Q r) {s:σ} (h0:I 0 s):∃ r,loopC f ((0:Int),s)=some r∧Q r:=by
 refine loopC_rule (fun p=>∃ k:Nat,p.1=(k:Int)∧k≤n∧I k p.2) (fun p=>n+1 - p.1.toNat) Q ?_ ⟨0,rfl,Nat.zero_le _,h0⟩
 rintro ⟨i,s⟩ ⟨k,hk,hle,hI⟩
 simp only at hk
 subst hk
 rcases Nat.lt_or_ge k n with hlt | hge
 ·rcases step k s hlt hI with ⟨s',h1,h2⟩ | ⟨r,h1,h2⟩
  ·refine .inl ⟨_,h1,⟨k+1,?_,hlt,h2⟩,?_⟩
   ·simp only; rw [wrap64 (by omega) (by omega)]; rfl
   simp only; rw [wrap64 (by omega) (by omega)]; omega
  exact .inr ⟨r,h1,h2⟩
 obtain rfl:k=n:=by omega
 exact .inr (done s hI)
theorem catS_ok {a b:List UInt8} (h:a.length+b.length≤1000000000):catS a b=some (a++b):=by
 unfold catS; rw [if_pos (by omega)]
theorem remI_ok {k:IntKind} {a b:Int} (h:b≠0):remI k a b=some (a.tmod b):=by unfold remI; rw [if_neg h]
inductive Walk {α:Type} (E:α→α→Prop):α→α→Prop where
 | one {a b:α}:E a b→Walk E a b
 | step {a b c:α}:Walk E a b→E b c→Walk E a c
theorem Walk.trans {α:Type} {E:α→α→Prop} {a b c:α} (h:Walk E a b) (k:Walk E b c):Walk E a c:=by
 induction k with
 | one e=>exact .step h e
 | step _ e ih=>exact .step ih e
end Go.Am
