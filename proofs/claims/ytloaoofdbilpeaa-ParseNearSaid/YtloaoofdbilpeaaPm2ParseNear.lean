/- Parts of a heap, what they stand for, and what each operation makes of them. No condition. Own work. -/
import Derived.Test.YtloaoofdbilpeaaPm1ParseNear
import Derived.Test.YtloaoofdbilpeaaAm7ParseNear
import Derived.IntWalk
set_option linter.unusedSimpArgs false
set_option linter.unusedVariables false
namespace Go.Am
open Go
def idxB (s:List UInt8) (c:Int):Int:=Go.Lib.indexByte s c.toNat.toUInt8
def cntB (s:List UInt8) (c:Int):Int:=((Go.Lib.countByte s c.toNat.toUInt8:Nat):Int)
def idxS (s:List UInt8) (i:Int):Option Int:=if 0≤i then match s[i.toNat]? with
 | some b=>some (b.toNat:Int)
 | none=>none else none
theorem idxS_ev {s:List UInt8} {i n:Int} {k:IntKind} (h:idxS s i=some n):POp.ev .indexStr [.str s,.int k i]=some (.int .u8 n):=by
 unfold idxS at h
 simp only [POp.ev]
 split at h
 ·rename_i h0
  rw [if_pos h0]
  split at h
  ·rename_i b hb; cases h; rw [hb]
  cases h
 cases h
theorem sliceStr_ev10 {s q:List UInt8} {k:IntKind} {lo:Int} (h:slc s lo (s.length:Int)=some q):POp.ev (.sliceStr true false) [.str s,.int k lo]=some (.str q):=by
 obtain ⟨h1,h2,h3,rfl⟩:=slc_some h
 simp only [POp.ev,sliceStrEv,boundLo,boundHi,if_pos h1]
 rw [if_pos (by omega)]; rfl
def bytesI (s:List UInt8):Option (List Int):=if s.length≤roomCells then some (s.map fun b=>(b.toNat:Int)) else none
theorem bytesI_some {s:List UInt8} {r:List Int} (h:bytesI s=some r):s.length≤roomCells∧(s.map fun b=>(b.toNat:Int))=r:=by
 unfold bytesI at h
 split at h
 ·rename_i hh; cases h; exact ⟨hh,rfl⟩
 cases h
theorem bytesI_ob {s:List UInt8} {r:List Int} {h:Heap} (hr:bytesI s=some r):NOp.ob .strToBytes [.str s] h=some (.row (ofBytes s) 0 true):=by
 simp only [NOp.ob]
 rw [if_pos (bytesI_some hr).1]
theorem St.ofStr {g h:Heap} {M:Nat→Prop} {Γ:List Ch} (S:St g M Γ h) (s:List UInt8):St g M (own (oSl (fz (rI .u8))) [NOp.mk .strToBytes [.str s] h.n] (s.map fun b=>(b.toNat:Int))::Γ) (h.push (.row (ofBytes s) 0 true)):=by
 have e:ofBytes s=(s.map fun b=>[AV.int .u8 (b.toNat:Int)]).flatten:=by
  unfold ofBytes
  induction s with
  | nil=>rfl
  | cons a s ih=>simp only [List.map_cons,List.flatten_cons,ih]; rfl
 have a:∀ (h':Heap) (s:List UInt8),All2 ((rI .u8).R (Frz h')) (s.map fun b=>[AV.int .u8 (b.toNat:Int)]) (s.map fun b=>(b.toNat:Int)):=by
  intro h' s
  induction s with
  | nil=>exact .nil
  | cons x s ih=>exact .cons rfl ih
 have:=St.lit (r:=rI .u8) (n:=s.length) (S.pushRow (ofBytes s)) e (a _ s) (by simp)
 exact this
def strI (s:List UInt8):List Int:=s.map fun b=>(b.toNat:Int)
theorem St.byteConv {g h:Heap} {M:Nat→Prop} {Γ:List Ch} {α:Type} {r:ORep α} {s:AV} {l:List α} (S:St g M Γ h) (hm:own (oSl r) [s] l∈Γ) (hn:s.slen≠0):EOp.ev .byteConv [s] h=some (s,h):=by
 obtain ⟨fp,s',e,a⟩:=S.mem hm
 cases e
 rcases a with ⟨rfl,_,_⟩ | ⟨o,v,off,row,els,fps,rfl,hg,_⟩
 ·exact absurd rfl hn
 simp only [EOp.ev,hg]
 rw [if_pos ⟨trivial,hn⟩]
theorem St.pushIt {g h:Heap} {M:Nat→Prop} {Γ:List Ch} (S:St g M Γ h) (s:List UInt8):St g M (itC h.n s 0::Γ) (h.push (.iter s 0)):=
 S.new (c:=itC h.n s 0) (fp:=[h.n]) ⟨rfl,get_new h _⟩ (by simp)
theorem St.nextEnd {g h:Heap} {M:Nat→Prop} {Γ:List Ch} {o pos:Nat} {s:List UInt8} (S:St g M (itC o s pos::Γ) h) (hp:¬ pos < s.length):EOp.ev .nextStr [.iter o] h=some (.tuple [.bool false],h):=by
 obtain ⟨fp,⟨rfl,hg⟩,k⟩:=S.turn1
 simp only [EOp.ev,hg]
 rw [if_neg hp]
def runeAt (s:List UInt8) (p:Nat):Int:=(Utf8.decode ⟨s.toArray⟩ p).1
def nextAt (s:List UInt8) (p:Nat):Nat:=p+(Utf8.decode ⟨s.toArray⟩ p).2
theorem St.next {g h:Heap} {M:Nat→Prop} {Γ:List Ch} {o pos:Nat} {s:List UInt8} (S:St g M (itC o s pos::Γ) h) (hp:pos < s.length) :
  ∃ h',EOp.ev .nextStr [.iter o] h=some (.tuple [.bool true,.int .i64 (pos:Int),.int .i32 (runeAt s pos)],h')∧St g M (itC o s (nextAt s pos)::Γ) h':=by
 obtain ⟨fp,⟨rfl,hg⟩,k⟩:=S.turn1
 refine ⟨h.set o (.iter s (pos+(Utf8.decode ⟨s.toArray⟩ pos).2)),?_,k _ (itC o s (pos+(Utf8.decode ⟨s.toArray⟩ pos).2)) [o] ?_ (Nat.le_refl _) ?_ ⟨rfl,?_⟩ (fun p hp=>.inl hp)⟩
 ·simp only [EOp.ev,hg]
  rw [if_pos hp]
  rfl
 ·intro p c u hp
  have hp:h.get p=_:=hp
  show (h.set _ _).get p=_
  have:p≠o:=fun e=>by rw [e,hg] at hp; cases hp
  rw [get_set_ne hg this]; exact hp
 ·intro p y hp hy
  rw [List.mem_singleton] at hp
  rw [get_set_ne hg hp]; exact hy
 rw [get_set_eq hg]
theorem sameRow_of {g h g2 h2:Heap} {M M2:Nat→Prop} {Γ Γ2:List Ch} {o v:Nat} {cs:List AV} (S:St g M Γ h) (hm:rowC o cs v∈Γ) (S2:St g2 M2 Γ2 h2) (hm2:rowC o cs v∈Γ2):sameRow (h.get o) (h2.get o)=true:=by
 obtain ⟨_,_,e1⟩:=S.mem hm
 obtain ⟨_,_,e2⟩:=S2.mem hm2
 rw [e1,e2]
 simp [sameRow,AV.beqs_refl]
end Go.Am
namespace Go.Am
open Go
structure KE (κ:Type) where
 f:κ→AV
 eq:κ→κ→Bool
 q:Nat
 ok:∀ k,keyOk q (f k)=true
 eqk:∀ a b,keyEq (f a) (f b)=some (eq a b)
 iff:∀ a b,eq a b=true↔a=b
def keS:KE (List UInt8):=⟨AV.str,fun a b=>a==b,2,fun _=>rfl,fun _ _=>rfl,fun a b=>by simp⟩
def keI (k:IntKind):KE Int:=⟨AV.int k,fun a b=>decide (a=b),1,fun _=>rfl,fun a b=>by simp [keyEq],fun a b=>by simp⟩
def mget {κ β:Type} (e:KE κ):List (κ×β)→κ→Option β
 | [],_=>none
 | x::m,k=>if e.eq k x.1=true then some x.2 else mget e m k
def mput {κ β:Type} (e:KE κ):List (κ×β)→κ→β→List (κ×β)
 | [],k,v=>[(k,v)]
 | x::m,k,v=>if e.eq k x.1=true then (k,v)::m else x::mput e m k v
def mapAV {κ β:Type} (e:KE κ) (ve:β→AV) (m:List (κ×β)):List (AV×AV):=m.map fun x=>(e.f x.1,ve x.2)
theorem findIn_map {κ β:Type} (e:KE κ) (ve:β→AV) (k:κ):∀ m:List (κ×β),findIn (e.f k) (mapAV e ve m)=some ((mget e m k).map ve)
 | []=>rfl
 | x::m=>by
  have ih:=findIn_map e ve k m
  simp only [mapAV,List.map_cons,findIn,e.eqk] at ih ⊢
  unfold mget
  by_cases h:e.eq k x.1=true
  ·rw [if_pos h,h]; rfl
  rw [if_neg h]
  have h':e.eq k x.1=false:=by simpa using h
  rw [h']
  exact ih
theorem putIn_map {κ β:Type} (e:KE κ) (ve:β→AV) (k:κ) (v:β):∀ m:List (κ×β),putIn (e.f k) (ve v) (mapAV e ve m)=some (mapAV e ve (mput e m k v))
 | []=>rfl
 | x::m=>by
  have ih:=putIn_map e ve k v m
  simp only [mapAV,List.map_cons,putIn,e.eqk] at ih ⊢
  unfold mput
  by_cases h:e.eq k x.1=true
  ·rw [if_pos h,h]; rfl
  rw [if_neg h]
  have h':e.eq k x.1=false:=by simpa using h
  rw [h']
  simp only [ih,List.map_cons]
def AV.isMap:AV→Bool
 | .map _=>true
 | _=>false
def rMap (α:Type):Rep α:=⟨1,fun _ cs _=>∃ s,cs=[s]∧s.isMap=true,(by rintro _ _ _ ⟨s,rfl,_⟩; rfl),fun _ h=>h⟩
def oMap {κ β:Type} (e:KE κ) (ve:β→AV):ORep (List (κ×β)) where
 rep:=rMap _
 O h cs m fp:=∃ o,cs=[.map o]∧h.get o=some (.map (mapAV e ve m))∧fp=[o]
 nd:=by rintro _ _ _ _ ⟨o,_,_,rfl⟩; simp
 bd:=by rintro _ _ _ _ ⟨o,_,hg,rfl⟩ p hp; rw [List.mem_singleton] at hp; subst hp; exact ⟨_,hg⟩
 stay:=by rintro h h' cs m fp ⟨o,e1,hg,rfl⟩ hs hz; exact ⟨o,e1,by rw [hs o (by simp)]; exact hg,rfl⟩
 snap:=by rintro _ _ _ _ ⟨o,rfl,_,_⟩; exact ⟨_,rfl,rfl⟩
 frz:=by rintro h _ _ _ ⟨o,rfl,_,_⟩; exact ⟨h,Fz.refl _,fun _ _=>rfl,_,rfl,rfl⟩
theorem St.pushM {g h:Heap} {M:Nat→Prop} {Γ:List Ch} {κ β:Type} (S:St g M Γ h) (e:KE κ) (ve:β→AV):St g M (own (oMap e ve) [.map h.n] []::Γ) (h.push (.map [])):=
 S.new (c:=own (oMap e ve) [.map h.n] []) (fp:=[h.n]) ⟨_,rfl,get_new h _,rfl⟩ (by simp)
theorem St.mp {g h:Heap} {M:Nat→Prop} {Γ:List Ch} (S:St g M Γ h) {κ β:Type} {e:KE κ} {ve:β→AV} {s:AV} {m:List (κ×β)} (hm:own (oMap e ve) [s] m∈Γ):s.isMap=true:=by
 obtain ⟨fp,o,h1,_⟩:=S.mem hm
 cases h1; rfl
theorem St.look1 {g h:Heap} {M:Nat→Prop} {Γ:List Ch} (S:St g M Γ h) {κ β:Type} {e:KE κ} {ve:β→AV} {s:AV} {m:List (κ×β)} (hm:own (oMap e ve) [s] m∈Γ) (k:κ) (z:β) :
  ROp.ev (.lookup e.q false (ve z)) [s,e.f k] h=some (ve ((mget e m k).getD z)):=by
 obtain ⟨fp,o,h1,hg,_⟩:=S.mem hm
 cases h1
 simp only [ROp.ev,hg,e.ok,findIn_map]
 cases mget e m k<;>rfl
theorem St.look2 {g h:Heap} {M:Nat→Prop} {Γ:List Ch} (S:St g M Γ h) {κ β:Type} {e:KE κ} {ve:β→AV} {s:AV} {m:List (κ×β)} (hm:own (oMap e ve) [s] m∈Γ) (k:κ) (z:β) :
  ROp.ev (.lookup e.q true (ve z)) [s,e.f k] h=some (.tuple [ve ((mget e m k).getD z),.bool (mget e m k).isSome]):=by
 obtain ⟨fp,o,h1,hg,_⟩:=S.mem hm
 cases h1
 simp only [ROp.ev,hg,e.ok,findIn_map]
 cases mget e m k<;>rfl
theorem St.lenM {g h:Heap} {M:Nat→Prop} {Γ:List Ch} (S:St g M Γ h) {κ β:Type} {e:KE κ} {ve:β→AV} {s:AV} {m:List (κ×β)} (hm:own (oMap e ve) [s] m∈Γ) :
  ROp.ev .lenMap [s] h=some (.int .i64 (m.length:Int)):=by
 obtain ⟨fp,o,h1,hg,_⟩:=S.mem hm
 cases h1
 simp only [ROp.ev,hg,mapAV,List.length_map]
theorem St.setM {g h:Heap} {M:Nat→Prop} {Γ:List Ch} {κ β:Type} {e:KE κ} {ve:β→AV} {s:AV} {m:List (κ×β)} (S:St g M (own (oMap e ve) [s] m::Γ) h) (k:κ) (v:β) :
  ∃ h',EOp.ev (.mapSet e.q) [s,e.f k,ve v] h=some (.undef,h')∧St g M (own (oMap e ve) [s] (mput e m k v)::Γ) h':=by
 obtain ⟨fp,⟨o,h1,hg,rfl⟩,kk⟩:=S.turn1
 cases h1
 refine ⟨h.set o (.map (mapAV e ve (mput e m k v))),?_,kk _ (own (oMap e ve) [.map o] (mput e m k v)) [o] ?_ (Nat.le_refl _) ?_ ⟨o,rfl,?_,rfl⟩ (fun p hp=>.inl hp)⟩
 ·simp only [EOp.ev,hg,e.ok,putIn_map,if_pos]
 ·intro p c u hp
  have hp:h.get p=_:=hp
  show (h.set _ _).get p=_
  have:p≠o:=fun e=>by rw [e,hg] at hp; cases hp
  rw [get_set_ne hg this]; exact hp
 ·intro p y hp hy
  rw [List.mem_singleton] at hp
  rw [get_set_ne hg hp]; exact hy
 rw [get_set_eq hg]
theorem sl_cases {α:Type} {r:Rep α} {G:Hp} {s:AV} {l:List α} (a:SlR r G s l):(s=.nilSlice∧l=[])∨∃ o v off n z,s=.slice o v off n z:=by
 rcases a with a | ⟨o,v,off,row,els,h,_⟩
 ·exact .inl a
 exact .inr ⟨_,_,_,_,_,h⟩
theorem sl_nil {s:AV} (h:∃ o v off n z,s=.slice o v off n z):POp.ev (.eql false 2) [s,.nilSlice]=some (.bool false):=by
 obtain ⟨_,_,_,_,_,rfl⟩:=h; rfl
theorem St.bytesRow {g h:Heap} {M:Nat→Prop} {Γ:List Ch} {l:List Int} {o v n:Nat} (S:St g M Γ h) (hm:rowC o (l.map fun n=>.int .u8 n) v∈Γ) (hn:n=l.length) :
  ROp.ev .bytesToStr [.slice o v 0 n 1] h=some (.str (l.map u8)):=by
 obtain ⟨fp,_,hg⟩:=S.mem hm
 have e:h.rows 1 (.slice o v 0 n 1)=some (l.map fun n=>.int .u8 n):=by
  subst hn
  simp only [Heap.rows,Nat.mul_one]
  rw [cells_of hg (by simp),List.drop_zero,List.take_of_length_le (by simp)]
 simp only [ROp.ev,e,bytesOf_map]
theorem rd1_ev {h:Heap} {p y:AV} (e:h.rd1 p=some y):ROp.ev .load1 [p] h=some y:=e
theorem rdN_ev {h:Heap} {p:AV} {n:Nat} {cs:List AV} (e:h.rdN p n=some cs):ROp.ev (.loadN n) [p] h=some (.agg cs):=by
 unfold Heap.rdN at e
 split at e
 ·simp only [ROp.ev,e]
 cases e
theorem rd_keep {h h':Heap} {p y:AV} (k:Hp.le (Snap h) (Snap h')) (e:h.rd1 p=some y):h'.rd1 p=some y:=by
 unfold Heap.rd1 at e ⊢
 cases p<;>simp only [ROp.ev] at e ⊢<;>first | exact e | skip
 rename_i o v off
 simp only [Heap.cells] at e ⊢
 cases hg:h.get o with
 | none=>rw [hg] at e; cases e
 | some ob=>
  rw [hg] at e
  cases ob with
  | row cs ver w=>
   obtain ⟨w',hg'⟩:=k o cs ver ⟨w,hg⟩
   rw [hg']; exact e
  | map es=>cases e
  | iter s pos=>cases e
theorem fz_snap {h h':Heap} (k:Fz h h'):Hp.le (Snap h) (Snap h'):=fun o cs v ⟨w,hg⟩=>by
 rcases k.get o with e | ⟨cs',v',e1,e2⟩
 ·exact ⟨w,by rw [← e]; exact hg⟩
 rw [e1] at hg; cases hg; exact ⟨_,e2⟩
theorem idx_set {α:Type} {l:List α} {i:Int} {x y:α} (h:idx l i=some x):idx (l.set i.toNat y) i=some y:=by
 obtain ⟨h0,h1⟩:=idx_some h
 unfold idx
 rw [if_pos h0]
 have:=(List.getElem?_eq_some_iff.1 h1).1
 rw [List.getElem?_set]
 simp [this]
theorem all2_intL {k:IntKind} {G:Hp}:∀ l:List Int,All2 ((rI k).R G) (l.map fun n=>[AV.int k n]) l
 | []=>.nil
 | _::l=>.cons rfl (all2_intL l)
theorem St.cast1 {g:Heap} {M:Nat→Prop} {Γ:List Ch} {h:Heap} {c c':Ch} (S:St g M (c::Γ) h) (e:c=c'):St g M (c'::Γ) h:=e▸S
theorem m0 {α:Type} {x0:α} {l:List α}:x0∈x0::l:=.head _
theorem m1 {α:Type} {x0 x1:α} {l:List α}:x1∈x0::x1::l:=.tail _ (.head _)
theorem m2 {α:Type} {x0 x1 x2:α} {l:List α}:x2∈x0::x1::x2::l:=.tail _ (.tail _ (.head _))
theorem m3 {α:Type} {x0 x1 x2 x3:α} {l:List α}:x3∈x0::x1::x2::x3::l:=.tail _ (.tail _ (.tail _ (.head _)))
theorem m4 {α:Type} {x0 x1 x2 x3 x4:α} {l:List α}:x4∈x0::x1::x2::x3::x4::l:=.tail _ (.tail _ (.tail _ (.tail _ (.head _))))
theorem m5 {α:Type} {x0 x1 x2 x3 x4 x5:α} {l:List α}:x5∈x0::x1::x2::x3::x4::x5::l:=.tail _ (.tail _ (.tail _ (.tail _ (.tail _ (.head _)))))
theorem m6 {α:Type} {x0 x1 x2 x3 x4 x5 x6:α} {l:List α}:x6∈x0::x1::x2::x3::x4::x5::x6::l:=.tail _ (.tail _ (.tail _ (.tail _ (.tail _ (.tail _ (.head _))))))
theorem m7 {α:Type} {x0 x1 x2 x3 x4 x5 x6 x7:α} {l:List α}:x7∈x0::x1::x2::x3::x4::x5::x6::x7::l:=.tail _ (.tail _ (.tail _ (.tail _ (.tail _ (.tail _ (.tail _ (.head _)))))))
theorem m8 {α:Type} {x0 x1 x2 x3 x4 x5 x6 x7 x8:α} {l:List α}:x8∈x0::x1::x2::x3::x4::x5::x6::x7::x8::l:=.tail _ (.tail _ (.tail _ (.tail _ (.tail _ (.tail _ (.tail _ (.tail _ (.head _))))))))
theorem cs_perm {h:Heap} {Γ Γ':List Ch} (p:Γ.Perm Γ'):∀ {fps:List (List Nat)},Cs h Γ fps→∃ fps',Cs h Γ' fps'∧fps.Perm fps':=by
 induction p with
 | nil=>intro fps hc; exact ⟨fps,hc,List.Perm.refl _⟩
 | cons x _ ih=>
  intro fps hc
  cases hc with
  | cons a t=>
   obtain ⟨f,h1,h2⟩:=ih t
   exact ⟨_::f,.cons a h1,h2.cons _⟩
 | swap x y l=>
  intro fps hc
  cases hc with
  | cons a t=>cases t with
   | cons b t=>exact ⟨_::_::_,.cons b (.cons a t),List.Perm.swap _ _ _⟩
 | trans _ _ ih1 ih2=>
  intro fps hc
  obtain ⟨f,h1,h2⟩:=ih1 hc
  obtain ⟨f',h3,h4⟩:=ih2 h1
  exact ⟨f',h3,h2.trans h4⟩
theorem St.perm {g h:Heap} {M:Nat→Prop} {Γ Γ':List Ch} (S:St g M Γ h) (p:Γ.Perm Γ'):St g M Γ' h:=by
 obtain ⟨fps,h1,h2,h3⟩:=S.ex
 obtain ⟨f,h4,h5⟩:=cs_perm p h1
 exact ⟨S.hz,S.n,S.old,f,h4,(h5.pairwise_iff (fun hab=>Dj.symm hab)).1 h2,fun q hq o ho=>h3 q (h5.mem_iff.2 hq) o ho⟩
theorem St.mvF {g h:Heap} {M:Nat→Prop} {Γ:List Ch} {c:Ch} (Γ1:List Ch) (S:St g M (Γ1++c::Γ) h):St g M (c::(Γ1++Γ)) h:=S.perm List.perm_middle
theorem St.mvB {g h:Heap} {M:Nat→Prop} {Γ:List Ch} (cs Γ1:List Ch) (S:St g M (cs++(Γ1++Γ)) h):St g M (Γ1++(cs++Γ)) h:=S.perm (List.perm_append_comm_assoc _ _ _)
theorem nl {a b:Nat} (h:Nat.ble a b=true):a≤b:=Nat.le_of_ble_eq_true h
theorem oi {α:Type} {a b:α} (h:some a=some b):a=b:=Option.some.inj h
theorem ifT {c:Bool} {α:Type} {a b:α} (h:c=true):(if c=true then a else b)=a:=if_pos h
theorem ifF {c:Bool} {α:Type} {a b:α} (h:c=false):(if c=true then a else b)=b:=if_neg (by rw [h]; exact Bool.false_ne_true)
theorem ifD {p:Prop} [Decidable p] {α:Type} {a b:α} (h:decide p=true):(if p then a else b)=a:=if_pos (of_decide_eq_true h)
theorem ifE {p:Prop} [Decidable p] {α:Type} {a b:α} (h:decide p=false):(if p then a else b)=b:=if_neg (of_decide_eq_false h)
theorem ix_go {α:Type} {r:Rep α} {G:Hp} {h:Heap} {s:AV} {l:List α} {i n:Int} {x:α} {P:Prop} (a:SlR r G s l) (hG:Hp.le G (Snap h)) (hi:idx l i=some x) (k:(s.at (i.toNat * r.z)).isPtr=true→P) (hn:n=(s.slen:Int)∨n=(l.length:Int):=by first | exact .inl rfl | exact .inr rfl):ifP s.isSlice (0≤i∧i < n∧P):=by
 obtain ⟨q,q0,q1⟩:=SlR.ix a hi
 refine iI.2 ⟨q,q0,?_,k (SlR.idx a hG hi).1⟩
 rcases hn with rfl | rfl
 ·exact q1
 exact (idx_lt hi).2
theorem mget_put_same {κ β:Type} (e:KE κ) (k:κ) (v:β):∀ m:List (κ×β),mget e (mput e m k v) k=some v
 | []=>by simp only [mput,mget]; rw [if_pos ((e.iff _ _).2 rfl)]
 | x::m=>by
  unfold mput
  by_cases h:e.eq k x.1=true
  ·rw [if_pos h]; unfold mget; rw [if_pos ((e.iff _ _).2 rfl)]
  rw [if_neg h]; unfold mget; rw [if_neg h]; exact mget_put_same e k v m
theorem mget_put_ne {κ β:Type} (e:KE κ) {k k':κ} (hk:k'≠k) (v:β):∀ m:List (κ×β),mget e (mput e m k v) k'=mget e m k'
 | []=>by simp only [mput,mget]; rw [if_neg (fun h=>hk ((e.iff _ _).1 h))]
 | x::m=>by
  unfold mput
  by_cases h:e.eq k x.1=true
  ·rw [if_pos h]
   have:=(e.iff _ _).1 h
   simp only [mget]
   rw [if_neg (fun h=>hk ((e.iff _ _).1 h)),if_neg (fun h=>hk (((e.iff _ _).1 h).trans this.symm))]
  rw [if_neg h]; simp only [mget]
  split
  ·rfl
  exact mget_put_ne e hk v m
theorem mput_new {κ β:Type} (e:KE κ) (k:κ) (v:β):∀ m:List (κ×β),mget e m k=none→mput e m k v=m++[(k,v)]
 | [],_=>rfl
 | x::m,h=>by
  unfold mget at h
  unfold mput
  split at h
  ·cases h
  rename_i h1; rw [if_neg h1,mput_new e k v m h]; rfl
end Go.Am
namespace Go.Am
open Go
theorem els_open {α:Type} {s:Sh} {r:Rep α} {ok:α→Prop} {h:Heap} (conv:∀ c,TyC s h c→∃ x,r.R (Frz h) c x∧ok x):∀ (els:List (List AV)),(∀ x,x∈els→TyC s h x)→∃ l:List α,All2 (r.R (Frz h)) els l∧∀ x,x∈l→ok x
 | [],_=>⟨[],.nil,fun _ h=>by cases h⟩
 | e::els,he=>by
  obtain ⟨x,h1,h2⟩:=conv e (he e (List.mem_cons_self ..))
  obtain ⟨l,h3,h4⟩:=els_open conv els (fun y hy=>he y (List.mem_cons_of_mem _ hy))
  refine ⟨x::l,.cons h1 h3,fun y hy=>?_⟩
  rcases List.mem_cons.1 hy with rfl | hy
  ·exact h2
  exact h4 y hy
theorem sl_open {α:Type} {s:Sh} {r:Rep α} {ok:α→Prop} {h:Heap} (hz:r.z=s.n) (conv:∀ c,TyC s h c→∃ x,r.R (Frz h) c x∧ok x) {cs:List AV} (ht:TyC (.sl s) h cs):∃ sv l,cs=[sv]∧SlR r (Frz h) sv l∧(∀ x,x∈l→ok x)∧l.length≤maxLen:=by
 simp only [TyC] at ht
 obtain ⟨sv,rfl,rfl | ⟨o,els,rfl,h1,h2,h3⟩⟩:=ht
 ·exact ⟨_,[],rfl,.inl ⟨rfl,rfl⟩,fun _ h=>(by cases h),Nat.zero_le _⟩
 obtain ⟨l,k1,k2⟩:=els_open conv els h3
 have hl:=k1.len
 have hfl:els.flatten.length=els.length * r.z:=flatten_len els fun d hd=>by rw [TyC.len s (h3 d hd),hz]
 refine ⟨_,l,rfl,.inr ⟨o,0,0,els.flatten,els,by rw [hz,hl],h2,by rw [← hl]; omega,?_,k1⟩,k2,by omega⟩
 rw [List.drop_zero,← hl,List.take_of_length_le (by omega)]
theorem SlR.frz {α:Type} {r:Rep α} {h:Heap} {s:AV} {l:List α} (a:SlR r (Frz h) s l):SlR r (Snap h) s l:=a.mono (frz_snap h)
theorem int_open {k:IntKind} {h:Heap} {c:List AV} (ht:TyC (.int k) h c):∃ n,(rI k).R (Frz h) c n∧(Lit.int k n).wf=true:=by
 simp only [TyC] at ht
 exact ht
end Go.Am
namespace Go.Am
open Go
theorem wrap64 {n:Int} (h1 : -9223372036854775808≤n) (h2:n≤9223372036854775807):IntKind.wrap .i64 n=n:=IntWalk.i64_in _ (by omega)
theorem room_of {n b:Nat} (hn:n≤1000000000) (hb:b≤1000):n * b≤roomCells:=by
 have:n * b≤1000000000 * 1000:=Nat.mul_le_mul hn hb
 unfold roomCells; omega
theorem app_ok {α:Type} {b:Nat} {l k:List α} (h:l.length+k.length≤1000000000) (hb:b≤1000:=by decide):app b l k=some (l++k):=by
 unfold app; rw [if_pos (room_of h hb)]
theorem idx_ok {α:Type} {l:List α} {k:Nat} {x:α} (h:l[k]? = some x):idx l (k:Int)=some x:=by
 unfold idx; rw [if_pos (by omega),Int.toNat_natCast]; exact h
theorem idx_get {α:Type} {l:List α} {k:Nat} (h:k < l.length):idx l (k:Int)=some l[k]:=idx_ok (List.getElem?_eq_getElem h)
theorem catS_ok {a b:List UInt8} (h:a.length+b.length≤1000000000):catS a b=some (a++b):=by
 unfold catS; rw [if_pos (by omega)]
theorem remI_ok {k:IntKind} {a b:Int} (h:b≠0):remI k a b=some (a.tmod b):=by unfold remI; rw [if_neg h]
inductive Walk {α:Type} (E:α→α→Prop):α→α→Prop where
 | one {a b:α}:E a b→Walk E a b
 | step {a b c:α}:Walk E a b→E b c→Walk E a c
theorem Walk.trans {α:Type} {E:α→α→Prop} {a b c:α} (h:Walk E a b) (k:Walk E b c):Walk E a c:=by
 induction k with
 | one e=>exact .step h e
 | step _ e ih=>exact .step ih e
end Go.Am
