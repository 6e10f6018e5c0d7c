/- Parts of a heap, what they stand for, and what each operation makes of them. No condition. Own work. -/
import Derived.Test.YtmchbhheoieepaaAm7ProcessErrs
import Derived.Test.YtmchbhheoieepaaAm6ProcessErrs
set_option linter.unusedSimpArgs false
set_option linter.unusedVariables false
namespace Go.Am
open Go
abbrev Hp:=Nat→List AV→Nat→Prop
def Hp.le (G G':Hp):Prop:=∀ o cs v,G o cs v→G' o cs v
theorem Hp.le_refl (G:Hp):Hp.le G G:=fun _ _ _ h=>h
theorem Hp.le_trans {G G' G'':Hp} (a:Hp.le G G') (b:Hp.le G' G''):Hp.le G G'':=fun _ _ _ h=>b _ _ _ (a _ _ _ h)
def dX (h:Heap):Hp:=fun o cs v=>∃ w,h.get o=some (.row cs v w)
def Frz (h:Heap):Hp:=fun o cs v=>h.get o=some (.row cs v false)
theorem lH (h:Heap):Hp.le (Frz h) (dX h):=fun _ _ _ hg=>⟨_,hg⟩
def HZ (g h:Heap):Prop:=Hp.le (Frz g) (Frz h)
theorem HZ.refl (h:Heap):HZ h h:=Hp.le_refl _
theorem HZ.trans {a b c:Heap} (x:HZ a b) (y:HZ b c):HZ a c:=Hp.le_trans x y
theorem Fz.hz {h h':Heap} (k:Fz h h'):HZ h h':=fun o cs v hg=>by
 have hg:h.get o=some (.row cs v false):=hg
 show h'.get o=_
 rcases k.get o with e | ⟨cs',v',e1,e2⟩
 ·rw [← e]; exact hg
 rw [e1] at hg; cases hg
theorem HZ.of {g h:Heap} (hl:HLe g h):HZ g h:=fun o cs v hg=>hl.2 _ _ hg
structure Rep (α:Type) where
 z:Nat
 R:Hp→List AV→α→Prop
 len:∀ {G:Hp} {cs:List AV} {x:α},R G cs x→cs.length=z
 mono:∀ {G G':Hp} {cs:List AV} {x:α},Hp.le G G'→R G cs x→R G' cs x
def rI (k:IntKind):Rep Int:=⟨1,fun _ cs x=>cs=[.int k x],(by rintro _ _ _ rfl; rfl),fun _ h=>h⟩
def rB:Rep Bool:=⟨1,fun _ cs x=>cs=[.bool x],(by rintro _ _ _ rfl; rfl),fun _ h=>h⟩
def rS:Rep (List UInt8):=⟨1,fun _ cs x=>cs=[.str x],(by rintro _ _ _ rfl; rfl),fun _ h=>h⟩
def rU:Rep Unit:=⟨0,fun _ cs _=>cs=[],(by rintro _ _ _ rfl; rfl),fun _ h=>h⟩
def Au {α β:Type} (r:Rep α) (s:Rep β):Rep (α×β):=
 ⟨r.z+s.z,fun G cs x=>∃ a b,cs=a++b∧r.R G a x.1∧s.R G b x.2,
  (by rintro _ _ _ ⟨a,b,rfl,h1,h2⟩; rw [List.length_append,r.len h1,s.len h2]),
  fun hG ⟨a,b,e,h1,h2⟩=>⟨a,b,e,r.mono hG h1,s.mono hG h2⟩⟩
def GN {α β:Type} (r:Rep β) (f:α→β):Rep α:=⟨r.z,fun G cs x=>r.R G cs (f x),fun h=>r.len h,fun hG h=>r.mono hG h⟩
theorem All2.imp {α β:Type} {P Q:α→β→Prop} (hi:∀ a b,P a b→Q a b):∀ {l:List α} {m:List β},All2 P l m→All2 Q l m
 | _,_,.nil=>.nil
 | _,_,.cons h t=>.cons (hi _ _ h) (All2.imp hi t)
theorem All2.len {α β:Type} {P:α→β→Prop}:∀ {l:List α} {m:List β},All2 P l m→l.length=m.length
 | _,_,.nil=>rfl
 | _,_,.cons _ t=>by simp [All2.len t]
theorem All2.append {α β:Type} {P:α→β→Prop}:∀ {l:List α} {m:List β} {l':List α} {m':List β},All2 P l m→All2 P l' m'→All2 P (l++l') (m++m')
 | _,_,_,_,.nil,k=>k
 | _,_,_,_,.cons h t,k=>.cons h (All2.append t k)
theorem All2.getR {α β:Type} {P:α→β→Prop}:∀ {l:List α} {m:List β},All2 P l m→∀ {i:Nat} {b:β},m[i]? = some b→∃ a,l[i]? = some a∧P a b
 | _,_,.nil,i,b,h=>by simp at h
 | _,_,.cons hp hr,0,b,h=>by simp at h; subst h; exact ⟨_,by simp,hp⟩
 | _,_,.cons hp hr,i+1,b,h=>by
  simp only [List.getElem?_cons_succ] at h ⊢
  exact All2.getR hr h
theorem All2.take {α β:Type} {P:α→β→Prop}:∀ {l:List α} {m:List β},All2 P l m→∀ n,All2 P (l.take n) (m.take n)
 | _,_,.nil,n=>by simp; exact .nil
 | _,_,.cons hp hr,0=>.nil
 | _,_,.cons hp hr,n+1=>.cons hp (hr.take n)
theorem All2.drop {α β:Type} {P:α→β→Prop}:∀ {l:List α} {m:List β},All2 P l m→∀ n,All2 P (l.drop n) (m.drop n)
 | _,_,.nil,n=>by simp; exact .nil
 | _,_,.cons hp hr,0=>.cons hp hr
 | _,_,.cons hp hr,n+1=>hr.drop n
inductive All3 {α β γ:Type} (P:α→β→γ→Prop):List α→List β→List γ→Prop where
 | nil:All3 P [] [] []
 | cons {a:α} {b:β} {c:γ} {l:List α} {m:List β} {n:List γ}:P a b c→All3 P l m n→All3 P (a::l) (b::m) (c::n)
theorem All3.imp {α β γ:Type} {P Q:α→β→γ→Prop} (hi:∀ a b c,P a b c→Q a b c):∀ {l:List α} {m:List β} {n:List γ},All3 P l m n→All3 Q l m n
 | _,_,_,.nil=>.nil
 | _,_,_,.cons h t=>.cons (hi _ _ _ h) (All3.imp hi t)
theorem All3.lens {α β γ:Type} {P:α→β→γ→Prop}:∀ {l:List α} {m:List β} {n:List γ},All3 P l m n→l.length=m.length∧n.length=m.length
 | _,_,_,.nil=>⟨rfl,rfl⟩
 | _,_,_,.cons _ t=>by simp [All3.lens t]
theorem All3.append {α β γ:Type} {P:α→β→γ→Prop}:∀ {l:List α} {m:List β} {n:List γ} {l':List α} {m':List β} {n':List γ},All3 P l m n→All3 P l' m' n'→All3 P (l++l') (m++m') (n++n')
 | _,_,_,_,_,_,.nil,k=>k
 | _,_,_,_,_,_,.cons h t,k=>.cons h (All3.append t k)
theorem All3.getM {α β γ:Type} {P:α→β→γ→Prop}:∀ {l:List α} {m:List β} {n:List γ},All3 P l m n→∀ {i:Nat} {b:β},m[i]? = some b→∃ a c,l[i]? = some a∧n[i]? = some c∧P a b c
 | _,_,_,.nil,i,b,h=>by simp at h
 | _,_,_,.cons hp hr,0,b,h=>by simp at h; subst h; exact ⟨_,_,by simp,by simp,hp⟩
 | _,_,_,.cons hp hr,i+1,b,h=>by
  simp only [List.getElem?_cons_succ] at h ⊢
  exact All3.getM hr h
theorem All3.set {α β γ:Type} {P:α→β→γ→Prop}:∀ {l:List α} {m:List β} {n:List γ},All3 P l m n→∀ (i:Nat) {a:α} {b:β} {c:γ},P a b c→All3 P (l.set i a) (m.set i b) (n.set i c)
 | _,_,_,.nil,i,_,_,_,_=>by simp; exact .nil
 | _,_,_,.cons hp hr,0,_,_,_,h=>.cons h hr
 | _,_,_,.cons hp hr,i+1,_,_,_,h=>.cons hp (hr.set i h)
theorem All3.take {α β γ:Type} {P:α→β→γ→Prop}:∀ {l:List α} {m:List β} {n:List γ},All3 P l m n→∀ k,All3 P (l.take k) (m.take k) (n.take k)
 | _,_,_,.nil,k=>by simp; exact .nil
 | _,_,_,.cons hp hr,0=>.nil
 | _,_,_,.cons hp hr,k+1=>.cons hp (hr.take k)
theorem All3.drop {α β γ:Type} {P:α→β→γ→Prop}:∀ {l:List α} {m:List β} {n:List γ},All3 P l m n→∀ k,All3 P (l.drop k) (m.drop k) (n.drop k)
 | _,_,_,.nil,k=>by simp; exact .nil
 | _,_,_,.cons hp hr,0=>.cons hp hr
 | _,_,_,.cons hp hr,k+1=>hr.drop k
theorem All3.two {α β γ:Type} {P:α→β→γ→Prop} {Q:α→β→Prop} (hi:∀ a b c,P a b c→Q a b):∀ {l:List α} {m:List β} {n:List γ},All3 P l m n→All2 Q l m
 | _,_,_,.nil=>.nil
 | _,_,_,.cons h t=>.cons (hi _ _ _ h) (All3.two hi t)
def SlR {α:Type} (r:Rep α) (G:Hp) (s:AV) (l:List α):Prop:=
 (s=.nilSlice∧l=[])∨∃ o v off row els,s=.slice o v off l.length r.z∧G o row v∧off+l.length * r.z≤row.length∧els.flatten=(row.drop off).take (l.length * r.z)∧All2 (r.R G) els l
theorem SlR.mono {α:Type} {r:Rep α} {G G':Hp} {s:AV} {l:List α} (hG:Hp.le G G') (a:SlR r G s l):SlR r G' s l:=by
 rcases a with a | ⟨o,v,off,row,els,h1,h2,h3,h4,h5⟩
 ·exact .inl a
 exact .inr ⟨o,v,off,row,els,h1,hG _ _ _ h2,h3,h4,h5.imp fun _ _ k=>r.mono hG k⟩
def rSl {α:Type} (r:Rep α):Rep (List α):=⟨1,fun G cs l=>∃ s,cs=[s]∧SlR r G s l,(by rintro _ _ _ ⟨s,rfl,_⟩; rfl),fun hG ⟨s,e,a⟩=>⟨s,e,a.mono hG⟩⟩
theorem oW {α:Type} {r:Rep α} {G:Hp} {s:AV} {l:List α} (a:(rSl r).R G [s] l):SlR r G s l:=by obtain ⟨s',e,a⟩:=a; cases e; exact a
theorem SlR.is {α:Type} {r:Rep α} {G:Hp} {s:AV} {l:List α} (a:SlR r G s l):s.isSlice=true:=by
 rcases a with ⟨rfl,_⟩ | ⟨o,v,off,row,els,rfl,_⟩<;>rfl
theorem SlR.slen {α:Type} {r:Rep α} {G:Hp} {s:AV} {l:List α} (a:SlR r G s l):s.slen=l.length:=by
 rcases a with ⟨rfl,rfl⟩ | ⟨o,v,off,row,els,rfl,_⟩<;>rfl
theorem SlR.esz {α:Type} {r:Rep α} {G:Hp} {s:AV} {l:List α} (a:SlR r G s l):s.hasEsz r.z=true:=by
 rcases a with ⟨rfl,rfl⟩ | ⟨o,v,off,row,els,rfl,_⟩
 ·rfl
 exact Nat.beq_refl _
theorem SlR.nil {α:Type} (r:Rep α) (G:Hp):SlR r G .nilSlice []:=.inl ⟨rfl,rfl⟩
def idx {α:Type} (l:List α) (i:Int):Option α:=if 0≤i then l[i.toNat]? else none
theorem bL {α:Type} {l:List α} {i:Int} {x:α} (h:idx l i=some x):0≤i∧l[i.toNat]? = some x:=by
 unfold idx at h
 split at h
 ·rename_i h0; exact ⟨h0,h⟩
 cases h
theorem vY {α:Type} {l:List α} {i:Int} {x:α} (h:idx l i=some x):0≤i∧i < (l.length:Int):=by
 obtain ⟨h0,h1⟩:=bL h
 have:=(List.getElem?_eq_some_iff.1 h1).1
 exact ⟨h0,by omega⟩
theorem fB {z:Nat} {row:List AV} {off n:Nat} {els:List (List AV)} (hz:∀ c,c∈els→c.length=z) (hl:els.flatten=(row.drop off).take (n * z)) {i:Nat} {c:List AV} (hi:i < n) (hc:els[i]? = some c):(row.drop (off+i * z)).take z=c:=by
 have hle:i * z+z≤n * z:=by rw [← Nat.succ_mul]; exact Nat.mul_le_mul_right _ (by omega)
 have h:=dF els hz i c hc
 rw [hl,List.drop_take,List.take_take,List.drop_drop,Nat.min_eq_left (by omega)] at h
 exact h
theorem eP {h:Heap} {o v off:Nat} {row:List AV} {w:Bool} {z:Nat} {c:List AV} (hg:h.get o=some (.row row v w)) (hc:(row.drop off).take z=c) (hz:c.length=z) (hlen:off+z≤row.length) :
  h.rdN (.ptr o v off) z=some c∧(∀ k y,c[k]? = some y→h.rd1 ((AV.ptr o v off).padd k)=some y)∧(∀ y,c[0]? = some y→h.rd1 (.ptr o v off)=some y):=by
 have h1:∀ k y,c[k]? = some y→h.rd1 (.ptr o v (off+k))=some y:=fun k y hy=>by
  refine pT hg ?_
  have hk:=(List.getElem?_eq_some_iff.1 hy).1
  rw [← hc,List.getElem?_take_of_lt (by omega),List.getElem?_drop] at hy
  exact hy
 exact ⟨by rw [pW hg hlen,hc],fun k y hy=>h1 k y hy,fun y hy=>h1 0 y hy⟩
theorem SlR.idx {α:Type} {r:Rep α} {G:Hp} {s:AV} {l:List α} (a:SlR r G s l) {h:Heap} (hG:Hp.le G (dX h)) {i:Int} {x:α} (hi:Am.idx l i=some x) :
  (s.at (i.toNat * r.z)).isPtr=true∧∃ c,r.R G c x∧h.rdN (s.at (i.toNat * r.z)) r.z=some c∧(∀ k y,c[k]? = some y→h.rd1 ((s.at (i.toNat * r.z)).padd k)=some y)∧(∀ y,c[0]? = some y→h.rd1 (s.at (i.toNat * r.z))=some y):=by
 obtain ⟨h0,hx⟩:=bL hi
 rcases a with ⟨rfl,rfl⟩ | ⟨o,v,off,row,els,rfl,h2,h3,h4,h5⟩
 ·simp at hx
 obtain ⟨c,hc,hR⟩:=h5.getR hx
 have hlt:=(List.getElem?_eq_some_iff.1 hx).1
 have hz:∀ d,d∈els→d.length=r.z:=fun d hd=>by
  obtain ⟨k,hk⟩:=List.getElem?_of_mem hd
  obtain ⟨b,_,hb⟩:=bj h5 hk
  exact r.len hb
 have hch:=fB hz h4 hlt hc
 obtain ⟨w,hg⟩:=hG _ _ _ h2
 have hle:i.toNat * r.z+r.z≤l.length * r.z:=by rw [← Nat.succ_mul]; exact Nat.mul_le_mul_right _ (by omega)
 exact ⟨rfl,c,hR,eP hg hch (hz c (List.mem_of_getElem? hc)) (by omega)⟩
structure ORep (α:Type) where
 rep:Rep α
 O:Heap→List AV→α→List Nat→Prop
 nd:∀ {h:Heap} {cs:List AV} {x:α} {fp:List Nat},O h cs x fp→fp.Nodup
 bd:∀ {h:Heap} {cs:List AV} {x:α} {fp:List Nat},O h cs x fp→∀ o,o∈fp→∃ y,h.get o=some y
 stay:∀ {h h':Heap} {cs:List AV} {x:α} {fp:List Nat},O h cs x fp→(∀ o,o∈fp→h'.get o=h.get o)→HZ h h'→O h' cs x fp
 snap:∀ {h:Heap} {cs:List AV} {x:α} {fp:List Nat},O h cs x fp→rep.R (dX h) cs x
 frz:∀ {h:Heap} {cs:List AV} {x:α} {fp:List Nat},O h cs x fp→∃ h',Fz h h'∧(∀ o,o∉fp→h'.get o=h.get o)∧rep.R (Frz h') cs x
def fz {α:Type} (r:Rep α):ORep α where
 rep:=r
 O h cs x fp:=fp=[]∧r.R (Frz h) cs x
 nd:=by rintro _ _ _ _ ⟨rfl,_⟩; simp
 bd:=by rintro _ _ _ _ ⟨rfl,_⟩ o ho; cases ho
 stay:=fun ⟨e,a⟩ _ hz=>⟨e,r.mono hz a⟩
 snap:=fun ⟨e,a⟩=>r.mono (lH _) a
 frz:=fun {h cs x fp} ⟨e,a⟩=>⟨h,Fz.refl _,fun _ _=>rfl,a⟩
theorem All3.stay {α:Type} {r:ORep α} {h h':Heap}:∀ {els:List (List AV)} {l:List α} {fps:List (List Nat)},All3 (r.O h) els l fps→(∀ o,o∈fps.flatten→h'.get o=h.get o)→HZ h h'→All3 (r.O h') els l fps
 | _,_,_,.nil,_,_=>.nil
 | _,_,_,.cons a t,hs,hz=>.cons (r.stay a (fun o ho=>hs o (by rw [List.flatten_cons]; exact List.mem_append_left _ ho)) hz) (t.stay (fun o ho=>hs o (by rw [List.flatten_cons]; exact List.mem_append_right _ ho)) hz)
theorem All3.bd {α:Type} {r:ORep α} {h:Heap}:∀ {els:List (List AV)} {l:List α} {fps:List (List Nat)},All3 (r.O h) els l fps→∀ o,o∈fps.flatten→∃ y,h.get o=some y
 | _,_,_,.nil,o,ho=>by simp at ho
 | _,_,_,.cons a t,o,ho=>by
  rw [List.flatten_cons] at ho
  rcases List.mem_append.1 ho with hh | hh
  ·exact r.bd a o hh
  exact t.bd o hh
theorem bX {α:Type} {a b:List α} (h:(a++b).Nodup):a.Nodup∧b.Nodup∧∀ x,x∈a→x∉b:=by
 rw [List.nodup_append] at h
 exact ⟨h.1,h.2.1,fun x ha hb=>h.2.2 x ha x hb rfl⟩
theorem bG {α:Type} {a b:List α} (ha:a.Nodup) (hb:b.Nodup) (hd:∀ x,x∈a→x∉b):(a++b).Nodup:=by
 rw [List.nodup_append]
 exact ⟨ha,hb,fun x hx y hy e=>hd x hx (by rw [e]; exact hy)⟩
theorem All3.frz {α:Type} {r:ORep α}:∀ {els:List (List AV)} {l:List α} {fps:List (List Nat)} {h:Heap},All3 (r.O h) els l fps→fps.flatten.Nodup→∃ h',Fz h h'∧(∀ o,o∉fps.flatten→h'.get o=h.get o)∧All2 (r.rep.R (Frz h')) els l
 | _,_,_,h,.nil,_=>⟨h,Fz.refl _,fun _ _=>rfl,.nil⟩
 | _,_,_,h,.cons a t,hn=>by
  rw [List.flatten_cons] at hn
  obtain ⟨n1,n2,n3⟩:=bX hn
  obtain ⟨h1,k1,k2,k3⟩:=r.frz a
  have t1:=t.stay (h':=h1) (fun o ho=>k2 o fun hf=>n3 o hf ho) k1.hz
  obtain ⟨h2,q1,q2,q3⟩:=t1.frz n2
  refine ⟨h2,k1.trans q1,fun o ho=>?_,.cons (r.rep.mono q1.hz k3) q3⟩
  rw [List.flatten_cons,List.mem_append,not_or] at ho
  rw [q2 o ho.2,k2 o ho.1]
theorem jQ {h:Heap} {o:Nat} {row:List AV} {v:Nat} (hg:h.get o=some (.row row v true)):Fz h (h.set o (.row row v false))∧(∀ p,p≠o→(h.set o (.row row v false)).get p=h.get p)∧(h.set o (.row row v false)).get o=some (.row row v false):=by
 have hlt:=get_lt hg
 refine ⟨⟨rfl,fun p=>?_⟩,fun p hp=>by rw [Heap.get_set _ hlt,if_neg hp],by rw [Heap.get_set _ hlt,if_pos rfl]⟩
 rw [Heap.get_set _ hlt]
 by_cases hp:p=o
 ·rw [if_pos hp,hp]; exact .inr ⟨row,v,hg,rfl⟩
 rw [if_neg hp]; exact .inl rfl
def OSl {α:Type} (r:ORep α) (h:Heap) (s:AV) (l:List α) (fp:List Nat):Prop:=
 (s=.nilSlice∧l=[]∧fp=[])∨∃ o v off row els fps,s=.slice o v off l.length r.rep.z∧h.get o=some (.row row v true)∧off+l.length * r.rep.z≤row.length∧els.flatten=(row.drop off).take (l.length * r.rep.z)∧All3 (r.O h) els l fps∧fp=o::fps.flatten∧fp.Nodup
theorem OSl.snap {α:Type} {r:ORep α} {h:Heap} {s:AV} {l:List α} {fp:List Nat} (a:OSl r h s l fp):SlR r.rep (dX h) s l:=by
 rcases a with ⟨h1,h2,_⟩ | ⟨o,v,off,row,els,fps,h1,h2,h3,h4,h5,_,_⟩
 ·exact .inl ⟨h1,h2⟩
 exact .inr ⟨o,v,off,row,els,h1,⟨_,h2⟩,h3,h4,h5.two fun _ _ _ k=>r.snap k⟩
def oSl {α:Type} (r:ORep α):ORep (List α) where
 rep:=rSl r.rep
 O h cs l fp:=∃ s,cs=[s]∧OSl r h s l fp
 nd:=by
  rintro _ _ _ _ ⟨s,rfl,⟨_,_,rfl⟩ | ⟨o,v,off,row,els,fps,_,_,_,_,_,_,h⟩⟩
  ·simp
  exact h
 bd:=by
  rintro _ _ _ _ ⟨s,rfl,⟨_,_,rfl⟩ | ⟨o,v,off,row,els,fps,_,hg,_,_,h5,rfl,_⟩⟩ p hp
  ·cases hp
  rcases List.mem_cons.1 hp with rfl | hp
  ·exact ⟨_,hg⟩
  exact h5.bd p hp
 stay:=by
  rintro h h' cs l fp ⟨s,rfl,⟨a,b,c⟩ | ⟨o,v,off,row,els,fps,h1,h2,h3,h4,h5,h6,h7⟩⟩ hs hz
  ·exact ⟨s,rfl,.inl ⟨a,b,c⟩⟩
  subst h6
  exact ⟨s,rfl,.inr ⟨o,v,off,row,els,fps,h1,by rw [hs o (List.mem_cons_self ..)]; exact h2,h3,h4,h5.stay (fun p hp=>hs p (List.mem_cons_of_mem _ hp)) hz,rfl,h7⟩⟩
 snap:=by rintro _ _ _ _ ⟨s,rfl,a⟩; exact ⟨s,rfl,a.snap⟩
 frz:=by
  rintro h cs l fp ⟨s,rfl,⟨a,b,c⟩ | ⟨o,v,off,row,els,fps,h1,h2,h3,h4,h5,h6,h7⟩⟩
  ·exact ⟨h,Fz.refl _,fun _ _=>rfl,s,rfl,.inl ⟨a,b⟩⟩
  subst h6
  have hn:=List.nodup_cons.1 h7
  obtain ⟨h1',k1,k2,k3⟩:=h5.frz hn.2
  have hg:h1'.get o=some (.row row v true):=by rw [k2 o hn.1]; exact h2
  obtain ⟨q1,q2,q3⟩:=jQ hg
  refine ⟨_,k1.trans q1,fun p hp=>?_,s,rfl,.inr ⟨o,v,off,row,els,h1,q3,h3,h4,k3.imp fun _ _ k=>r.rep.mono q1.hz k⟩⟩
  rw [List.mem_cons,not_or] at hp
  rw [q2 p hp.1,k2 p hp.2]
def nF {α β:Type} (r:ORep α) (s:ORep β):ORep (α×β) where
 rep:=Au r.rep s.rep
 O h cs x fp:=∃ a b fa fb,cs=a++b∧r.O h a x.1 fa∧s.O h b x.2 fb∧fp=fa++fb∧fp.Nodup
 nd:=by rintro _ _ _ _ ⟨_,_,_,_,_,_,_,_,h⟩; exact h
 bd:=by
  rintro _ _ _ _ ⟨a,b,fa,fb,_,h1,h2,rfl,_⟩ o ho
  rcases List.mem_append.1 ho with hh | hh
  ·exact r.bd h1 o hh
  exact s.bd h2 o hh
 stay:=by
  rintro h h' cs x fp ⟨a,b,fa,fb,e,h1,h2,rfl,hn⟩ hs hz
  exact ⟨a,b,fa,fb,e,r.stay h1 (fun o ho=>hs o (List.mem_append_left _ ho)) hz,s.stay h2 (fun o ho=>hs o (List.mem_append_right _ ho)) hz,rfl,hn⟩
 snap:=by rintro _ _ _ _ ⟨a,b,fa,fb,e,h1,h2,_,_⟩; exact ⟨a,b,e,r.snap h1,s.snap h2⟩
 frz:=by
  rintro h cs x fp ⟨a,b,fa,fb,e,h1,h2,rfl,hn⟩
  obtain ⟨n1,n2,n3⟩:=bX hn
  obtain ⟨g1,k1,k2,k3⟩:=r.frz h1
  obtain ⟨g2,q1,q2,q3⟩:=s.frz (s.stay (h':=g1) h2 (fun o ho=>k2 o fun hf=>n3 o hf ho) k1.hz)
  refine ⟨g2,k1.trans q1,fun o ho=>?_,a,b,e,r.rep.mono q1.hz k3,q3⟩
  rw [List.mem_append,not_or] at ho
  rw [q2 o ho.2,k2 o ho.1]
def qT {α β:Type} (r:ORep β) (f:α→β):ORep α where
 rep:=GN r.rep f
 O h cs x fp:=r.O h cs (f x) fp
 nd:=fun h=>r.nd h
 bd:=fun h=>r.bd h
 stay:=fun h=>r.stay h
 snap:=fun h=>r.snap h
 frz:=fun h=>r.frz h
end Go.Am
namespace Go.Am
open Go
structure Ch where
 P:Heap→List Nat→Prop
 nd:∀ {h:Heap} {fp:List Nat},P h fp→fp.Nodup
 bd:∀ {h:Heap} {fp:List Nat},P h fp→∀ o,o∈fp→∃ y,h.get o=some y
 stay:∀ {h h':Heap} {fp:List Nat},P h fp→(∀ o,o∈fp→h'.get o=h.get o)→HZ h h'→P h' fp
def own {α:Type} (r:ORep α) (cs:List AV) (x:α):Ch:=⟨fun h fp=>r.O h cs x fp,r.nd,r.bd,r.stay⟩
def fJ (o:Nat) (cs:List AV) (v:Nat):Ch where
 P h fp:=fp=[o]∧h.get o=some (.row cs v true)
 nd:=by rintro _ _ ⟨rfl,_⟩; simp
 bd:=by rintro _ _ ⟨rfl,hg⟩ p hp; rw [List.mem_singleton] at hp; subst hp; exact ⟨_,hg⟩
 stay:=fun ⟨e,hg⟩ hs _=>⟨e,by rw [hs _ (by rw [e]; simp)]; exact hg⟩
def JS (o:Nat) (es:List (AV×AV)):Ch where
 P h fp:=fp=[o]∧h.get o=some (.map es)
 nd:=by rintro _ _ ⟨rfl,_⟩; simp
 bd:=by rintro _ _ ⟨rfl,hg⟩ p hp; rw [List.mem_singleton] at hp; subst hp; exact ⟨_,hg⟩
 stay:=fun ⟨e,hg⟩ hs _=>⟨e,by rw [hs _ (by rw [e]; simp)]; exact hg⟩
def itC (o:Nat) (s:List UInt8) (pos:Nat):Ch where
 P h fp:=fp=[o]∧h.get o=some (.iter s pos)
 nd:=by rintro _ _ ⟨rfl,_⟩; simp
 bd:=by rintro _ _ ⟨rfl,hg⟩ p hp; rw [List.mem_singleton] at hp; subst hp; exact ⟨_,hg⟩
 stay:=fun ⟨e,hg⟩ hs _=>⟨e,by rw [hs _ (by rw [e]; simp)]; exact hg⟩
def Dj (a b:List Nat):Prop:=∀ o,o∈a→o∉b
theorem Dj.symm {a b:List Nat} (h:Dj a b):Dj b a:=fun o hb ha=>h o ha hb
def fr:Nat→Prop:=fun _=>False
abbrev Cs (h:Heap) (Γ:List Ch) (fps:List (List Nat)):Prop:=All2 (fun (c:Ch) fp=>c.P h fp) Γ fps
structure St (g:Heap) (M:Nat→Prop) (Γ:List Ch) (h:Heap):Prop where
 hz:HZ g h
 n:g.n≤h.n
 old:∀ o y,¬ M o→g.get o=some y→h.get o=some y
 ex:∃ fps,Cs h Γ fps∧fps.Pairwise Dj∧∀ f,f∈fps→∀ o,o∈f→M o∨g.n≤o
theorem St.refl (g:Heap) (M:Nat→Prop):St g M [] g:=⟨HZ.refl _,Nat.le_refl _,fun _ _ _ h=>h,[],.nil,.nil,fun _ h=>by cases h⟩
theorem St.le {g h:Heap} {Γ:List Ch} (S:St g fr Γ h):HLe g h:=⟨S.n,fun o y hy=>S.old o y id hy⟩
theorem St.mem {g:Heap} {M:Nat→Prop} {Γ:List Ch} {h:Heap} (S:St g M Γ h) {c:Ch} (hm:c∈Γ):∃ fp,c.P h fp:=by
 obtain ⟨fps,h1,_⟩:=S.ex
 obtain ⟨i,hi⟩:=List.getElem?_of_mem hm
 obtain ⟨fp,_,hp⟩:=bj h1 hi
 exact ⟨fp,hp⟩
def sel {α:Type} (l:List α):List Nat→Option (List α)
 | []=>some []
 | i::is=>match l[i]?,sel l is with
  | some x,some r=>some (x::r)
  | _,_=>none
theorem nc {α:Type} {l:List α}:∀ {is:List Nat} {r:List α},sel l is=some r→r.length=is.length∧∀ (k:Nat) (x:α),r[k]? = some x→∃ i,is[k]? = some i∧l[i]? = some x
 | [],r,h=>by cases h; exact ⟨rfl,fun k x hk=>by simp at hk⟩
 | i::is,r,h=>by
  simp only [sel] at h
  split at h
  ·rename_i x r' h1 h2
   cases h
   obtain ⟨k1,k2⟩:=nc h2
   refine ⟨by simp [k1],fun k y hk=>?_⟩
   cases k with
   | zero=>simp at hk; subst hk; exact ⟨i,by simp,h1⟩
   | succ k=>simp only [List.getElem?_cons_succ] at hk ⊢; exact k2 k y hk
  cases h
theorem oU {α β:Type} {P:α→β→Prop} {l:List α} {m:List β} (h:All2 P l m):∀ {is:List Nat} {r:List α},sel l is=some r→∃ q,sel m is=some q∧All2 P r q
 | [],r,hs=>by cases hs; exact ⟨[],rfl,.nil⟩
 | i::is,r,hs=>by
  simp only [sel] at hs
  split at hs
  ·rename_i x r' h1 h2
   cases hs
   obtain ⟨q,k1,k2⟩:=oU h h2
   obtain ⟨y,k3,k4⟩:=bj h h1
   exact ⟨y::q,by simp only [sel,k3,k1],.cons k4 k2⟩
  cases hs
theorem EN {fps:List (List Nat)} (h:fps.Pairwise Dj) {i j:Nat} {a b:List Nat} (hij:i≠j) (ha:fps[i]? = some a) (hb:fps[j]? = some b):Dj a b:=by
 obtain ⟨hi,rfl⟩:=List.getElem?_eq_some_iff.1 ha
 obtain ⟨hj,rfl⟩:=List.getElem?_eq_some_iff.1 hb
 rw [List.pairwise_iff_getElem] at h
 rcases Nat.lt_or_ge i j with hh | hh
 ·exact h i j hi hj hh
 exact (h j i hj hi (by omega)).symm
theorem wb {fps:List (List Nat)} (h:fps.Pairwise Dj):∀ {is:List Nat} {q:List (List Nat)},is.Nodup→sel fps is=some q→q.Pairwise Dj
 | [],q,_,hs=>by cases hs; exact .nil
 | i::is,q,hn,hs=>by
  simp only [sel] at hs
  split at hs
  ·rename_i x r' h1 h2
   cases hs
   rw [List.nodup_cons] at hn
   refine .cons (fun b hb=>?_) (wb h hn.2 h2)
   obtain ⟨k,hk⟩:=List.getElem?_of_mem hb
   obtain ⟨j,hj,hf⟩:=(nc h2).2 k b hk
   exact EN h (fun e=>hn.1 (by rw [e]; exact List.mem_of_getElem? hj)) h1 hf
  cases hs
theorem yI {α:Type} {l:List α} {is:List Nat} {r:List α} (h:sel l is=some r) {x:α} (hx:x∈r):x∈l:=by
 obtain ⟨k,hk⟩:=List.getElem?_of_mem hx
 obtain ⟨i,_,hi⟩:=(nc h).2 k x hk
 exact List.mem_of_getElem? hi
theorem St.sel {g:Heap} {M:Nat→Prop} {Γ Γ':List Ch} {h:Heap} (S:St g M Γ h) (is:List Nat) (hs:Am.sel Γ is=some Γ') (hn:is.Nodup:=by decide):St g M Γ' h:=by
 obtain ⟨fps,h1,h2,h3⟩:=S.ex
 obtain ⟨q,k1,k2⟩:=oU h1 hs
 exact ⟨S.hz,S.n,S.old,q,k2,wb h2 hn k1,fun f hf=>h3 f (yI k1 hf)⟩
structure Step (fps:List (List Nat)) (h h':Heap) (fps':List (List Nat)):Prop where
 hz:HZ h h'
 n:h.n≤h'.n
 old:∀ o y,(∀ f,f∈fps→o∉f)→h.get o=some y→h'.get o=some y
 dj:fps'.Pairwise Dj
 src:∀ f,f∈fps'→∀ o,o∈f→(∃ f',f'∈fps∧o∈f')∨h.n≤o
theorem nZ {h h':Heap} (hz:HZ h h'):∀ {Γ:List Ch} {fps:List (List Nat)},Cs h Γ fps→(∀ f,f∈fps→∀ o,o∈f→h'.get o=h.get o)→Cs h' Γ fps
 | _,_,.nil,_=>.nil
 | _,_,.cons a t,hs=>.cons (Ch.stay _ a (fun o ho=>hs _ (List.mem_cons_self ..) o ho) hz) (nZ hz t fun f hf=>hs f (List.mem_cons_of_mem _ hf))
theorem tP {h:Heap}:∀ {Γ:List Ch} {fps:List (List Nat)},Cs h Γ fps→∀ f,f∈fps→∀ o,o∈f→∃ y,h.get o=some y
 | _,_,.nil,f,hf=>by cases hf
 | _,_,.cons a t,f,hf=>by
  rcases List.mem_cons.1 hf with rfl | hf
  ·exact Ch.bd _ a
  exact tP t f hf
theorem fN {h:Heap}:∀ {Γ1 Γ:List Ch} {fps:List (List Nat)},Cs h (Γ1++Γ) fps→∃ f1 f2,fps=f1++f2∧Cs h Γ1 f1∧Cs h Γ f2
 | [],Γ,fps,hc=>⟨[],fps,rfl,.nil,hc⟩
 | c::Γ1,Γ,_,.cons a t=>by
  obtain ⟨f1,f2,e,k1,k2⟩:=fN (Γ1:=Γ1) t
  exact ⟨_::f1,f2,by rw [e]; rfl,.cons a k1,k2⟩
theorem St.turn {g:Heap} {M:Nat→Prop} {Γ:List Ch} {h:Heap} (Γ1:List Ch) (S:St g M (Γ1++Γ) h):∃ fps,Cs h Γ1 fps∧fps.Pairwise Dj∧(∀ h' Γ2 fps',Step fps h h' fps'→Cs h' Γ2 fps'→St g M (Γ2++Γ) h'):=by
 obtain ⟨fps,h1,h2,h3⟩:=S.ex
 obtain ⟨f1,f2,rfl,k1,k2⟩:=fN h1
 rw [List.pairwise_append] at h2
 obtain ⟨d1,d2,d3⟩:=h2
 refine ⟨f1,k1,d1,fun h' Γ2 fps' T hc=>?_⟩
 have off:∀ f,f∈f2→∀ o,o∈f→∀ f',f'∈f1→o∉f':=fun f hf o ho f' hf' ho'=>d3 f' hf' f hf o ho' ho
 have same:∀ f,f∈f2→∀ o,o∈f→h'.get o=h.get o:=fun f hf o ho=>by
  obtain ⟨y,hy⟩:=tP k2 f hf o ho
  rw [hy,T.old o y (off f hf o ho) hy]
 refine ⟨S.hz.trans T.hz,Nat.le_trans S.n T.n,fun o y hm hy=>?_,fps'++f2,hc.append (nZ T.hz k2 same),?_,?_⟩
 ·refine T.old o y (fun f hf ho=>?_) (S.old o y hm hy)
  rcases h3 f (List.mem_append_left _ hf) o ho with hh | hh
  ·exact hm hh
  have:=get_lt hy; omega
 ·rw [List.pairwise_append]
  refine ⟨T.dj,d2,fun a ha b hb o hoa hob=>?_⟩
  rcases T.src a ha o hoa with ⟨f',hf',ho'⟩ | hn
  ·exact d3 f' hf' b hb o ho' hob
  obtain ⟨y,hy⟩:=tP k2 b hb o hob
  have:=get_lt hy
  omega
 intro f hf o ho
 rcases List.mem_append.1 hf with hf | hf
 ·rcases T.src f hf o ho with ⟨f',hf',ho'⟩ | hn
  ·exact h3 f' (List.mem_append_left _ hf') o ho'
  exact .inr (Nat.le_trans S.n hn)
 exact h3 f (List.mem_append_right _ hf) o ho
theorem cs1 {h:Heap} {c:Ch} {fps:List (List Nat)} (hc:Cs h [c] fps):∃ fp,fps=[fp]∧c.P h fp:=by
 cases hc with
 | cons a t=>cases t; exact ⟨_,rfl,a⟩
theorem cs2 {h:Heap} {c d:Ch} {fps:List (List Nat)} (hc:Cs h [c,d] fps):∃ fa fb,fps=[fa,fb]∧c.P h fa∧d.P h fb:=by
 cases hc with
 | cons a t=>
  obtain ⟨fb,rfl,hb⟩:=cs1 t
  exact ⟨_,fb,rfl,a,hb⟩
theorem St.turn1 {g:Heap} {M:Nat→Prop} {Γ:List Ch} {h:Heap} {c:Ch} (S:St g M (c::Γ) h):∃ fp,c.P h fp∧(∀ h' c' fp',HZ h h'→h.n≤h'.n→(∀ o y,o∉fp→h.get o=some y→h'.get o=some y)→c'.P h' fp'→(∀ o,o∈fp'→o∈fp∨h.n≤o)→St g M (c'::Γ) h'):=by
 obtain ⟨fps,hc,hd,k⟩:=St.turn [c] S
 obtain ⟨fp,rfl,hp⟩:=cs1 hc
 refine ⟨fp,hp,fun h' c' fp' a b e f s=>k h' [c'] [fp'] ⟨a,b,fun o y ho=>e o y (ho fp (by simp)),by simp,fun q hq o ho=>?_⟩ (.cons f .nil)⟩
 rw [List.mem_singleton] at hq
 subst hq
 rcases s o ho with hh | hh
 ·exact .inl ⟨fp,by simp,hh⟩
 exact .inr hh
theorem St.turn2 {g:Heap} {M:Nat→Prop} {Γ:List Ch} {h:Heap} {c d:Ch} (S:St g M (c::d::Γ) h):∃ fa fb,c.P h fa∧d.P h fb∧Dj fa fb∧(∀ h' c' fp',HZ h h'→h.n≤h'.n→(∀ o y,o∉fa→o∉fb→h.get o=some y→h'.get o=some y)→c'.P h' fp'→(∀ o,o∈fp'→o∈fa∨o∈fb∨h.n≤o)→St g M (c'::Γ) h'):=by
 obtain ⟨fps,hc,hd,k⟩:=St.turn [c,d] S
 obtain ⟨fa,fb,rfl,hp,hq⟩:=cs2 hc
 have hab:Dj fa fb:=by simp only [List.pairwise_cons,List.mem_singleton,forall_eq] at hd; exact hd.1
 refine ⟨fa,fb,hp,hq,hab,fun h' c' fp' a b e f s=>k h' [c'] [fp'] ⟨a,b,fun o y ho=>e o y (ho fa (by simp)) (ho fb (by simp)),by simp,fun q hq o ho=>?_⟩ (.cons f .nil)⟩
 rw [List.mem_singleton] at hq
 subst hq
 rcases s o ho with hh | hh | hh
 ·exact .inl ⟨fa,by simp,hh⟩
 ·exact .inl ⟨fb,by simp,hh⟩
 exact .inr hh
theorem St.add {g:Heap} {M:Nat→Prop} {Γ:List Ch} {h:Heap} (S:St g M Γ h) {α:Type} {r:Rep α} {cs:List AV} {x:α} (a:r.R (Frz h) cs x):St g M (own (fz r) cs x::Γ) h:=by
 obtain ⟨fps,h1,h2,h3⟩:=S.ex
 refine ⟨S.hz,S.n,S.old,[]::fps,.cons ⟨rfl,a⟩ h1,.cons (fun _ _ o ho=>by cases ho) h2,fun f hf o ho=>?_⟩
 rcases List.mem_cons.1 hf with rfl | hf
 ·cases ho
 exact h3 f hf o ho
theorem St.addE {g:Heap} {M:Nat→Prop} {Γ:List Ch} {h:Heap} (S:St g M Γ h) {c:Ch} (a:c.P h []):St g M (c::Γ) h:=by
 obtain ⟨fps,h1,h2,h3⟩:=S.ex
 refine ⟨S.hz,S.n,S.old,[]::fps,.cons a h1,.cons (fun _ _ o ho=>by cases ho) h2,fun f hf o ho=>?_⟩
 rcases List.mem_cons.1 hf with rfl | hf
 ·cases ho
 exact h3 f hf o ho
theorem St.of_le {g h h':Heap} {M:Nat→Prop} {Γ:List Ch} (S:St g M Γ h) (hl:HLe h h'):St g M Γ h':=by
 obtain ⟨fps,hc,hd,k⟩:=St.turn [] S
 cases hc
 exact k h' [] [] ⟨HZ.of hl,hl.1,fun o y _ hy=>hl.2 o y hy,.nil,fun _ h=>by cases h⟩ .nil
theorem St.push {g h:Heap} {M:Nat→Prop} {Γ:List Ch} (S:St g M Γ h) (x:AObj):St g M Γ (h.push x):=S.of_le (HLe.push h x)
theorem St.new {g h:Heap} {M:Nat→Prop} {Γ:List Ch} (S:St g M Γ h) {x:AObj} {c:Ch} {fp:List Nat} (a:c.P (h.push x) fp) (hf:∀ o,o∈fp→o=h.n):St g M (c::Γ) (h.push x):=by
 obtain ⟨fps,hc,hd,k⟩:=St.turn [] S
 cases hc
 refine k _ [c] [fp] ⟨HZ.of (HLe.push h x),Nat.le_succ _,fun o y _ hy=>oh hy,by simp,fun f hf' o ho=>?_⟩ (.cons a .nil)
 rw [List.mem_singleton] at hf'
 subst hf'
 exact .inr (by rw [hf o ho]; exact Nat.le_refl _)
theorem St.pushRow {g h:Heap} {M:Nat→Prop} {Γ:List Ch} (S:St g M Γ h) (cs:List AV):St g M (fJ h.n cs 0::Γ) (h.push (.row cs 0 true)):=
 S.new (c:=fJ h.n cs 0) (fp:=[h.n]) ⟨rfl,kA h _⟩ (by simp)
theorem St.rd1 {g h:Heap} {M:Nat→Prop} {Γ:List Ch} (S:St g M Γ h) {o v:Nat} {cs:List AV} (hm:fJ o cs v∈Γ) {k:Nat} {y:AV} (hk:cs[k]? = some y):h.rd1 (.ptr o v k)=some y:=by
 obtain ⟨fp,_,hg⟩:=S.mem hm
 exact pT hg hk
theorem St.rdN {g h:Heap} {M:Nat→Prop} {Γ:List Ch} (S:St g M Γ h) {o v:Nat} {cs:List AV} (hm:fJ o cs v∈Γ) {off n:Nat} {c:List AV} (hl:off+n≤cs.length) (hc:(cs.drop off).take n=c):h.rdN (.ptr o v off) n=some c:=by
 obtain ⟨fp,_,hg⟩:=S.mem hm
 rw [pW hg hl,hc]
theorem St.store {g h:Heap} {M:Nat→Prop} {Γ:List Ch} {o v:Nat} {cs:List AV} (S:St g M (fJ o cs v::Γ) h) {off n:Nat} {x:AV} {cs':List AV} (hl:off+n≤cs.length) (hx:x.cells.length=n) (ht:x.isTup=false) (hs:splice cs off x.cells=cs') :
  ∃ h',EOp.ev (.store n) [.ptr o v off,x] h=some (.undef,h')∧St g M (fJ o cs' v::Γ) h':=by
 obtain ⟨fp,⟨rfl,hg⟩,k⟩:=S.turn1
 refine ⟨_,lO hg hl hx ht,k _ (fJ o cs' v) [o] ?_ (Nat.le_refl _) ?_ ⟨rfl,?_⟩ (fun p hp=>.inl hp)⟩
 ·intro p c u hp
  have hp:h.get p=_:=hp
  show (h.set _ _).get p=_
  have:p≠o:=fun e=>by rw [e,hg] at hp; cases hp
  rw [aJ hg this]; exact hp
 ·intro p y hp hy
  rw [List.mem_singleton] at hp
  rw [aJ hg hp]; exact hy
 rw [cp hg,hs]
theorem St.sl {g h:Heap} {M:Nat→Prop} {Γ:List Ch} (S:St g M Γ h) {α:Type} {r:ORep α} {s:AV} {l:List α} (hm:own (oSl r) [s] l∈Γ):SlR r.rep (dX h) s l:=by
 obtain ⟨fp,s',e,a⟩:=S.mem hm
 cases e
 exact a.snap
theorem St.snap {g h:Heap} {M:Nat→Prop} {Γ:List Ch} (S:St g M Γ h) {α:Type} {r:ORep α} {cs:List AV} {x:α} (hm:own r cs x∈Γ):r.rep.R (dX h) cs x:=by
 obtain ⟨fp,a⟩:=S.mem hm
 exact r.snap a
theorem St.fzr {g h:Heap} {M:Nat→Prop} {Γ:List Ch} (S:St g M Γ h) {α:Type} {r:Rep α} {cs:List AV} {x:α} (hm:own (fz r) cs x∈Γ):r.R (Frz h) cs x:=by
 obtain ⟨fp,_,a⟩:=S.mem hm
 exact a
theorem St.idxO {g h:Heap} {M:Nat→Prop} {Γ:List Ch} (S:St g M Γ h) {α:Type} {r:Rep α} {s:AV} {l:List α} (hm:own (oSl (fz r)) [s] l∈Γ) {i:Int} {x:α} (hi:idx l i=some x) :
  (s.at (i.toNat * r.z)).isPtr=true∧∃ c,r.R (Frz h) c x∧h.rdN (s.at (i.toNat * r.z)) r.z=some c∧(∀ k y,c[k]? = some y→h.rd1 ((s.at (i.toNat * r.z)).padd k)=some y)∧(∀ y,c[0]? = some y→h.rd1 (s.at (i.toNat * r.z))=some y):=by
 obtain ⟨fp,s',e,a⟩:=S.mem hm
 cases e
 obtain ⟨h0,hx⟩:=bL hi
 rcases a with ⟨rfl,rfl,_⟩ | ⟨o,v,off,row,els,fps,rfl,hg,h3,h4,h5,_,_⟩
 ·simp at hx
 obtain ⟨c,f,hc,_,hR⟩:=h5.getM hx
 have hlt:=(List.getElem?_eq_some_iff.1 hx).1
 have hz:∀ d,d∈els→d.length=r.z:=fun d hd=>by
  obtain ⟨k,hk⟩:=List.getElem?_of_mem hd
  obtain ⟨b,_,hb⟩:=bj (h5.two fun _ _ _ k=>(fz r).snap k) hk
  exact r.len hb
 have hch:=fB hz h4 hlt hc
 have hle:i.toNat * r.z+r.z≤l.length * r.z:=by rw [← Nat.succ_mul]; exact Nat.mul_le_mul_right _ (by omega)
 exact ⟨rfl,c,hR.2,eP hg hch (hz c (List.mem_of_getElem? hc)) (by have h3':off+l.length * r.z≤row.length:=h3; omega)⟩
theorem St.freeze {g h:Heap} {M:Nat→Prop} {Γ:List Ch} {α:Type} {r:ORep α} {cs:List AV} {x:α} (S:St g M (own r cs x::Γ) h):∃ hz,Fz h hz∧St g M (own (fz r.rep) cs x::Γ) hz:=by
 obtain ⟨fp,hp,k⟩:=S.turn1
 obtain ⟨h',k1,k2,k3⟩:=r.frz hp
 exact ⟨h',k1,k h' (own (fz r.rep) cs x) [] k1.hz (by rw [k1.n]; exact Nat.le_refl _) (fun o y ho hy=>by rw [k2 o ho]; exact hy) ⟨rfl,k3⟩ (fun o ho=>by cases ho)⟩
theorem St.pair {g h:Heap} {M:Nat→Prop} {Γ:List Ch} {α β:Type} {r:ORep α} {s:ORep β} {a b:List AV} {x:α} {y:β} (S:St g M (own r a x::own s b y::Γ) h):St g M (own (nF r s) (a++b) (x,y)::Γ) h:=by
 obtain ⟨fa,fb,h1,h2,hd,k⟩:=S.turn2
 exact k h (own (nF r s) (a++b) (x,y)) (fa++fb) (HZ.refl _) (Nat.le_refl _) (fun _ _ _ _ hy=>hy) ⟨a,b,fa,fb,rfl,h1,h2,rfl,bG (r.nd h1) (s.nd h2) hd⟩ (fun o ho=>by
  rcases List.mem_append.1 ho with hh | hh
  ·exact .inl hh
  exact .inr (.inl hh))
theorem St.unpair {g h:Heap} {M:Nat→Prop} {Γ:List Ch} {α β:Type} {r:ORep α} {s:ORep β} {c:List AV} {x:α×β} (S:St g M (own (nF r s) c x::Γ) h):∃ a b,c=a++b∧a.length=r.rep.z∧b.length=s.rep.z∧St g M (own r a x.1::own s b x.2::Γ) h:=by
 obtain ⟨fps,hc,hd,k⟩:=St.turn [_] S
 obtain ⟨fp,rfl,a,b,fa,fb,e,h1,h2,rfl,hn⟩:=cs1 hc
 obtain ⟨n1,n2,n3⟩:=bX hn
 refine ⟨a,b,e,r.rep.len (r.snap h1),s.rep.len (s.snap h2),k h [own r a x.1,own s b x.2] [fa,fb] ⟨HZ.refl _,Nat.le_refl _,fun _ _ _ hy=>hy,?_,?_⟩ (.cons h1 (.cons h2 .nil))⟩
 ·simp only [List.pairwise_cons,List.mem_singleton,forall_eq,List.not_mem_nil,false_implies,implies_true,and_true,List.Pairwise.nil]
  exact n3
 intro f hf o ho
 refine .inl ⟨fa++fb,by simp,?_⟩
 simp only [List.mem_cons,List.not_mem_nil,or_false] at hf
 rcases hf with rfl | rfl
 ·exact List.mem_append_left _ ho
 exact List.mem_append_right _ ho
theorem St.iso {g h:Heap} {M:Nat→Prop} {Γ:List Ch} {α β:Type} {r:ORep β} {f:α→β} {c:List AV} {x:α} {y:β} (S:St g M (own r c y::Γ) h) (e:f x=y):St g M (own (qT r f) c x::Γ) h:=by subst e; exact S
theorem St.comp {g h h':Heap} {M:Nat→Prop} {Γ Γ':List Ch} (S:St g M Γ h) (T:St h fr Γ' h'):St g M (Γ'++Γ) h':=by
 obtain ⟨fps,hc,hd,k⟩:=St.turn [] S
 cases hc
 obtain ⟨f2,h1,h2,h3⟩:=T.ex
 refine k h' Γ' f2 ⟨T.hz,T.n,fun o y _ hy=>T.old o y id hy,h2,fun f hf o ho=>?_⟩ h1
 rcases h3 f hf o ho with hh | hh
 ·exact hh.elim
 exact .inr hh
end Go.Am
namespace Go.Am
open Go
def JV {α:Type} (r:Rep α):Prop:=∀ G G' cs x,r.R G cs x→r.R G' cs x
theorem jr {z:Nat}:∀ (els:List (List AV)) (i:Nat) (c:List AV),(∀ d,d∈els→d.length=z)→c.length=z→i < els.length→(els.set i c).flatten=els.flatten.take (i * z)++c++els.flatten.drop (i * z+z)
 | [],i,c,_,_,hi=>by simp at hi
 | d::els,0,c,hz,hc,_=>by
  have hd:=hz d (List.mem_cons_self ..)
  simp only [List.set_cons_zero,List.flatten_cons,Nat.zero_mul,List.take_zero,List.nil_append,Nat.zero_add]
  rw [← hd,List.drop_left]
 | d::els,i+1,c,hz,hc,hi=>by
  have hd:=hz d (List.mem_cons_self ..)
  simp only [List.set_cons_succ,List.flatten_cons]
  rw [jr els i c (fun x hx=>hz x (List.mem_cons_of_mem _ hx)) hc (by simp only [List.length_cons] at hi; omega),Nat.succ_mul]
  have e1:(d++els.flatten).take (i * z+z)=d++els.flatten.take (i * z):=by rw [show i * z+z=d.length+i * z by omega,List.take_length_add_append]
  have e2:(d++els.flatten).drop (i * z+z+z)=els.flatten.drop (i * z+z):=by rw [show i * z+z+z=d.length+(i * z+z) by omega,List.drop_length_add_append]
  rw [e1,e2]
  simp only [List.append_assoc]
theorem jy {row:List AV} {off n z:Nat} {els:List (List AV)} (hz:∀ d,d∈els→d.length=z) (hlen:els.length=n) (hl:els.flatten=(row.drop off).take (n * z)) (hr:off+n * z≤row.length) {i:Nat} (hi:i < n) {c:List AV} (hc:els[i]? = some c) {k:Nat} {cs:List AV} (hk:k+cs.length≤z) :
  (els.set i (splice c k cs)).flatten=((splice row (off+i * z+k) cs).drop off).take (n * z)∧(splice row (off+i * z+k) cs).length=row.length:=by
 have hcl:=hz c (List.mem_of_getElem? hc)
 have hle:i * z+z≤n * z:=by rw [← Nat.succ_mul]; exact Nat.mul_le_mul_right _ (by omega)
 have hch:=fB hz hl hi hc
 refine ⟨?_,bu (by omega)⟩
 rw [jr els i _ hz (by rw [bu (by omega),hcl]) (by omega),hl]
 apply List.ext_getElem?
 intro p
 have e1:∀ q,(splice row (off+i * z+k) cs)[q]? = if q < off+i * z+k then row[q]? else if q < off+i * z+k+cs.length then cs[q - (off+i * z+k)]? else row[q]?:=by
  intro q
  unfold splice
  rw [List.getElem?_append]
  simp only [List.length_take]
  rw [Nat.min_eq_left (by omega)]
  split
  ·rename_i hq; rw [List.getElem?_take_of_lt hq]
  rename_i hq
  rw [List.getElem?_append]
  split
  ·rename_i hq2; rw [if_pos (by omega)]
  rename_i hq2
  rw [if_neg (by omega),List.getElem?_drop]
  congr 1
  omega
 have e2:∀ q,(splice c k cs)[q]? = if q < k then c[q]? else if q < k+cs.length then cs[q - k]? else c[q]?:=by
  intro q
  unfold splice
  rw [List.getElem?_append]
  simp only [List.length_take]
  rw [Nat.min_eq_left (by omega)]
  split
  ·rename_i hq; rw [List.getElem?_take_of_lt hq]
  rename_i hq
  rw [List.getElem?_append]
  split
  ·rename_i hq2; rw [if_pos (by omega)]
  rename_i hq2
  rw [if_neg (by omega),List.getElem?_drop]
  congr 1
  omega
 have ec:∀ q,q < z→c[q]? = row[off+i * z+q]?:=by
  intro q hq
  rw [← hch,List.getElem?_take_of_lt hq,List.getElem?_drop]
 by_cases hp:p < n * z
 ·rw [List.getElem?_take_of_lt hp,List.getElem?_drop,e1]
  rw [List.getElem?_append,List.getElem?_append]
  simp only [List.length_append,List.length_take,List.length_drop,bu (show k+cs.length≤c.length by omega),hcl]
  rw [Nat.min_eq_left (show n * z≤row.length - off by omega),Nat.min_eq_left (show i * z≤n * z by omega)]
  by_cases h1:p < i * z
  ·rw [if_pos (by omega),if_pos h1,if_pos (by omega),List.getElem?_take_of_lt h1,List.getElem?_take_of_lt hp,List.getElem?_drop]
  by_cases h2:p < i * z+z
  ·rw [if_pos h2,if_neg h1,e2]
   by_cases h3:p - i * z < k
   ·rw [if_pos h3,if_pos (by omega),ec _ (by omega)]; congr 1; omega
   rw [if_neg h3]
   by_cases h4:p - i * z < k+cs.length
   ·rw [if_pos h4,if_neg (by omega),if_pos (by omega)]; congr 1; omega
   rw [if_neg h4,if_neg (by omega),if_neg (by omega),ec _ (by omega)]; congr 1; omega
  rw [if_neg h2,if_neg (by omega),if_neg (by omega),List.getElem?_drop,List.getElem?_take_of_lt (by omega),List.getElem?_drop]
  congr 1
  omega
 rw [List.getElem?_eq_none,List.getElem?_eq_none]
 ·rw [List.length_take]; omega
 simp only [List.length_append,List.length_take,List.length_drop,bu (show k+cs.length≤c.length by omega),hcl]
 omega
theorem dE {α:Type} {r:ORep α} {h:Heap} {els:List (List AV)} {l:List α} {fps:List (List Nat)} (a:All3 (r.O h) els l fps):∀ d,d∈els→d.length=r.rep.z:=fun d hd=>by
 obtain ⟨k,hk⟩:=List.getElem?_of_mem hd
 obtain ⟨b,_,hb⟩:=bj (a.two fun _ _ _ k=>r.snap k) hk
 exact r.rep.len hb
theorem All3.set_fz {α:Type} {r:Rep α} {h:Heap} {els:List (List AV)} {l:List α} {fps:List (List Nat)} (a:All3 ((fz r).O h) els l fps) (i:Nat) {c:List AV} {x:α} (hx:r.R (Frz h) c x):All3 ((fz r).O h) (els.set i c) (l.set i x) fps:=by
 have key:∀ {els:List (List AV)} {l:List α} {fps:List (List Nat)},All3 ((fz r).O h) els l fps→∀ i,All3 ((fz r).O h) (els.set i c) (l.set i x) fps:=by
  intro els l fps a
  induction a with
  | nil=>intro i; simp; exact .nil
  | cons hp hr ih=>
   intro i
   cases i with
   | zero=>exact .cons ⟨hp.1,hx⟩ hr
   | succ i=>exact .cons hp (ih i)
 exact key a i
theorem St.setE {g h:Heap} {M:Nat→Prop} {Γ:List Ch} {α:Type} {r:Rep α} {s:AV} {l:List α} (S:St g M (own (oSl (fz r)) [s] l::Γ) h) {i:Int} {x x':α} (hi:idx l i=some x) {k n:Nat} {y:AV} (hy:y.cells.length=n) (ht:y.isTup=false)
  (hk:k+n≤r.z) (hx:∀ c,r.R (Frz h) c x→r.R (Frz h) (splice c k y.cells) x') :
  ∃ h',EOp.ev (.store n) [(s.at (i.toNat * r.z)).padd k,y] h=some (.undef,h')∧St g M (own (oSl (fz r)) [s] (l.set i.toNat x')::Γ) h':=by
 obtain ⟨fp,⟨s',e,a⟩,kk⟩:=S.turn1
 cases e
 obtain ⟨h0,hx0⟩:=bL hi
 rcases a with ⟨rfl,rfl,_⟩ | ⟨o,v,off,row,els,fps,rfl,hg,h3,h4,h5,rfl,h7⟩
 ·simp at hx0
 obtain ⟨c,f,hc,_,hR⟩:=h5.getM hx0
 have hlt:=(List.getElem?_eq_some_iff.1 hx0).1
 have hz:=dE h5
 have h3':off+l.length * r.z≤row.length:=h3
 have hle:i.toNat * r.z+r.z≤l.length * r.z:=by rw [← Nat.succ_mul]; exact Nat.mul_le_mul_right _ (by omega)
 obtain ⟨q1,q2⟩:=jy hz (h5.lens.1) h4 h3 hlt hc (k:=k) (cs:=y.cells) (by rw [hy]; exact hk)
 have hst:=lO (h:=h) (o:=o) (v:=v) (off:=off+i.toNat * r.z+k) (n:=n) hg (by omega) hy ht
 have hHZ:HZ h (h.set o (.row (splice row (off+i.toNat * r.z+k) y.cells) v true)):=by
  intro p cc u hp
  have hp:h.get p=_:=hp
  show (h.set _ _).get p=_
  have:p≠o:=fun e=>by rw [e,hg] at hp; cases hp
  rw [aJ hg this]; exact hp
 have hn:=List.nodup_cons.1 h7
 refine ⟨_,hst,kk _ (own (oSl (fz r)) [_] _) (o::fps.flatten) hHZ (Nat.le_refl _) ?_ ⟨_,rfl,.inr ⟨o,v,off,_,els.set i.toNat (splice c k y.cells),fps,?_,cp hg,?_,?_,?_,rfl,h7⟩⟩ (fun p hp=>.inl hp)⟩
 ·intro p w hp hw
  rw [List.mem_cons,not_or] at hp
  rw [aJ hg hp.1]; exact hw
 ·simp only [List.length_set]
 ·have q2':(splice row (off+i.toNat * r.z+k) y.cells).length=row.length:=q2
  simp only [List.length_set]; rw [q2']; exact h3
 ·simp only [List.length_set]; exact q1
 refine All3.stay (h:=h) (h5.set_fz i.toNat (hx c hR.2)) (fun p hp=>?_) hHZ
 exact aJ hg (fun e=>hn.1 (by rw [← e]; exact hp))
theorem St.swap {g h:Heap} {M:Nat→Prop} {Γ:List Ch} {c d:Ch} (S:St g M (c::d::Γ) h):St g M (d::c::Γ) h:=by
 obtain ⟨fps,h1,h2,h3⟩:=S.ex
 cases h1 with
 | cons a t=>cases t with
  | cons b t=>
   refine ⟨S.hz,S.n,S.old,_::_::_,.cons b (.cons a t),?_,fun f hf o ho=>h3 f ?_ o ho⟩
   ·simp only [List.pairwise_cons,List.mem_cons,forall_eq_or_imp] at h2 ⊢
    exact ⟨⟨h2.1.1.symm,h2.2.1⟩,h2.1.2,h2.2.2⟩
   simp only [List.mem_cons] at hf ⊢
   rcases hf with hf | hf | hf
   ·exact .inr (.inl hf)
   ·exact .inl hf
   exact .inr (.inr hf)
theorem St.app_gen {g h:Heap} {M:Nat→Prop} {Γ:List Ch} {α:Type} {r:ORep α} {s:AV} {l:List α} {t:AV} {l2:List α} {els2:List (List AV)} {fps2:List (List Nat)} {c:Ch} {fp2:List Nat} {b:Nat}
  (S:St g M (own (oSl r) [s] l::c::Γ) h) (hap:appended h r.rep.z t=some (els2.flatten,l2.length)) (hc:∀ fp,c.P h fp→∃ fps2,All3 (r.O h) els2 l2 fps2∧fps2.flatten.Nodup∧∀ o,o∈fps2.flatten→o∈fp) (hroom:(l.length+l2.length) * b≤aE) :
  ∃ v h',EOp.ev (.append r.rep.z b) [s,t] h=some (v,h')∧St g M (own (oSl r) [v] (l++l2)::Γ) h':=by
 obtain ⟨fa,fb,⟨s',e,a⟩,hb,hd,k⟩:=S.turn2
 cases e
 obtain ⟨fps2,a2,n2,m2⟩:=hc fb hb
 have hel:els2.length=l2.length:=a2.lens.1
 have hfl:els2.flatten.length=l2.length * r.rep.z:=by rw [cr els2 (dE a2),hel]
 rcases a with ⟨rfl,rfl,rfl⟩ | ⟨o,v,off,row,els,fps,rfl,hg,h3,h4,h5,rfl,h7⟩
 ·by_cases hz:l2.length=0
  ·have hl2:l2=[]:=List.eq_nil_of_length_eq_zero hz
   refine ⟨.nilSlice,h,?_,k h (own (oSl r) [.nilSlice] ([]++l2)) [] (HZ.refl _) (Nat.le_refl _) (fun _ _ _ _ hy=>hy) ⟨_,rfl,.inl ⟨rfl,by rw [hl2]; rfl,rfl⟩⟩ (fun o ho=>by cases ho)⟩
   simp only [EOp.ev,hap]
   rw [if_pos (by simpa [AV.slen] using hroom)]
   simp only [bl,if_pos hz]
  refine ⟨.slice h.n 0 0 l2.length r.rep.z,h.push (.row els2.flatten 0 true),?_,k _ (own (oSl r) [_] _) (h.n::fps2.flatten) (HZ.of (HLe.push _ _)) (Nat.le_succ _) (fun o y _ _ hy=>oh hy) ⟨_,rfl,.inr ⟨h.n,0,0,els2.flatten,els2,fps2,?_,kA h _,?_,?_,?_,rfl,?_⟩⟩ ?_⟩
  ·simp only [EOp.ev,hap]
   rw [if_pos (by simpa [AV.slen] using hroom)]
   simp only [bl,if_neg hz]
  ·simp
  ·simp [hfl]
  ·simp only [List.nil_append,List.drop_zero]; rw [List.take_of_length_le (by omega)]
  ·exact a2.stay (fun o ho=>by
    obtain ⟨y,hy⟩:=a2.bd o ho
    rw [hy,oh hy]) (HZ.of (HLe.push _ _))
  ·refine List.nodup_cons.2 ⟨fun hm=>?_,n2⟩
   obtain ⟨y,hy⟩:=a2.bd _ hm
   exact Nat.lt_irrefl _ (get_lt hy)
  intro o ho
  rcases List.mem_cons.1 ho with rfl | ho
  ·exact .inr (.inr (Nat.le_refl _))
  exact .inr (.inl (m2 o ho))
 have hn:=List.nodup_cons.1 h7
 by_cases hz:l2.length=0
 ·have hl2:l2=[]:=List.eq_nil_of_length_eq_zero hz
  have hla:l++l2=l:=by rw [hl2,List.append_nil]
  refine ⟨.slice o v off l.length r.rep.z,h,?_,k h (own (oSl r) [_] (l++l2)) (o::fps.flatten) (HZ.refl _) (Nat.le_refl _) (fun _ _ _ _ hy=>hy) ⟨_,rfl,.inr ⟨o,v,off,row,els,fps,by rw [hla],hg,by rw [hla]; exact h3,by rw [hla]; exact h4,by rw [hla]; exact h5,rfl,h7⟩⟩ (fun o ho=>.inl ho)⟩
  simp only [EOp.ev,hap]
  rw [if_pos (by simpa [AV.slen] using hroom)]
  simp only [bl,hg]
  rw [if_pos (by simp only [true_and,and_true]; omega),if_pos hz]
 have hHZ:HZ h (h.set o (.row ((row.drop off).take (l.length * r.rep.z)++els2.flatten) (v+1) true)):=by
  intro p cc u hp
  have hp:h.get p=_:=hp
  show (h.set _ _).get p=_
  have:p≠o:=fun e=>by rw [e,hg] at hp; cases hp
  rw [aJ hg this]; exact hp
 have hdis:∀ p,p∈fps2.flatten→p≠o∧p∉fps.flatten:=fun p hp=>⟨fun e=>hd o (by simp) (by rw [← e]; exact m2 p hp),fun hq=>hd p (List.mem_cons_of_mem _ hq) (m2 p hp)⟩
 refine ⟨.slice o (v+1) 0 (l.length+l2.length) r.rep.z,h.set o (.row ((row.drop off).take (l.length * r.rep.z)++els2.flatten) (v+1) true),?_,k _ (own (oSl r) [_] _) (o::(fps++fps2).flatten) hHZ (Nat.le_refl _) ?_ ⟨_,rfl,.inr ⟨o,v+1,0,_,els++els2,fps++fps2,?_,cp hg,?_,?_,?_,rfl,?_⟩⟩ ?_⟩
 ·simp only [EOp.ev,hap]
  rw [if_pos (by simpa [AV.slen] using hroom)]
  simp only [bl,hg]
  rw [if_pos (by simp only [true_and,and_true]; omega),if_neg hz]
 ·intro p w hp _ hw
  rw [List.mem_cons,not_or] at hp
  rw [aJ hg hp.1]; exact hw
 ·simp
 ·simp only [List.length_append,List.length_take,List.length_drop,hfl,Nat.zero_add,Nat.add_mul]
  omega
 ·rw [List.flatten_append,h4,List.drop_zero]
  refine (List.take_of_length_le ?_).symm
  simp only [List.length_append,List.length_take,List.length_drop,hfl,Nat.add_mul]
  omega
 ·refine All3.append (h5.stay (fun p hp=>?_) hHZ) (a2.stay (fun p hp=>?_) hHZ)
  ·exact aJ hg (fun e=>hn.1 (by rw [← e]; exact hp))
  exact aJ hg (hdis p hp).1
 ·rw [List.flatten_append]
  refine List.nodup_cons.2 ⟨fun hm=>?_,bG hn.2 n2 fun p hp hq=>(hdis p hq).2 hp⟩
  rcases List.mem_append.1 hm with hm | hm
  ·exact hn.1 hm
  exact (hdis o hm).1 rfl
 intro p hp
 rw [List.flatten_append] at hp
 rcases List.mem_cons.1 hp with rfl | hp
 ·exact .inl (List.mem_cons_self ..)
 rcases List.mem_append.1 hp with hp | hp
 ·exact .inl (List.mem_cons_of_mem _ hp)
 exact .inr (.inl (m2 p hp))
theorem gS (z:List AV):∀ n,d7 z n=(List.replicate n z).flatten
 | 0=>rfl
 | n+1=>by rw [d7,List.replicate_succ,List.flatten_cons,gS z n]
theorem St.make {g h:Heap} {M:Nat→Prop} {Γ:List Ch} (S:St g M Γ h) {α:Type} {r:ORep α} {zero:List AV} {x:α} (hz:∀ h,r.O h zero x []) (n:Nat) :
  St g M (own (oSl r) [.slice h.n 0 0 n r.rep.z] (List.replicate n x)::Γ) (h.push (.row (d7 zero n) 0 true)):=by
 have hzl:zero.length=r.rep.z:=r.rep.len (r.snap (hz h))
 have key:∀ n h,All3 (r.O h) (List.replicate n zero) (List.replicate n x) (List.replicate n []):=by
  intro n h
  induction n with
  | zero=>exact .nil
  | succ n ih=>exact .cons (hz h) ih
 have hl:(d7 zero n).length=n * r.rep.z:=by
  induction n with
  | zero=>simp [d7]
  | succ n ih=>rw [d7,List.length_append,ih,hzl,Nat.succ_mul]; omega
 have hf0:∀ n,(List.replicate n ([]:List Nat)).flatten=[]:=fun n=>by induction n<;>simp_all [List.replicate_succ]
 refine S.new (c:=own (oSl r) [_] _) (fp:=[h.n]) ⟨_,rfl,.inr ⟨h.n,0,0,_,List.replicate n zero,List.replicate n [],by simp,kA h _,?_,?_,key n _,?_,by simp⟩⟩ (by simp)
 ·simp [hl]
 ·rw [List.drop_zero,List.length_replicate,← gS,List.take_of_length_le (by omega)]
 rw [hf0]
theorem gK {z:Nat}:∀ (els:List (List AV)) (n:Nat),(∀ d,d∈els→d.length=z)→(els.take n).flatten=els.flatten.take (n * z)
 | [],n,_=>by simp
 | d::els,0,_=>by simp
 | d::els,n+1,hz=>by
  have hd:=hz d (List.mem_cons_self ..)
  rw [List.take_succ_cons,List.flatten_cons,List.flatten_cons,gK els n (fun x hx=>hz x (List.mem_cons_of_mem _ hx)),Nat.succ_mul,Nat.add_comm,← hd,List.take_length_add_append]
theorem gW {z:Nat}:∀ (els:List (List AV)) (n:Nat),(∀ d,d∈els→d.length=z)→(els.drop n).flatten=els.flatten.drop (n * z)
 | [],n,_=>by simp
 | d::els,0,_=>by simp
 | d::els,n+1,hz=>by
  have hd:=hz d (List.mem_cons_self ..)
  rw [List.drop_succ_cons,List.flatten_cons,gW els n (fun x hx=>hz x (List.mem_cons_of_mem _ hx)),Nat.succ_mul,Nat.add_comm,← hd,List.drop_length_add_append]
theorem mF {z:Nat} {row:List AV} {off n:Nat} {els:List (List AV)} (hz:∀ d,d∈els→d.length=z) (hl:els.flatten=(row.drop off).take (n * z)) (hr:off+n * z≤row.length) {lo hi:Nat} (h1:lo≤hi) (h2:hi≤n) :
  off+lo * z+(hi - lo) * z≤row.length∧((els.take hi).drop lo).flatten=(row.drop (off+lo * z)).take ((hi - lo) * z):=by
 have e1:lo * z≤hi * z:=Nat.mul_le_mul_right _ h1
 have e2:hi * z≤n * z:=Nat.mul_le_mul_right _ h2
 have e3:(hi - lo) * z=hi * z - lo * z:=Nat.sub_mul ..
 refine ⟨by omega,?_⟩
 rw [gW _ _ (fun d hd=>hz d (List.mem_of_mem_take hd)),gK _ _ hz,hl,List.take_take,Nat.min_eq_left e2,List.drop_take,List.drop_drop,e3]
theorem SlR.sub {α:Type} {r:Rep α} {G:Hp} {s:AV} {l:List α} (a:SlR r G s l) {lo hi:Nat} (h1:lo≤hi) (h2:hi≤l.length):SlR r G (s.sub r.z lo hi) ((l.take hi).drop lo):=by
 rcases a with ⟨rfl,rfl⟩ | ⟨o,v,off,row,els,rfl,hg,h3,h4,h5⟩
 ·exact .inl ⟨rfl,by simp⟩
 have hz:∀ d,d∈els→d.length=r.z:=fun d hd=>by
  obtain ⟨k,hk⟩:=List.getElem?_of_mem hd
  obtain ⟨b,_,hb⟩:=bj h5 hk
  exact r.len hb
 obtain ⟨q1,q2⟩:=mF hz h4 h3 h1 h2
 have hl:((l.take hi).drop lo).length=hi - lo:=by rw [List.length_drop,List.length_take]; omega
 exact .inr ⟨o,v,off+lo * r.z,row,(els.take hi).drop lo,by rw [hl]; rfl,hg,by rw [hl]; exact q1,by rw [hl]; exact q2,(h5.take hi).drop lo⟩
theorem iV {α:Type} {l:List (List α)} {lo hi:Nat} {x:α} (h:x∈((l.take hi).drop lo).flatten):x∈l.flatten:=by
 rw [List.mem_flatten] at h ⊢
 obtain ⟨a,ha,hx⟩:=h
 exact ⟨a,List.mem_of_mem_take (List.mem_of_mem_drop ha),hx⟩
theorem gc {α:Type} {l:List (List α)} (lo hi:Nat) (h:l.flatten.Nodup):((l.take hi).drop lo).flatten.Nodup:=by
 have h1:(l.take hi).flatten.Nodup:=by
  have:=h
  rw [← List.take_append_drop hi l,List.flatten_append] at this
  exact (bX this).1
 rw [← List.take_append_drop lo (l.take hi),List.flatten_append] at h1
 exact (bX h1).2.1
theorem St.sub {g h:Heap} {M:Nat→Prop} {Γ:List Ch} {α:Type} {r:ORep α} {s:AV} {l:List α} (S:St g M (own (oSl r) [s] l::Γ) h) {lo hi:Nat} (h1:lo≤hi) (h2:hi≤l.length):St g M (own (oSl r) [s.sub r.rep.z lo hi] ((l.take hi).drop lo)::Γ) h:=by
 obtain ⟨fp,⟨s',e,a⟩,k⟩:=S.turn1
 cases e
 rcases a with ⟨rfl,rfl,rfl⟩ | ⟨o,v,off,row,els,fps,rfl,hg,h3,h4,h5,rfl,h7⟩
 ·exact k h (own (oSl r) [_] _) [] (HZ.refl _) (Nat.le_refl _) (fun _ _ _ hy=>hy) ⟨_,rfl,.inl ⟨rfl,by simp,rfl⟩⟩ (fun o ho=>by cases ho)
 obtain ⟨q1,q2⟩:=mF (dE h5) h4 h3 h1 h2
 have hl:((l.take hi).drop lo).length=hi - lo:=by rw [List.length_drop,List.length_take]; omega
 have hn:=List.nodup_cons.1 h7
 refine k h (own (oSl r) [_] _) (o::((fps.take hi).drop lo).flatten) (HZ.refl _) (Nat.le_refl _) (fun _ _ _ hy=>hy) ⟨_,rfl,.inr ⟨o,v,off+lo * r.rep.z,row,(els.take hi).drop lo,(fps.take hi).drop lo,by rw [hl]; rfl,hg,by rw [hl]; exact q1,by rw [hl]; exact q2,(h5.take hi).drop lo,rfl,?_⟩⟩ (fun p hp=>?_)
 ·exact List.nodup_cons.2 ⟨fun hm=>hn.1 (iV hm),gc lo hi hn.2⟩
 rcases List.mem_cons.1 hp with rfl | hp
 ·exact .inl (List.mem_cons_self ..)
 exact .inl (List.mem_cons_of_mem _ (iV hp))
end Go.Am
namespace Go.Am
open Go
theorem oB {α β:Type} {o:Option α} {f:α→Option β} {r:β} (h:o.bind f=some r):∃ a,o=some a∧f a=some r:=by
 cases o with
 | none=>cases h
 | some a=>exact ⟨a,rfl,h⟩
def slc {α:Type} (l:List α) (lo hi:Int):Option (List α):=if 0≤lo∧lo≤hi∧hi≤(l.length:Int) then some ((l.take hi.toNat).drop lo.toNat) else none
theorem cv {α:Type} {l r:List α} {lo hi:Int} (h:slc l lo hi=some r):0≤lo∧lo≤hi∧hi≤(l.length:Int)∧r=(l.take hi.toNat).drop lo.toNat:=by
 unfold slc at h
 split at h
 ·rename_i hc; cases h; exact ⟨hc.1,hc.2.1,hc.2.2,rfl⟩
 cases h
def mkS {α:Type} (b:Nat) (n c:Int) (x:α):Option (List α):=if 0≤n∧n≤c∧c * b≤aE∧c≤aE then some (List.replicate n.toNat x) else none
theorem vS {α:Type} {b:Nat} {n c:Int} {x:α} {r:List α} (h:mkS b n c x=some r):(0≤n∧n≤c∧c * b≤aE∧c≤aE)∧r=List.replicate n.toNat x:=by
 unfold mkS at h
 split at h
 ·rename_i hc; cases h; exact ⟨hc,rfl⟩
 cases h
def app {α:Type} (b:Nat) (l k:List α):Option (List α):=if (l.length+k.length) * b≤aE then some (l++k) else none
theorem pb {α:Type} {b:Nat} {l k r:List α} (h:app b l k=some r):(l.length+k.length) * b≤aE∧r=l++k:=by
 unfold app at h
 split at h
 ·rename_i hc; cases h; exact ⟨hc,rfl⟩
 cases h
def iter {σ ρ:Type} (f:σ→Option (σ⊕ρ)):Nat→σ→Option ρ
 | 0,_=>none
 | n+1,s=>match f s with
  | none=>none
  | some (.inl s')=>iter f n s'
  | some (.inr r)=>some r
theorem lC {σ ρ:Type} {f:σ→Option (σ⊕ρ)}:∀ {n m:Nat},n≤m→∀ {s:σ} {r:ρ},iter f n s=some r→iter f m s=some r
 | 0,_,_,s,r,h=>by cases h
 | n+1,0,hm,s,r,h=>by omega
 | n+1,m+1,hm,s,r,h=>by
  simp only [iter] at h ⊢
  split at h
  ·cases h
  ·exact lC (by omega) h
  exact h
open Classical in
noncomputable def qy {σ ρ:Type} (f:σ→Option (σ⊕ρ)) (s:σ):Option ρ:=if h:∃ r,∃ n,iter f n s=some r then some h.choose else none
theorem fe {σ ρ:Type} {f:σ→Option (σ⊕ρ)} {s:σ} {r:ρ}:qy f s=some r↔∃ n,iter f n s=some r:=by
 unfold qy
 constructor
 ·intro h
  split at h
  ·rename_i hh; cases h; exact hh.choose_spec
  cases h
 rintro ⟨n,hn⟩
 have hh:∃ r,∃ n,iter f n s=some r:=⟨r,n,hn⟩
 rw [dif_pos hh]
 obtain ⟨m,hm⟩:=hh.choose_spec
 have h1:=lC (Nat.le_max_left n m) hn
 have h2:=lC (Nat.le_max_right n m) hm
 rw [h1] at h2
 exact h2.symm
def Jx {σ ρ:Type} (f:σ→Option (σ⊕ρ)) (n:Nat) (r:ρ):σ⊕ρ→Prop
 | .inl s=>iter f n s=some r
 | .inr r'=>r'=r
theorem iQ {σ ρ:Type} {f:σ→Option (σ⊕ρ)} {m:Nat} {s:σ} {r:ρ} (h:iter f m s=some r):∃ n q,m=n+1∧f s=some q∧Jx f n r q:=by
 cases m with
 | zero=>cases h
 | succ n=>
  simp only [iter] at h
  split at h
  ·cases h
  ·rename_i s' hs; exact ⟨n,.inl s',rfl,hs,h⟩
  rename_i r' hs; cases h; exact ⟨n,.inr _,rfl,hs,rfl⟩
theorem St.drop {g h:Heap} {M:Nat→Prop} {Γ:List Ch} {c:Ch} (S:St g M (c::Γ) h):St g M Γ h:=by
 obtain ⟨fps,h1,h2,h3⟩:=S.ex
 cases h1 with
 | cons a t=>
  rw [List.pairwise_cons] at h2
  exact ⟨S.hz,S.n,S.old,_,t,h2.2,fun f hf=>h3 f (List.mem_cons_of_mem _ hf)⟩
def catS (a b:List UInt8):Option (List UInt8):=if a.length+b.length≤4611686018427387904 then some (a++b) else none
theorem zy {a b s:List UInt8} (h:catS a b=some s):POp.ev (.bin .add) [.str a,.str b]=some (.str s):=by
 unfold catS at h
 split at h
 ·rename_i hc; cases h; simp only [POp.ev,e8,pY,if_pos hc]
 cases h
def quoI (k:IntKind) (a b:Int):Option Int:=if b=0 then none else some (k.wrap (a.tdiv b))
def remI (k:IntKind) (a b:Int):Option Int:=if b=0 then none else some (a.tmod b)
theorem xk {k:IntKind} {a b n:Int} (h:quoI k a b=some n):POp.ev (.bin .quo) [.int k a,.int k b]=some (.int k n):=by
 unfold quoI at h
 split at h
 ·cases h
 rename_i hc; cases h; simp only [POp.ev,e8,if_true,gX,if_neg hc]
theorem yn {k:IntKind} {a b n:Int} (h:remI k a b=some n):POp.ev (.bin .rem) [.int k a,.int k b]=some (.int k n):=by
 unfold remI at h
 split at h
 ·cases h
 rename_i hc; cases h; simp only [POp.ev,e8,if_true,gX,if_neg hc]
def Bj (k:IntKind) (a b:Int):Option Int:=if b < 0 then none else some (k.wrap (a * 2 ^ (Nat.min b.toNat k.bits)))
def wT (k:IntKind) (a b:Int):Option Int:=if b < 0 then none else some (a.fdiv (2 ^ (Nat.min b.toNat k.bits)))
theorem xP {k k2:IntKind} {a b n:Int} (h:Bj k a b=some n):POp.ev (.bin .shl) [.int k a,.int k2 b]=some (.int k n):=by
 unfold Bj at h
 split at h
 ·cases h
 rename_i hc; cases h; simp only [POp.ev,e8,dz,if_neg hc]
theorem AZ {k k2:IntKind} {a b n:Int} (h:wT k a b=some n):POp.ev (.bin .shr) [.int k a,.int k2 b]=some (.int k n):=by
 unfold wT at h
 split at h
 ·cases h
 rename_i hc; cases h; simp only [POp.ev,e8,dz,if_neg hc]
def u8 (n:Int):UInt8:=UInt8.ofNat n.toNat
theorem iZ:∀ (l:List Int),d6 (l.map fun n=>.int .u8 n)=some (l.map u8)
 | []=>rfl
 | n::l=>by simp only [List.map_cons,d6,tx,iZ l]; rfl
theorem pd {k:IntKind} {G:Hp}:∀ {els:List (List AV)} {l:List Int},All2 ((rI k).R G) els l→els.flatten=l.map fun n=>.int k n
 | _,_,.nil=>rfl
 | _,_,.cons h t=>by
  have h:_=[AV.int k _]:=h
  rw [List.flatten_cons,h,pd t]; rfl
theorem uO {h:Heap} {s:AV} {l:List Int} (a:SlR (rI .u8) (dX h) s l):ROp.ev .bytesToStr [s] h=some (.str (l.map u8)):=by
 rcases a with ⟨rfl,rfl⟩ | ⟨o,v,off,row,els,rfl,⟨w,hg⟩,h3,h4,h5⟩
 ·rfl
 have hr:h.rows 1 (.slice o v off l.length 1)=some (l.map fun n=>.int .u8 n):=by
  show h.cells o v off (l.length * 1)=_
  have h3':off+l.length * 1≤row.length:=h3
  have h4':els.flatten=(row.drop off).take (l.length * 1):=h4
  rw [eA hg h3',← h4',pd h5]
 show (match h.rows 1 (.slice o v off l.length 1) with
  | some cs=>match d6 cs with
   | some bs=>some (AV.str bs)
   | none=>none
  | none=>none)=_
 rw [hr]
 simp only [iZ]
theorem jl {α:Type} {l:List α} (h:l.length=1):∃ a,l=[a]:=by
 match l,h with
 | [a],_=>exact ⟨a,rfl⟩
theorem ck {α:Type} {l r:List α} {lo hi:Int} (h:slc l lo hi=some r):lo.toNat≤hi.toNat∧hi.toNat≤l.length:=by
 obtain ⟨h1,h2,h3,_⟩:=cv h
 omega
theorem eD {α:Type} {l r:List α} {lo hi:Int} (h:slc l lo hi=some r):(l.take hi.toNat).drop lo.toNat=r:=(cv h).2.2.2.symm
theorem mu {α:Type} {r:Rep α} {G:Hp} {s:AV} {l q:List α} {k k':IntKind} {lo hi:Int} (a:SlR r G s l) (h:slc l lo hi=some q):POp.ev (.sliceSl r.z true true) [s,.int k lo,.int k' hi]=some (s.sub r.z lo.toNat hi.toNat):=by
 obtain ⟨h1,h2,h3,_⟩:=cv h
 simp only [POp.ev,dw,cq,ce,if_pos h1,if_pos (Int.le_trans h1 h2)]
 rw [if_pos ⟨a.esz,by omega,by rw [a.slen]; omega⟩]
theorem gL {α:Type} {r:Rep α} {G:Hp} {s:AV} {l q:List α} {k:IntKind} {hi:Int} (a:SlR r G s l) (h:slc l 0 hi=some q):POp.ev (.sliceSl r.z false true) [s,.int k hi]=some (s.sub r.z (0:Int).toNat hi.toNat):=by
 obtain ⟨h1,h2,h3,_⟩:=cv h
 simp only [POp.ev,dw,cq,ce,if_pos h2]
 rw [if_pos ⟨a.esz,by omega,by rw [a.slen]; omega⟩]
 rfl
theorem eh {α:Type} {r:Rep α} {G:Hp} {s:AV} {l q:List α} {k:IntKind} {lo:Int} (a:SlR r G s l) (h:slc l lo (l.length:Int)=some q):POp.ev (.sliceSl r.z true false) [s,.int k lo]=some (s.sub r.z lo.toNat (l.length:Int).toNat):=by
 obtain ⟨h1,h2,h3,_⟩:=cv h
 simp only [POp.ev,dw,cq,ce,if_pos h1]
 rw [if_pos ⟨a.esz,by rw [a.slen]; omega,Nat.le_refl _⟩,a.slen]
 rfl
theorem mY {α:Type} {r:Rep α} {G:Hp} {s:AV} {l q:List α} (a:SlR r G s l) (h:slc l 0 (l.length:Int)=some q):POp.ev (.sliceSl r.z false false) [s]=some (s.sub r.z (0:Int).toNat (l.length:Int).toNat):=by
 simp only [POp.ev,dw,cq,ce]
 rw [if_pos ⟨a.esz,by omega,Nat.le_refl _⟩,a.slen]
 rfl
theorem tG (p:AV) (a b:Nat):(p.padd a).padd b=p.padd (a+b):=by cases p<;>simp [AV.padd,Nat.add_assoc]
theorem ew {p:AV} (a:Nat) (h:p.isPtr=true):(p.padd a).isPtr=true:=by cases p<;>simp_all [AV.isPtr,AV.padd]
theorem fG (p:AV):p.padd 0=p:=by cases p<;>rfl
theorem SlR.ix {α:Type} {r:Rep α} {G:Hp} {s:AV} {l:List α} (a:SlR r G s l) {i:Int} {x:α} (hi:Am.idx l i=some x):s.isSlice=true∧0≤i∧i < (s.slen:Int):=by
 obtain ⟨h0,h1⟩:=vY hi
 exact ⟨a.is,h0,by rw [a.slen]; exact h1⟩
theorem AC {α:Type} (r:ORep α) (h:Heap):(own (oSl r) [.nilSlice] []).P h []:=⟨_,rfl,.inl ⟨rfl,rfl,rfl⟩⟩
end Go.Am
namespace Go.Am
open Go
theorem All3.split {α β γ:Type} {P:α→β→γ→Prop}:∀ {l:List α} {m:List β} {n:List γ},All3 P l m n→∀ {i:Nat} {b:β},m[i]? = some b→∃ l1 a l2 m1 m2 n1 c n2,l=l1++a::l2∧m=m1++b::m2∧n=n1++c::n2∧m1.length=i∧All3 P l1 m1 n1∧P a b c∧All3 P l2 m2 n2
 | _,_,_,.nil,i,b,h=>by simp at h
 | _,_,_,.cons hp hr,0,b,h=>by
  simp at h
  subst h
  exact ⟨[],_,_,[],_,[],_,_,rfl,rfl,rfl,rfl,.nil,hp,hr⟩
 | _,_,_,.cons hp hr,i+1,b,h=>by
  simp only [List.getElem?_cons_succ] at h
  obtain ⟨l1,a,l2,m1,m2,n1,c,n2,rfl,rfl,rfl,e,h1,h2,h3⟩:=hr.split h
  exact ⟨_::l1,a,l2,_::m1,m2,_::n1,c,n2,rfl,rfl,rfl,by simp [e],.cons hp h1,h2,h3⟩
def kP {α:Type} (r:ORep α) (s:AV) (l:List α) (i:Nat) (c:List AV):Ch where
 P h fp:=∃ o v off row e1 e2 l1 x0 l2 f1 f2,l=l1++x0::l2∧l1.length=i∧s=.slice o v off l.length r.rep.z∧h.get o=some (.row row v true)∧off+l.length * r.rep.z≤row.length∧
  (e1++c::e2).flatten=(row.drop off).take (l.length * r.rep.z)∧All3 (r.O h) e1 l1 f1∧All3 (r.O h) e2 l2 f2∧c.length=r.rep.z∧fp=o::(f1.flatten++f2.flatten)∧fp.Nodup
 nd:=by rintro _ _ ⟨_,_,_,_,_,_,_,_,_,_,_,_,_,_,_,_,_,_,_,_,_,h⟩; exact h
 bd:=by
  rintro h fp ⟨o,v,off,row,e1,e2,l1,x0,l2,f1,f2,_,_,_,hg,_,_,a1,a2,_,rfl,_⟩ p hp
  rcases List.mem_cons.1 hp with rfl | hp
  ·exact ⟨_,hg⟩
  rcases List.mem_append.1 hp with hp | hp
  ·exact a1.bd p hp
  exact a2.bd p hp
 stay:=by
  rintro h h' fp ⟨o,v,off,row,e1,e2,l1,x0,l2,f1,f2,q1,q2,q3,hg,q4,q5,a1,a2,q6,rfl,q7⟩ hs hz
  refine ⟨o,v,off,row,e1,e2,l1,x0,l2,f1,f2,q1,q2,q3,by rw [hs o (List.mem_cons_self ..)]; exact hg,q4,q5,a1.stay (fun p hp=>hs p ?_) hz,a2.stay (fun p hp=>hs p ?_) hz,q6,rfl,q7⟩
  ·exact List.mem_cons_of_mem _ (List.mem_append_left _ hp)
  exact List.mem_cons_of_mem _ (List.mem_append_right _ hp)
theorem dN (n1 n2:List (List Nat)) (f:List Nat):(n1++f::n2).flatten=n1.flatten++(f++n2.flatten):=by simp
theorem St.out {g h:Heap} {M:Nat→Prop} {Γ:List Ch} {α:Type} {r:ORep α} {s:AV} {l:List α} (S:St g M (own (oSl r) [s] l::Γ) h) {i:Int} {x:α} (hi:idx l i=some x) :
  ∃ c,c.length=r.rep.z∧St g M (own r c x::kP r s l i.toNat c::Γ) h:=by
 obtain ⟨fps,hc,hd,k⟩:=St.turn [_] S
 obtain ⟨fp,rfl,s',e,a⟩:=cs1 hc
 cases e
 obtain ⟨h0,hx⟩:=bL hi
 rcases a with ⟨rfl,rfl,_⟩ | ⟨o,v,off,row,els,fps,rfl,hg,h3,h4,h5,rfl,h7⟩
 ·simp at hx
 obtain ⟨e1,c,e2,l1,l2,f1,f,f2,rfl,hl,rfl,hlen,a1,a,a2⟩:=h5.split hx
 have hn:=List.nodup_cons.1 h7
 rw [dN] at hn h7
 have hcl:=r.rep.len (r.snap a)
 obtain ⟨n1,n2,n3⟩:=bX hn.2
 obtain ⟨m1,m2,m3⟩:=bX n2
 refine ⟨c,hcl,k h [own r c x,kP r _ l i.toNat c] [f,o::(f1.flatten++f2.flatten)] ⟨HZ.refl _,Nat.le_refl _,fun _ _ _ hy=>hy,?_,?_⟩ (.cons a (.cons ⟨o,v,off,row,e1,e2,l1,x,l2,f1,f2,hl,hlen,rfl,hg,h3,h4,a1,a2,hcl,rfl,?_⟩ .nil))⟩
 ·simp only [List.pairwise_cons,List.mem_singleton,forall_eq,List.not_mem_nil,false_implies,implies_true,and_true,List.Pairwise.nil]
  intro p hp hq
  rcases List.mem_cons.1 hq with rfl | hq
  ·exact hn.1 (List.mem_append_right _ (List.mem_append_left _ hp))
  rcases List.mem_append.1 hq with hq | hq
  ·exact n3 p hq (List.mem_append_left _ hp)
  exact m3 p hp hq
 ·intro q hq p hp
  refine .inl ⟨_,List.mem_singleton.2 rfl,?_⟩
  rw [dN]
  simp only [List.mem_cons,List.not_mem_nil,or_false] at hq
  rcases hq with rfl | rfl
  ·exact List.mem_cons_of_mem _ (List.mem_append_right _ (List.mem_append_left _ hp))
  rcases List.mem_cons.1 hp with rfl | hp
  ·exact List.mem_cons_self ..
  rcases List.mem_append.1 hp with hp | hp
  ·exact List.mem_cons_of_mem _ (List.mem_append_left _ hp)
  exact List.mem_cons_of_mem _ (List.mem_append_right _ (List.mem_append_right _ hp))
 refine List.nodup_cons.2 ⟨fun hm=>hn.1 ?_,bG n1 m2 fun p hp hq=>n3 p hp (List.mem_append_right _ hq)⟩
 rcases List.mem_append.1 hm with hm | hm
 ·exact List.mem_append_left _ hm
 exact List.mem_append_right _ (List.mem_append_right _ hm)
theorem rE {α:Type} (l1 l2:List α) (x y:α):(l1++x::l2).set l1.length y=l1++y::l2:=by simp
theorem St.back {g h:Heap} {M:Nat→Prop} {Γ:List Ch} {α:Type} {r:ORep α} {s:AV} {l:List α} {i:Nat} {c:List AV} {x:α} (S:St g M (own r c x::kP r s l i c::Γ) h):St g M (own (oSl r) [s] (l.set i x)::Γ) h:=by
 obtain ⟨fa,fb,a,⟨o,v,off,row,e1,e2,l1,x0,l2,f1,f2,hl,hlen,rfl,hg,h3,h4,a1,a2,hcl,rfl,hn⟩,hd,k⟩:=S.turn2
 have hll:(l.set i x)=l1++x::l2:=by rw [hl,← hlen,rE]
 have hlen2:(l.set i x).length=l.length:=List.length_set
 have hn':=List.nodup_cons.1 hn
 obtain ⟨n1,n2,n3⟩:=bX hn'.2
 refine k h (own (oSl r) [_] _) (o::(f1++fa::f2).flatten) (HZ.refl _) (Nat.le_refl _) (fun _ _ _ _ hy=>hy) ⟨_,rfl,.inr ⟨o,v,off,row,e1++c::e2,f1++fa::f2,by rw [hlen2],hg,by rw [hlen2]; exact h3,by rw [hlen2]; exact h4,by rw [hll]; exact a1.append (.cons a a2),rfl,?_⟩⟩ ?_
 ·rw [dN]
  have nf:=r.nd a
  have d1:∀ p,p∈fa→p∉f1.flatten:=fun p hp hq=>hd p hp (List.mem_cons_of_mem _ (List.mem_append_left _ hq))
  have d2:∀ p,p∈fa→p∉f2.flatten:=fun p hp hq=>hd p hp (List.mem_cons_of_mem _ (List.mem_append_right _ hq))
  refine List.nodup_cons.2 ⟨fun hm=>?_,bG n1 (bG nf n2 d2) fun p hp hq=>?_⟩
  ·rcases List.mem_append.1 hm with hm | hm
   ·exact hn'.1 (List.mem_append_left _ hm)
   rcases List.mem_append.1 hm with hm | hm
   ·exact hd o hm (List.mem_cons_self ..)
   exact hn'.1 (List.mem_append_right _ hm)
  rcases List.mem_append.1 hq with hq | hq
  ·exact d1 p hq hp
  exact n3 p hp hq
 intro p hp
 rw [dN] at hp
 rcases List.mem_cons.1 hp with rfl | hp
 ·exact .inr (.inl (List.mem_cons_self ..))
 rcases List.mem_append.1 hp with hp | hp
 ·exact .inr (.inl (List.mem_cons_of_mem _ (List.mem_append_left _ hp)))
 rcases List.mem_append.1 hp with hp | hp
 ·exact .inl hp
 exact .inr (.inl (List.mem_cons_of_mem _ (List.mem_append_right _ hp)))
theorem ut {α:Type} (l1 l2:List α) (x:α):(l1++x::l2)[l1.length]? = some x:=by simp
theorem St.hrd {g h:Heap} {M:Nat→Prop} {Γ:List Ch} (S:St g M Γ h) {α:Type} {r:ORep α} {s:AV} {l:List α} {i:Nat} {c:List AV} (hm:kP r s l i c∈Γ) :
  s.isSlice=true∧i < s.slen∧(s.at (i * r.rep.z)).isPtr=true∧h.rdN (s.at (i * r.rep.z)) r.rep.z=some c∧(∀ k y,c[k]? = some y→h.rd1 ((s.at (i * r.rep.z)).padd k)=some y)∧(∀ y,c[0]? = some y→h.rd1 (s.at (i * r.rep.z))=some y):=by
 obtain ⟨fp,o,v,off,row,e1,e2,l1,x0,l2,f1,f2,hl,hlen,rfl,hg,h3,h4,a1,a2,hcl,rfl,hn⟩:=S.mem hm
 have hil:i < l.length:=by rw [hl,← hlen]; simp
 have hz:∀ d,d∈e1++c::e2→d.length=r.rep.z:=fun d hd=>by
  rcases List.mem_append.1 hd with hd | hd
  ·exact dE a1 d hd
  rcases List.mem_cons.1 hd with rfl | hd
  ·exact hcl
  exact dE a2 d hd
 have hget:(e1++c::e2)[i]? = some c:=by rw [← hlen,← a1.lens.1]; exact ut ..
 have hch:=fB hz h4 hil hget
 have hle:i * r.rep.z+r.rep.z≤l.length * r.rep.z:=by rw [← Nat.succ_mul]; exact Nat.mul_le_mul_right _ (by omega)
 exact ⟨rfl,hil,rfl,eP hg hch hcl (by omega)⟩
theorem St.hset {g h:Heap} {M:Nat→Prop} {Γ:List Ch} {α:Type} {r:ORep α} {s:AV} {l:List α} {i:Nat} {c:List AV} (S:St g M (kP r s l i c::Γ) h) {k n:Nat} {y:AV} {c':List AV} (hy:y.cells.length=n) (ht:y.isTup=false) (hk:k+n≤r.rep.z) (hs:splice c k y.cells=c') :
  ∃ h',EOp.ev (.store n) [(s.at (i * r.rep.z)).padd k,y] h=some (.undef,h')∧St g M (kP r s l i c'::Γ) h':=by
 obtain ⟨fp,⟨o,v,off,row,e1,e2,l1,x0,l2,f1,f2,hl,hlen,rfl,hg,h3,h4,a1,a2,hcl,rfl,hn⟩,kk⟩:=S.turn1
 have hil:i < l.length:=by rw [hl,← hlen]; simp
 have hz:∀ d,d∈e1++c::e2→d.length=r.rep.z:=fun d hd=>by
  rcases List.mem_append.1 hd with hd | hd
  ·exact dE a1 d hd
  rcases List.mem_cons.1 hd with rfl | hd
  ·exact hcl
  exact dE a2 d hd
 have hel:e1.length=i:=by rw [a1.lens.1,hlen]
 have hget:(e1++c::e2)[i]? = some c:=by rw [← hel]; exact ut ..
 have hlen3:(e1++c::e2).length=l.length:=by rw [hl,List.length_append,List.length_append,List.length_cons,List.length_cons,a1.lens.1,a2.lens.1]
 obtain ⟨q1,q2⟩:=jy hz hlen3 h4 h3 hil hget (k:=k) (cs:=y.cells) (by rw [hy]; exact hk)
 have hle:i * r.rep.z+r.rep.z≤l.length * r.rep.z:=by rw [← Nat.succ_mul]; exact Nat.mul_le_mul_right _ (by omega)
 have hst:=lO (h:=h) (o:=o) (v:=v) (off:=off+i * r.rep.z+k) (n:=n) hg (by omega) hy ht
 have hHZ:HZ h (h.set o (.row (splice row (off+i * r.rep.z+k) y.cells) v true)):=by
  intro p cc u hp
  have hp:h.get p=_:=hp
  show (h.set _ _).get p=_
  have:p≠o:=fun e=>by rw [e,hg] at hp; cases hp
  rw [aJ hg this]; exact hp
 have hn':=List.nodup_cons.1 hn
 refine ⟨_,hst,kk _ (kP r _ l i c') (o::(f1.flatten++f2.flatten)) hHZ (Nat.le_refl _) ?_ ⟨o,v,off,_,e1,e2,l1,x0,l2,f1,f2,hl,hlen,rfl,cp hg,by rw [q2]; exact h3,?_,a1.stay (fun p hp=>?_) hHZ,a2.stay (fun p hp=>?_) hHZ,?_,rfl,hn⟩ (fun p hp=>.inl hp)⟩
 ·intro p w hp hw
  rw [List.mem_cons,not_or] at hp
  rw [aJ hg hp.1]; exact hw
 ·rw [← q1,← hs,← hel,rE]
 ·exact aJ hg (fun e=>hn'.1 (by rw [← e]; exact List.mem_append_left _ hp))
 ·exact aJ hg (fun e=>hn'.1 (by rw [← e]; exact List.mem_append_right _ hp))
 rw [← hs,bu (by rw [hy,hcl]; exact hk),hcl]
end Go.Am
namespace Go.Am
open Go
theorem Dp {p:AV} (h:p.isPtr=true):POp.ev .nilCheck [p]=some p:=by
 cases p<;>simp only [AV.isPtr,Bool.false_eq_true] at h
 simp only [POp.ev]
def tj {α:Type} (r:ORep α) (cs:List AV) (l:List α):Ch where
 P h fp:=∃ els fps,cs=els.flatten∧All3 (r.O h) els l fps∧fp=fps.flatten∧fp.Nodup
 nd:=by rintro _ _ ⟨_,_,_,_,_,h⟩; exact h
 bd:=by rintro h fp ⟨els,fps,_,a,rfl,_⟩; exact a.bd
 stay:=by rintro h h' fp ⟨els,fps,e,a,rfl,hn⟩ hs hz; exact ⟨els,fps,e,a.stay hs hz,rfl,hn⟩
theorem St.catNil {g h:Heap} {M:Nat→Prop} {Γ:List Ch} {α:Type} (r:ORep α) (S:St g M Γ h):St g M (tj r [] []::Γ) h:=S.addE (c:=tj r [] []) ⟨[],[],rfl,.nil,rfl,by simp⟩
theorem St.catCons {g h:Heap} {M:Nat→Prop} {Γ:List Ch} {α:Type} {r:ORep α} {c cs:List AV} {x:α} {l:List α} (S:St g M (own r c x::tj r cs l::Γ) h):St g M (tj r (c++cs) (x::l)::Γ) h:=by
 obtain ⟨fa,fb,a,⟨els,fps,rfl,b,rfl,hn⟩,hd,k⟩:=S.turn2
 refine k h (tj r _ _) (fa++fps.flatten) (HZ.refl _) (Nat.le_refl _) (fun _ _ _ _ hy=>hy) ⟨c::els,fa::fps,rfl,.cons a b,rfl,bG (r.nd a) hn hd⟩ (fun o ho=>?_)
 rcases List.mem_append.1 ho with hh | hh
 ·exact .inl hh
 exact .inr (.inl hh)
theorem St.litO {g h:Heap} {M:Nat→Prop} {Γ:List Ch} {α:Type} {r:ORep α} {o:Nat} {cs:List AV} {l:List α} (S:St g M (fJ o cs 0::tj r cs l::Γ) h) {n:Nat} (hn:n=l.length):St g M (own (oSl r) [.slice o 0 0 n r.rep.z] l::Γ) h:=by
 subst hn
 obtain ⟨fa,fb,⟨rfl,hg⟩,⟨els,fps,rfl,b,rfl,hn⟩,hd,k⟩:=S.turn2
 have hlen:els.flatten.length=l.length * r.rep.z:=by rw [cr els (dE b),b.lens.1]
 refine k h (own (oSl r) [_] l) (o::fps.flatten) (HZ.refl _) (Nat.le_refl _) (fun _ _ _ _ hy=>hy) ⟨_,rfl,.inr ⟨o,0,0,_,els,fps,rfl,hg,by omega,?_,b,rfl,?_⟩⟩ (fun p hp=>?_)
 ·rw [List.drop_zero,List.take_of_length_le (by omega)]
 ·exact List.nodup_cons.2 ⟨fun hm=>hd o (by simp) hm,hn⟩
 rcases List.mem_cons.1 hp with rfl | hp
 ·exact .inl (by simp)
 exact .inr (.inl hp)
end Go.Am
namespace Go.Am
open Go
def PtR {α:Type} (r:Rep α) (G:Hp) (p:AV) (x:Option α):Prop:=(p=.nilPtr∧x=none)∨∃ o v row a,p=.ptr o v 0∧x=some a∧G o row v∧r.R G row a
theorem PtR.mono {α:Type} {r:Rep α} {G G':Hp} {p:AV} {x:Option α} (hG:Hp.le G G') (a:PtR r G p x):PtR r G' p x:=by
 rcases a with a | ⟨o,v,row,a,h1,h2,h3,h4⟩
 ·exact .inl a
 exact .inr ⟨o,v,row,a,h1,h2,hG _ _ _ h3,r.mono hG h4⟩
def Bp {α:Type} (r:Rep α):Rep (Option α):=⟨1,fun G cs x=>∃ p,cs=[p]∧PtR r G p x,(by rintro _ _ _ ⟨p,rfl,_⟩; rfl),fun hG ⟨p,e,a⟩=>⟨p,e,a.mono hG⟩⟩
theorem nu {α:Type} {r:Rep α} {G:Hp} {p:AV} {x:Option α} (a:PtR r G p x):(Bp r).R G [p] x:=⟨p,rfl,a⟩
theorem cP {α:Type} {r:Rep α} {G:Hp} {p:AV} {x:Option α} (a:(Bp r).R G [p] x):PtR r G p x:=by obtain ⟨q,e,a⟩:=a; cases e; exact a
def OPt {α:Type} (r:ORep α) (h:Heap) (p:AV) (x:Option α) (fp:List Nat):Prop:=
 (p=.nilPtr∧x=none∧fp=[])∨∃ o v row a f,p=.ptr o v 0∧x=some a∧h.get o=some (.row row v true)∧r.O h row a f∧fp=o::f∧fp.Nodup
def m9 {α:Type} (r:ORep α):ORep (Option α) where
 rep:=Bp r.rep
 O h cs x fp:=∃ p,cs=[p]∧OPt r h p x fp
 nd:=by
  rintro _ _ _ _ ⟨p,rfl,⟨_,_,rfl⟩ | ⟨o,v,row,a,f,_,_,_,_,_,h⟩⟩
  ·simp
  exact h
 bd:=by
  rintro _ _ _ _ ⟨p,rfl,⟨_,_,rfl⟩ | ⟨o,v,row,a,f,_,_,hg,h1,rfl,_⟩⟩ q hq
  ·cases hq
  rcases List.mem_cons.1 hq with rfl | hq
  ·exact ⟨_,hg⟩
  exact r.bd h1 q hq
 stay:=by
  rintro h h' cs x fp ⟨p,rfl,⟨a,b,c⟩ | ⟨o,v,row,a,f,e1,e2,hg,h1,rfl,hn⟩⟩ hs hz
  ·exact ⟨p,rfl,.inl ⟨a,b,c⟩⟩
  exact ⟨p,rfl,.inr ⟨o,v,row,a,f,e1,e2,by rw [hs o (List.mem_cons_self ..)]; exact hg,r.stay h1 (fun q hq=>hs q (List.mem_cons_of_mem _ hq)) hz,rfl,hn⟩⟩
 snap:=by
  rintro h cs x fp ⟨p,rfl,⟨a,b,c⟩ | ⟨o,v,row,a,f,e1,e2,hg,h1,rfl,hn⟩⟩
  ·exact ⟨p,rfl,.inl ⟨a,b⟩⟩
  exact ⟨p,rfl,.inr ⟨o,v,row,a,e1,e2,⟨_,hg⟩,r.snap h1⟩⟩
 frz:=by
  rintro h cs x fp ⟨p,rfl,⟨a,b,c⟩ | ⟨o,v,row,a,f,e1,e2,hg,h1,rfl,hn⟩⟩
  ·exact ⟨h,Fz.refl _,fun _ _=>rfl,p,rfl,.inl ⟨a,b⟩⟩
  have hn':=List.nodup_cons.1 hn
  obtain ⟨h2,k1,k2,k3⟩:=r.frz h1
  have hg2:h2.get o=some (.row row v true):=by rw [k2 o hn'.1]; exact hg
  obtain ⟨q1,q2,q3⟩:=jQ hg2
  refine ⟨_,k1.trans q1,fun q hq=>?_,p,rfl,.inr ⟨o,v,row,a,e1,e2,q3,r.rep.mono q1.hz k3⟩⟩
  rw [List.mem_cons,not_or] at hq
  rw [q2 q hq.1,k2 q hq.2]
theorem wX {α:Type} {r:Rep α} {G:Hp} {p:AV} {x:Option α} (a:PtR r G p x):POp.ev (.eql false 1) [p,.nilPtr]=some (.bool x.isNone):=by
 rcases a with ⟨rfl,rfl⟩ | ⟨o,v,row,a,rfl,rfl,_⟩<;>simp [POp.ev,kE]
theorem sH {α:Type} {r:Rep α} {G:Hp} {p:AV} {x:Option α} (a:PtR r G p x):POp.ev (.eql true 1) [p,.nilPtr]=some (.bool (!x.isNone)):=by
 rcases a with ⟨rfl,rfl⟩ | ⟨o,v,row,a,rfl,rfl,_⟩<;>simp [POp.ev,kE]
theorem St.pt {g h:Heap} {M:Nat→Prop} {Γ:List Ch} (S:St g M Γ h) {α:Type} {r:ORep α} {p:AV} {x:Option α} (hm:own (m9 r) [p] x∈Γ):PtR r.rep (dX h) p x:=cP (S.snap hm)
theorem Ds {a b:List Nat} (h:Dj a b):[a,b].Pairwise Dj:=by simpa using h
theorem St.ptrOpen {g h:Heap} {M:Nat→Prop} {Γ:List Ch} {α:Type} {r:ORep α} {p:AV} {a:α} (S:St g M (own (m9 r) [p] (some a)::Γ) h):∃ o v row,p=.ptr o v 0∧St g M (fJ o row v::own r row a::Γ) h:=by
 obtain ⟨fps,hc,hd,k⟩:=St.turn [_] S
 obtain ⟨fp,rfl,q,e,hO⟩:=cs1 hc
 cases e
 rcases hO with ⟨_,h2,_⟩ | ⟨o,v,row,a',f,e1,e2,hg,h1,rfl,hn⟩
 ·cases h2
 cases e2
 have hn':=List.nodup_cons.1 hn
 refine ⟨o,v,row,e1,k h [fJ o row v,own r row a] [[o],f] ⟨HZ.refl _,Nat.le_refl _,fun _ _ _ hy=>hy,Ds fun q hq=>?_,fun q hq u hu=>.inl ⟨_,List.mem_singleton.2 rfl,?_⟩⟩ (.cons ⟨rfl,hg⟩ (.cons h1 .nil))⟩
 ·rw [List.mem_singleton] at hq; subst hq; exact hn'.1
 simp only [List.mem_cons,List.not_mem_nil,or_false] at hq
 rcases hq with rfl | rfl
 ·rw [List.mem_singleton] at hu; subst hu; exact List.mem_cons_self ..
 exact List.mem_cons_of_mem _ hu
theorem St.ptrClose {g h:Heap} {M:Nat→Prop} {Γ:List Ch} {α:Type} {r:ORep α} {o v:Nat} {row:List AV} {a:α} (S:St g M (fJ o row v::own r row a::Γ) h):St g M (own (m9 r) [.ptr o v 0] (some a)::Γ) h:=by
 obtain ⟨fa,fb,⟨rfl,hg⟩,h1,hd,k⟩:=S.turn2
 refine k h (own (m9 r) [_] _) (o::fb) (HZ.refl _) (Nat.le_refl _) (fun _ _ _ _ hy=>hy) ⟨_,rfl,.inr ⟨o,v,row,a,fb,rfl,rfl,hg,h1,rfl,List.nodup_cons.2 ⟨fun hm=>hd o (by simp) hm,r.nd h1⟩⟩⟩ (fun q hq=>?_)
 rcases List.mem_cons.1 hq with rfl | hq
 ·exact .inl (by simp)
 exact .inr (.inl hq)
theorem uS {α:Type} (r:ORep α) (h:Heap):(own (m9 r) [.nilPtr] none).P h []:=⟨_,rfl,.inl ⟨rfl,rfl,rfl⟩⟩
theorem PtR.open {α:Type} {r:Rep α} {G:Hp} {p:AV} {a:α} (h:PtR r G p (some a)):∃ o v row,p=.ptr o v 0∧G o row v∧r.R G row a:=by
 rcases h with ⟨_,h⟩ | ⟨o,v,row,a',rfl,e,h1,h2⟩
 ·cases h
 cases e; exact ⟨o,v,row,rfl,h1,h2⟩
theorem St.row {g h:Heap} {M:Nat→Prop} {Γ:List Ch} (S:St g M Γ h) {o v:Nat} {cs:List AV} (hm:fJ o cs v∈Γ):dX h o cs v:=by
 obtain ⟨fp,_,hg⟩:=S.mem hm
 exact ⟨_,hg⟩
theorem jS {F:Nat→Option AFn} {f:AV} {xs:List AV} {h:Heap} {K K':AV→Heap→Prop} (hc:mL F f xs h K) (hk:∀ v h',K v h'→K' v h'):mL F f xs h K':=by
 unfold mL at hc ⊢
 split at hc
 ·exact hc.mono hk
 exact hc.elim
end Go.Am
