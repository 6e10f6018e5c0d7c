/- An abstract machine for the model's code, and that the model does what it does. No condition. Own work. -/
import Derived.Test.YtmchbhheoieepaaAm6ProcessErrs
import Derived.ChangeArms
import Derived.Carry
import Derived.ChangeOld
import Derived.WideShapes
import Derived.ProofKit
set_option linter.unusedSimpArgs false
set_option linter.unusedVariables false
namespace Go.Am
open Go
inductive Sh where
 | int (k:IntKind)
 | bool
 | str
 | agg (fs:List Sh)
 | sl (e:Sh)
mutual
def Sh.n:Sh→Nat
 | .agg ss=>Sh.ns ss
 | _=>1
def Sh.ns:List Sh→Nat
 | []=>0
 | s::ss=>s.n+Sh.ns ss
end
mutual
def Sh.okB (P:Program):Sh→TypeId→Bool
 | .int k,t=>match P.underlying t with
  | some (.int k')=>decide (k'=k)
  | _=>false
 | .bool,t=>match P.underlying t with
  | some .bool=>true
  | _=>false
 | .str,t=>match P.underlying t with
  | some .string=>true
  | _=>false
 | .agg ss,t=>match P.underlying t with
  | some (.struct fs)=>Sh.oksB P ss fs.toList 0&&Nat.beq (P.cellsOf t) (Sh.ns ss)
  | _=>false
 | .sl s,t=>match P.underlying t with
  | some (.slice e)=>s.okB P e&&Nat.beq (P.cellsOf e) s.n&&Nat.ble 1 s.n
  | _=>false
def Sh.oksB (P:Program):List Sh→List Field→Nat→Bool
 | [],[],_=>true
 | s::ss,f::fs,off=>Nat.beq f.offset off&&Nat.beq (P.cellsOf f.type) s.n&&s.okB P f.type&&Sh.oksB P ss fs (off+s.n)
 | _,_,_=>false
end
mutual
def TyC:Sh→Heap→List AV→Prop
 | .int k,_,cs=>∃ n,cs=[.int k n]∧(Lit.int k n).wf=true
 | .bool,_,cs=>∃ b,cs=[.bool b]
 | .str,_,cs=>∃ s,cs=[.str s]∧s.length≤maxLen
 | .agg ss,h,cs=>TyCs ss h cs
 | .sl s,h,cs=>∃ sv,cs=[sv]∧(sv=.nilSlice∨∃ (o:Nat) (els:List (List AV)),sv=.slice o 0 0 els.length s.n∧els.length≤maxLen∧h.get o=some (.row els.flatten 0 false)∧∀ x,x∈els→TyC s h x)
def TyCs:List Sh→Heap→List AV→Prop
 | [],_,cs=>cs=[]
 | s::ss,h,cs=>∃ a b,cs=a++b∧TyC s h a∧TyCs ss h b
end
def HLe (h h':Heap):Prop:=h.n≤h'.n∧∀ o y,h.get o=some y→h'.get o=some y
theorem HLe.refl (h:Heap):HLe h h:=⟨Nat.le_refl _,fun _ _ h=>h⟩
theorem HLe.trans {a b c:Heap} (h:HLe a b) (k:HLe b c):HLe a c:=⟨Nat.le_trans h.1 k.1,fun o y hy=>k.2 o y (h.2 o y hy)⟩
theorem HLe.push (h:Heap) (x:AObj):HLe h (h.push x):=⟨Nat.le_succ _,fun o y hy=>bg hy⟩
mutual
theorem TyC.mono {h h':Heap} (hl:HLe h h'):∀ (s:Sh) {cs:List AV},TyC s h cs→TyC s h' cs
 | .int k,_,ht=>ht
 | .bool,_,ht=>ht
 | .str,_,ht=>ht
 | .agg ss,_,ht=>by simp only [TyC] at ht ⊢; exact TyCs.mono hl ss ht
 | .sl s,cs,ht=>by
  simp only [TyC] at ht ⊢
  obtain ⟨sv,h1,h2⟩:=ht
  refine ⟨sv,h1,?_⟩
  rcases h2 with h2 | ⟨o,els,h2,h3,h4,h5⟩
  ·exact .inl h2
  exact .inr ⟨o,els,h2,h3,hl.2 _ _ h4,fun x hx=>TyC.mono hl s (h5 x hx)⟩
theorem TyCs.mono {h h':Heap} (hl:HLe h h'):∀ (ss:List Sh) {cs:List AV},TyCs ss h cs→TyCs ss h' cs
 | [],_,ht=>ht
 | s::ss,cs,ht=>by
  simp only [TyCs] at ht ⊢
  obtain ⟨a,b,h1,h2,h3⟩:=ht
  exact ⟨a,b,h1,TyC.mono hl s h2,TyCs.mono hl ss h3⟩
end
mutual
theorem TyC.len:∀ (s:Sh) {h:Heap} {cs:List AV},TyC s h cs→cs.length=s.n
 | .int k,_,_,ht=>by simp only [TyC] at ht; obtain ⟨n,rfl,_⟩:=ht; rfl
 | .bool,_,_,ht=>by simp only [TyC] at ht; obtain ⟨n,rfl⟩:=ht; rfl
 | .str,_,_,ht=>by simp only [TyC] at ht; obtain ⟨n,rfl,_⟩:=ht; rfl
 | .agg ss,_,_,ht=>by simp only [TyC] at ht; simp only [Sh.n]; exact TyCs.len ss ht
 | .sl s,_,_,ht=>by simp only [TyC] at ht; obtain ⟨n,rfl,_⟩:=ht; rfl
theorem TyCs.len:∀ (ss:List Sh) {h:Heap} {cs:List AV},TyCs ss h cs→cs.length=Sh.ns ss
 | [],_,_,ht=>by simp only [TyCs] at ht; rw [ht]; rfl
 | s::ss,_,_,ht=>by
  simp only [TyCs] at ht
  obtain ⟨a,b,rfl,h2,h3⟩:=ht
  rw [List.length_append,TyC.len s h2,TyCs.len ss h3]; rfl
end
structure Ext (K:KM) (h:Heap) (K':KM) (h':Heap):Prop where
 kle:KLe K K'
 hle:HLe h h'
theorem Ext.refl (K:KM) (h:Heap):Ext K h K h:=⟨KLe.refl _,HLe.refl _⟩
theorem Ext.trans {K K' K'':KM} {h h' h'':Heap} (a:Ext K h K' h') (b:Ext K' h' K'' h''):Ext K h K'' h'':=⟨a.kle.trans b.kle,a.hle.trans b.hle⟩
variable {H:Type} {enc:TypeId×Value→H} {P:Program} {w:World} {B:Nat}
def vV (B:Nat) (w:World) (s:Sh) (cs:List Value):Prop:=
 ∀ K h,Sim B K h w→∃ K' h' avs,Ext K h K' h'∧Sim B K' h' w∧VRs K' avs cs∧avs.all AV.flat=true∧TyC s h' avs
theorem m7 {s:Sh}:∀ (css:List (List Value)),(∀ c,c∈css→vV B w s c)→∀ K h,Sim B K h w→
  ∃ (K':KM) (h':Heap) (els:List (List AV)),Ext K h K' h'∧Sim B K' h' w∧els.length=css.length∧VRs K' els.flatten css.flatten∧els.flatten.all AV.flat=true∧∀ x,x∈els→TyC s h' x
 | [],_,K,h,hs=>⟨K,h,[],Ext.refl _ _,hs,rfl,VRs.nil,rfl,fun _ hx=>by cases hx⟩
 | c::css,hc,K,h,hs=>by
  obtain ⟨K1,h1,avs,e1,s1,v1,f1,t1⟩:=hc c (List.mem_cons_self ..) K h hs
  obtain ⟨K2,h2,els,e2,s2,l2,v2,f2,t2⟩:=m7 css (fun x hx=>hc x (List.mem_cons_of_mem _ hx)) K1 h1 s1
  refine ⟨K2,h2,avs::els,e1.trans e2,s2,by simp [l2],?_,?_,?_⟩
  ·simp only [List.flatten_cons]; exact (VRs.mono e2.kle _ _ v1).append v2
  ·simp only [List.flatten_cons,List.all_append,f1,f2,Bool.and_self]
  intro x hx
  rcases List.mem_cons.1 hx with rfl | hx
  ·exact TyC.mono e2.hle s t1
  exact t2 x hx
theorem Sim.addRow {K:KM} {h:Heap} (hs:Sim B K h w) {i:Info} {cs:List AV} (hok:jI B K w i (.row cs 0 false)) (hb:i.blk < B) :
  Ext K h (K.put h.n i) (h.push (.row cs 0 false))∧Sim B (K.put h.n i) (h.push (.row cs 0 false)) w:=by
 have ho:K h.n=none:=by
  cases hk:K h.n with
  | none=>rfl
  | some j=>have:=hs.dom _ _ hk; omega
 have hg:∀ o j,K o=some j→o≠h.n:=fun o j hj e=>by rw [e,ho] at hj; cases hj
 refine ⟨⟨KLe.put ho,HLe.push _ _⟩,⟨fun x j hx=>?_,fun x j hx=>?_,fun x x' j j' ob' h1 h2 h3 h4 h5=>?_,hs.big⟩⟩
 ·unfold KM.put at hx
  by_cases e:x=h.n
  ·rw [if_pos e] at hx; cases hx
   exact ⟨_,by rw [Heap.get_push,if_pos e],hok.step (KLe.put ho) rfl⟩
  rw [if_neg e] at hx
  obtain ⟨ob,a,b⟩:=hs.obj x j hx
  exact ⟨ob,bg a,b.step (KLe.put ho) rfl⟩
 ·unfold KM.put at hx
  rw [Heap.n_push]
  by_cases e:x=h.n
  ·omega
  rw [if_neg e] at hx; have:=hs.dom x j hx; omega
 unfold KM.put at h1 h2
 by_cases e:x=h.n
 ·rw [Heap.get_push,if_pos e] at h3; cases h3; cases h4
 rw [if_neg e] at h1
 rw [Heap.get_push,if_neg e] at h3
 by_cases e':x'=h.n
 ·rw [if_pos e'] at h2; cases h2
  obtain ⟨ob,k1,k2⟩:=hs.obj x j h1
  rw [k1] at h3; cases h3
  exfalso
  have:B≤j.blk:=by
   cases ob' with
   | row cs ver wr=>
    simp only [AObj.own] at h4
    obtain ⟨_,_,_,_,_,_,_,_,k⟩:=k2
    exact (k h4).1
   | map es=>exact k2.2.1
   | iter s pos=>exact k2.2.1
  omega
 rw [if_neg e'] at h2
 exact hs.excl x x' j j' ob' h1 h2 h3 h4 h5
theorem VRs.sing {K:KM} {a:AV} {x:Value} (h:VR K a x):VRs K [a] [x]:=VRs.cons h VRs.nil
theorem jn {base:Nat} {a:Addr} {n:Nat} {cs:List Value} (h:w.cells? base a n=some cs):cs.length=n∧∀ i,i < n→w.cell? (a.add i)=cs[i]?:=by
 unfold World.cells? at h
 split at h
 ·have hl:=mapM_some_length h
  refine ⟨by simpa using hl,fun i hi=>?_⟩
  exact mapM_some_get h i i (by simp [hi])
 cases h
theorem jh {a:Addr} {v:Value} (h:w.cell? a=some v):a.spot=none∧∃ c el fz,w.heap[a.block]? = some (.cells c el fz)∧c[a.off]? = some v:=by
 unfold World.cell? at h
 split at h
 ·rename_i c el fz hc
  split at h
  ·cases h
  rename_i hsp
  refine ⟨by cases hq:a.spot with
   | none=>rfl
   | some x=>rw [hq] at hsp; simp at hsp,c,el,fz,hc,h⟩
 cases h
theorem mB (a:Addr) (n:Nat):(a.add n).block=a.block:=by unfold Addr.add; split<;>rfl
theorem rO (a:Addr) (n:Nat):(a.add n).off=a.off+n:=by
 unfold Addr.add
 split
 ·rename_i h; rw [h]; rfl
 rfl
theorem nQ (a:Addr) (n m:Nat):(a.add n).add m=a.add (n+m):=by
 unfold Addr.add
 by_cases hn:n=0
 ·subst hn; simp
 by_cases hm:m=0
 ·subst hm; simp [hn]
 have:n+m≠0:=by omega
 simp [hn,hm,this,Nat.add_assoc]
theorem jd {α:Type} {z:Nat}:∀ (css:List (List α)),(∀ c,c∈css→c.length=z)→∀ i j,j < z→css.flatten[i * z+j]? = (css[i]?).bind fun c=>c[j]?
 | [],_,i,j,_=>by simp
 | c::css,hc,0,j,hj=>by
  have hl:=hc c (List.mem_cons_self ..)
  simp only [List.flatten_cons,Nat.zero_mul,Nat.zero_add,List.getElem?_cons_zero,Option.bind_some]
  rw [List.getElem?_append_left (by omega)]
 | c::css,hc,i+1,j,hj=>by
  have hl:=hc c (List.mem_cons_self ..)
  simp only [List.flatten_cons,List.getElem?_cons_succ]
  rw [List.getElem?_append_right (by rw [hl,Nat.succ_mul]; omega),hl,Nat.succ_mul,show i * z+z+j - z=i * z+j by omega]
  exact jd css (fun x hx=>hc x (List.mem_cons_of_mem _ hx)) i j hj
theorem cr {α:Type} {z:Nat}:∀ (css:List (List α)),(∀ c,c∈css→c.length=z)→css.flatten.length=css.length * z
 | [],_=>by simp
 | c::css,hc=>by
  rw [List.flatten_cons,List.length_append,hc c (List.mem_cons_self ..),cr css (fun x hx=>hc x (List.mem_cons_of_mem _ hx)),List.length_cons,Nat.succ_mul]; omega
theorem qN {s:Sh} (hz:1≤s.n) {a:Addr} {len cap:Nat} {css:List (List Value)} (hlt:∀ c el fz,w.heap[a.block]? = some (.cells c el fz)→a.block < B) (hD:∃ g c el fz,g < B∧w.heap[g]? = some (.cells c el fz))
  (hlen:css.length=len) (hlc:len≤cap) (hmax:len≤maxLen) (hcs:∀ i c,css[i]? = some c→c.length=s.n∧∀ j,j < s.n→w.cell? (a.add (i * s.n+j))=c[j]?)
  (hcap:0 < cap→∃ v,w.cell? (a.add (cap * s.n - 1))=some v) (hsp:0 < cap→∃ v,w.cell? a=some v) (hel:∀ c,c∈css→vV B w s c):vV B w (.sl s) [.slice (some a) len cap]:=by
 intro K h hs
 obtain ⟨K1,h1,els,e1,s1,l1,v1,f1,t1⟩:=m7 css hel K h hs
 have hcl:∀ c,c∈css→c.length=s.n:=fun c hc=>by
  obtain ⟨i,hi⟩:=List.getElem?_of_mem hc
  exact (hcs i c hi).1
 have hell:∀ x,x∈els→x.length=s.n:=fun x hx=>TyC.len s (t1 x hx)
 have fl:=cr els hell
 have flc:=cr css hcl
 have hall:∀ (j:Nat) (x:AV),els.flatten[j]? = some x→x.flat=true:=fun j x hx=>by
  have:=List.all_eq_true.1 f1 x (List.mem_of_getElem? hx)
  exact this
 by_cases hc0:cap=0
 ·subst hc0
  have hl0:len=0:=by omega
  subst hl0
  obtain ⟨g,c,el,fz,hg,hgc⟩:=hD
  obtain ⟨e2,s2⟩:=s1.addRow (i:=⟨0,g,0,c.size⟩) (cs:=[]) ⟨rfl,c,el,fz,hgc,rfl,by simp,fun j x hx=>by simp at hx,fun hh=>by cases hh⟩ hg
  refine ⟨_,_,[.slice h1.n 0 0 0 s.n],e1.trans e2,s2,VRs.sing ?_,rfl,?_⟩
  ·simp only [VR]
   exact ⟨a,0,_,rfl,by simp [KM.put]; rfl,Nat.le_refl _,Nat.zero_le _,fun _=>⟨by simp,fun hh=>by omega⟩⟩
  simp only [TyC]
  exact ⟨_,rfl,.inr ⟨h1.n,[],rfl,Nat.zero_le _,by rw [Heap.get_push,if_pos rfl]; rfl,fun x hx=>by cases hx⟩⟩
 obtain ⟨v0,hv0⟩:=hsp (by omega)
 obtain ⟨hspot,c,el,fz,hc,hc0'⟩:=jh hv0
 obtain ⟨v2,hv2⟩:=hcap (by omega)
 obtain ⟨_,c2,el2,fz2,hc2,hce⟩:=jh hv2
 rw [mB,hc] at hc2
 cases hc2
 rw [rO] at hce
 have hsz:a.off+(cap * s.n - 1) < c.size:=by
  rcases Nat.lt_or_ge (a.off+(cap * s.n - 1)) c.size with hh | hh
  ·exact hh
  rw [Array.getElem?_eq_none hh] at hce; cases hce
 have hpos:1≤cap * s.n:=Nat.mul_pos (by omega) hz
 have hle:len * s.n≤cap * s.n:=Nat.mul_le_mul_right _ hlc
 have hok:jI B K1 w ⟨0,a.block,a.off,c.size⟩ (.row els.flatten 0 false):=by
  refine ⟨rfl,c,el,fz,hc,rfl,?_,?_,fun hh=>by cases hh⟩
  ·show a.off+els.flatten.length≤c.size
   rw [fl,l1,hlen]; omega
  intro j x hx
  refine ⟨hall j x hx,?_⟩
  obtain ⟨y,hy,hv⟩:=v1.get j x hx
  refine ⟨y,?_,hv⟩
  have hj:j < css.flatten.length:=by
   rcases Nat.lt_or_ge j css.flatten.length with hh | hh
   ·exact hh
   rw [List.getElem?_eq_none hh] at hy; cases hy
  have hjd:j / s.n * s.n+j % s.n=j:=by rw [Nat.mul_comm]; exact Nat.div_add_mod j s.n
  have hjm:j % s.n < s.n:=Nat.mod_lt _ hz
  have hyy:=jd css hcl (j / s.n) (j % s.n) hjm
  rw [hjd,hy] at hyy
  cases hq:css[j / s.n]? with
  | none=>rw [hq] at hyy; cases hyy
  | some cc=>
   rw [hq] at hyy
   simp only [Option.bind_some] at hyy
   have:=(hcs _ _ hq).2 _ hjm
   rw [hjd,← hyy] at this
   obtain ⟨_,c3,el3,fz3,hc3,hh3⟩:=jh this
   rw [mB,hc] at hc3
   cases hc3
   rw [rO] at hh3
   exact hh3
 obtain ⟨e2,s2⟩:=s1.addRow (i:=⟨0,a.block,a.off,c.size⟩) hok (hlt c el fz hc)
 refine ⟨_,_,[.slice h1.n 0 0 len s.n],e1.trans e2,s2,VRs.sing ?_,rfl,?_⟩
 ·simp only [VR]
  refine ⟨a,cap,⟨0,a.block,a.off,c.size⟩,rfl,by simp [KM.put],hlc,Nat.zero_le _,fun _=>⟨?_,fun _=>?_⟩⟩
  ·show a.off+0+cap * s.n≤c.size
   omega
  cases a; simp only at hspot; subst hspot; rfl
 simp only [TyC]
 exact ⟨_,rfl,.inr ⟨h1.n,els,by rw [l1,hlen],by rw [l1,hlen]; exact hmax,by rw [Heap.get_push,if_pos rfl],fun x hx=>TyC.mono e2.hle s (t1 x hx)⟩⟩
mutual
theorem oo (hB:w.heap.size≤B) (hD:∃ g c el fz,g < B∧w.heap[g]? = some (.cells c el fz)):∀ (s:Sh) (n:Nat) (t:TypeId) (cs:List Value) (x:DataW H×List MemPlace),s.okB P t=true→DataW.trod enc P w 0 (fun _=>true) true n t cs=some x→vV B w s cs
 | .int k,n,t,cs,x,hok,ht=>by
  simp only [Sh.okB] at hok
  split at hok
  ·rename_i k' hu
   have hk:=of_decide_eq_true hok
   subst hk
   cases n with
   | zero=>simp [DataW.trod] at ht
   | succ n=>
    unfold DataW.trod at ht
    rw [hu] at ht
    split at ht<;>simp_all
    rename_i ka kb m he
    obtain ⟨⟨hk,hwf⟩,_⟩:=ht
    subst he
    subst hk
    intro K h hs
    exact ⟨K,h,[.int kb m],Ext.refl _ _,hs,VRs.sing (by simp [VR]),rfl,by simp only [TyC]; exact ⟨m,rfl,hwf⟩⟩
  cases hok
 | .bool,n,t,cs,x,hok,ht=>by
  simp only [Sh.okB] at hok
  split at hok
  ·rename_i hu
   cases n with
   | zero=>simp [DataW.trod] at ht
   | succ n=>
    unfold DataW.trod at ht
    rw [hu] at ht
    split at ht<;>simp_all
    rename_i b
    intro K h hs
    exact ⟨K,h,[.bool b],Ext.refl _ _,hs,VRs.sing (by simp [VR]),rfl,by simp only [TyC]; exact ⟨b,rfl⟩⟩
  cases hok
 | .str,n,t,cs,x,hok,ht=>by
  simp only [Sh.okB] at hok
  split at hok
  ·rename_i hu
   cases n with
   | zero=>simp [DataW.trod] at ht
   | succ n=>
    unfold DataW.trod at ht
    rw [hu] at ht
    split at ht<;>simp_all
    rename_i b
    intro K h hs
    exact ⟨K,h,[.str b.data.toList],Ext.refl _ _,hs,VRs.sing (by simp [VR]),rfl,by simp only [TyC]; exact ⟨_,rfl,by simpa using ht.1⟩⟩
  cases hok
 | .agg ss,n,t,cs,x,hok,ht=>by
  simp only [Sh.okB] at hok
  split at hok
  ·rename_i fs hu
   simp only [Bool.and_eq_true] at hok
   obtain ⟨xs,m,rfl,_,hl,hxl,hf⟩:=DataW.trod_struct hu ht
   have hsz:=Nat.eq_of_beq_eq_true hok.2
   have key:=open_shs hB hD ss fs.toList 0 m cs hok.1 (fun f hf'=>by
    obtain ⟨i,hi⟩:=List.getElem?_of_mem hf'
    have hi':fs[i]? = some f:=by simpa using hi
    have hilt:i < fs.size:=by
     rcases Nat.lt_or_ge i fs.size with hh | hh
     ·exact hh
     rw [Array.getElem?_eq_none hh] at hi'; cases hi'
    refine ⟨xs[i]'(by omega),?_⟩
    rw [hf i f hi',List.getElem?_eq_getElem])
   intro K h hs
   obtain ⟨K',h',avs,e1,s1,v1,f1,t1⟩:=key K h hs
   refine ⟨K',h',avs,e1,s1,?_,f1,by simp only [TyC]; exact t1⟩
   have:(cs.drop 0).take (Sh.ns ss)=cs:=by
    rw [List.drop_zero,List.take_of_length_le (by rw [hl,hsz]; exact Nat.le_refl _)]
   rw [this] at v1; exact v1
  cases hok
 | .sl s,n,t,cs,x,hok,ht=>by
  simp only [Sh.okB] at hok
  split at hok
  ·rename_i e hu
   simp only [Bool.and_eq_true] at hok
   obtain ⟨⟨h1,h2⟩,h3⟩:=hok
   have hz:1≤s.n:=Nat.le_of_ble_eq_true h3
   have hce:=Nat.eq_of_beq_eq_true h2
   rcases DataW.trod_slice hu ht with ⟨rfl,_⟩ | ⟨a,len,cap,elems,rest,m,_,rfl,_,_,hlc,hcm,hle,hel,hre,_⟩
   ·intro K h hs
    exact ⟨K,h,[.nilSlice],Ext.refl _ _,hs,VRs.sing (by simp [VR]),rfl,by simp only [TyC]; exact ⟨_,rfl,.inl rfl⟩⟩
   obtain ⟨hrl,hrr⟩:=hre rfl
   rw [hce] at hel hrr
   have each:∀ i,i < cap→∃ c y,w.cells? 0 (a.add (i * s.n)) s.n=some c∧DataW.trod enc P w 0 (fun _=>true) true m e c=some y:=by
    intro i hi
    by_cases hil:i < len
    ·have:=hel i hil
     rw [List.getElem?_eq_getElem (by omega)] at this
     obtain ⟨c,k1,k2⟩:=Option.bind_eq_some_iff.1 this
     exact ⟨c,_,k1,k2⟩
    have:=hrr (i - len) (by omega)
    rw [List.getElem?_eq_getElem (by omega),show len+(i - len)=i by omega] at this
    obtain ⟨c,k1,k2⟩:=Option.bind_eq_some_iff.1 this
    exact ⟨c,_,k1,k2⟩
   let css:List (List Value):=(List.range len).map fun i=>(w.cells? 0 (a.add (i * s.n)) s.n).getD []
   have hcss:∀ i c,css[i]? = some c→i < len∧w.cells? 0 (a.add (i * s.n)) s.n=some c:=by
    intro i c hi
    simp only [css,List.getElem?_map] at hi
    rcases Nat.lt_or_ge i len with hh | hh
    ·obtain ⟨c',_,k1,_⟩:=each i (by omega)
     rw [List.getElem?_range hh] at hi
     simp only [Option.map_some,k1,Option.getD_some] at hi
     cases hi
     exact ⟨hh,k1⟩
    rw [List.getElem?_eq_none (by simpa using hh)] at hi; cases hi
   refine qN (css:=css) hz (fun c el fz hc=>?_) hD (by simp [css]) hlc (by omega) (fun i c hi=>?_) (fun hc=>?_) (fun hc=>?_) (fun c hc=>?_)
   ·rcases Nat.lt_or_ge a.block B with hh | hh
    ·exact hh
    rw [Array.getElem?_eq_none (by omega)] at hc; cases hc
   ·obtain ⟨_,k⟩:=hcss i c hi
    obtain ⟨q1,q2⟩:=jn k
    exact ⟨q1,fun j hj=>by rw [← q2 j hj,nQ]⟩
   ·obtain ⟨c,_,k,_⟩:=each (cap - 1) (by omega)
    obtain ⟨q1,q2⟩:=jn k
    have:=q2 (s.n - 1) (by omega)
    rw [nQ,List.getElem?_eq_getElem (by omega)] at this
    have e:(cap - 1) * s.n+(s.n - 1)=cap * s.n - 1:=by
     obtain ⟨q,rfl⟩:∃ q,cap=q+1:=⟨cap - 1,by omega⟩
     rw [Nat.succ_mul]; simp only [Nat.add_sub_cancel]; omega
    rw [e] at this
    exact ⟨_,this⟩
   ·obtain ⟨c,_,k,_⟩:=each 0 hc
    obtain ⟨q1,q2⟩:=jn k
    have:=q2 0 (by omega)
    rw [nQ,List.getElem?_eq_getElem (by omega),Nat.zero_mul] at this
    have e:a.add (0+0)=a:=by simp [Addr.add]
    rw [e] at this
    exact ⟨_,this⟩
   obtain ⟨i,hi⟩:=List.getElem?_of_mem hc
   obtain ⟨hil,k⟩:=hcss i c hi
   obtain ⟨c',y,k1,k2⟩:=each i (by omega)
   rw [k] at k1; cases k1
   exact oo hB hD s m e c y h1 k2
  cases hok
theorem open_shs (hB:w.heap.size≤B) (hD:∃ g c el fz,g < B∧w.heap[g]? = some (.cells c el fz)):∀ (ss:List Sh) (fs:List Field) (off n:Nat) (cs:List Value),Sh.oksB P ss fs off=true→
  (∀ f,f∈fs→∃ x,DataW.trod enc P w 0 (fun _=>true) true n f.type ((cs.drop f.offset).take (P.cellsOf f.type))=some x)→
  ∀ K h,Sim B K h w→∃ K' h' avs,Ext K h K' h'∧Sim B K' h' w∧VRs K' avs ((cs.drop off).take (Sh.ns ss))∧avs.all AV.flat=true∧TyCs ss h' avs
 | [],fs,off,n,cs,hok,hf,K,h,hs=>⟨K,h,[],Ext.refl _ _,hs,by simp only [Sh.ns,List.take_zero]; exact VRs.nil,rfl,by simp only [TyCs]⟩
 | s::ss,[],off,n,cs,hok,hf,K,h,hs=>by simp [Sh.oksB] at hok
 | s::ss,f::fs,off,n,cs,hok,hf,K,h,hs=>by
  simp only [Sh.oksB,Bool.and_eq_true] at hok
  obtain ⟨⟨⟨k1,k2⟩,k3⟩,k4⟩:=hok
  have k1:=Nat.eq_of_beq_eq_true k1
  have k2:=Nat.eq_of_beq_eq_true k2
  obtain ⟨x,hx⟩:=hf f (List.mem_cons_self ..)
  rw [k1,k2] at hx
  obtain ⟨K1,h1,avs,e1,s1,v1,f1,t1⟩:=oo hB hD s n f.type _ x k3 hx K h hs
  obtain ⟨K2,h2,avs2,e2,s2,v2,f2,t2⟩:=open_shs hB hD ss fs (off+s.n) n cs k4 (fun f hf'=>hf f (List.mem_cons_of_mem _ hf')) K1 h1 s1
  refine ⟨K2,h2,avs++avs2,e1.trans e2,s2,?_,by simp [f1,f2],?_⟩
  ·rw [Sh.ns,List.take_add]
   rw [List.drop_drop]
   exact (VRs.mono e2.kle _ _ v1).append v2
  simp only [TyCs]
  exact ⟨avs,avs2,rfl,TyC.mono e2.hle s t1,t2⟩
end
end Go.Am
namespace Go.Am
open Go Go.WideShapes Go.RowKit
def TyA:Sh→Heap→AV→Prop
 | .agg ss,h,v=>∃ cs,v=.agg cs∧TyCs ss h cs
 | s,h,v=>TyC s h [v]
def uH:List Sh→Heap→List AV→Prop
 | [],_,vs=>vs=[]
 | s::ss,h,vs=>∃ a b,vs=a::b∧TyA s h a∧uH ss h b
theorem TyA.mono {h h':Heap} (hl:HLe h h'):∀ (s:Sh) {v:AV},TyA s h v→TyA s h' v
 | .agg ss,_,⟨cs,h1,h2⟩=>⟨cs,h1,TyCs.mono hl ss h2⟩
 | .int _,_,ht=>TyC.mono hl _ ht
 | .bool,_,ht=>TyC.mono hl _ ht
 | .str,_,ht=>TyC.mono hl _ ht
 | .sl _,_,ht=>TyC.mono hl _ ht
variable {H:Type} {enc:TypeId×Value→H} {P:Program} {w:World} {B:Nat}
theorem qJ {K:KM} {avs:List AV} {v:Value} (h:VRs K avs [v]):∃ a,avs=[a]∧VR K a v:=by
 match avs,h with
 | [],h=>simp only [VRs] at h; cases h
 | a::as,h=>
  simp only [VRs] at h
  obtain ⟨b,bs,h1,h2,h3⟩:=h
  cases h1
  cases as with
  | nil=>exact ⟨a,rfl,h2⟩
  | cons x xs=>simp only [VRs] at h3; obtain ⟨_,_,h4,_⟩:=h3; cases h4
theorem vw (hB:w.heap.size≤B) (hD:∃ g c el fz,g < B∧w.heap[g]? = some (.cells c el fz)) (s:Sh) (t:TypeId) (v:Value) (d:DataW H) (p:List MemPlace) {r:Reach} {b0:Nat} (hok:s.okB P t=true)
  (hv:Value.okWide P w r b0 t v) (ht:DataW.Trod enc P w 0 (fun _=>true) true t v d p):∀ K h,Sim B K h w→∃ K' h' av,Ext K h K' h'∧Sim B K' h' w∧VR K' av v∧TyA s h' av:=by
 intro K h hs
 obtain ⟨fuel,ht⟩:=ht
 obtain ⟨K',h',avs,e1,s1,v1,f1,t1⟩:=oo hB hD s fuel t _ _ hok ht K h hs
 have single:v.cells.toList=[v]→TyC s h' avs→(∀ a,TyC s h' [a]→TyA s h' a)→∃ K' h' av,Ext K h K' h'∧Sim B K' h' w∧VR K' av v∧TyA s h' av:=by
  intro hc htc hta
  rw [hc] at v1
  obtain ⟨a,rfl,hva⟩:=qJ v1
  exact ⟨K',h',a,e1,s1,hva,hta a htc⟩
 cases s with
 | agg ss=>
  have hok':=hok
  simp only [Sh.okB] at hok'
  split at hok'
  ·rename_i fs hu
   obtain ⟨cs,rfl,_⟩:=okWide_struct hu hv
   simp only [TyC] at t1
   exact ⟨K',h',.agg avs,e1,s1,by simp only [VR]; exact ⟨cs,rfl,v1,f1⟩,avs,rfl,t1⟩
  cases hok'
 | int k=>
  simp only [Sh.okB] at hok
  split at hok
  ·rename_i k' hu
   obtain ⟨n,rfl⟩:=okWide_int hu hv
   exact single rfl t1 fun a ha=>ha
  cases hok
 | bool=>
  simp only [Sh.okB] at hok
  split at hok
  ·rename_i hu
   obtain ⟨n,rfl⟩:=okWide_bool hu hv
   exact single rfl t1 fun a ha=>ha
  cases hok
 | str=>
  simp only [Sh.okB] at hok
  split at hok
  ·rename_i hu
   obtain ⟨n,rfl⟩:=okWide_string hu hv
   exact single rfl t1 fun a ha=>ha
  cases hok
 | sl e=>
  simp only [Sh.okB] at hok
  split at hok
  ·rename_i e' hu
   obtain ⟨a,l,c,rfl⟩:=okWide_slice hu hv
   exact single rfl t1 fun a ha=>ha
  cases hok
def Ew (P:Program):List Sh→List TypeId→Bool
 | [],[]=>true
 | s::ss,t::ts=>s.okB P t&&Ew P ss ts
 | _,_=>false
theorem mP (hB:w.heap.size≤B) (hD:∃ g c el fz,g < B∧w.heap[g]? = some (.cells c el fz)) {r:Reach} {b0:Nat}:∀ (ss:List Sh) (ts:List TypeId) (vs:List Value) (ds:List (DataW H)) (p:List MemPlace),Ew P ss ts=true→
  (∀ (j:Nat) t v,ts[j]? = some t→vs[j]? = some v→Value.okWide P w r b0 t v)→DataW.TrodAll enc P w 0 (fun _=>true) true ts vs ds p→
  ∀ K h,Sim B K h w→∃ K' h' avs,Ext K h K' h'∧Sim B K' h' w∧VRs K' avs vs∧uH ss h' avs
 | [],[],[],[],p,_,_,_,K,h,hs=>⟨K,h,[],Ext.refl _ _,hs,VRs.nil,rfl⟩
 | s::ss,t::ts,v::vs,d::ds,p,hok,hv,ht,K,h,hs=>by
  simp only [Ew,Bool.and_eq_true] at hok
  obtain ⟨p1,q1,h1,h2,_⟩:=ht
  obtain ⟨K1,h1',av,e1,s1,v1,t1⟩:=vw hB hD s t v d p1 hok.1 (hv 0 t v rfl rfl) h1 K h hs
  obtain ⟨K2,h2',avs,e2,s2,v2,t2⟩:=mP hB hD ss ts vs ds q1 hok.2 (fun j t v a b=>hv (j+1) t v a b) h2 K1 h1' s1
  exact ⟨K2,h2',av::avs,e1.trans e2,s2,VRs.cons (VR.mono e2.kle _ _ v1) v2,av,avs,rfl,TyA.mono e2.hle s t1,t2⟩
 | [],[],_::_,_,_,_,_,ht,_,_,_=>by simp [DataW.TrodAll] at ht
 | [],[],[],_::_,_,_,_,ht,_,_,_=>by simp [DataW.TrodAll] at ht
 | [],_::_,_,_,_,hok,_,_,_,_,_=>by cases hok
 | _::_,[],_,_,_,hok,_,_,_,_,_=>by cases hok
 | _::_,_::_,[],_,_,_,_,ht,_,_,_=>by simp [DataW.TrodAll] at ht
 | _::_,_::_,_::_,[],_,_,_,ht,_,_,_=>by simp [DataW.TrodAll] at ht
theorem Sim.start (hB:B≤w.heap.size):Sim B (fun _=>none) ⟨.nil,0⟩ w:=
 ⟨fun o i h=>(by cases h),fun o i h=>(by cases h),fun o o' i i' ob h=>(by cases h),hB⟩
theorem law_calls {F:Nat→Option AFn} (hT:TabOk P F) {f:Nat} {ss:List Sh} {ts:List TypeId} {args:Array Value} {ds:List (DataW H)} {p:List MemPlace} {r:Reach} {b0:Nat} (hok:Ew P ss ts=true)
  (hD:∃ g c el fz,g < w.heap.size∧w.heap[g]? = some (.cells c el fz))
  (hv:∀ (j:Nat) t v,ts[j]? = some t→args[j]? = some v→Value.okWide P w r b0 t v) (ht:DataW.TrodAll enc P w 0 (fun _=>true) true ts args.toList ds p)
  (law:∀ h xs,uH ss h xs→dx F f xs h fun v _=>v=.bool true):Calls P f args w fun e w'=>e=.returned (.bool true)∧Below w.heap.size w w':=by
 obtain ⟨K,h,avs,e1,s1,v1,t1⟩:=mP (B:=w.heap.size) (Nat.le_refl _) hD ss ts args.toList ds p hok (fun j t v a b=>hv j t v a (by simpa using b)) ht _ _ (Sim.start (Nat.le_refl _))
 obtain ⟨n,v,h',hc,rfl⟩:=law h avs t1
 obtain ⟨_,_,hcalls⟩:=(pm hT n).1 f avs h _ h' hc w.heap.size K w args.toList v1 s1
 rw [Array.toArray_toList] at hcalls
 refine hcalls.mono fun e w' ⟨v',K',k1,k2,_,_,_,k6⟩=>⟨?_,k2⟩
 simp only [VR] at k6
 rw [k1,k6]
theorem fv (hl:laidOutB P=true) {w':World} (hb:Below w.heap.size w w'):∀ (ts:List TypeId) (vs:List Value) (ds:List (DataW H)) (p:List MemPlace),(ts.all fun t=>P.readableRec t&&decide (t < P.types.size))=true→
  DataW.TrodAll enc P w 0 (fun _=>true) true ts vs ds p→DataW.TrodAll enc P w' 0 (fun b=>decide (b < w.heap.size)) true ts vs ds p
 | [],[],[],p,_,ht=>ht
 | t::ts,v::vs,d::ds,p,hr,ht=>by
  simp only [List.all_cons,Bool.and_eq_true,decide_eq_true_eq] at hr
  obtain ⟨p1,q1,h1,h2,h3⟩:=ht
  exact ⟨p1,q1,Below.trod hl hr.1.1 hr.1.2 h1 hb (by obtain ⟨m,hm⟩:=h1; exact DataW.trod_lt m _ _ _ hm),fv hl hb ts vs ds q1 hr.2 h2,h3⟩
 | [],_::_,_,_,_,ht=>by simp [DataW.TrodAll] at ht
 | [],[],_::_,_,_,ht=>by simp [DataW.TrodAll] at ht
 | _::_,[],_,_,_,ht=>by simp [DataW.TrodAll] at ht
 | _::_,_::_,[],_,_,ht=>by simp [DataW.TrodAll] at ht
theorem ol {ts:List TypeId}:∀ {vs:List Value} {ds:List (DataW H)} {p:List MemPlace},DataW.TrodAll enc P w 0 (fun _=>true) true ts vs ds p→ds.length=ts.length:=by
 induction ts with
 | nil=>intro vs ds p ht; cases vs<;>cases ds<;>simp_all [DataW.TrodAll]
 | cons t ts ih=>
  intro vs ds p ht
  cases vs<;>cases ds<;>simp only [DataW.TrodAll] at ht
  obtain ⟨_,_,_,h2,_⟩:=ht
  rw [List.length_cons,List.length_cons,ih h2]
def AU:Option Obj→Bool
 | some (.cells _ _ _)=>true
 | _=>false
theorem qj {o:Option Obj} (h:AU o=true):∃ c el fz,o=some (.cells c el fz):=by
 cases o with
 | none=>cases h
 | some o=>cases o<;>first | exact ⟨_,_,_,rfl⟩ | cases h
theorem nJ {C:Program} {W:World} (hs:W.ShapedOpen C) (hc:∃ c el fz,(begin C (fun _ _=>0) default).world.heap[C.globals.size]? = some (.cells c el fz)):∃ g c el fz,g < W.heap.size∧W.heap[g]? = some (.cells c el fz):=by
 obtain ⟨c,el,fz,h1⟩:=hc
 have hlt:C.globals.size < (begin C (fun _ _=>0) default).world.heap.size:=by
  rcases Nat.lt_or_ge C.globals.size (begin C (fun _ _=>0) default).world.heap.size with hh | hh
  ·exact hh
  rw [Array.getElem?_eq_none hh] at h1; cases h1
 obtain ⟨o,o0,k1,k2,k3⟩:=hs.2 C.globals.size (Nat.le_refl _) hlt
 rw [Nat.sub_self] at k3
 simp only [World.looseAt] at k3
 simp at k3
 rw [h1] at k2; cases k2
 subst k3
 refine ⟨_,c,el,fz,?_,k1⟩
 rcases Nat.lt_or_ge C.globals.size W.heap.size with hh | hh
 ·exact hh
 rw [Array.getElem?_eq_none hh] at k1; cases k1
end Go.Am
namespace Go.Am
open Go Go.RowKit
mutual
def Sh.flatB:Sh→Bool
 | .agg ss=>Sh.flatsB ss
 | .sl _=>false
 | _=>true
def Sh.flatsB:List Sh→Bool
 | []=>true
 | s::ss=>s.flatB&&Sh.flatsB ss
end
def AV.scal:AV→Bool
 | .int _ _=>true
 | .bool _=>true
 | .str _=>true
 | _=>false
mutual
theorem TyC.flat {h h':Heap}:∀ (s:Sh) {cs:List AV},s.flatB=true→TyC s h cs→TyC s h' cs∧cs.all AV.scal=true
 | .int k,_,_,ht=>⟨ht,by simp only [TyC] at ht; obtain ⟨n,rfl,_⟩:=ht; rfl⟩
 | .bool,_,_,ht=>⟨ht,by simp only [TyC] at ht; obtain ⟨n,rfl⟩:=ht; rfl⟩
 | .str,_,_,ht=>⟨ht,by simp only [TyC] at ht; obtain ⟨n,rfl,_⟩:=ht; rfl⟩
 | .agg ss,_,hf,ht=>by
  simp only [TyC] at ht ⊢
  exact TyCs.flat ss (by simpa only [Sh.flatB] using hf) ht
 | .sl _,_,hf,_=>by simp [Sh.flatB] at hf
theorem TyCs.flat {h h':Heap}:∀ (ss:List Sh) {cs:List AV},Sh.flatsB ss=true→TyCs ss h cs→TyCs ss h' cs∧cs.all AV.scal=true
 | [],_,_,ht=>⟨ht,by simp only [TyCs] at ht; rw [ht]; rfl⟩
 | s::ss,cs,hf,ht=>by
  simp only [Sh.flatsB,Bool.and_eq_true] at hf
  simp only [TyCs] at ht ⊢
  obtain ⟨a,b,rfl,h2,h3⟩:=ht
  obtain ⟨k1,k2⟩:=TyC.flat (h':=h') s hf.1 h2
  obtain ⟨k3,k4⟩:=TyCs.flat (h':=h') ss hf.2 h3
  exact ⟨⟨a,b,rfl,k1,k3⟩,by simp [k2,k4]⟩
end
theorem VR.scal {K K':KM} {a:AV} {v:Value} (hs:a.scal=true) (h:VR K a v):VR K' a v:=by
 cases a<;>simp only [AV.scal,Bool.false_eq_true] at hs<;>simpa only [VR] using h
theorem VRs.scal {K K':KM}:∀ {as:List AV} {vs:List Value},as.all AV.scal=true→VRs K as vs→VRs K' as vs
 | [],_,_,h=>by simpa only [VRs] using h
 | a::as,_,hs,h=>by
  simp only [List.all_cons,Bool.and_eq_true] at hs
  simp only [VRs] at h ⊢
  obtain ⟨b,bs,h1,h2,h3⟩:=h
  exact ⟨b,bs,h1,VR.scal hs.1 h2,VRs.scal hs.2 h3⟩
theorem TyA.flat {h h':Heap} {K K':KM} {v:Value}:∀ (s:Sh) {a:AV},s.flatB=true→TyA s h a→VR K a v→TyA s h' a∧VR K' a v
 | .agg ss,a,hf,⟨cs,h1,h2⟩,hv=>by
  obtain ⟨k1,k2⟩:=TyCs.flat (h':=h') ss (by simpa only [Sh.flatB] using hf) h2
  subst h1
  simp only [VR] at hv ⊢
  obtain ⟨ys,e1,e2,e3⟩:=hv
  exact ⟨⟨cs,rfl,k1⟩,ys,e1,VRs.scal k2 e2,e3⟩
 | .int k,a,hf,ht,hv=>⟨show TyC _ h' [a] from (TyC.flat (h:=h) (h':=h') _ hf ht).1,VR.scal (by simpa using (TyC.flat (h:=h) (h':=h') _ hf ht).2) hv⟩
 | .bool,a,hf,ht,hv=>⟨show TyC _ h' [a] from (TyC.flat (h:=h) (h':=h') _ hf ht).1,VR.scal (by simpa using (TyC.flat (h:=h) (h':=h') _ hf ht).2) hv⟩
 | .str,a,hf,ht,hv=>⟨show TyC _ h' [a] from (TyC.flat (h:=h) (h':=h') _ hf ht).1,VR.scal (by simpa using (TyC.flat (h:=h) (h':=h') _ hf ht).2) hv⟩
theorem uH.flat {h h':Heap} {K K':KM}:∀ (ss:List Sh) {as:List AV} {vs:List Value},Sh.flatsB ss=true→uH ss h as→VRs K as vs→uH ss h' as∧VRs K' as vs
 | [],_,_,_,ht,hv=>by
  simp only [uH] at ht
  subst ht
  exact ⟨rfl,by simpa only [VRs] using hv⟩
 | s::ss,_,_,hf,⟨a,b,h1,h2,h3⟩,hv=>by
  subst h1
  simp only [Sh.flatsB,Bool.and_eq_true] at hf
  simp only [VRs] at hv ⊢
  obtain ⟨y,ys,e1,e2,e3⟩:=hv
  obtain ⟨k1,k2⟩:=TyA.flat (h':=h') (K':=K') s hf.1 h2 e2
  obtain ⟨k3,k4⟩:=uH.flat (h':=h') (K':=K') ss hf.2 h3 e3
  exact ⟨⟨a,b,rfl,k1,k3⟩,y,ys,e1,k2,k4⟩
def Heap.empty:Heap:=⟨.nil,0⟩
variable {H:Type} {enc:TypeId×Value→H} {P:Program} {w:World} {B:Nat}
def isT:Option (AV×Heap)→Bool
 | some (.bool b,_)=>b
 | _=>false
end Go.Am
namespace Go.Am
open Go
theorem eA {h:Heap} {o v off n:Nat} {cs:List AV} {wr:Bool} (hg:h.get o=some (.row cs v wr)) (hl:off+n≤cs.length):h.cells o v off n=some ((cs.drop off).take n):=by
 unfold Heap.cells; rw [hg]; simp only [true_and,if_pos hl]
theorem ja {h:Heap} {o v off n:Nat} {r:List AV} (hc:h.cells o v off n=some r):∃ cs wr,h.get o=some (.row cs v wr)∧off+n≤cs.length∧r=(cs.drop off).take n:=by
 unfold Heap.cells at hc
 split at hc
 ·rename_i cs ver wr hg
  split at hc
  ·rename_i hh
   cases hc
   exact ⟨cs,wr,by rw [hh.1]; exact hg,hh.2,rfl⟩
  cases hc
 cases hc
theorem qk {h h':Heap} (hl:HLe h h') {o v off n:Nat} {r:List AV} (hc:h.cells o v off n=some r):h'.cells o v off n=some r:=by
 obtain ⟨cs,wr,h1,h2,rfl⟩:=ja hc
 exact eA (hl.2 _ _ h1) h2
theorem qg {α:Type} {l:List α} {i:Nat} {x:α} (h:l[i]? = some x):(l.drop i).take 1=[x]:=by
 obtain ⟨hi,hx⟩:=List.getElem?_eq_some_iff.1 h
 rw [List.drop_eq_getElem_cons hi]
 simp only [List.take_succ_cons,List.take_zero,hx]
theorem pT {h:Heap} {o v off:Nat} {cs:List AV} {wr:Bool} {x:AV} (hg:h.get o=some (.row cs v wr)) (hx:cs[off]? = some x):h.rd1 (.ptr o v off)=some x:=by
 have hi:=(List.getElem?_eq_some_iff.1 hx).1
 simp only [Heap.rd1,ROp.ev,eA hg (show off+1≤cs.length by omega),qg hx]
theorem pW {h:Heap} {o v off n:Nat} {cs:List AV} {wr:Bool} (hg:h.get o=some (.row cs v wr)) (hl:off+n≤cs.length):h.rdN (.ptr o v off) n=some ((cs.drop off).take n):=eA hg hl
theorem kA (h:Heap) (x:AObj):(h.push x).get h.n=some x:=by rw [Heap.get_push,if_pos rfl]
theorem get_lt {h:Heap} {o:Nat} {x:AObj} (hg:h.get o=some x):o < h.n:=by
 rcases Nat.lt_or_ge o h.n with hh | hh
 ·exact hh
 rw [Heap.get_ge h (by omega)] at hg; cases hg
theorem oh {h:Heap} {o:Nat} {x y:AObj} (hg:h.get o=some y):(h.push x).get o=some y:=bg hg
theorem cp {h:Heap} {o:Nat} {x y:AObj} (hg:h.get o=some y):(h.set o x).get o=some x:=by rw [Heap.get_set _ (get_lt hg),if_pos rfl]
theorem aJ {h:Heap} {o o':Nat} {x y:AObj} (hg:h.get o=some y) (hne:o'≠o):(h.set o x).get o'=h.get o':=by rw [Heap.get_set _ (get_lt hg),if_neg hne]
theorem HLe.set {g h:Heap} (hl:HLe g h) {o:Nat} {x:AObj} (ho:g.n≤o) (hn:o < h.n):HLe g (h.set o x):=
 ⟨hl.1,fun p y hp=>by
  have:=get_lt hp
  rw [Heap.get_set _ hn,if_neg (by omega)]
  exact hl.2 p y hp⟩
theorem lO {h:Heap} {o v off n:Nat} {cs:List AV} {x:AV} (hg:h.get o=some (.row cs v true)) (hl:off+n≤cs.length) (hx:x.cells.length=n) (ht:x.isTup=false) :
  EOp.ev (.store n) [.ptr o v off,x] h=some (.undef,h.set o (.row (splice cs off x.cells) v true)):=by
 simp only [EOp.ev,hg]
 rw [if_pos (by simp only [hl,hx,ht,and_self])]
structure SlE (h:Heap) (z:Nat) (s:AV) (els:List (List AV)):Prop where
 sl:s.isSlice=true
 len:s.slen=els.length
 esz:∀ x,x∈els→x.length=z
 has:s.hasEsz z=true
 rows:h.rows z s=some els.flatten
theorem SlE.mono {h h':Heap} (hl:HLe h h') {z:Nat} {s:AV} {els:List (List AV)} (a:SlE h z s els):SlE h' z s els:=
 ⟨a.sl,a.len,a.esz,a.has,by
  have:=a.rows
  cases s<;>simp only [Heap.rows] at this ⊢<;>first | exact this | cases this | skip
  exact qk hl this⟩
theorem SlE.nil (h:Heap) (z:Nat):SlE h z .nilSlice []:=⟨rfl,rfl,(fun _ hx=>by cases hx),rfl,rfl⟩
theorem dF {α:Type} {z:Nat}:∀ (css:List (List α)),(∀ c,c∈css→c.length=z)→∀ (i:Nat) (c:List α),css[i]? = some c→((css.flatten).drop (i * z)).take z=c
 | [],_,i,c,h=>by simp at h
 | d::css,hc,0,c,h=>by
  simp at h
  subst h
  have:=hc d (List.mem_cons_self ..)
  simp only [List.flatten_cons,Nat.zero_mul,List.drop_zero]
  rw [List.take_append_of_le_length (by omega),List.take_of_length_le (by omega)]
 | d::css,hc,i+1,c,h=>by
  have hd:=hc d (List.mem_cons_self ..)
  simp only [List.getElem?_cons_succ] at h
  simp only [List.flatten_cons]
  rw [Nat.succ_mul,show i * z+z=d.length+i * z by omega,← List.drop_drop,List.drop_left]
  exact dF css (fun x hx=>hc x (List.mem_cons_of_mem _ hx)) i c h
theorem SlE.get {h:Heap} {z:Nat} {s:AV} {els:List (List AV)} (a:SlE h z s els) {i:Nat} {x:List AV} (hi:els[i]? = some x) :
  (s.at (i * z)).isPtr=true∧h.rdN (s.at (i * z)) z=some x∧∀ k y,x[k]? = some y→h.rd1 ((s.at (i * z)).padd k)=some y:=by
 have hlt:=(List.getElem?_eq_some_iff.1 hi).1
 obtain ⟨h1,h2,h3,h4,h5⟩:=a
 cases s<;>simp only [AV.isSlice,Bool.false_eq_true] at h1
 ·simp only [AV.slen] at h2; omega
 rename_i o v off len esz
 simp only [AV.slen] at h2
 simp only [Heap.rows] at h5
 obtain ⟨cs,wr,k1,k2,k3⟩:=ja h5
 have hle:i * z+z≤len * z:=by
  rw [← Nat.succ_mul]; exact Nat.mul_le_mul_right _ (by omega)
 have hch:=dF els h3 i x hi
 rw [k3,List.drop_take,List.take_take,List.drop_drop,Nat.min_eq_left (by omega)] at hch
 refine ⟨rfl,?_,fun k y hy=>?_⟩
 ·simp only [AV.at]
  rw [pW k1 (by omega),hch]
 have hxl:=h3 x (List.mem_of_getElem? hi)
 have hk:=(List.getElem?_eq_some_iff.1 hy).1
 simp only [AV.at,AV.padd]
 refine pT k1 ?_
 rw [← hch,List.getElem?_take_of_lt (by omega),List.getElem?_drop] at hy
 exact hy
end Go.Am
