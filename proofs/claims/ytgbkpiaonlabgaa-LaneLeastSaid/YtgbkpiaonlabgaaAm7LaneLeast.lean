/- An abstract machine for the model's code, and that the model does what it does. No condition. Own work. -/
import Derived.Test.YtgbkpiaonlabgaaAm6LaneLeast
set_option linter.unusedSimpArgs false
set_option linter.unusedVariables false
namespace Go.Am
open Go Go.RowKit
mutual
def Sh.flatB:Sh→Bool
 | .agg ss=>Sh.flatsB ss
 | .sl _=>false
 | _=>true
def Sh.flatsB:List Sh→Bool
 | []=>true
 | s::ss=>s.flatB&&Sh.flatsB ss
end
def AV.scal:AV→Bool
 | .int _ _=>true
 | .bool _=>true
 | .str _=>true
 | _=>false
mutual
theorem TyC.flat {h h':Heap}:∀ (s:Sh) {cs:List AV},s.flatB=true→TyC s h cs→TyC s h' cs∧cs.all AV.scal=true
 | .int k,_,_,ht=>⟨ht,by simp only [TyC] at ht; obtain ⟨n,rfl,_⟩:=ht; rfl⟩
 | .bool,_,_,ht=>⟨ht,by simp only [TyC] at ht; obtain ⟨n,rfl⟩:=ht; rfl⟩
 | .str,_,_,ht=>⟨ht,by simp only [TyC] at ht; obtain ⟨n,rfl,_⟩:=ht; rfl⟩
 | .agg ss,_,hf,ht=>by
  simp only [TyC] at ht ⊢
  exact TyCs.flat ss (by simpa only [Sh.flatB] using hf) ht
 | .sl _,_,hf,_=>by simp [Sh.flatB] at hf
theorem TyCs.flat {h h':Heap}:∀ (ss:List Sh) {cs:List AV},Sh.flatsB ss=true→TyCs ss h cs→TyCs ss h' cs∧cs.all AV.scal=true
 | [],_,_,ht=>⟨ht,by simp only [TyCs] at ht; rw [ht]; rfl⟩
 | s::ss,cs,hf,ht=>by
  simp only [Sh.flatsB,Bool.and_eq_true] at hf
  simp only [TyCs] at ht ⊢
  obtain ⟨a,b,rfl,h2,h3⟩:=ht
  obtain ⟨k1,k2⟩:=TyC.flat (h':=h') s hf.1 h2
  obtain ⟨k3,k4⟩:=TyCs.flat (h':=h') ss hf.2 h3
  exact ⟨⟨a,b,rfl,k1,k3⟩,by simp [k2,k4]⟩
end
theorem VR.scal {K K':KM} {a:AV} {v:Value} (hs:a.scal=true) (h:VR K a v):VR K' a v:=by
 cases a<;>simp only [AV.scal,Bool.false_eq_true] at hs<;>simpa only [VR] using h
theorem VRs.scal {K K':KM}:∀ {as:List AV} {vs:List Value},as.all AV.scal=true→VRs K as vs→VRs K' as vs
 | [],_,_,h=>by simpa only [VRs] using h
 | a::as,_,hs,h=>by
  simp only [List.all_cons,Bool.and_eq_true] at hs
  simp only [VRs] at h ⊢
  obtain ⟨b,bs,h1,h2,h3⟩:=h
  exact ⟨b,bs,h1,VR.scal hs.1 h2,VRs.scal hs.2 h3⟩
theorem TyA.flat {h h':Heap} {K K':KM} {v:Value}:∀ (s:Sh) {a:AV},s.flatB=true→TyA s h a→VR K a v→TyA s h' a∧VR K' a v
 | .agg ss,a,hf,⟨cs,h1,h2⟩,hv=>by
  obtain ⟨k1,k2⟩:=TyCs.flat (h':=h') ss (by simpa only [Sh.flatB] using hf) h2
  subst h1
  simp only [VR] at hv ⊢
  obtain ⟨ys,e1,e2,e3⟩:=hv
  exact ⟨⟨cs,rfl,k1⟩,ys,e1,VRs.scal k2 e2,e3⟩
 | .int k,a,hf,ht,hv=>⟨show TyC _ h' [a] from (TyC.flat (h:=h) (h':=h') _ hf ht).1,VR.scal (by simpa using (TyC.flat (h:=h) (h':=h') _ hf ht).2) hv⟩
 | .bool,a,hf,ht,hv=>⟨show TyC _ h' [a] from (TyC.flat (h:=h) (h':=h') _ hf ht).1,VR.scal (by simpa using (TyC.flat (h:=h) (h':=h') _ hf ht).2) hv⟩
 | .str,a,hf,ht,hv=>⟨show TyC _ h' [a] from (TyC.flat (h:=h) (h':=h') _ hf ht).1,VR.scal (by simpa using (TyC.flat (h:=h) (h':=h') _ hf ht).2) hv⟩
theorem TyAs.flat {h h':Heap} {K K':KM}:∀ (ss:List Sh) {as:List AV} {vs:List Value},Sh.flatsB ss=true→TyAs ss h as→VRs K as vs→TyAs ss h' as∧VRs K' as vs
 | [],_,_,_,ht,hv=>by
  simp only [TyAs] at ht
  subst ht
  exact ⟨rfl,by simpa only [VRs] using hv⟩
 | s::ss,_,_,hf,⟨a,b,h1,h2,h3⟩,hv=>by
  subst h1
  simp only [Sh.flatsB,Bool.and_eq_true] at hf
  simp only [VRs] at hv ⊢
  obtain ⟨y,ys,e1,e2,e3⟩:=hv
  obtain ⟨k1,k2⟩:=TyA.flat (h':=h') (K':=K') s hf.1 h2 e2
  obtain ⟨k3,k4⟩:=TyAs.flat (h':=h') (K':=K') ss hf.2 h3 e3
  exact ⟨⟨a,b,rfl,k1,k3⟩,y,ys,e1,k2,k4⟩
def Heap.empty:Heap:=⟨.nil,0⟩
variable {H:Type} {enc:TypeId×Value→H} {P:Program} {w:World} {B:Nat}
def isT:Option (AV×Heap)→Bool
 | some (.bool b,_)=>b
 | _=>false
end Go.Am
namespace Go.Am
open Go
theorem cells_of {h:Heap} {o v off n:Nat} {cs:List AV} {wr:Bool} (hg:h.get o=some (.row cs v wr)) (hl:off+n≤cs.length):h.cells o v off n=some ((cs.drop off).take n):=by
 unfold Heap.cells; rw [hg]; simp only [true_and,if_pos hl]
theorem cells_inv {h:Heap} {o v off n:Nat} {r:List AV} (hc:h.cells o v off n=some r):∃ cs wr,h.get o=some (.row cs v wr)∧off+n≤cs.length∧r=(cs.drop off).take n:=by
 unfold Heap.cells at hc
 split at hc
 ·rename_i cs ver wr hg
  split at hc
  ·rename_i hh
   cases hc
   exact ⟨cs,wr,by rw [hh.1]; exact hg,hh.2,rfl⟩
  cases hc
 cases hc
theorem cells_mono {h h':Heap} (hl:HLe h h') {o v off n:Nat} {r:List AV} (hc:h.cells o v off n=some r):h'.cells o v off n=some r:=by
 obtain ⟨cs,wr,h1,h2,rfl⟩:=cells_inv hc
 exact cells_of (hl.2 _ _ h1) h2
theorem take1_drop {α:Type} {l:List α} {i:Nat} {x:α} (h:l[i]? = some x):(l.drop i).take 1=[x]:=by
 obtain ⟨hi,hx⟩:=List.getElem?_eq_some_iff.1 h
 rw [List.drop_eq_getElem_cons hi]
 simp only [List.take_succ_cons,List.take_zero,hx]
theorem rd1_of {h:Heap} {o v off:Nat} {cs:List AV} {wr:Bool} {x:AV} (hg:h.get o=some (.row cs v wr)) (hx:cs[off]? = some x):h.rd1 (.ptr o v off)=some x:=by
 have hi:=(List.getElem?_eq_some_iff.1 hx).1
 simp only [Heap.rd1,ROp.ev,cells_of hg (show off+1≤cs.length by omega),take1_drop hx]
theorem rdN_of {h:Heap} {o v off n:Nat} {cs:List AV} {wr:Bool} (hg:h.get o=some (.row cs v wr)) (hl:off+n≤cs.length):h.rdN (.ptr o v off) n=some ((cs.drop off).take n):=cells_of hg hl
theorem get_new (h:Heap) (x:AObj):(h.push x).get h.n=some x:=by rw [Heap.get_push,if_pos rfl]
theorem get_lt {h:Heap} {o:Nat} {x:AObj} (hg:h.get o=some x):o < h.n:=by
 rcases Nat.lt_or_ge o h.n with hh | hh
 ·exact hh
 rw [Heap.get_ge h (by omega)] at hg; cases hg
theorem get_old {h:Heap} {o:Nat} {x y:AObj} (hg:h.get o=some y):(h.push x).get o=some y:=get_push_some hg
theorem get_set_eq {h:Heap} {o:Nat} {x y:AObj} (hg:h.get o=some y):(h.set o x).get o=some x:=by rw [Heap.get_set _ (get_lt hg),if_pos rfl]
theorem get_set_ne {h:Heap} {o o':Nat} {x y:AObj} (hg:h.get o=some y) (hne:o'≠o):(h.set o x).get o'=h.get o':=by rw [Heap.get_set _ (get_lt hg),if_neg hne]
theorem HLe.set {g h:Heap} (hl:HLe g h) {o:Nat} {x:AObj} (ho:g.n≤o) (hn:o < h.n):HLe g (h.set o x):=
 ⟨hl.1,fun p y hp=>by
  have:=get_lt hp
  rw [Heap.get_set _ hn,if_neg (by omega)]
  exact hl.2 p y hp⟩
theorem store_of {h:Heap} {o v off n:Nat} {cs:List AV} {x:AV} (hg:h.get o=some (.row cs v true)) (hl:off+n≤cs.length) (hx:x.cells.length=n) (ht:x.isTup=false) :
  EOp.ev (.store n) [.ptr o v off,x] h=some (.undef,h.set o (.row (splice cs off x.cells) v true)):=by
 simp only [EOp.ev,hg]
 rw [if_pos (by simp only [hl,hx,ht,and_self])]
structure SlE (h:Heap) (z:Nat) (s:AV) (els:List (List AV)):Prop where
 sl:s.isSlice=true
 len:s.slen=els.length
 esz:∀ x,x∈els→x.length=z
 has:s.hasEsz z=true
 rows:h.rows z s=some els.flatten
theorem SlE.mono {h h':Heap} (hl:HLe h h') {z:Nat} {s:AV} {els:List (List AV)} (a:SlE h z s els):SlE h' z s els:=
 ⟨a.sl,a.len,a.esz,a.has,by
  have:=a.rows
  cases s<;>simp only [Heap.rows] at this ⊢<;>first | exact this | cases this | skip
  exact cells_mono hl this⟩
theorem SlE.nil (h:Heap) (z:Nat):SlE h z .nilSlice []:=⟨rfl,rfl,(fun _ hx=>by cases hx),rfl,rfl⟩
theorem flatten_chunk {α:Type} {z:Nat}:∀ (css:List (List α)),(∀ c,c∈css→c.length=z)→∀ (i:Nat) (c:List α),css[i]? = some c→((css.flatten).drop (i * z)).take z=c
 | [],_,i,c,h=>by simp at h
 | d::css,hc,0,c,h=>by
  simp at h
  subst h
  have:=hc d (List.mem_cons_self ..)
  simp only [List.flatten_cons,Nat.zero_mul,List.drop_zero]
  rw [List.take_append_of_le_length (by omega),List.take_of_length_le (by omega)]
 | d::css,hc,i+1,c,h=>by
  have hd:=hc d (List.mem_cons_self ..)
  simp only [List.getElem?_cons_succ] at h
  simp only [List.flatten_cons]
  rw [Nat.succ_mul,show i * z+z=d.length+i * z by omega,← List.drop_drop,List.drop_left]
  exact flatten_chunk css (fun x hx=>hc x (List.mem_cons_of_mem _ hx)) i c h
theorem SlE.get {h:Heap} {z:Nat} {s:AV} {els:List (List AV)} (a:SlE h z s els) {i:Nat} {x:List AV} (hi:els[i]? = some x) :
  (s.at (i * z)).isPtr=true∧h.rdN (s.at (i * z)) z=some x∧∀ k y,x[k]? = some y→h.rd1 ((s.at (i * z)).padd k)=some y:=by
 have hlt:=(List.getElem?_eq_some_iff.1 hi).1
 obtain ⟨h1,h2,h3,h4,h5⟩:=a
 cases s<;>simp only [AV.isSlice,Bool.false_eq_true] at h1
 ·simp only [AV.slen] at h2; omega
 rename_i o v off len esz
 simp only [AV.slen] at h2
 simp only [Heap.rows] at h5
 obtain ⟨cs,wr,k1,k2,k3⟩:=cells_inv h5
 have hle:i * z+z≤len * z:=by
  rw [← Nat.succ_mul]; exact Nat.mul_le_mul_right _ (by omega)
 have hch:=flatten_chunk els h3 i x hi
 rw [k3,List.drop_take,List.take_take,List.drop_drop,Nat.min_eq_left (by omega)] at hch
 refine ⟨rfl,?_,fun k y hy=>?_⟩
 ·simp only [AV.at]
  rw [rdN_of k1 (by omega),hch]
 have hxl:=h3 x (List.mem_of_getElem? hi)
 have hk:=(List.getElem?_eq_some_iff.1 hy).1
 simp only [AV.at,AV.padd]
 refine rd1_of k1 ?_
 rw [← hch,List.getElem?_take_of_lt (by omega),List.getElem?_drop] at hy
 exact hy
end Go.Am
