/- The law ParseNear: its pure function answers true, whatever it is called with; so does the machine's function. No condition. Own work. -/
import Derived.Test.YtloaoofdbilpeaaPbParseNear
import Derived.Test.YtloaoofdbilpeaaPm2ParseNear
import Derived.Laws.RangeAny
import Derived.Laws.RangeString
import Derived.KernelRfl
set_option linter.unusedSimpArgs false
set_option linter.unusedVariables false
namespace Go.Proofs.Ytloaoofdbilpeaa
open Go Go.Am
theorem loop_cnt {τ ρ:Type} {f:τ→Option (τ⊕ρ)} (n:Nat) (I:Nat→τ→Prop) (Q:ρ→Prop)
  (step:∀ k s,k < n→I k s→(∃ s',f s=some (.inl s')∧I (k+1) s')∨∃ r,f s=some (.inr r)∧Q r)
  (done:∀ s,I n s→∃ r,f s=some (.inr r)∧Q r) {s:τ} (h0:I 0 s):∃ r,loopC f s=some r∧Q r:=by
 suffices key:∀ d k s,k+d=n→I k s→∃ r,iter f (d+1) s=some r∧Q r by
  obtain ⟨r,h1,h2⟩:=key n 0 s (by omega) h0
  exact ⟨r,loopC_iff.2 ⟨_,h1⟩,h2⟩
 intro d
 induction d with
 | zero=>
  intro k s hk hI
  obtain rfl:k=n:=by omega
  obtain ⟨r,h1,h2⟩:=done s hI
  exact ⟨r,by simp only [iter,h1],h2⟩
 | succ d ih=>
  intro k s hk hI
  rcases step k s (by omega) hI with ⟨s',h1,h2⟩ | ⟨r,h1,h2⟩
  ·obtain ⟨r,h3,h4⟩:=ih (k+1) s' (by omega) h2
   exact ⟨r,by rw [iter]; simp only [h1]; exact h3,h4⟩
  exact ⟨r,by rw [iter]; simp only [h1],h2⟩
def Bytes (p:List Int):Prop:=∀ c,c∈p→0≤c∧c≤255
theorem Bytes.get {p:List Int} (h:Bytes p) {i:Nat} (hi:i < p.length):0≤p[i]∧p[i]≤255:=h _ (List.getElem_mem hi)
def isSm (c:Int):Bool:=decide (97≤c)&&decide (c≤122)
def isDg (c:Int):Bool:=decide (48≤c)&&decide (c≤57)
def isWd (c:Int):Bool:=isSm c||(isDg c||decide (c=46))
def isBl (c:Int):Bool:=decide (c=32)||(decide (c=9)||(decide (c=10)||decide (c=13)))
def isSg (c:Int):Bool:=decide (c=59)||(decide (c=58)||(decide (c=44)||(decide (c=42)||(decide (c=33)||(decide (c=126)||(decide (c=64)||decide (c=61)))))))
def nnl (c:Int):Bool:=!decide (c=10)
def run (P:Int→Bool) (p:List Int) (i:Nat):Nat:=i+((p.drop i).takeWhile P).length
theorem run_step {P:Int→Bool} {p:List Int} {i:Nat} (hi:i < p.length):run P p i=if P p[i]=true then run P p (i+1) else i:=by
 unfold run
 rw [List.drop_eq_getElem_cons hi,List.takeWhile_cons]
 split
 ·simp; omega
 simp
theorem run_end {P:Int→Bool} {p:List Int} {i:Nat} (hi:p.length≤i):run P p i=i:=by
 unfold run
 rw [List.drop_eq_nil_of_le hi]; rfl
theorem run_ge (P:Int→Bool) (p:List Int) (i:Nat):i≤run P p i:=by unfold run; omega
theorem run_le {P:Int→Bool} {p:List Int} {i:Nat} (hi:i≤p.length):run P p i≤p.length:=by
 unfold run
 have:=List.Sublist.length_le (List.takeWhile_sublist P (l:=p.drop i))
 rw [List.length_drop] at this
 omega
def numv:List Int→Int→Option Int
 | [],n=>some n
 | d::l,n=>if 1125899906842624 < 10 * n+(d - 48) then none else numv l (10 * n+(d - 48))
def num (p:List Int) (i:Nat) (n:Int):Option Int:=numv ((p.drop i).takeWhile isDg) n
theorem num_step {p:List Int} {i:Nat} (hi:i < p.length) (n:Int):num p i n=if isDg p[i]=true then (if 1125899906842624 < 10 * n+(p[i] - 48) then none else num p (i+1) (10 * n+(p[i] - 48))) else some n:=by
 unfold num
 rw [List.drop_eq_getElem_cons hi,List.takeWhile_cons]
 split
 ·rfl
 rfl
theorem num_end {p:List Int} {i:Nat} (hi:p.length≤i) (n:Int):num p i n=some n:=by
 unfold num
 rw [List.drop_eq_nil_of_le hi]; rfl
structure Tok where
 k:Int
 s:List UInt8
 n:Int
 at_:Int
def textOf (p:List Int) (i j:Nat):List UInt8:=((p.take j).drop i).map u8
def oneS (p:List Int) (i:Nat):(Int×Nat×Int)⊕Int:=
 let c:=p.getD i 0
 if isSm c=true then .inl (1,run isWd p (i+1),0)
 else if isDg c=true then match num p i 0 with
  | some n=>.inl (2,run isDg p (i+1),n)
  | none=>.inr 3
 else if c=45∧p[i+1]? = some 62 then .inl (3,i+2,0)
 else if isSg c=true then .inl (3,i+1,0)
 else .inr 6
def stepS (p:List Int) (i:Nat):(Nat×List Tok)⊕Int:=
 let c:=p.getD i 0
 if isBl c=true then .inl (i+1,[])
 else if c=35 then .inl (run nnl p i,[])
 else match oneS p i with
  | .inl (k,e,n)=>.inl (e,[⟨k,textOf p i e,n,(i:Int)⟩])
  | .inr e=>.inr e
inductive LexR (p:List Int):Nat→List Tok→(List Tok×Int×Int)→Prop where
 | done {i:Nat} {l:List Tok}:i=p.length→LexR p i l (l++[⟨0,[],0,(p.length:Int)⟩],0,0)
 | go {i j:Nat} {l t:List Tok} {r:List Tok×Int×Int}:i < p.length→stepS p i=.inl (j,t)→LexR p j (l++t) r→LexR p i l r
 | err {i:Nat} {l:List Tok} {e:Int}:i < p.length→stepS p i=.inr e→LexR p i l ([],e,(i:Int))
theorem LexR.det {p:List Int} {i:Nat} {l:List Tok} {r r':List Tok×Int×Int} (h:LexR p i l r) (h':LexR p i l r'):r=r':=by
 induction h with
 | done e=>
  cases h' with
  | done _=>rfl
  | go h1 _ _=>omega
  | err h1 _=>omega
 | go h1 h2 _ ih=>
  cases h' with
  | done e=>omega
  | go _ k2 k3=>rw [h2] at k2; cases k2; exact ih k3
  | err _ k2=>rw [h2] at k2; cases k2
 | err h1 h2=>
  cases h' with
  | done e=>omega
  | go _ k2 _=>rw [h2] at k2; cases k2
  | err _ k2=>rw [h2] at k2; cases k2; rfl
theorem isDg_lt {c:Int} (h:isDg c=true):48≤c∧c≤57:=by
 simpa [isDg] using h
theorem oneS_gt {p:List Int} {i j:Nat} {k n:Int} (hi:i < p.length) (h:oneS p i=.inl (k,j,n)):i < j∧j≤p.length:=by
 unfold oneS at h
 simp only at h
 split at h
 ·cases h; exact ⟨Nat.lt_of_lt_of_le (Nat.lt_succ_self i) (run_ge _ _ _),run_le (by omega)⟩
 split at h
 ·split at h
  ·cases h; exact ⟨Nat.lt_of_lt_of_le (Nat.lt_succ_self i) (run_ge _ _ _),run_le (by omega)⟩
  cases h
 split at h
 ·rename_i h1
  cases h
  have:=(List.getElem?_eq_some_iff.1 h1.2).1
  omega
 split at h
 ·cases h; omega
 cases h
theorem getD_of {p:List Int} {i:Nat} (hi:i < p.length):p.getD i 0=p[i]:=by
 rw [List.getD_eq_getElem?_getD,List.getElem?_eq_getElem hi]; rfl
theorem stepS_gt {p:List Int} {i j:Nat} {t:List Tok} (hi:i < p.length) (h:stepS p i=.inl (j,t)):i < j∧j≤p.length∧t.length≤1:=by
 unfold stepS at h
 simp only at h
 split at h
 ·cases h; simp; omega
 split at h
 ·rename_i h1
  cases h
  rw [getD_of hi] at h1
  have:run nnl p i=run nnl p (i+1):=by rw [run_step hi,if_pos (by rw [h1]; decide)]
  rw [this]
  exact ⟨Nat.lt_of_lt_of_le (Nat.lt_succ_self i) (run_ge _ _ _),run_le (by omega),by simp⟩
 split at h
 ·rename_i h1
  cases h
  obtain ⟨g1,g2⟩:=oneS_gt hi h1
  exact ⟨g1,g2,by simp⟩
 cases h
theorem p37_eq (c:Int):p37 c=some (isSm c):=by
 unfold p37 p37_j0 isSm
 split<;>rename_i h<;>simp [h]
theorem p38_eq (c:Int):p38 c=some (isDg c):=by
 unfold p38 p38_j0 isDg
 split<;>rename_i h<;>simp [h]
theorem p33_eq (c:Int):p33 c=some (isSm c):=by
 unfold p33 p33_j0 isSm
 split<;>rename_i h<;>simp [h]
theorem p34_eq (c:Int):p34 c=some (isDg c):=by
 unfold p34 p34_j0 isDg
 split<;>rename_i h<;>simp [h]
theorem p48_eq (s:List UInt8) (c:Int):p48 s c=some (idxB s c):=rfl
theorem indexByte_eq (c:UInt8):∀ s:List UInt8,Go.Lib.indexByte s c=if c∈s then ((s.takeWhile (fun b=>b != c)).length:Int) else -1
 | []=>rfl
 | b::s=>by
  unfold Go.Lib.indexByte
  rw [indexByte_eq c s]
  by_cases h:b=c
  ·subst h; simp
  have h1:(b==c)=false:=by simpa using h
  have h2:(b != c)=true:=by simpa using h
  rw [h1,List.takeWhile_cons,h2]
  simp only [Bool.false_eq_true,if_false,if_true,List.length_cons]
  by_cases hm:c∈s
  ·rw [if_pos hm,if_pos (List.mem_cons_of_mem _ hm)]
   have:((((s.takeWhile (fun b=>b != c)).length:Nat):Int)==-1)=false:=by
    rw [beq_eq_false_iff_ne]; omega
   rw [this]; simp
  have hm':¬ c∈b::s:=by
   intro hh
   rcases List.mem_cons.1 hh with e | hh
   ·exact h e.symm
   exact hm hh
  rw [if_neg hm,if_neg hm']; rfl
theorem u8_inj {a b:Int} (ha:0≤a∧a≤255) (hb:0≤b∧b≤255):a.toNat.toUInt8=b.toNat.toUInt8↔a=b:=by
 constructor
 ·intro h
  have:=congrArg UInt8.toNat h
  simp only [Nat.toUInt8,UInt8.toNat_ofNat'] at this
  omega
 rintro rfl; rfl
theorem mem_u8 {s:List Int} (hs:Bytes s) {c:Int} (hc:0≤c∧c≤255):c.toNat.toUInt8∈s.map (fun x=>x.toNat.toUInt8)↔c∈s:=by
 rw [List.mem_map]
 constructor
 ·rintro ⟨a,h1,h2⟩
  rw [(u8_inj (hs a h1) hc).1 h2] at h1
  exact h1
 intro h; exact ⟨c,h,rfl⟩
theorem idxB_ge {s:List UInt8} {c:Int}:0≤idxB s c↔c.toNat.toUInt8∈s:=by
 unfold idxB
 rw [indexByte_eq]
 split
 ·rename_i h; simp [h]
 rename_i h; simp [h]
theorem p48_bl {c:Int} (hc:0≤c∧c≤255):0≤idxB ([32,9,13,10]:List UInt8) c↔isBl c=true:=by
 rw [idxB_ge,show ([32,9,13,10]:List UInt8)=([32,9,13,10]:List Int).map (fun x=>x.toNat.toUInt8) from rfl,mem_u8 (by intro x hx; simp at hx; omega) hc]
 simp [isBl]
 omega
theorem p48_sg {c:Int} (hc:0≤c∧c≤255):0≤idxB ([59,58,44,42,33,126,64,61]:List UInt8) c↔isSg c=true:=by
 rw [idxB_ge,show ([59,58,44,42,33,126,64,61]:List UInt8)=([59,58,44,42,33,126,64,61]:List Int).map (fun x=>x.toNat.toUInt8) from rfl,mem_u8 (by intro x hx; simp at hx; omega) hc]
 simp [isSg]
end Go.Proofs.Ytloaoofdbilpeaa
namespace Go.Proofs.Ytloaoofdbilpeaa
open Go Go.Am
theorem slc_ok {α:Type} {l:List α} {i j:Nat} (h:i≤j) (hj:j≤l.length):slc l (i:Int) (j:Int)=some ((l.take j).drop i):=by
 unfold slc
 rw [if_pos (by omega)]
 simp
theorem take_nl {p:List Int} (hp:Bytes p) (i:Nat):((p.drop i).map (fun x=>x.toNat.toUInt8)).takeWhile (fun b=>b != (10:Int).toNat.toUInt8)=((p.drop i).takeWhile nnl).map (fun x=>x.toNat.toUInt8):=by
 have:∀ q:List Int,Bytes q→(q.map (fun x=>x.toNat.toUInt8)).takeWhile (fun b=>b != (10:Int).toNat.toUInt8)=(q.takeWhile nnl).map (fun x=>x.toNat.toUInt8):=by
  intro q hq
  induction q with
  | nil=>rfl
  | cons c q ih=>
   have hc:=hq c (by simp)
   have ih:=ih (fun x hx=>hq x (by simp [hx]))
   rw [List.map_cons,List.takeWhile_cons,List.takeWhile_cons]
   by_cases h:c=10
   ·subst h; rfl
   have h1:(c.toNat.toUInt8 != (10:Int).toNat.toUInt8)=true:=by
    rw [bne_iff_ne]
    intro e
    exact h ((u8_inj hc (by omega)).1 e)
   have h2:nnl c=true:=by simp [nnl,h]
   rw [h1,h2]
   simp only [if_true,List.map_cons,ih]
 exact this _ (fun c hc=>hp c (List.mem_of_mem_drop hc))
theorem u8_eq:(fun x:Int=>x.toNat.toUInt8)=u8:=by
 funext x; rfl
theorem nl_idx {p:List Int} (hp:Bytes p) {i:Nat} (hi:i≤p.length):(idxB ((p.drop i).map u8) 10 < 0∧run nnl p i=p.length)∨(idxB ((p.drop i).map u8) 10=((run nnl p i - i:Nat):Int)∧∃ h:run nnl p i < p.length,p[run nnl p i]=10):=by
 unfold idxB
 have hmu:=mem_u8 (s:=p.drop i) (c:=10) (fun c hc=>hp c (List.mem_of_mem_drop hc)) (by omega)
 rw [indexByte_eq,← u8_eq,take_nl hp,List.length_map]
 by_cases hm:(10:Int)∈p.drop i
 ·rw [if_pos (hmu.2 hm)]
  right
  refine ⟨by unfold run; rw [Nat.add_sub_cancel_left],?_⟩
  have key:∀ q:List Int,(10:Int)∈q→∃ h:(q.takeWhile nnl).length < q.length,q[(q.takeWhile nnl).length]=10:=by
   intro q hq
   induction q with
   | nil=>cases hq
   | cons c q ih=>
    rw [List.takeWhile_cons]
    by_cases h:c=10
    ·subst h; exact ⟨by simp [nnl],by simp [nnl]⟩
    have h2:nnl c=true:=by simp [nnl,h]
    obtain ⟨g1,g2⟩:=ih (by rcases List.mem_cons.1 hq with e | e; exact absurd e.symm h; exact e)
    simp only [h2,if_true,List.length_cons,List.getElem_cons_succ]
    exact ⟨by omega,g2⟩
  obtain ⟨g1,g2⟩:=key _ hm
  rw [List.length_drop] at g1
  refine ⟨by unfold run; omega,?_⟩
  rw [List.getElem_drop] at g2
  exact g2
 rw [if_neg (fun h=>hm (hmu.1 h))]
 left
 refine ⟨by omega,?_⟩
 have key:∀ q:List Int,¬ (10:Int)∈q→q.takeWhile nnl=q:=by
  intro q hq
  induction q with
  | nil=>rfl
  | cons c q ih=>
   have h2:nnl c=true:=by
    simp only [nnl,Bool.not_eq_true',decide_eq_false_iff_not]
    rintro rfl
    exact hq (by simp)
   rw [List.takeWhile_cons,h2]
   simp only [if_true]
   rw [ih (fun h=>hq (by simp [h]))]
 unfold run
 rw [key _ hm,List.length_drop]; omega
theorem p31_eq {p:List Int} (hp:Bytes p) (hl:p.length≤1000000) {i:Nat} (hi:i≤p.length) :
  ∃ j:Nat,p31 p (i:Int)=some (j:Int)∧i≤j∧j≤p.length∧(∀ l r,LexR p j l r→LexR p i l r)∧(∀ h:j < p.length,isBl p[j]=false∧p[j]≠35):=by
 have key:∃ r,loopC (p31_l0 p) (i:Int)=some r∧∃ j:Nat,(r=.inl (j:Int)∨r=.inr (j:Int))∧i≤j∧j≤p.length∧(∀ l r,LexR p j l r→LexR p i l r)∧(∀ h:j < p.length,isBl p[j]=false∧p[j]≠35):=by
  refine loop_cnt (p.length - i) (fun k s=>∃ j:Nat,s=(j:Int)∧i+k≤j∧j≤p.length∧∀ l r,LexR p j l r→LexR p i l r) _ ?_ ?_ ⟨i,rfl,by omega,hi,fun _ _ h=>h⟩
  ·rintro k _ hk ⟨j,rfl,h1,h2,h3⟩
   unfold p31_l0
   by_cases hj:j < p.length
   ·have hb:=hp.get hj
    rw [if_pos (by omega),idx_get hj]
    simp only [Option.bind_some,p48_eq]
    by_cases hbl:isBl p[j]=true
    ·rw [if_pos ((p48_bl hb).2 hbl)]
     refine .inl ⟨_,rfl,j+1,by rw [wrap64 (by omega) (by omega)]; rfl,by omega,by omega,fun l r h=>h3 l r (.go hj (t:=[]) (j:=j+1) ?_ (by simpa using h))⟩
     unfold stepS
     simp only [getD_of hj]
     rw [if_pos hbl]
    rw [if_neg (fun h=>hbl ((p48_bl hb).1 h))]
    by_cases hc:p[j]=35
    ·rw [if_pos hc,slc_ok (Nat.le_of_lt hj) (Nat.le_refl _),List.take_length]
     simp only [Option.bind_some]
     have hst:stepS p j=.inl (run nnl p j,[]):=by
      unfold stepS
      simp only [getD_of hj]
      rw [if_neg hbl,if_pos hc]
     obtain ⟨hg1,hg2,_⟩:=stepS_gt hj hst
     rcases nl_idx hp (Nat.le_of_lt hj) with ⟨g1,g2⟩ | ⟨g1,g2,g3⟩
     ·rw [if_pos g1]
      refine .inr ⟨_,rfl,p.length,.inl rfl,by omega,Nat.le_refl _,fun l r h=>h3 l r (.go hj hst (by rw [g2]; simpa using h)),fun h=>absurd h (by omega)⟩
     rw [g1,if_neg (by omega)]
     refine .inl ⟨_,rfl,run nnl p j,by rw [wrap64 (by omega) (by omega)]; omega,by omega,hg2,fun l r h=>h3 l r (.go hj hst (by simpa using h))⟩
    rw [if_neg hc]
    exact .inr ⟨_,rfl,j,.inl rfl,by omega,h2,h3,fun _=>⟨by simpa using hbl,hc⟩⟩
   rw [if_neg (by omega)]
   exact .inr ⟨_,rfl,j,.inr rfl,by omega,h2,h3,fun h=>absurd h hj⟩
  rintro _ ⟨j,rfl,h1,h2,h3⟩
  unfold p31_l0
  rw [if_neg (by omega)]
  exact ⟨_,rfl,j,.inr rfl,by omega,h2,h3,fun h=>absurd h (by omega)⟩
 obtain ⟨r,h1,j,h2,h3⟩:=key
 refine ⟨j,?_,h3⟩
 unfold p31
 rw [h1]
 rcases h2 with rfl | rfl<;>rfl
theorem p32_word {p:List Int} (hl:p.length≤1000000) {i:Nat} (hi:i≤p.length):loopC (p32_l0 p) (i:Int)=some ((run isWd p i:Nat):Int):=by
 obtain ⟨r,h1,h2⟩:∃ r,loopC (p32_l0 p) (i:Int)=some r∧r=((run isWd p i:Nat):Int):=by
  refine loop_cnt (p.length - i) (fun k s=>s=((i+k:Nat):Int)∧run isWd p i=run isWd p (i+k)) _ ?_ ?_ ⟨rfl,rfl⟩
  ·rintro k _ hk ⟨rfl,h⟩
   have hj:i+k < p.length:=by omega
   rw [run_step hj] at h
   unfold p32_l0
   rw [if_pos (by omega),idx_get hj]
   simp only [Option.bind_some,p37_eq,p38_eq]
   have fin:∀ b:Bool,b=isWd p[i+k]→(∃ s',p32_j1 ((i+k:Nat):Int) b=some (.inl s')∧s'=((i+(k+1):Nat):Int)∧run isWd p i=run isWd p (i+(k+1)))∨∃ r,p32_j1 ((i+k:Nat):Int) b=some (.inr r)∧r=((run isWd p i:Nat):Int):=by
    rintro b rfl
    unfold p32_j1
    cases hw:isWd p[i+k] with
    | true=>
     rw [if_pos rfl]
     rw [hw,if_pos rfl] at h
     exact .inl ⟨_,rfl,by rw [wrap64 (by omega) (by omega)]; omega,h⟩
    | false=>
     rw [if_neg (by simp)]
     rw [hw,if_neg (by simp)] at h
     exact .inr ⟨_,rfl,by rw [h]⟩
   unfold p32_j3 p32_j2
   cases hs:isSm p[i+k] with
   | true=>
    rw [if_pos rfl,if_pos rfl]
    exact fin _ (by simp [isWd,hs])
   | false=>
    rw [if_neg (by simp)]
    cases hd:isDg p[i+k] with
    | true=>
     rw [if_pos rfl]
     exact fin _ (by simp [isWd,hs,hd])
    | false=>
     rw [if_neg (by simp),idx_get hj]
     exact fin _ (by simp [isWd,hs,hd])
  rintro _ ⟨rfl,h⟩
  rw [run_end (i:=i+(p.length - i)) (by omega)] at h
  unfold p32_l0 p32_j1
  rw [if_neg (by omega),if_neg (by simp)]
  exact ⟨_,rfl,by rw [h]⟩
 rw [h1,h2]
theorem p32_num {p:List Int} (hl:p.length≤1000000) {i:Nat} (hi:i≤p.length) {n:Int} (h0:0≤n) (h1:n≤1125899906842624) :
  ∃ r,loopC (p32_l1 p) ((i:Int),n)=some r∧(match num p i n with | some m=>r=.inr ((run isDg p i:Nat),m) | none=>∃ u,r=.inl u):=by
 refine loop_cnt (p.length - i) (fun k s=>∃ m:Int,s=(((i+k:Nat):Int),m)∧0≤m∧m≤1125899906842624∧run isDg p i=run isDg p (i+k)∧num p i n=num p (i+k) m) _ ?_ ?_ ⟨n,rfl,h0,h1,rfl,rfl⟩
 ·rintro k _ hk ⟨m,rfl,g0,g1,g2,g3⟩
  have hj:i+k < p.length:=by omega
  rw [run_step hj] at g2
  rw [num_step hj] at g3
  unfold p32_l1
  simp only
  rw [if_pos (by omega),idx_get hj]
  simp only [Option.bind_some,p38_eq]
  unfold p32_j4
  cases hd:isDg p[i+k] with
  | true=>
   have hb:=isDg_lt hd
   rw [if_pos rfl,idx_get hj]
   simp only [Option.bind_some]
   have e1:IntKind.wrap .u8 (p[i+k] - 48)=p[i+k] - 48:=IntWalk.u8_in _ (by omega)
   rw [e1,wrap64 (n:=10 * m) (by omega) (by omega),wrap64 (n:=p[i+k] - 48) (by omega) (by omega),wrap64 (by omega) (by omega)]
   rw [hd,if_pos rfl] at g2 g3
   by_cases hc:1125899906842624 < 10 * m+(p[i+k] - 48)
   ·rw [if_pos hc] at g3 ⊢
    refine .inr ⟨_,rfl,?_⟩
    rw [g3]
    exact ⟨_,rfl⟩
   rw [if_neg hc] at g3 ⊢
   exact .inl ⟨_,rfl,10 * m+(p[i+k] - 48),by rw [wrap64 (by omega) (by omega)]; rfl,by omega,by omega,g2,g3⟩
  | false=>
   rw [if_neg (by simp)]
   rw [hd,if_neg (by simp)] at g2 g3
   refine .inr ⟨_,rfl,?_⟩
   rw [g3,g2]
 rintro _ ⟨m,rfl,g0,g1,g2,g3⟩
 rw [run_end (i:=i+(p.length - i)) (by omega)] at g2
 rw [num_end (i:=i+(p.length - i)) (by omega)] at g3
 unfold p32_l1 p32_j4
 simp only
 rw [if_neg (by omega),if_neg (by simp)]
 refine ⟨_,rfl,?_⟩
 rw [g3,g2]
end Go.Proofs.Ytloaoofdbilpeaa
namespace Go.Proofs.Ytloaoofdbilpeaa
open Go Go.Am
def lastN (p:List Int):Nat→Int
 | 0=>-1
 | i+1=>if p[i]? = some 10 then (i:Int) else lastN p i
def cntN (p:List Int):Nat→Nat
 | 0=>0
 | i+1=>cntN p i+if p[i]? = some 10 then 1 else 0
theorem lastN_succ (p:List Int) (i:Nat):lastN p (i+1)=if p[i]? = some 10 then (i:Int) else lastN p i:=rfl
theorem cntN_succ (p:List Int) (i:Nat):cntN p (i+1)=cntN p i+if p[i]? = some 10 then 1 else 0:=rfl
theorem lastN_lt (p:List Int):∀ i:Nat,-1≤lastN p i∧lastN p i < (i:Int)
 | 0=>⟨Int.le_refl _,by show (-1:Int) < 0; omega⟩
 | i+1=>by
  have:=lastN_lt p i
  unfold lastN
  split<;>omega
theorem cntN_le (p:List Int):∀ i:Nat,cntN p i≤i
 | 0=>Nat.le_refl _
 | i+1=>by
  have:=cntN_le p i
  unfold cntN
  split<;>omega
theorem p20_eq {p:List Int} (hl:p.length≤1000000) {i:Nat} (hi:i≤p.length):p20 p (i:Int)=some (1+(cntN p i:Int),(i:Int) - lastN p i):=by
 obtain ⟨r,h1,h2⟩:∃ r,loopC (p20_l0 p (i:Int)) ((1:Int),(1:Int),(0:Int))=some r∧r=(1+(cntN p i:Int),(i:Int) - lastN p i):=by
  refine loop_cnt i (fun k (st:Int×Int×Int)=>st=(1+(cntN p k:Int),(k:Int) - lastN p k,(k:Int))) _ ?_ ?_ rfl
  ·rintro k _ hk rfl
   have hj:k < p.length:=by omega
   have b1:=lastN_lt p k
   have b2:=cntN_le p k
   refine .inl ⟨_,?_,rfl⟩
   unfold p20_l0
   simp only
   rw [if_pos (by omega)]
   unfold p20_j1
   rw [if_pos (by simp; omega),idx_get hj]
   simp only [Option.bind_some]
   unfold p20_j0
   rw [lastN_succ,cntN_succ,List.getElem?_eq_getElem hj,wrap64 (n:=(k:Int)+1) (by omega) (by omega)]
   by_cases hc:p[k]=10
   ·rw [if_pos hc,if_pos (by rw [hc]),if_pos (by rw [hc]),wrap64 (by omega) (by omega)]
    refine congrArg (fun x=>some (Sum.inl x)) (Prod.ext ?_ (Prod.ext ?_ ?_))
    ·simp only; push_cast; omega
    ·simp only; push_cast; omega
    simp only; push_cast; omega
   have hc':¬ some p[k]=some 10:=fun h=>hc (Option.some.inj h)
   rw [if_neg hc,if_neg hc',if_neg hc',wrap64 (by omega) (by omega)]
   refine congrArg (fun x=>some (Sum.inl x)) (Prod.ext ?_ (Prod.ext ?_ ?_))
   ·simp only; push_cast; omega
   ·simp only; push_cast; omega
   simp only; push_cast; omega
  rintro _ rfl
  unfold p20_l0 p20_j1
  simp only
  rw [if_neg (by omega),if_neg (by simp)]
  exact ⟨_,rfl,rfl⟩
 unfold p20
 rw [h1,h2]
 rfl
theorem u8_nat {c:Int} (hc:0≤c∧c≤255):((u8 c).toNat:Int)=c:=by
 unfold u8
 simp only [UInt8.toNat_ofNat']
 omega
theorem p52_eq {p:List Int} (hp:Bytes p) (hl:p.length≤1000000) {i:Nat} (hi:i≤p.length):p52 ((p.take i).map u8) 10=some (lastN p i):=by
 have hlen:((p.take i).map u8).length=i:=by simp; omega
 unfold p52
 rw [hlen,wrap64 (by omega) (by omega)]
 obtain ⟨r,h1,h2⟩:∃ r,loopC (p52_l0 ((p.take i).map u8) 10) ((i:Int) - 1)=some r∧(r=.inl (lastN p i)∨(r=.inr ()∧lastN p i = -1)):=by
  refine loop_cnt i (fun d (st:Int)=>st=(i:Int) - d - 1∧lastN p i=lastN p (i - d)) _ ?_ ?_ ⟨by omega,rfl⟩
  ·rintro d _ hd ⟨rfl,h⟩
   obtain ⟨j,hj⟩:∃ j,i - d=j+1:=⟨i - d - 1,by omega⟩
   have e1:(i:Int) - d - 1=(j:Int):=by omega
   have hjp:j < p.length:=by omega
   rw [hj] at h
   rw [lastN_succ,List.getElem?_eq_getElem hjp] at h
   unfold p52_l0
   rw [e1,if_pos (by omega)]
   have hix:idxS ((p.take i).map u8) (j:Int)=some p[j]:=by
    unfold idxS
    rw [if_pos (by omega),Int.toNat_natCast,List.getElem?_map,List.getElem?_take,if_pos (by omega),List.getElem?_eq_getElem hjp]
    simp only [Option.map_some]
    rw [u8_nat (hp.get hjp)]
   rw [hix]
   simp only [Option.bind_some]
   by_cases hc:p[j]=10
   ·rw [if_pos hc]
    rw [if_pos (by rw [hc])] at h
    exact .inr ⟨_,rfl,.inl (by rw [h])⟩
   rw [if_neg hc]
   rw [if_neg (fun e=>hc (Option.some.inj e))] at h
   refine .inl ⟨_,rfl,?_,?_⟩
   ·rw [wrap64 (by omega) (by omega)]; omega
   rw [h,show i - (d+1)=j by omega]
  rintro _ ⟨rfl,h⟩
  rw [Nat.sub_self] at h
  unfold p52_l0
  rw [if_neg (by omega)]
  exact ⟨_,rfl,.inr ⟨rfl,h⟩⟩
 rw [h1]
 rcases h2 with rfl | ⟨rfl,h⟩
 ·rfl
 rw [h]; rfl
theorem cntB_eq {p:List Int} (hp:Bytes p):∀ {i:Nat},i≤p.length→cntB ((p.take i).map u8) 10=(cntN p i:Int)
 | 0,_=>rfl
 | i+1,hi=>by
  have ih:=cntB_eq hp (i:=i) (by omega)
  have hj:i < p.length:=by omega
  unfold cntB Go.Lib.countByte at ih ⊢
  rw [List.take_succ_eq_append_getElem hj,List.map_append,List.count_append]
  rw [cntN_succ,List.getElem?_eq_getElem hj]
  have:([p[i]].map u8).count (10:Int).toNat.toUInt8=if some p[i]=some 10 then 1 else 0:=by
   rw [List.map_singleton,List.count_singleton]
   by_cases hc:p[i]=10
   ·rw [hc]; rfl
   have h1:¬ (u8 p[i]=(10:Int).toNat.toUInt8):=fun e=>hc ((u8_inj (hp.get hj) (by omega)).1 e)
   rw [if_neg (by simpa using h1),if_neg (fun e=>hc (Option.some.inj e))]
  rw [this]
  omega
theorem p21_eq {p:List Int} (hp:Bytes p) (hl:p.length≤1000000) (a:Int) {i:Nat} (hi:i≤p.length) (ha:(if (p.length:Int) < (if a < (0:Int) then (0:Int) else a) then (p.length:Int) else (if a < (0:Int) then (0:Int) else a))=(i:Int)) :
  p21 p a=some (1+(cntN p i:Int),(i:Int) - lastN p i):=by
 have b1:=lastN_lt p i
 have b2:=cntN_le p i
 unfold p21
 rw [ha,show (0:Int)=((0:Nat):Int) from rfl,slc_ok (Nat.zero_le i) hi,List.drop_zero]
 simp only [Option.bind_some]
 have h35:p35 ((p.take i).map u8) [10]=some (cntN p i:Int):=by
  unfold p35
  rw [if_neg (by simp),if_pos (by simp),show idxS ([10]:List UInt8) 0=some 10 from rfl]
  simp only [Option.bind_some]
  rw [cntB_eq hp hi]
 rw [h35]
 simp only [Option.bind_some]
 unfold p36
 rw [p52_eq hp hl hi]
 simp only [Option.bind_some]
 rw [wrap64 (by omega) (by omega),wrap64 (by omega) (by omega)]
 congr 2
 omega
theorem p22_eq {p:List Int} (hp:Bytes p) (hl:p.length≤1000000) (e:Int) {i:Nat} (hi:i≤p.length):p22 p e (i:Int)=some ⟨e,(i:Int),1+(cntN p i:Int),(i:Int) - lastN p i⟩:=by
 unfold p22
 rw [p21_eq hp hl (i:Int) hi (by rw [if_neg (show ¬ (i:Int) < 0 by omega),if_neg (by omega)])]
 rfl
end Go.Proofs.Ytloaoofdbilpeaa
namespace Go.Proofs.Ytloaoofdbilpeaa
open Go Go.Am
theorem p32_eq {p:List Int} (hp:Bytes p) (hl:p.length≤1000000) {i:Nat} (hi:i < p.length):p32 p (i:Int)=match oneS p i with
  | .inl (k,j,n)=>some (⟨k,textOf p i j,n,(i:Int)⟩,0)
  | .inr e=>some (⟨0,[],0,0⟩,e):=by
 have hb:=hp.get hi
 have put:∀ (j:Nat) (k n:Int),i≤j→j≤p.length→p32_j0 p (i:Int) (j:Int) k n=some (⟨k,textOf p i j,n,(i:Int)⟩,0):=by
  intro j k n h1 h2
  unfold p32_j0
  rw [slc_ok h1 h2]; rfl
 have hw1:IntKind.wrap .i64 ((i:Int)+1)=((i+1:Nat):Int):=by rw [wrap64 (by omega) (by omega)]; rfl
 have hw2:IntKind.wrap .i64 (((i+1:Nat):Int)+1)=((i+2:Nat):Int):=by rw [wrap64 (by omega) (by omega)]; rfl
 unfold p32 oneS
 simp only [getD_of hi]
 rw [idx_get hi]
 simp only [Option.bind_some,p37_eq,p38_eq]
 rw [hw1]
 by_cases hs:isSm p[i]=true
 ·rw [if_pos hs,if_pos hs,p32_word hl (by omega)]
  simp only [Option.bind_some]
  exact put _ _ _ (Nat.le_trans (Nat.le_succ i) (run_ge _ _ _)) (run_le (by omega))
 rw [if_neg hs,if_neg hs]
 by_cases hd:isDg p[i]=true
 ·rw [if_pos hd,if_pos hd]
  have hb2:=isDg_lt hd
  have e1:IntKind.wrap .u8 (p[i] - 48)=p[i] - 48:=IntWalk.u8_in _ (by omega)
  rw [e1,wrap64 (n:=p[i] - 48) (by omega) (by omega)]
  obtain ⟨r,h1,h2⟩:=p32_num hl (i:=i+1) (by omega) (n:=p[i] - 48) (by omega) (by omega)
  have hn:=num_step hi 0
  rw [if_pos hd,if_neg (by omega),show (10:Int) * 0+(p[i] - 48)=p[i] - 48 by omega] at hn
  rw [h1,hn]
  simp only [Option.bind_some]
  cases hv:num p (i+1) (p[i] - 48) with
  | none=>
   rw [hv] at h2
   obtain ⟨u,rfl⟩:=h2
   rfl
  | some m=>
   rw [hv] at h2
   subst h2
   exact put _ _ _ (Nat.le_trans (Nat.le_succ i) (run_ge _ _ _)) (run_le (by omega))
 rw [if_neg hd,if_neg hd]
 have last:∀ b:Bool,b=decide (p[i]=45∧p[i+1]? = some 62)→p32_j5 p (i:Int) p[i] b=match (if p[i]=45∧p[i+1]? = some 62 then Sum.inl (3,i+2,0) else if isSg p[i]=true then Sum.inl (3,i+1,0) else Sum.inr 6:(Int×Nat×Int)⊕Int) with
  | .inl (k,j,n)=>some (⟨k,textOf p i j,n,(i:Int)⟩,0)
  | .inr e=>some (⟨0,[],0,0⟩,e):=by
  rintro b rfl
  unfold p32_j5
  rw [hw1,hw2]
  by_cases h:p[i]=45∧p[i+1]? = some 62
  ·have:=(List.getElem?_eq_some_iff.1 h.2).1
   rw [if_pos (by simpa using h),if_pos h]
   exact put _ _ _ (by omega) (by omega)
  rw [if_neg (by simpa using h),if_neg h]
  simp only [p48_eq,Option.bind_some]
  by_cases hg:isSg p[i]=true
  ·rw [if_pos ((p48_sg hb).2 hg),if_pos hg]
   exact put _ _ _ (by omega) (by omega)
  rw [if_neg (fun h=>hg ((p48_sg hb).1 h)),if_neg hg]
 by_cases hm:p[i]=45
 ·rw [if_pos hm]
  unfold p32_j6
  by_cases hj:i+1 < p.length
  ·rw [if_pos (by simp; omega),hw1,idx_get hj]
   simp only [Option.bind_some]
   exact last _ (by simp [hm,List.getElem?_eq_getElem hj])
  rw [if_neg (by simp; omega)]
  exact last _ (by simp [List.getElem?_eq_none (Nat.le_of_not_lt hj)])
 rw [if_neg hm]
 unfold p32_j6
 rw [if_neg (by simp)]
 exact last _ (by simp [hm])
def tokL (t:TTl):Tok:=⟨t.Kind,t.Text,t.N,t.At⟩
def tokR (t:TToken):Tok:=⟨t.Kind,t.Text,t.N,t.At⟩
theorem oneS_err {p:List Int} {i:Nat} {e:Int} (h:oneS p i=.inr e):e=3∨e=6:=by
 unfold oneS at h
 simp only at h
 repeat' split at h
 all_goals first | (cases h; done) | (cases h; simp)
theorem stepS_err {p:List Int} {i:Nat} {e:Int} (h:stepS p i=.inr e):e=3∨e=6:=by
 unfold stepS at h
 simp only at h
 split at h
 ·cases h
 split at h
 ·cases h
 split at h
 ·cases h
 rename_i h1; cases h; exact oneS_err h1
theorem stepS_one {p:List Int} {i:Nat} (hi:i < p.length) (h1:isBl p[i]=false) (h2:p[i]≠35):stepS p i=match oneS p i with
  | .inl (k,e,n)=>.inl (e,[⟨k,textOf p i e,n,(i:Int)⟩])
  | .inr e=>.inr e:=by
 unfold stepS
 simp only [getD_of hi]
 rw [if_neg (by simp [h1]),if_neg h2]
 all_goals (cases oneS p i<;>rfl)
theorem text_len {p:List Int} {i j:Nat} (h:i≤j) (hj:j≤p.length):(textOf p i j).length=j - i:=by
 unfold textOf
 simp; omega
theorem p18_eq {p:List Int} (hp:Bytes p) (hl:p.length≤1000000):∃ r,p18 p=some r∧∃ L e a,LexR p 0 [] (L,e,a)∧
  ((e=0∧r.2=⟨0,0,0,0⟩∧r.1.map tokL=L)∨(e≠0∧∃ i:Nat,i≤p.length∧a=(i:Int)∧r=([],⟨e,(i:Int),1+(cntN p i:Int),(i:Int) - lastN p i⟩))):=by
 have key:∃ r,loopC (p18_l0 p) ((0:Int),[])=some r∧∃ L e a,LexR p 0 [] (L,e,a)∧
   ((e=0∧r.2=(0,0,0,0)∧r.1.map tokL=L)∨(e≠0∧∃ i:Nat,i≤p.length∧a=(i:Int)∧r=([],e,(i:Int),1+(cntN p i:Int),(i:Int) - lastN p i))):=by
  have round:∀ (i:Nat) (l:List TTl),i≤p.length→l.length≤i→(∀ r,LexR p i (l.map tokL) r→LexR p 0 [] r)→
    (∃ (j:Nat) (l':List TTl),p18_l0 p ((i:Int),l)=some (.inl ((j:Int),l'))∧i < j∧j≤p.length∧l'.length≤j∧∀ r,LexR p j (l'.map tokL) r→LexR p 0 [] r)∨
    ∃ r,p18_l0 p ((i:Int),l)=some (.inr r)∧∃ L e a,LexR p 0 [] (L,e,a)∧
     ((e=0∧r.2=(0,0,0,0)∧r.1.map tokL=L)∨(e≠0∧∃ i:Nat,i≤p.length∧a=(i:Int)∧r=([],e,(i:Int),1+(cntN p i:Int),(i:Int) - lastN p i))):=by
   intro i l hi hll hr
   obtain ⟨j,h1,h2,h3,h4,h5⟩:=p31_eq hp hl hi
   unfold p18_l0
   simp only
   rw [h1]
   simp only [Option.bind_some]
   by_cases hj:j=p.length
   ·subst hj
    rw [if_pos rfl,app_ok (by simp; omega)]
    refine .inr ⟨_,rfl,_,0,0,hr _ (h4 _ _ (.done rfl)),.inl ⟨rfl,rfl,?_⟩⟩
    simp [tokL]
   have hj':j < p.length:=by omega
   obtain ⟨g1,g2⟩:=h5 hj'
   have hst:=stepS_one hj' g1 g2
   rw [if_neg (by omega),p32_eq hp hl hj']
   cases ho:oneS p j with
   | inr e=>
    rw [ho] at hst
    simp only [Option.bind_some]
    have he:=oneS_err ho
    rw [if_pos (by simp; omega),p22_eq hp hl e (Nat.le_of_lt hj')]
    exact .inr ⟨_,rfl,[],e,_,hr _ (h4 _ _ (.err hj' hst)),.inr ⟨by omega,j,Nat.le_of_lt hj',rfl,rfl⟩⟩
   | inl q=>
    obtain ⟨k,e,n⟩:=q
    rw [ho] at hst
    obtain ⟨g3,g4⟩:=oneS_gt hj' ho
    simp only [Option.bind_some]
    rw [if_neg (by simp),app_ok (by simp; omega)]
    simp only [Option.bind_some]
    have hlen:=text_len (p:=p) (Nat.le_of_lt g3) g4
    refine .inl ⟨e,l++[⟨k,textOf p j e,n,(j:Int)⟩],?_,by omega,g4,by simp; omega,fun r h=>hr _ (h4 _ _ (.go hj' hst ?_))⟩
    ·rw [hlen,wrap64 (by omega) (by omega),show (j:Int)+((e - j:Nat):Int)=(e:Int) by omega]
    simpa [tokL] using h
  refine loop_cnt p.length (fun k st=>∃ (i:Nat) (l:List TTl),st=((i:Int),l)∧k≤i∧i≤p.length∧l.length≤i∧∀ r,LexR p i (l.map tokL) r→LexR p 0 [] r) _ ?_ ?_ ⟨0,[],rfl,Nat.le_refl _,Nat.zero_le _,Nat.le_refl _,fun _ h=>h⟩
  ·rintro k _ hk ⟨i,l,rfl,h1,h2,h3,h4⟩
   rcases round i l h2 h3 h4 with ⟨j,l',g1,g2,g3,g4,g5⟩ | h
   ·exact .inl ⟨_,g1,j,l',rfl,by omega,g3,g4,g5⟩
   exact .inr h
  rintro _ ⟨i,l,rfl,h1,h2,h3,h4⟩
  rcases round i l h2 h3 h4 with ⟨j,l',g1,g2,g3,g4,g5⟩ | h
  ·omega
  exact h
 obtain ⟨r,h1,L,e,a,h2,h3⟩:=key
 unfold p18
 rw [h1]
 obtain ⟨y,c1,c2,c3,c4⟩:=r
 refine ⟨_,rfl,L,e,a,h2,?_⟩
 rcases h3 with ⟨g1,g2,g3⟩ | ⟨g1,i,g2,g3,g4⟩
 ·simp only [Prod.mk.injEq] at g2
  obtain ⟨rfl,rfl,rfl,rfl⟩:=g2
  exact .inl ⟨g1,rfl,g3⟩
 simp only [Prod.mk.injEq] at g4
 obtain ⟨rfl,rfl,rfl,rfl,rfl⟩:=g4
 exact .inr ⟨g1,i,g2,g3,rfl⟩
end Go.Proofs.Ytloaoofdbilpeaa
namespace Go.Proofs.Ytloaoofdbilpeaa
open Go Go.Am
theorem run_loop {P:Int→Bool} {p:List Int} (hl:p.length≤1000000) {f:Int→Option (Int⊕Int)}
  (hin:∀ j:Nat,∀ h:j < p.length,f (j:Int)=if P p[j]=true then some (.inl (IntKind.wrap .i64 ((j:Int)+1))) else some (.inr (j:Int)))
  (hout:f (p.length:Int)=some (.inr (p.length:Int))) {i:Nat} (hi:i≤p.length):loopC f (i:Int)=some ((run P p i:Nat):Int):=by
 obtain ⟨r,h1,h2⟩:∃ r,loopC f (i:Int)=some r∧r=((run P p i:Nat):Int):=by
  refine loop_cnt (p.length - i) (fun k s=>s=((i+k:Nat):Int)∧run P p i=run P p (i+k)) _ ?_ ?_ ⟨rfl,rfl⟩
  ·rintro k _ hk ⟨rfl,h⟩
   have hj:i+k < p.length:=by omega
   rw [run_step hj] at h
   rw [hin _ hj]
   split
   ·rename_i hw
    rw [if_pos hw] at h
    exact .inl ⟨_,rfl,by rw [wrap64 (by omega) (by omega)]; omega,h⟩
   rename_i hw
   rw [if_neg hw] at h
   exact .inr ⟨_,rfl,by rw [h]⟩
  rintro _ ⟨rfl,h⟩
  rw [run_end (i:=i+(p.length - i)) (by omega)] at h
  have e:i+(p.length - i)=p.length:=by omega
  rw [e] at h ⊢
  exact ⟨_,hout,by rw [h]⟩
 rw [h1,h2]
theorem p19_word {p:List Int} (hl:p.length≤1000000) {i:Nat} (hi:i≤p.length):loopC (p19_l1 p) (i:Int)=some ((run isWd p i:Nat):Int):=by
 refine run_loop hl (fun j hj=>?_) ?_ hi
 ·unfold p19_l1
  rw [if_pos (by omega),idx_get hj]
  simp only [Option.bind_some,p33_eq,p34_eq]
  have fin:∀ b:Bool,b=isWd p[j]→p19_j2 (j:Int) b=if isWd p[j]=true then some (.inl (IntKind.wrap .i64 ((j:Int)+1))) else some (.inr (j:Int)):=by
   rintro b rfl; rfl
  unfold p19_j4 p19_j3
  cases hs:isSm p[j] with
  | true=>
   rw [if_pos rfl,if_pos rfl]
   exact fin _ (by simp [isWd,hs])
  | false=>
   rw [if_neg (by simp)]
   cases hd:isDg p[j] with
   | true=>
    rw [if_pos rfl]
    exact fin _ (by simp [isWd,hs,hd])
   | false=>
    rw [if_neg (by simp),idx_get hj]
    exact fin _ (by simp [isWd,hs,hd])
 unfold p19_l1 p19_j2
 rw [if_neg (by omega),if_neg (by simp)]
theorem p19_digits {p:List Int} (hl:p.length≤1000000) {i:Nat} (hi:i≤p.length):loopC (p19_l2 p) (i:Int)=some ((run isDg p i:Nat):Int):=by
 refine run_loop hl (fun j hj=>?_) ?_ hi
 ·unfold p19_l2
  rw [if_pos (by omega),idx_get hj]
  simp only [Option.bind_some,p34_eq]
  rfl
 unfold p19_l2 p19_j5
 rw [if_neg (by omega),if_neg (by simp)]
theorem p19_line {p:List Int} (hl:p.length≤1000000) {i:Nat} (hi:i≤p.length):loopC (p19_l0 p) (i:Int)=some ((run nnl p i:Nat):Int):=by
 refine run_loop hl (fun j hj=>?_) ?_ hi
 ·unfold p19_l0
  rw [if_pos (by omega),idx_get hj]
  rfl
 unfold p19_l0 p19_j0
 rw [if_neg (by omega),if_neg (by simp)]
theorem p19_num {p:List Int} (hl:p.length≤1000000) {i:Nat} (hi:i≤p.length) (a b:Int) :
  ∃ r,loopC (p19_l3 p ((run isDg p i:Nat):Int)) (a,b,(i:Int),(0:Int))=some r∧(match num p i 0 with | some m=>r=.inr (a,b,m) | none=>∃ u,r=.inl u):=by
 refine loop_cnt (p.length - i) (fun k s=>∃ m:Int,s=(a,b,((i+k:Nat):Int),m)∧0≤m∧m≤1125899906842624∧run isDg p i=run isDg p (i+k)∧num p i 0=num p (i+k) m) _ ?_ ?_ ⟨0,rfl,by omega,by omega,rfl,rfl⟩
 ·rintro k _ hk ⟨m,rfl,g0,g1,g2,g3⟩
  have hj:i+k < p.length:=by omega
  have hge:=run_ge isDg p (i+k+1)
  rw [run_step hj] at g2
  rw [num_step hj] at g3
  unfold p19_l3
  simp only
  cases hd:isDg p[i+k] with
  | true=>
   have hb:=isDg_lt hd
   rw [hd,if_pos rfl] at g2 g3
   rw [if_pos (by omega),idx_get hj]
   simp only [Option.bind_some]
   have e1:IntKind.wrap .u8 (p[i+k] - 48)=p[i+k] - 48:=IntWalk.u8_in _ (by omega)
   rw [e1,wrap64 (n:=m * 10) (by omega) (by omega),wrap64 (n:=p[i+k] - 48) (by omega) (by omega),wrap64 (by omega) (by omega),Int.mul_comm m 10]
   by_cases hc:1125899906842624 < 10 * m+(p[i+k] - 48)
   ·rw [if_pos hc] at g3 ⊢
    refine .inr ⟨_,rfl,?_⟩
    rw [g3]
    exact ⟨_,rfl⟩
   rw [if_neg hc] at g3 ⊢
   exact .inl ⟨_,rfl,10 * m+(p[i+k] - 48),by rw [wrap64 (by omega) (by omega)]; rfl,by omega,by omega,g2,g3⟩
  | false=>
   rw [hd,if_neg (by simp)] at g2 g3
   rw [if_neg (by omega)]
   refine .inr ⟨_,rfl,?_⟩
   rw [g3]
 rintro _ ⟨m,rfl,g0,g1,g2,g3⟩
 rw [run_end (i:=i+(p.length - i)) (by omega)] at g2
 rw [num_end (i:=i+(p.length - i)) (by omega)] at g3
 unfold p19_l3
 simp only
 rw [if_neg (by omega)]
 refine ⟨_,rfl,?_⟩
 rw [g3]
def sg8:List Int:=[59,58,44,42,33,126,64,61]
theorem p19_sign (e:Int):loopC (p19_l4 e) ((0:Int),(0:Int))=some (if isSg e=true then 3 else 0):=by
 have hix:∀ k:Nat,k < 8→∃ x,sg8[k]? = some x∧idxS ([59,58,44,42,33,126,64,61]:List UInt8) (k:Int)=some x:=by
  intro k hk
  rcases k with _ | _ | _ | _ | _ | _ | _ | _ | k
  ·exact ⟨_,rfl,rfl⟩
  ·exact ⟨_,rfl,rfl⟩
  ·exact ⟨_,rfl,rfl⟩
  ·exact ⟨_,rfl,rfl⟩
  ·exact ⟨_,rfl,rfl⟩
  ·exact ⟨_,rfl,rfl⟩
  ·exact ⟨_,rfl,rfl⟩
  ·exact ⟨_,rfl,rfl⟩
  omega
 obtain ⟨r,h1,h2⟩:∃ r,loopC (p19_l4 e) ((0:Int),(0:Int))=some r∧r=if e∈sg8 then 3 else 0:=by
  refine loop_cnt 8 (fun k (st:Int×Int)=>st=((k:Int),if e∈sg8.take k then 3 else 0)) _ ?_ ?_ rfl
  ·rintro k _ hk rfl
   obtain ⟨x,q1,q2⟩:=hix k hk
   have hkl:k < sg8.length:=hk
   have hx:sg8[k]=x:=by rw [List.getElem?_eq_getElem hkl] at q1; exact Option.some.inj q1
   refine .inl ⟨((k+1:Nat),if e∈sg8.take (k+1) then 3 else 0),?_,rfl⟩
   unfold p19_l4 p19_j6
   simp only
   rw [if_pos (by omega),q2]
   simp only [Option.bind_some]
   rw [wrap64 (by omega) (by omega),List.take_succ_eq_append_getElem hkl,hx]
   by_cases hc:x=e
   ·rw [if_pos hc,if_pos (by simp [hc])]; rfl
   rw [if_neg hc]
   have:(e∈sg8.take k++[x])↔e∈sg8.take k:=by simp; exact fun h=>absurd h.symm hc
   by_cases hm:e∈sg8.take k
   ·rw [if_pos hm,if_pos (this.2 hm)]; rfl
   rw [if_neg hm,if_neg (fun h=>hm (this.1 h))]; rfl
  rintro _ rfl
  unfold p19_l4
  simp only
  rw [if_neg (by omega)]
  exact ⟨_,rfl,rfl⟩
 rw [h1,h2]
 congr 1
 have:e∈sg8↔isSg e=true:=by simp [sg8,isSg]
 by_cases hm:e∈sg8
 ·rw [if_pos hm,if_pos (this.1 hm)]
 rw [if_neg hm,if_neg (fun h=>hm (this.2 h))]
def nextR (a b:Int) (c l:List TToken) (i:Nat):(Nat×List TToken)⊕Int→Option ((Int×Int×Int×List TToken×List TToken)⊕((Int×Int)⊕List TToken))
 | .inl (j,t)=>some (.inl (a,b,(j:Int),c,l++t))
 | .inr e=>some (.inr (.inl (e,(i:Int))))
def unTok (t:Tok):TToken:=⟨t.k,t.s,t.n,t.at_⟩
theorem unTok_tok (t:List Tok):(t.map unTok).map tokR=t:=by
 rw [List.map_map]
 conv=>rhs; rw [← List.map_id t]
 rfl
theorem p19_round {p:List Int} (hp:Bytes p) (hl:p.length≤1000000) {i:Nat} (hi:i < p.length) {l:List TToken} (hll:l.length≤i) :
  p19_l5 p (0,0,(i:Int),[],l)=match stepS p i with
   | .inl (j,t)=>some (.inl (0,0,(j:Int),[],l++t.map unTok))
   | .inr e=>some (.inr (.inl (e,(i:Int)))):=by
 have hb:=hp.get hi
 have hw1:IntKind.wrap .i64 ((i:Int)+1)=((i+1:Nat):Int):=by rw [wrap64 (by omega) (by omega)]; rfl
 have hw2:IntKind.wrap .i64 (((i+1:Nat):Int)+1)=((i+2:Nat):Int):=by rw [wrap64 (by omega) (by omega)]; rfl
 have put:∀ (j:Nat) (k n:Int),i≤j→j≤p.length→p19_j1 p (i:Int) [] l 0 0 (j:Int) k n=some (.inl (0,0,(j:Int),[],l++[unTok ⟨k,textOf p i j,n,(i:Int)⟩])):=by
  intro j k n h1 h2
  unfold p19_j1
  rw [slc_ok h1 h2]
  simp only [Option.bind_some]
  rw [app_ok (by simp; omega)]
  rfl
 have core:∀ bl:Bool,bl=isBl p[i]→p19_j9 p 0 0 (i:Int) [] l p[i] bl=match stepS p i with
   | .inl (j,t)=>some (.inl (0,0,(j:Int),[],l++t.map unTok))
   | .inr e=>some (.inr (.inl (e,(i:Int)))):=by
  rintro bl rfl
  unfold p19_j9 stepS
  simp only [getD_of hi]
  by_cases hbl:isBl p[i]=true
  ·rw [if_pos hbl,if_pos hbl,hw1]; simp
  rw [if_neg hbl,if_neg hbl]
  by_cases hc:p[i]=35
  ·rw [if_pos hc,if_pos hc,p19_line hl (Nat.le_of_lt hi)]; simp
  rw [if_neg hc,if_neg hc]
  unfold oneS
  simp only [getD_of hi,p33_eq,p34_eq,Option.bind_some]
  rw [hw1]
  by_cases hs:isSm p[i]=true
  ·rw [if_pos hs,if_pos hs,p19_word hl (by omega)]
   simp only [Option.bind_some]
   exact put _ _ _ (Nat.le_trans (Nat.le_succ i) (run_ge _ _ _)) (run_le (by omega))
  rw [if_neg hs,if_neg hs]
  by_cases hd:isDg p[i]=true
  ·rw [if_pos hd,if_pos hd,p19_digits hl (by omega)]
   simp only [Option.bind_some]
   have hr:run isDg p (i+1)=run isDg p i:=by rw [run_step hi,if_pos hd]
   obtain ⟨r,h1,h2⟩:=p19_num hl (Nat.le_of_lt hi) 0 0
   rw [hr,h1]
   simp only [Option.bind_some]
   have hge:i≤run isDg p i:=run_ge _ _ _
   have hle:run isDg p i≤p.length:=run_le (by omega)
   cases hv:num p i 0 with
   | none=>
    rw [hv] at h2
    obtain ⟨u,rfl⟩:=h2
    rfl
   | some m=>
    rw [hv] at h2
    subst h2
    exact put _ _ _ hge hle
  rw [if_neg hd,if_neg hd]
  have last:∀ b:Bool,b=decide (p[i]=45∧p[i+1]? = some 62)→p19_j7 p 0 0 (i:Int) [] l p[i] b=match (match (if p[i]=45∧p[i+1]? = some 62 then Sum.inl (3,i+2,0) else if isSg p[i]=true then Sum.inl (3,i+1,0) else Sum.inr 6:(Int×Nat×Int)⊕Int) with
    | .inl (k,e,n)=>(.inl (e,[⟨k,textOf p i e,n,(i:Int)⟩]):(Nat×List Tok)⊕Int)
    | .inr e=>.inr e) with
    | .inl (j,t)=>some (.inl (0,0,(j:Int),[],l++t.map unTok))
    | .inr e=>some (.inr (.inl (e,(i:Int)))):=by
   rintro b rfl
   unfold p19_j7
   rw [hw1,hw2]
   by_cases h:p[i]=45∧p[i+1]? = some 62
   ·have:=(List.getElem?_eq_some_iff.1 h.2).1
    rw [if_pos (by simpa using h),if_pos h]
    exact put _ _ _ (by omega) (by omega)
   rw [if_neg (by simpa using h),if_neg h,p19_sign]
   simp only [Option.bind_some]
   by_cases hg:isSg p[i]=true
   ·rw [if_pos hg,if_pos hg,if_neg (by decide)]
    exact put _ _ _ (by omega) (by omega)
   rw [if_neg hg,if_neg hg,if_pos rfl]
  by_cases hm:p[i]=45
  ·rw [if_pos hm]
   unfold p19_j8
   by_cases hj:i+1 < p.length
   ·rw [if_pos (by simp; omega),hw1,idx_get hj]
    simp only [Option.bind_some]
    exact last _ (by simp [hm,List.getElem?_eq_getElem hj])
   rw [if_neg (by simp; omega)]
   exact last _ (by simp [List.getElem?_eq_none (Nat.le_of_not_lt hj)])
  rw [if_neg hm]
  unfold p19_j8
  rw [if_neg (by simp)]
  exact last _ (by simp [hm])
 unfold p19_l5
 simp only
 rw [if_pos (by omega),idx_get hi]
 simp only [Option.bind_some]
 unfold p19_j11 p19_j10
 by_cases e1:p[i]=32
 ·rw [if_pos e1,if_pos rfl,if_pos rfl]
  exact core _ (by simp [isBl,e1])
 rw [if_neg e1]
 by_cases e2:p[i]=9
 ·rw [if_pos (by simpa using e2),if_pos rfl]
  exact core _ (by simp [isBl,e2])
 rw [if_neg (by simpa using e2)]
 by_cases e3:p[i]=10
 ·rw [if_pos (by simpa using e3)]
  exact core _ (by simp [isBl,e3])
 rw [if_neg (by simpa using e3)]
 exact core _ (by simp [isBl,e1,e2,e3])
theorem p19_eq {p:List Int} (hp:Bytes p) (hl:p.length≤1000000):∃ r,p19 p=some r∧∃ L e a,LexR p 0 [] (L,e,a)∧
  ((e=0∧r.2.1=0∧r.1.map tokR=L∧r.1.length≤p.length+1)∨(e≠0∧r.2.1=e∧∃ i:Nat,i≤p.length∧a=(i:Int)∧r.2.2=(i:Int))):=by
 have key:∃ r,loopC (p19_l5 p) ((0:Int),(0:Int),(0:Int),[],[])=some r∧((∃ l,r=.inr l∧l.length≤p.length∧LexR p 0 [] (l.map tokR++[⟨0,[],0,(p.length:Int)⟩],0,0))∨∃ (e:Int) (i:Nat),e≠0∧i≤p.length∧r=.inl (e,(i:Int))∧LexR p 0 [] ([],e,(i:Int))):=by
  have fin:∀ (l:List TToken),l.length≤p.length→(∀ r,LexR p p.length (l.map tokR) r→LexR p 0 [] r)→∃ r,p19_l5 p (0,0,(p.length:Int),[],l)=some (.inr r)∧((∃ l,r=.inr l∧l.length≤p.length∧LexR p 0 [] (l.map tokR++[⟨0,[],0,(p.length:Int)⟩],0,0))∨∃ (e:Int) (i:Nat),e≠0∧i≤p.length∧r=.inl (e,(i:Int))∧LexR p 0 [] ([],e,(i:Int))):=by
   intro l h1 h2
   unfold p19_l5
   simp only
   rw [if_neg (by omega)]
   exact ⟨_,rfl,.inl ⟨l,rfl,h1,h2 _ (.done rfl)⟩⟩
  refine loop_cnt p.length (fun k st=>∃ (i:Nat) (l:List TToken),st=((0:Int),(0:Int),(i:Int),[],l)∧k≤i∧i≤p.length∧l.length≤i∧∀ r,LexR p i (l.map tokR) r→LexR p 0 [] r) _ ?_ ?_ ⟨0,[],rfl,Nat.le_refl _,Nat.zero_le _,Nat.le_refl _,fun _ h=>h⟩
  ·rintro k _ hk ⟨i,l,rfl,h1,h2,h3,h4⟩
   by_cases hi:i < p.length
   ·rw [p19_round hp hl hi h3]
    cases hst:stepS p i with
    | inl q=>
     obtain ⟨j,t⟩:=q
     obtain ⟨g1,g2,g3⟩:=stepS_gt hi hst
     refine .inl ⟨_,rfl,j,_,rfl,by omega,g2,by simp; omega,fun r h=>h4 _ (.go hi hst ?_)⟩
     rw [List.map_append,unTok_tok] at h
     exact h
    | inr e=>
     have he:=stepS_err hst
     exact .inr ⟨_,rfl,.inr ⟨e,i,by omega,h2,rfl,h4 _ (.err hi hst)⟩⟩
   obtain rfl:i=p.length:=by omega
   exact .inr (fin l h3 h4)
  rintro _ ⟨i,l,rfl,h1,h2,h3,h4⟩
  obtain rfl:i=p.length:=by omega
  exact fin l h3 h4
 obtain ⟨r,h1,h2⟩:=key
 unfold p19
 rw [h1]
 simp only [Option.bind_some]
 rcases h2 with ⟨l,rfl,g1,g2⟩ | ⟨e,i,g1,g2,rfl,g3⟩
 ·simp only
  rw [app_ok (by simp; omega)]
  refine ⟨_,rfl,_,0,0,g2,.inl ⟨rfl,rfl,?_,?_⟩⟩
  ·simp [tokR]
  simp; omega
 exact ⟨_,rfl,[],e,_,g3,.inr ⟨g1,rfl,i,g2,rfl,rfl⟩⟩
end Go.Proofs.Ytloaoofdbilpeaa
namespace Go.Proofs.Ytloaoofdbilpeaa
open Go Go.Am
def okAt (p:List Int) (i:Nat):Bool:=if i=0 then isSm (p.getD i 0) else isWd (p.getD i 0)
theorem rune_of {s:List UInt8} {i:Nat} (hi:i < s.length):((s[i].toNat < 128∧runeAt s i=(s[i].toNat:Int)∧nextAt s i=i+1)∨(128≤s[i].toNat∧128≤runeAt s i)):=by
 have hsz:i < (⟨s.toArray⟩:ByteArray).size:=by simpa [ByteArray.size] using hi
 have hg:(⟨s.toArray⟩:ByteArray)[i]'hsz=s[i]:=by
  show s.toArray[i]=s[i]
  simp
 unfold runeAt nextAt
 rcases Nat.lt_or_ge s[i].toNat 128 with h | h
 ·have:=decode_ascii ⟨s.toArray⟩ i hsz (by rw [hg]; exact h)
  rw [this,hg]
  exact .inl ⟨h,rfl,rfl⟩
 have:=decode_high ⟨s.toArray⟩ i hsz (by rw [hg]; exact h)
 exact .inr ⟨h,by omega⟩
theorem strI_get {s:List UInt8} {i:Nat} (hi:i < s.length):(strI s).getD i 0=(s[i].toNat:Int):=by
 unfold strI
 rw [List.getD_eq_getElem?_getD,List.getElem?_map,List.getElem?_eq_getElem hi]; rfl
theorem p23_eq {s:List UInt8} (hl:s.length≤1000000):p23 s=some (decide ((∀ i,i < s.length→okAt (strI s) i=true)∧s≠[]∧s.length≤12)):=by
 have key:∃ r,loopC (p23_l0 s) 0=some r∧((r=.inr ()∧∀ i,i < s.length→okAt (strI s) i=true)∨(r=.inl ()∧∃ i,i < s.length∧okAt (strI s) i=false)):=by
  refine loop_cnt s.length (fun k (st:Nat)=>st=k∧∀ i,i < k→okAt (strI s) i=true) _ ?_ ?_ ⟨rfl,fun i hi=>by omega⟩
  ·rintro m k hk ⟨rfl,h⟩
   have hgd:=strI_get hk
   have fin:∀ b:Bool,b = !okAt (strI s) k→nextAt s k=k+1→(∃ s',p23_j0 s k b=some (.inl s')∧s'=k+1∧∀ i,i < k+1→okAt (strI s) i=true)∨∃ r,p23_j0 s k b=some (.inr r)∧((r=.inr ()∧∀ i,i < s.length→okAt (strI s) i=true)∨(r=.inl ()∧∃ i,i < s.length∧okAt (strI s) i=false)):=by
    rintro b rfl hn
    unfold p23_j0
    cases ho:okAt (strI s) k with
    | true=>
     rw [if_neg (by simp),hn]
     refine .inl ⟨_,rfl,rfl,fun i hi=>?_⟩
     rcases Nat.lt_or_ge i k with hh | hh
     ·exact h i hh
     obtain rfl:i=k:=by omega
     exact ho
    | false=>
     rw [if_pos (by simp)]
     exact .inr ⟨_,rfl,.inr ⟨rfl,k,hk,ho⟩⟩
   unfold p23_l0
   rw [if_pos hk]
   rcases rune_of hk with ⟨g1,g2,g3⟩ | ⟨g1,g2⟩
   ·rw [g2]
    have hb:0≤(s[k].toNat:Int)∧(s[k].toNat:Int)≤255:=by omega
    rw [IntWalk.u8_in _ hb]
    simp only [p37_eq,p38_eq,Option.bind_some]
    by_cases hz:(122:Int) < (s[k].toNat:Int)
    ·rw [if_pos hz]
     refine fin _ ?_ g3
     unfold okAt
     rw [hgd]
     split<;>simp [isWd,isSm,isDg]<;>omega
    rw [if_neg hz]
    cases hs:isSm (s[k].toNat:Int) with
    | true=>
     rw [if_neg (by simp)]
     unfold p23_j1
     refine fin _ ?_ g3
     unfold okAt
     rw [hgd]
     split<;>simp [isWd,hs]
    | false=>
     rw [if_pos (by simp)]
     unfold p23_j3 p23_j2 p23_j1
     by_cases h0:k=0
     ·subst h0
      rw [if_pos (by simp)]
      refine fin _ ?_ g3
      unfold okAt
      rw [hgd,if_pos rfl,hs]; rfl
     rw [if_neg (by omega)]
     cases hd:isDg (s[k].toNat:Int) with
     | true=>
      rw [if_neg (by simp)]
      refine fin _ ?_ g3
      unfold okAt
      rw [hgd,if_neg h0]
      simp [isWd,hd]
     | false=>
      rw [if_pos (by simp)]
      refine fin _ ?_ g3
      unfold okAt
      rw [hgd,if_neg h0]
      simp [isWd,hd,hs]
   rw [if_pos (by omega)]
   have ho:okAt (strI s) k=false:=by
    unfold okAt
    rw [hgd]
    split<;>simp [isWd,isSm,isDg]<;>omega
   unfold p23_j0
   rw [if_pos rfl]
   exact .inr ⟨_,rfl,.inr ⟨rfl,k,hk,ho⟩⟩
  rintro _ ⟨rfl,h⟩
  unfold p23_l0
  rw [if_neg (by omega)]
  exact ⟨_,rfl,.inl ⟨rfl,h⟩⟩
 obtain ⟨r,h1,h2⟩:=key
 unfold p23
 rw [h1]
 simp only [Option.bind_some]
 rcases h2 with ⟨rfl,h⟩ | ⟨rfl,i,hi,h⟩
 ·simp only
  unfold p23_j4
  by_cases hn:s=[]
  ·rw [if_neg (by simp [hn])]
   simp [hn]
  rw [if_pos (by simpa using hn)]
  congr 1
  rw [decide_eq_decide]
  exact ⟨fun h'=>⟨h,hn,by omega⟩,fun h'=>by omega⟩
 simp only
 congr 1
 symm
 rw [decide_eq_false_iff_not]
 rintro ⟨h',_⟩
 rw [h' i hi] at h
 cases h
theorem one_word {p:List Int} {e:Nat} {n:Int} {a:Nat} (ha:a < p.length) (h:oneS p a=.inl (1,e,n)):isSm p[a]=true∧e=run isWd p (a+1):=by
 unfold oneS at h
 simp only [getD_of ha] at h
 split at h
 ·rename_i hs; cases h; exact ⟨hs,rfl⟩
 split at h
 ·split at h<;>cases h
 split at h
 ·cases h
 split at h<;>cases h
end Go.Proofs.Ytloaoofdbilpeaa
namespace Go.Proofs.Ytloaoofdbilpeaa
open Go Go.Am
structure PS where
 l:List Tok
 n:TNet
 told:List (List UInt8)
abbrev Res (α:Type):=(α×PS)⊕(Int×Int)
def hd (l:List Tok):Tok:=l.headD ⟨0,[],0,0⟩
def nx {α:Type}:List α→List α
 | _::b::r=>b::r
 | l=>l
def stp (s:PS):PS:=⟨nx s.l,s.n,s.told⟩
def isS (s:PS) (x:List UInt8):Bool:=decide ((hd s.l).k=3)&&((hd s.l).s==x)
def er {α:Type} (s:PS) (e:Int):Res α:=.inr (e,(hd s.l).at_)
def bnd {α β:Type} (r:Res α) (f:α→PS→Res β):Res β:=match r with
 | .inl (a,s)=>f a s
 | .inr e=>.inr e
def want (x:List UInt8) (s:PS):Res Unit:=if isS s x=true then .inl ((),stp s) else er s 6
def numS (least:Int) (s:PS):Res Int:=
 if (hd s.l).k=2 then (if (hd s.l).n < least∨1000000 < (hd s.l).n then er s 3 else .inl ((hd s.l).n,stp s)) else er s 6
def nameS (s:PS):Res (List UInt8):=
 if (hd s.l).k=1 then (if (hd s.l).s.length≤12∧(hd s.l).s∉s.told then .inl ((hd s.l).s,⟨nx s.l,s.n,s.told++[(hd s.l).s]⟩) else er s 7) else er s 6
def optS (x:List UInt8) (s:PS):Res Int:=if isS s x=true then numS 0 (stp s) else .inl (0,s)
def plc:List (List UInt8)→List UInt8→Option Nat
 | [],_=>none
 | y::r,x=>if y=x then some 0 else (plc r x).map (·+1)
def arcS (ps:List (List UInt8)) (l:List TArc) (s:PS):Res (List TArc):=
 if (hd s.l).k=1 then match plc ps (hd s.l).s with
  | none=>er s 7
  | some k=>if l.any (fun a=>decide (a.Place=(k:Int)))=true then er s 7
   else if l.length=8 then er s 5
   else if isS (stp s) [42]=true then bnd (numS 1 (stp (stp s))) fun n s=>.inl (l++[⟨(k:Int),n⟩],s)
   else .inl (l++[⟨(k:Int),1⟩],stp s)
 else er s 6
def sepS (first:Bool) (s:PS):Res Unit:=if first=true then .inl ((),s) else want [44] s
def inS (ps:List (List UInt8)):Nat→Bool→List TArc→List TArc→PS→Res (List TArc×List TArc)
 | 0,_,_,_,s=>er s 0
 | k+1,first,ins,nots,s=>if isS s [45,62]=true then .inl ((ins,nots),stp s) else
  bnd (sepS first s) fun _ s=>
   if isS s [126]=true then bnd (arcS ps nots (stp s)) fun nots s=>inS ps k false ins nots s
   else bnd (arcS ps ins s) fun ins s=>inS ps k false ins nots s
def outS (ps:List (List UInt8)):Nat→Bool→List TArc→PS→Res (List TArc)
 | 0,_,_,s=>er s 0
 | k+1,first,outs,s=>if isS s [59]=true then .inl (outs,s) else
  bnd (sepS first s) fun _ s=>bnd (arcS ps outs s) fun outs s=>outS ps k false outs s
def transS (ps:List (List UInt8)) (s:PS):Res Unit:=
 bnd (nameS s) fun nm s=>bnd (optS [64] s) fun d s=>bnd (optS [33] s) fun pr s=>bnd (want [58] s) fun _ s=>
 bnd (inS ps s.l.length true [] [] s) fun io s=>bnd (outS ps s.l.length true [] s) fun o s=>.inl ((),⟨s.l,⟨s.n.Places,s.n.Trans++[⟨nm,d,pr,io.1,io.2,o⟩]⟩,s.told⟩)
def placeS (s:PS):Res Unit:=
 bnd (nameS s) fun nm s=>bnd (optS [61] s) fun t s=>.inl ((),⟨s.l,⟨s.n.Places++[⟨nm,t⟩],s.n.Trans⟩,s.told⟩)
def kw (t:Tok) (x:List UInt8):Bool:=decide (t.k=1)&&(t.s==x)
def bodyS (ps:List (List UInt8)) (s:PS):Res Unit:=
 if kw (hd s.l) [112,108,97,99,101]=true then (if s.n.Places.length=32 then er (stp s) 5 else placeS (stp s))
 else if kw (hd s.l) [116,114,97,110,115]=true then (if s.n.Trans.length=32 then er (stp s) 5 else transS ps (stp s))
 else er s 6
def itemS (ps:List (List UInt8)) (s:PS):Res Unit:=bnd (bodyS ps s) fun _ s=>want [59] s
def allS (ps:List (List UInt8)):Nat→PS→TNet⊕(Int×Int)
 | 0,_=>.inr (0,0)
 | k+1,s=>if (hd s.l).k=0 then .inl s.n else match itemS ps s with
  | .inl (_,s)=>allS ps k s
  | .inr e=>.inr e
def placesOf:List Tok→List (List UInt8)→List (List UInt8)
 | a::b::r,acc=>placesOf (b::r) (if kw a [112,108,97,99,101]=true∧b.k=1∧b.s∉acc then acc++[b.s] else acc)
 | _,acc=>acc
def parseS (L:List Tok):TNet⊕(Int×Int):=allS (placesOf L []) L.length ⟨L,⟨[],[]⟩,[]⟩
def TokOk (p:List Int) (t:Tok):Prop:=(∃ i:Nat,i≤p.length∧t.at_=(i:Int))∧(t.k=1→(∀ i,i < t.s.length→okAt (strI t.s) i=true)∧t.s≠[])∧t.s.length≤1000000
structure WF (p:List Int) (l:List Tok):Prop where
 ne:l≠[]
 last:∀ t,l.getLast? = some t→t.k=0
 ok:∀ t,t∈l→TokOk p t
theorem nx_map {α β:Type} (f:α→β):∀ l:List α,(nx l).map f=nx (l.map f)
 | []=>rfl
 | [_]=>rfl
 | _::_::_=>rfl
theorem nx_mem {α:Type}:∀ {l:List α} {x:α},x∈nx l→x∈l
 | [],x,h=>h
 | [_],x,h=>h
 | _::_::_,x,h=>List.mem_cons_of_mem _ h
theorem WF.nx {p:List Int}:∀ {l:List Tok},WF p l→WF p (nx l)
 | [],h=>h
 | [_],h=>h
 | a::b::r,h=>⟨by simp [Proofs.Ytloaoofdbilpeaa.nx],fun t ht=>h.last t (by simpa [Proofs.Ytloaoofdbilpeaa.nx] using ht),fun t ht=>h.ok t (nx_mem ht)⟩
theorem WF.hd_ok {p:List Int} {l:List Tok} (h:WF p l):TokOk p (hd l):=by
 cases l with
 | nil=>exact absurd rfl h.ne
 | cons a r=>exact h.ok a (List.mem_cons_self ..)
theorem WF.shorter {p:List Int} {l:List Tok} (h:WF p l) (hk:(hd l).k≠0):(Proofs.Ytloaoofdbilpeaa.nx l).length < l.length:=by
 cases l with
 | nil=>exact absurd rfl h.ne
 | cons a r=>
  cases r with
  | nil=>exact absurd (h.last a rfl) hk
  | cons b r=>simp [Proofs.Ytloaoofdbilpeaa.nx]
theorem lexR_last {p:List Int} {i:Nat} {l:List Tok} {r:List Tok×Int×Int} (h:LexR p i l r):r.2.1=0→∃ q,r.1=q++[⟨0,[],0,(p.length:Int)⟩]:=by
 induction h with
 | done e=>intro _; exact ⟨_,rfl⟩
 | go _ _ _ ih=>exact ih
 | err h1 h2=>
  intro h3
  have:=stepS_err h2
  simp only at h3
  omega
theorem lexR_all {p:List Int} {Q:Tok→Prop} (hend:Q ⟨0,[],0,(p.length:Int)⟩) (hst:∀ i k e n,i < p.length→oneS p i=.inl (k,e,n)→Q ⟨k,textOf p i e,n,(i:Int)⟩) {i:Nat} {l:List Tok} {r:List Tok×Int×Int} (h:LexR p i l r):(∀ t,t∈l→Q t)→∀ t,t∈r.1→Q t:=by
 induction h with
 | done e=>
  intro h t ht
  rcases List.mem_append.1 ht with ht | ht
  ·exact h t ht
  rw [List.mem_singleton] at ht; subst ht; exact hend
 | err h1 h2=>intro _ t ht; cases ht
 | @go i j l ts r h1 h2 _ ih=>
  intro h
  refine ih fun t ht=>?_
  rcases List.mem_append.1 ht with ht | ht
  ·exact h t ht
  unfold stepS at h2
  simp only at h2
  split at h2
  ·cases h2; cases ht
  split at h2
  ·cases h2; cases ht
  split at h2
  ·rename_i ho
   cases h2
   rw [List.mem_singleton] at ht
   subst ht
   exact hst _ _ _ _ h1 ho
  cases h2
theorem lexR_count {p:List Int} {i:Nat} {l:List Tok} {r:List Tok×Int×Int} (h:LexR p i l r):i≤p.length→l.length≤i→r.1.length≤p.length+1:=by
 induction h with
 | done e=>intro h1 h2; simp; omega
 | err h1 h2=>intro _ _; simp
 | @go i j l ts r h1 h2 _ ih=>
  intro h3 h4
  obtain ⟨g1,g2,g3⟩:=stepS_gt h1 h2
  exact ih g2 (by simp; omega)
theorem text_get {p:List Int} {i j:Nat} (hj:j≤p.length) {k:Nat} (hk:i+k < j):(strI (textOf p i j))[k]? = some ((u8 (p.getD (i+k) 0)).toNat:Int):=by
 unfold strI textOf
 rw [List.map_map,List.getElem?_map,List.getElem?_drop,List.getElem?_take_of_lt hk,List.getElem?_eq_getElem (by omega),getD_of (by omega)]
 rfl
theorem run_wd {p:List Int}:∀ (d:Nat) {i:Nat},d=run isWd p i - i→∀ j,i≤j→j < run isWd p i→isWd (p.getD j 0)=true:=by
 intro d
 induction d with
 | zero=>intro i hd j h1 h2; have:=run_ge isWd p i; omega
 | succ d ih=>
  intro i hd j h1 h2
  have hi:i < p.length:=by
   rcases Nat.lt_or_ge i p.length with h | h
   ·exact h
   rw [run_end h] at h2; omega
  have hst:=run_step (P:=isWd) hi
  by_cases hw:isWd p[i]=true
  ·rw [if_pos hw] at hst
   rcases Nat.lt_or_ge i j with h | h
   ·exact ih (i:=i+1) (by rw [← hst]; omega) j h (by rw [← hst]; exact h2)
   obtain rfl:i=j:=by omega
   rw [getD_of hi]; exact hw
  rw [if_neg hw] at hst; omega
theorem word_ok {p:List Int} (hp:Bytes p) (hl:p.length≤1000000) {a e:Nat} {n:Int} (ha:a < p.length) (h:oneS p a=.inl (1,e,n)):(∀ i,i < (textOf p a e).length→okAt (strI (textOf p a e)) i=true)∧textOf p a e≠[]:=by
 obtain ⟨h1,h2⟩:=one_word ha h
 have hgt:=oneS_gt ha h
 have hlen:=text_len (p:=p) (Nat.le_of_lt hgt.1) hgt.2
 refine ⟨fun i hi=>?_,fun h0=>by rw [h0] at hlen; simp at hlen; omega⟩
 have hg:=text_get (p:=p) (i:=a) hgt.2 (k:=i) (by omega)
 have hb:0≤p.getD (a+i) 0∧p.getD (a+i) 0≤255:=by rw [getD_of (by omega)]; exact hp.get _
 have hg':(strI (textOf p a e)).getD i 0=p.getD (a+i) 0:=by
  rw [List.getD_eq_getElem?_getD,hg,Option.getD_some,u8_nat hb]
 unfold okAt
 rw [hg']
 by_cases h0:i=0
 ·subst h0
  rw [if_pos rfl,Nat.add_zero,getD_of ha]; exact h1
 rw [if_neg h0]
 exact run_wd _ (i:=a+1) rfl (a+i) (by omega) (by rw [← h2]; omega)
theorem lex_wf {p:List Int} (hp:Bytes p) (hl:p.length≤1000000) {L:List Tok} {a:Int} (h:LexR p 0 [] (L,0,a)):WF p L:=by
 obtain ⟨q,hq⟩:=lexR_last h rfl
 simp only at hq
 refine ⟨by rw [hq]; simp,fun t ht=>by rw [hq,List.getLast?_concat] at ht; cases ht; rfl,fun t ht=>lexR_all (Q:=TokOk p) ⟨⟨_,Nat.le_refl _,rfl⟩,(fun h=>by simp at h),by simp⟩ (fun i k e n hi ho=>?_) h (fun t ht=>by cases ht) t ht⟩
 have hgt:=oneS_gt hi ho
 refine ⟨⟨i,by omega,rfl⟩,fun hk=>?_,?_⟩
 ·simp only at hk
  subst hk
  exact word_ok hp hl hi ho
 simp only [text_len (Nat.le_of_lt hgt.1) hgt.2]; omega
end Go.Proofs.Ytloaoofdbilpeaa
namespace Go.Proofs.Ytloaoofdbilpeaa
open Go Go.Am
abbrev Z4:TFault:=⟨0,0,0,0⟩
def FF (p:List Int) (e a:Int):TFault:=⟨e,a,1+(cntN p a.toNat:Int),a - lastN p a.toNat⟩
structure AOk (p:List Int) (ps:List (List UInt8)) (a:Tparser) (s:PS):Prop where
 pp:a.p=p
 l:a.l.map tokL=s.l
 f:a.f=Z4
 n:a.n=s.n
 pl:∀ x,mget keS a.places x=(plc ps x).map (fun k:Nat=>(k:Int))
 td:∀ x,(mget keS a.told x).getD false=decide (x∈s.told)
 wf:WF p s.l
structure ADead (p:List Int) (e at_:Int) (k:Nat) (a:Tparser):Prop where
 pp:a.p=p
 l:a.l≠[]
 f:a.f=FF p e at_
 e:e≠0
 n:a.n.Places.length≤k∧a.n.Trans.length≤k
 tl:∀ t,t∈a.l→t.Text.length≤1000000
 xa:∃ i:Nat,i≤p.length∧at_=(i:Int)
structure Sm (a a':Tparser):Prop where
 pp:a'.p=a.p
 l:a'.l=a.l
 f:a'.f=a.f
 n:a'.n=a.n
theorem Sm.rfl' (a:Tparser):Sm a a:=⟨rfl,rfl,rfl,rfl⟩
theorem ADead.sm {p:List Int} {e at_:Int} {k:Nat} {a a':Tparser} (h:ADead p e at_ k a) (s:Sm a a'):ADead p e at_ k a':=⟨by rw [s.pp]; exact h.pp,by rw [s.l]; exact h.l,by rw [s.f]; exact h.f,h.e,by rw [s.n]; exact h.n,by rw [s.l]; exact h.tl,h.xa⟩
theorem Sm.trans {a b c:Tparser} (x:Sm a b) (y:Sm b c):Sm a c:=⟨by rw [y.pp,x.pp],by rw [y.l,x.l],by rw [y.f,x.f],by rw [y.n,x.n]⟩
def Asleep (a:Tparser):Prop:=a.f.Err≠0∧a.l≠[]∧∀ t,t∈a.l→t.Text.length≤1000000
theorem Asleep.sm {a a':Tparser} (h:Asleep a) (s:Sm a a'):Asleep a':=⟨by rw [s.f]; exact h.1,by rw [s.l]; exact h.2.1,by rw [s.l]; exact h.2.2⟩
theorem ADead.asleep {p:List Int} {e at_:Int} {k:Nat} {a:Tparser} (h:ADead p e at_ k a):Asleep a:=⟨by rw [h.f]; exact h.e,h.l,h.tl⟩
def SimA {α:Type} (p:List Int) (ps:List (List UInt8)) (k:Nat) (r:Option (α×Option Tparser)):Res α→Prop
 | .inl (v,s')=>∃ a',r=some (v,some a')∧AOk p ps a' s'
 | .inr (e,x)=>∃ v a',r=some (v,some a')∧ADead p e x k a'
def SimU (p:List Int) (ps:List (List UInt8)) (k:Nat) (r:Option (Option Tparser)):Res Unit→Prop
 | .inl (_,s')=>∃ a',r=some (some a')∧AOk p ps a' s'
 | .inr (e,x)=>∃ a',r=some (some a')∧ADead p e x k a'
theorem idx0 {α:Type} (t:α) (ts:List α):idx (t::ts) (0:Int)=some t:=rfl
theorem slc1 {α:Type} (t:α) (ts:List α):slc (t::ts) (1:Int) (((t::ts).length:Nat):Int)=some ts:=by
 have:=slc_ok (l:=t::ts) (i:=1) (j:=(t::ts).length) (by simp) (Nat.le_refl _)
 simpa using this
theorem AOk.open {p:List Int} {ps:List (List UInt8)} {a:Tparser} {s:PS} (h:AOk p ps a s):∃ t ts,a=⟨p,t::ts,Z4,s.n,a.places,a.told⟩∧s.l=tokL t::ts.map tokL:=by
 obtain ⟨ap,al,af,an,apl,atd⟩:=a
 obtain ⟨h1,h2,h3,h4,h5,h6,h7⟩:=h
 simp only at h1 h2 h3 h4 h5 h6
 subst h1 h3 h4
 cases al with
 | nil=>exact absurd h2.symm h7.ne
 | cons t ts=>exact ⟨t,ts,rfl,h2.symm⟩
theorem p53_a {p:List Int} {n:TNet} {pl:List (List UInt8×Int)} {td:List (List UInt8×Bool)} (t:TTl) (ts:List TTl):p53 (some ⟨p,t::ts,Z4,n,pl,td⟩)=some (t,some ⟨p,nx (t::ts),Z4,n,pl,td⟩):=by
 unfold p53
 simp only [Option.bind_some,idx0,if_pos]
 unfold p53_j1
 cases ts with
 | nil=>simp [p53_j0,nx]
 | cons b ts=>
  rw [slc1]
  simp [p53_j0,nx]
  omega
theorem p53_d {a:Tparser} (h:Asleep a):∃ t,a.l.head? = some t∧p53 (some a)=some (t,some a):=by
 obtain ⟨ap,al,af,an,apl,atd⟩:=a
 obtain ⟨h1,h2,_⟩:=h
 cases al with
 | nil=>exact absurd rfl h2
 | cons t ts=>
  refine ⟨t,rfl,?_⟩
  unfold p53
  simp only [Option.bind_some,idx0]
  rw [if_neg h1]
  rfl
theorem p54_d {a:Tparser} (h:Asleep a) (e:Int) (t:TTl):p54 (some a) e t=some (some a):=by
 unfold p54
 simp only [Option.bind_some]
 rw [if_neg h.1]
theorem p54_a {p:List Int} (hp:Bytes p) (hl:p.length≤1000000) {n:TNet} {pl:List (List UInt8×Int)} {td:List (List UInt8×Bool)} {l:List TTl} (e:Int) {t:TTl} (ht:TokOk p (tokL t)) :
  p54 (some ⟨p,l,Z4,n,pl,td⟩) e t=some (some ⟨p,l,FF p e t.At,n,pl,td⟩):=by
 obtain ⟨⟨i,hi,ha⟩,_⟩:=ht
 have ha:t.At=(i:Int):=ha
 unfold p54
 simp only [Option.bind_some,if_pos]
 rw [ha,p22_eq hp hl e hi]
 simp [FF]
def isA (t:TTl) (x:List UInt8):Bool:=decide (t.Kind=3)&&(t.Text==x)
theorem p56_a {p:List Int} {n:TNet} {pl:List (List UInt8×Int)} {td:List (List UInt8×Bool)} (t:TTl) (ts:List TTl) (x:List UInt8) :
  p56 (some ⟨p,t::ts,Z4,n,pl,td⟩) x=some (isA t x,some ⟨p,if isA t x=true then nx (t::ts) else t::ts,Z4,n,pl,td⟩):=by
 unfold p56
 simp only [Option.bind_some,idx0,decide_true,Bool.not_true,Bool.false_eq_true,if_false]
 unfold p56_j1 isA
 by_cases h1:t.Kind=3
 ·by_cases h2:(t.Text==x)=true
  ·simp only [h1,h2,decide_true,Bool.not_true,Bool.and_self,if_true,idx0,Option.bind_some,Bool.false_eq_true,if_false]
   unfold p56_j0
   rw [p53_a]
   rfl
  have h2:(t.Text==x)=false:=by simpa using h2
  simp only [h1,h2,decide_true,Bool.not_true,Bool.and_false,idx0,Option.bind_some,Bool.false_eq_true,if_false]
  rfl
 simp only [h1,decide_false,Bool.not_false,Bool.false_and,if_true,Bool.false_eq_true,if_false]
 rfl
theorem p56_d {a:Tparser} (h:Asleep a) (x:List UInt8):p56 (some a) x=some (false,some a):=by
 unfold p56
 simp only [Option.bind_some]
 rw [if_pos (by simpa using h.1)]
 rfl
theorem isS_a {t:TTl} {ts:List Tok} {s:PS} (h:s.l=tokL t::ts) (x:List UInt8):isS s x=isA t x:=by
 unfold isS isA
 rw [h]; rfl
theorem stp_ok {p:List Int} {ps:List (List UInt8)} {t:TTl} {ts:List TTl} {s:PS} {pl:List (List UInt8×Int)} {td:List (List UInt8×Bool)} (h:AOk p ps ⟨p,t::ts,Z4,s.n,pl,td⟩ s) :
  AOk p ps ⟨p,nx (t::ts),Z4,s.n,pl,td⟩ (stp s):=by
 refine ⟨rfl,?_,rfl,rfl,h.pl,h.td,h.wf.nx⟩
 rw [nx_map]; exact congrArg nx h.l
theorem sign_a {p:List Int} {ps:List (List UInt8)} {a:Tparser} {s:PS} (h:AOk p ps a s) (x:List UInt8):∃ a',p56 (some a) x=some (isS s x,some a')∧AOk p ps a' (if isS s x=true then stp s else s):=by
 obtain ⟨t,ts,e1,e2⟩:=h.open
 rw [e1] at h ⊢
 rw [p56_a,isS_a e2]
 refine ⟨_,rfl,?_⟩
 split
 ·exact stp_ok h
 exact h
theorem hd_ok {p:List Int} {t:TTl} {ts:List Tok} {s:PS} (e:s.l=tokL t::ts) (h:WF p s.l):TokOk p (tokL t):=by
 have:=h.hd_ok
 rw [e] at this
 exact this
theorem fail_a {p:List Int} (hp:Bytes p) (hl:p.length≤1000000) {ps:List (List UInt8)} {t:TTl} {ts:List TTl} {s:PS} {pl:List (List UInt8×Int)} {td:List (List UInt8×Bool)} (h:AOk p ps ⟨p,t::ts,Z4,s.n,pl,td⟩ s) (e2:s.l=tokL t::ts.map tokL) {e:Int} (he:e≠0) {k:Nat} (hk:s.n.Places.length≤k∧s.n.Trans.length≤k) :
  ∃ a',p54 (some ⟨p,t::ts,Z4,s.n,pl,td⟩) e t=some (some a')∧ADead p e (hd s.l).at_ k a':=by
 rw [p54_a hp hl e (hd_ok e2 h.wf)]
 refine ⟨_,rfl,rfl,by simp,?_,he,hk,fun u hu=>?_,h.wf.hd_ok.1⟩
 ·rw [e2]; rfl
 exact (h.wf.ok (tokL u) (by rw [e2]; exact List.mem_map_of_mem (f:=tokL) hu)).2.2
theorem want_a {p:List Int} (hp:Bytes p) (hl:p.length≤1000000) {ps:List (List UInt8)} {a:Tparser} {s:PS} (h:AOk p ps a s) (x:List UInt8) {k:Nat} (hk:s.n.Places.length≤k∧s.n.Trans.length≤k):SimU p ps k (p59 (some a) x) (want x s):=by
 obtain ⟨a',h1,h2⟩:=sign_a h x
 unfold p59 want
 rw [h1]
 simp only [Option.bind_some]
 by_cases hs:isS s x=true
 ·rw [if_pos hs] at h2
  rw [if_neg (by rw [hs]; simp),if_pos hs]
  exact ⟨a',rfl,h2⟩
 rw [if_neg hs] at h2
 rw [if_pos (by simpa using hs),if_neg hs]
 obtain ⟨t,ts,e1,e2⟩:=h2.open
 rw [e1] at h2 ⊢
 simp only [Option.bind_some,idx0]
 obtain ⟨b,h3,h4⟩:=fail_a hp hl h2 e2 (e:=6) (by decide) hk
 rw [h3]
 exact ⟨b,rfl,h4⟩
theorem want_d {a:Tparser} (h:Asleep a) (x:List UInt8):p59 (some a) x=some (some a):=by
 obtain ⟨t,h1,h2⟩:=p53_d h
 unfold p59
 rw [p56_d h]
 simp only [Option.bind_some,Bool.not_false,if_true]
 obtain ⟨ap,al,af,an,apl,atd⟩:=a
 cases al with
 | nil=>exact absurd rfl h.2.1
 | cons t ts=>
  rw [idx0]
  simp only [Option.bind_some]
  rw [p54_d h]; rfl
theorem num_a {p:List Int} (hp:Bytes p) (hl:p.length≤1000000) {ps:List (List UInt8)} {a:Tparser} {s:PS} (h:AOk p ps a s) (least:Int) {k:Nat} (hk:s.n.Places.length≤k∧s.n.Trans.length≤k):SimA p ps k (p57 (some a) least) (numS least s):=by
 obtain ⟨t,ts,e1,e2⟩:=h.open
 rw [e1] at h ⊢
 have eh:hd s.l=tokL t:=by rw [e2]; rfl
 unfold p57 numS
 rw [eh]
 simp only [Option.bind_some,idx0]
 by_cases h1:t.Kind=2
 ·rw [if_neg (by simpa using h1),if_pos (show (tokL t).k=2 from h1)]
  have hj:∀ b:Bool,(b=true↔(t.N < least∨1000000 < t.N))→SimA p ps k (p57_j0 ⟨p,t::ts,Z4,s.n,a.places,a.told⟩ t b) (if (tokL t).n < least∨1000000 < (tokL t).n then er s 3 else .inl ((tokL t).n,stp s)):=by
   intro b hb
   unfold p57_j0
   by_cases h2:t.N < least∨1000000 < t.N
   ·rw [if_pos (hb.2 h2),if_pos (show (tokL t).n < least∨1000000 < (tokL t).n from h2)]
    obtain ⟨b,h3,h4⟩:=fail_a hp hl h e2 (e:=3) (by decide) hk
    rw [h3]
    exact ⟨0,b,rfl,h4⟩
   rw [if_neg (fun hh=>h2 (hb.1 hh)),if_neg (show ¬ ((tokL t).n < least∨1000000 < (tokL t).n) from h2),p53_a]
   exact ⟨_,rfl,stp_ok h⟩
  split
  ·rename_i h2; exact hj true (by simp [h2])
  rename_i h2; exact hj _ (by simp [h2])
 rw [if_pos (by simpa using h1),if_neg (show ¬ (tokL t).k=2 from h1)]
 obtain ⟨b,h3,h4⟩:=fail_a hp hl h e2 (e:=6) (by decide) hk
 rw [h3]
 exact ⟨0,b,rfl,h4⟩
end Go.Proofs.Ytloaoofdbilpeaa
namespace Go.Proofs.Ytloaoofdbilpeaa
open Go Go.Am
theorem nx_len {α:Type}:∀ l:List α,(nx l).length≤l.length
 | []=>Nat.le_refl _
 | [_]=>Nat.le_refl _
 | _::_::_=>Nat.le_succ _
theorem want_n {x:List UInt8} {s s':PS} {u:Unit} (h:want x s=.inl (u,s')):s'=stp s:=by
 unfold want er at h
 split at h<;>cases h; rfl
theorem numS_n {m v:Int} {s s':PS} (h:numS m s=.inl (v,s')):s'=stp s:=by
 unfold numS er at h
 split at h
 ·split at h<;>cases h; rfl
 cases h
theorem nameS_n {v:List UInt8} {s s':PS} (h:nameS s=.inl (v,s')):s'.n=s.n∧s'.l=nx s.l:=by
 unfold nameS er at h
 split at h
 ·split at h<;>cases h; exact ⟨rfl,rfl⟩
 cases h
theorem optS_n {x:List UInt8} {v:Int} {s s':PS} (h:optS x s=.inl (v,s')):s'.n=s.n∧s'.l.length≤s.l.length:=by
 unfold optS at h
 split at h
 ·have:=numS_n h
  subst this
  exact ⟨rfl,Nat.le_trans (nx_len _) (nx_len _)⟩
 cases h; exact ⟨rfl,Nat.le_refl _⟩
theorem sepS_n {b:Bool} {s s':PS} {u:Unit} (h:sepS b s=.inl (u,s')):s'.n=s.n∧s'.l.length≤s.l.length:=by
 unfold sepS at h
 split at h
 ·cases h; exact ⟨rfl,Nat.le_refl _⟩
 have:=want_n h
 subst this
 exact ⟨rfl,nx_len _⟩
theorem bnd_inl {α β:Type} {r:Res α} {f:α→PS→Res β} {v:β} {s':PS} (h:bnd r f=.inl (v,s')):∃ a s,r=.inl (a,s)∧f a s=.inl (v,s'):=by
 unfold bnd at h
 split at h
 ·exact ⟨_,_,rfl,h⟩
 cases h
theorem arcS_n {ps:List (List UInt8)} {l v:List TArc} {s s':PS} (h:arcS ps l s=.inl (v,s')):s'.n=s.n∧s'.l.length≤(nx s.l).length∧(hd s.l).k=1∧v.length=l.length+1∧l.length≠8:=by
 unfold arcS er at h
 split at h
 ·rename_i hk
  split at h
  ·cases h
  split at h
  ·cases h
  split at h
  ·cases h
  rename_i h8
  split at h
  ·obtain ⟨n,s1,h1,h2⟩:=bnd_inl h
   cases h2
   have:=numS_n h1
   subst this
   exact ⟨rfl,Nat.le_trans (nx_len _) (nx_len _),hk,by simp,h8⟩
  cases h
  exact ⟨rfl,Nat.le_refl _,hk,by simp,h8⟩
 cases h
theorem name_a {p:List Int} (hp:Bytes p) (hl:p.length≤1000000) {ps:List (List UInt8)} {a:Tparser} {s:PS} (h:AOk p ps a s) {k:Nat} (hk:s.n.Places.length≤k∧s.n.Trans.length≤k):SimA p ps k (p55 (some a)) (nameS s):=by
 obtain ⟨t,ts,e1,e2⟩:=h.open
 rw [e1] at h ⊢
 have eh:hd s.l=tokL t:=by rw [e2]; rfl
 have hto:=hd_ok e2 h.wf
 unfold p55 nameS
 rw [eh]
 simp only [Option.bind_some,idx0]
 by_cases h1:t.Kind=1
 ·rw [if_neg (by simpa using h1),if_pos (show (tokL t).k=1 from h1)]
  obtain ⟨w1,w2⟩:(∀ i,i < t.Text.length→okAt (strI t.Text) i=true)∧t.Text≠[]:=hto.2.1 h1
  rw [p23_eq (s:=t.Text) hto.2.2]
  simp only [Option.bind_some]
  have hj:∀ b:Bool,(b=true↔¬ (t.Text.length≤12∧t.Text∉s.told))→SimA p ps k (p55_j0 ⟨p,t::ts,Z4,s.n,a.places,a.told⟩ t b) (if (tokL t).s.length≤12∧(tokL t).s∉s.told then .inl ((tokL t).s,⟨nx s.l,s.n,s.told++[(tokL t).s]⟩) else er s 7):=by
   intro b hb
   unfold p55_j0
   by_cases h2:t.Text.length≤12∧t.Text∉s.told
   ·rw [if_neg (fun hh=>(hb.1 hh) h2),if_pos (show (tokL t).s.length≤12∧(tokL t).s∉s.told from h2),p53_a]
    refine ⟨_,rfl,rfl,?_,rfl,rfl,h.pl,fun x=>?_,h.wf.nx⟩
    ·rw [nx_map]; exact congrArg nx h.l
    show (mget keS (mput keS a.told t.Text true) x).getD false=decide (x∈s.told++[t.Text])
    by_cases hx:x=t.Text
    ·subst hx
     rw [mget_put_same]; simp
    rw [mget_put_ne _ hx,h.td x]
    simp [hx]
   rw [if_pos (hb.2 h2),if_neg (show ¬ ((tokL t).s.length≤12∧(tokL t).s∉s.told) from h2)]
   obtain ⟨b,h3,h4⟩:=fail_a hp hl h e2 (e:=7) (by decide) hk
   rw [h3]
   exact ⟨[],b,rfl,h4⟩
  have htd:=h.td t.Text
  simp only at htd
  split
  ·rename_i h2
   refine hj true ⟨fun _ h3=>?_,fun _=>rfl⟩
   have:(!decide ((∀ i,i < t.Text.length→okAt (strI t.Text) i=true)∧t.Text≠[]∧t.Text.length≤12))=true:=h2
   rw [decide_eq_true (p:=_∧_∧_) ⟨w1,w2,h3.1⟩] at this
   cases this
  rename_i h2
  have h2:¬ (!decide ((∀ i,i < t.Text.length→okAt (strI t.Text) i=true)∧t.Text≠[]∧t.Text.length≤12))=true:=h2
  simp only [Bool.not_eq_true',decide_eq_false_iff_not,Classical.not_not] at h2
  refine hj _ ?_
  rw [htd]
  have:=h2.2.2
  simp [this]
 rw [if_pos (by simpa using h1),if_neg (show ¬ (tokL t).k=1 from h1)]
 obtain ⟨b,h3,h4⟩:=fail_a hp hl h e2 (e:=6) (by decide) hk
 rw [h3]
 exact ⟨[],b,rfl,h4⟩
theorem name_d {a:Tparser} (h:Asleep a):∃ v a',p55 (some a)=some (v,some a')∧Sm a a':=by
 obtain ⟨ap,al,af,an,apl,atd⟩:=a
 cases al with
 | nil=>exact absurd rfl h.2.1
 | cons t ts=>
  unfold p55
  simp only [Option.bind_some,idx0]
  have hj:∀ b:Bool,∃ v a',p55_j0 ⟨ap,t::ts,af,an,apl,atd⟩ t b=some (v,some a')∧Sm ⟨ap,t::ts,af,an,apl,atd⟩ a':=by
   intro b
   unfold p55_j0
   split
   ·rw [p54_d h]; exact ⟨_,_,rfl,Sm.rfl' _⟩
   have h':Asleep ⟨ap,t::ts,af,an,apl,mput keS atd t.Text true⟩:=h
   obtain ⟨u,h1,h2⟩:=p53_d h'
   rw [h2]; exact ⟨_,_,rfl,rfl,rfl,rfl,rfl⟩
  split
  ·rw [p54_d h]; exact ⟨_,_,rfl,Sm.rfl' _⟩
  rw [p23_eq (h.2.2 t (List.mem_cons_self ..))]
  simp only [Option.bind_some]
  split
  ·exact hj _
  exact hj _
theorem p76_loop {x1:List TArc} (hx:x1.length≤1000) (b:Tparser) (e:TTl) (ok:Bool) :
  loopC (p76_l0 x1 b e) (ok,(0:Int))=some (ok&&!x1.any fun a=>decide (a.Place=(mget keS b.places e.Text).getD 0)):=by
 have key:∃ r,loopC (p76_l0 x1 b e) (ok,(0:Int))=some r∧r=(ok&&!x1.any fun a=>decide (a.Place=(mget keS b.places e.Text).getD 0)):=by
  refine loop_cnt x1.length (fun k st=>st=(ok&&!(x1.take k).any (fun a=>decide (a.Place=(mget keS b.places e.Text).getD 0)),(k:Int))) _ ?_ ?_ (by simp)
  ·rintro k _ hk rfl
   left
   refine ⟨_,?_,rfl⟩
   unfold p76_l0
   simp only
   rw [if_pos (by omega),idx_get hk]
   simp only [Option.bind_some,p76_j0]
   rw [wrap64 (by omega) (by omega)]
   rw [List.take_succ_eq_append_getElem hk,List.any_append]
   split
   ·rename_i h2
    simp only [List.any_cons,List.any_nil,Bool.or_false]
    cases hh:(List.any (List.take k x1) fun a=>decide (a.Place=(mget keS b.places e.Text).getD 0))<;>simp_all
   rename_i h2
   have h2:=Bool.eq_false_iff.2 h2
   generalize (List.any (List.take k x1) fun a=>decide (a.Place=(mget keS b.places e.Text).getD 0))=A at h2 ⊢
   cases ok<;>cases A<;>simp_all
  rintro _ rfl
  refine ⟨_,?_,rfl⟩
  unfold p76_l0
  simp only
  rw [if_neg (by omega)]
  simp
 obtain ⟨r,h1,h2⟩:=key
 rw [h1,h2]
theorem arc_end {p:List Int} (hp:Bytes p) (hl:p.length≤1000000) {ps:List (List UInt8)} {b:Tparser} {e:TTl} {x1:List TArc} (hx:x1.length≤1000) {t:TTl} {ts:List TTl} {s:PS} {pl:List (List UInt8×Int)} {td:List (List UInt8×Bool)} (h:AOk p ps ⟨p,t::ts,Z4,s.n,pl,td⟩ s)
  {q:Nat} (hq:(mget keS b.places e.Text).getD 0=(q:Int)) {k:Nat} (hk:s.n.Places.length≤k∧s.n.Trans.length≤k) :
  SimA p ps k (p76_j2 x1 b e (some ⟨p,t::ts,Z4,s.n,pl,td⟩)) (if isS (stp s) [42]=true then bnd (numS 1 (stp (stp s))) fun n s=>.inl (x1++[⟨(q:Int),n⟩],s) else .inl (x1++[⟨(q:Int),1⟩],stp s)):=by
 have hs:=stp_ok h
 obtain ⟨a',g1,g2⟩:=sign_a hs [42]
 unfold p76_j2
 rw [p53_a]
 simp only [Option.bind_some]
 rw [g1]
 simp only [Option.bind_some]
 have hj:∀ (y:Int) (a:Tparser),p76_j1 x1 b e y (some a)=some (x1++[⟨(q:Int),y⟩],some a):=by
  intro y a
  unfold p76_j1
  rw [hq,app_ok (by simp; omega)]; rfl
 by_cases h1:isS (stp s) [42]=true
 ·rw [if_pos h1] at g2
  rw [if_pos h1,if_pos h1]
  have hn:=num_a hp hl g2 1 (k:=k) hk
  cases hr:numS 1 (stp (stp s)) with
  | inl v=>
   obtain ⟨v,s1⟩:=v
   rw [hr] at hn
   obtain ⟨a1,h2,h3⟩:=hn
   rw [h2]
   simp only [Option.bind_some,hj,bnd]
   exact ⟨a1,rfl,h3⟩
  | inr v=>
   obtain ⟨v,x⟩:=v
   rw [hr] at hn
   obtain ⟨w,a1,h2,h3⟩:=hn
   rw [h2]
   simp only [Option.bind_some,hj,bnd]
   exact ⟨_,a1,rfl,h3⟩
 rw [if_neg h1] at g2
 rw [if_neg h1,if_neg h1,hj]
 exact ⟨a',rfl,g2⟩
theorem arc_end_d {x1:List TArc} (hx:x1.length≤1000) {a:Tparser} (h:Asleep a) (b:Tparser) (e:TTl):∃ v,p76_j2 x1 b e (some a)=some (v,some a):=by
 obtain ⟨t,_,h1⟩:=p53_d h
 unfold p76_j2
 rw [h1]
 simp only [Option.bind_some]
 rw [p56_d h]
 simp only [Option.bind_some,Bool.false_eq_true,if_false]
 unfold p76_j1
 rw [app_ok (by simp; omega)]
 exact ⟨_,rfl⟩
theorem arc_a {p:List Int} (hp:Bytes p) (hl:p.length≤1000000) {ps:List (List UInt8)} {a:Tparser} {s:PS} (h:AOk p ps a s) {x1:List TArc} (hx:x1.length≤1000) {k:Nat} (hk:s.n.Places.length≤k∧s.n.Trans.length≤k):SimA p ps k (p76 (some a) x1) (arcS ps x1 s):=by
 obtain ⟨t,ts,e1,e2⟩:=h.open
 rw [e1] at h ⊢
 have eh:hd s.l=tokL t:=by rw [e2]; rfl
 unfold p76 arcS
 rw [eh]
 simp only [Option.bind_some,idx0]
 by_cases h1:t.Kind=1
 ·rw [if_neg (by simpa using h1),if_pos (show (tokL t).k=1 from h1),p76_loop hx]
  simp only [Option.bind_some]
  have hpl:=h.pl t.Text
  simp only at hpl
  rw [hpl]
  have seven:∀ r:Res (List TArc),r=er s 7→SimA p ps k (Option.bind (p54 (some ⟨p,t::ts,Z4,s.n,a.places,a.told⟩) 7 t) fun u=>p76_j2 x1 ⟨p,t::ts,Z4,s.n,a.places,a.told⟩ t u) r:=by
   rintro _ rfl
   obtain ⟨b,h3,h4⟩:=fail_a hp hl h e2 (e:=7) (by decide) hk
   rw [h3]
   obtain ⟨v,h5⟩:=arc_end_d hx h4.asleep ⟨p,t::ts,Z4,s.n,a.places,a.told⟩ t
   simp only [Option.bind_some]
   exact ⟨v,b,h5,h4⟩
  cases hq:plc ps (tokL t).s with
  | none=>
   have hq:plc ps t.Text=none:=hq
   rw [hq]
   simp only [Option.map_none,Option.isSome_none,Bool.false_and,Bool.not_false,if_true]
   exact seven _ rfl
  | some q=>
   have hq:plc ps t.Text=some q:=hq
   rw [hq]
   simp only [Option.map_some,Option.isSome_some,Bool.true_and,Option.getD_some,Bool.not_not]
   by_cases h2:x1.any (fun a=>decide (a.Place=(q:Int)))=true
   ·rw [if_pos h2,if_pos h2]; exact seven _ rfl
   rw [if_neg h2,if_neg h2]
   by_cases h8:x1.length=8
   ·rw [if_pos (by omega),if_pos h8]
    obtain ⟨b,h3,h4⟩:=fail_a hp hl h e2 (e:=5) (by decide) hk
    rw [h3]
    obtain ⟨v,h5⟩:=arc_end_d hx h4.asleep ⟨p,t::ts,Z4,s.n,a.places,a.told⟩ t
    simp only [Option.bind_some]
    exact ⟨v,b,h5,h4⟩
   rw [if_neg (by omega),if_neg h8]
   exact arc_end hp hl hx h (q:=q) (by simp only; rw [hpl,hq]; rfl) hk
 rw [if_pos (by simpa using h1),if_neg (show ¬ (tokL t).k=1 from h1)]
 obtain ⟨b,h3,h4⟩:=fail_a hp hl h e2 (e:=6) (by decide) hk
 rw [h3]
 exact ⟨_,b,rfl,h4⟩
theorem arc_d {a:Tparser} (h:Asleep a) {x1:List TArc} (hx:x1.length≤1000):∃ v,p76 (some a) x1=some (v,some a):=by
 obtain ⟨ap,al,af,an,apl,atd⟩:=a
 cases al with
 | nil=>exact absurd rfl h.2.1
 | cons t ts=>
  unfold p76
  simp only [Option.bind_some,idx0]
  split
  ·rw [p54_d h]; exact ⟨_,rfl⟩
  rw [p76_loop hx]
  simp only [Option.bind_some]
  split
  ·rw [p54_d h]; exact arc_end_d hx h _ _
  split
  ·rw [p54_d h]; exact arc_end_d hx h _ _
  exact arc_end_d hx h _ _
end Go.Proofs.Ytloaoofdbilpeaa
namespace Go.Proofs.Ytloaoofdbilpeaa
open Go Go.Am
theorem loopC_go {σ ρ:Type} {f:σ→Option (σ⊕ρ)} {s s':σ} {r:ρ} (h:f s=some (.inl s')) (k:loopC f s'=some r):loopC f s=some r:=by
 obtain ⟨n,hn⟩:=loopC_iff.1 k
 exact loopC_iff.2 ⟨n+1,by rw [iter]; simp only [h]; exact hn⟩
theorem loopC_end {σ ρ:Type} {f:σ→Option (σ⊕ρ)} {s:σ} {r:ρ} (h:f s=some (.inr r)):loopC f s=some r:=
 loopC_iff.2 ⟨1,by rw [iter]; simp only [h]⟩
theorem AOk.err {p:List Int} {ps:List (List UInt8)} {a:Tparser} {s:PS} (h:AOk p ps a s):a.f.Err=0:=by rw [h.f]
def Sz (k:Nat) (s:PS):Prop:=s.n.Places.length≤k∧s.n.Trans.length≤k
def one2 (ps:List (List UInt8)) (ins nots:List TArc) (s:PS):Res (List TArc×List TArc):=
 if isS s [126]=true then bnd (arcS ps nots (stp s)) fun nots s=>.inl ((ins,nots),s)
 else bnd (arcS ps ins s) fun ins s=>.inl ((ins,nots),s)
theorem inS_succ (ps:List (List UInt8)) (k:Nat) (first:Bool) (ins nots:List TArc) (s:PS):inS ps (k+1) first ins nots s=if isS s [45,62]=true then .inl ((ins,nots),stp s) else
  bnd (sepS first s) fun _ s=>bnd (one2 ps ins nots s) fun q s=>inS ps k false q.1 q.2 s:=by
 rw [inS]
 congr 1
 cases hs:sepS first s with
 | inr v=>rfl
 | inl v=>
  obtain ⟨u,s1⟩:=v
  simp only [bnd,one2]
  split
  ·cases arcS ps nots (stp s1)<;>rfl
  cases arcS ps ins s1<;>rfl
theorem in_j0 {p:List Int} (hp:Bytes p) (hl:p.length≤1000000) {ps:List (List UInt8)} {a:Tparser} {s:PS} (h:AOk p ps a s) {ins nots:List TArc} (hi:ins.length≤8) (hn:nots.length≤8) {k:Nat} (hk:Sz k s) :
  ∃ a' i o,p58_j0 ins nots (some a)=some (.inl (false,some a',i,o))∧match one2 ps ins nots s with
   | .inl (q,s')=>q=(i,o)∧AOk p ps a' s'∧s'.n=s.n∧s'.l.length < s.l.length∧i.length≤8∧o.length≤8
   | .inr (e,x)=>ADead p e x k a':=by
 obtain ⟨a1,h1,h2⟩:=sign_a h [126]
 unfold p58_j0 one2
 rw [h1]
 simp only [Option.bind_some]
 by_cases hs:isS s [126]=true
 ·rw [if_pos hs] at h2
  rw [if_pos hs,if_pos hs]
  have ha:=arc_a hp hl h2 (x1:=nots) (by omega) (k:=k) hk
  cases hr:arcS ps nots (stp s) with
  | inl v=>
   obtain ⟨v,s'⟩:=v
   rw [hr] at ha
   obtain ⟨a',g1,g2⟩:=ha
   obtain ⟨e1,e2,e3,e4,e5⟩:=arcS_n hr
   rw [g1]
   have hlt:=h2.wf.shorter (by rw [e3]; decide)
   have:=nx_len s.l
   refine ⟨a',ins,v,rfl,rfl,g2,e1,?_,hi,by omega⟩
   have:(stp s).l.length≤s.l.length:=nx_len _
   omega
  | inr v=>
   obtain ⟨e,x⟩:=v
   rw [hr] at ha
   obtain ⟨v,a',g1,g2⟩:=ha
   rw [g1]
   exact ⟨a',ins,v,rfl,g2⟩
 rw [if_neg hs] at h2
 rw [if_neg hs,if_neg hs]
 have ha:=arc_a hp hl h2 (x1:=ins) (by omega) (k:=k) hk
 cases hr:arcS ps ins s with
 | inl v=>
  obtain ⟨v,s'⟩:=v
  rw [hr] at ha
  obtain ⟨a',g1,g2⟩:=ha
  obtain ⟨e1,e2,e3,e4,e5⟩:=arcS_n hr
  rw [g1]
  have hlt:=h2.wf.shorter (by rw [e3]; decide)
  exact ⟨a',v,nots,rfl,rfl,g2,e1,by omega,by omega,hn⟩
 | inr v=>
  obtain ⟨e,x⟩:=v
  rw [hr] at ha
  obtain ⟨v,a',g1,g2⟩:=ha
  rw [g1]
  exact ⟨a',v,nots,rfl,g2⟩
theorem in_j0d {a:Tparser} (h:Asleep a) {ins nots:List TArc} (hi:ins.length≤8):∃ i,p58_j0 ins nots (some a)=some (.inl (false,some a,i,nots)):=by
 obtain ⟨v,h1⟩:=arc_d h (x1:=ins) (by omega)
 unfold p58_j0
 rw [p56_d h]
 simp only [Option.bind_some,Bool.false_eq_true,if_false]
 rw [h1]
 exact ⟨v,rfl⟩
theorem in_exit {a:Tparser} (h:Asleep a) (b:Bool) (ins nots:List TArc):loopC p58_l0 (b,some a,ins,nots)=some (some a,ins,nots):=by
 refine loopC_end ?_
 unfold p58_l0
 simp only [Option.bind_some]
 rw [if_neg h.1]
 rfl
theorem sep_a {p:List Int} (hp:Bytes p) (hl:p.length≤1000000) {ps:List (List UInt8)} {a:Tparser} {s:PS} (h:AOk p ps a s) {k:Nat} (hk:Sz k s) (first:Bool) :
  (first=true∧sepS first s=.inl ((),s))∨(first=false∧SimU p ps k (p59 (some a) [44]) (sepS first s)):=by
 cases first with
 | true=>exact .inl ⟨rfl,rfl⟩
 | false=>exact .inr ⟨rfl,want_a hp hl h [44] hk⟩
theorem in_a {p:List Int} (hp:Bytes p) (hl:p.length≤1000000) {ps:List (List UInt8)} {K:Nat}:∀ (k:Nat) (first:Bool) (ins nots:List TArc) (a:Tparser) (s:PS),AOk p ps a s→s.l.length≤k→ins.length≤8→nots.length≤8→Sz K s→
  ∃ a' i o,loopC p58_l0 (first,some a,ins,nots)=some (some a',i,o)∧match inS ps k first ins nots s with
   | .inl (q,s')=>q=(i,o)∧AOk p ps a' s'∧s'.n=s.n∧s'.l.length≤s.l.length
   | .inr (e,x)=>ADead p e x K a':=by
 intro k
 induction k with
 | zero=>
  intro first ins nots a s h hk
  have:s.l=[]:=List.eq_nil_of_length_eq_zero (by omega)
  exact absurd this h.wf.ne
 | succ k ih=>
  intro first ins nots a s h hk hi hn hK
  rw [inS_succ]
  obtain ⟨a1,h1,h2⟩:=sign_a h [45,62]
  have hbody:p58_l0 (first,some a,ins,nots)=p58_j1 first ins nots (!isS s [45,62]) (some a1):=by
   unfold p58_l0
   simp only [Option.bind_some]
   rw [if_pos h.err,h1]
   rfl
  by_cases hs:isS s [45,62]=true
  ·rw [if_pos hs] at h2
   rw [if_pos hs]
   refine ⟨a1,ins,nots,loopC_end ?_,rfl,h2,rfl,nx_len _⟩
   rw [hbody,hs]
   rfl
  rw [if_neg hs] at h2
  rw [if_neg hs]
  have hs':isS s [45,62]=false:=by simpa using hs
  rw [hs'] at hbody
     -- behind the comma
  have rest:∀ (a2:Tparser) (s2:PS),AOk p ps a2 s2→s2.n=s.n→s2.l.length≤s.l.length→p58_l0 (first,some a,ins,nots)=p58_j0 ins nots (some a2)→
    ∃ a' i o,loopC p58_l0 (first,some a,ins,nots)=some (some a',i,o)∧match bnd (one2 ps ins nots s2) fun q s=>inS ps k false q.1 q.2 s with
     | .inl (q,s')=>q=(i,o)∧AOk p ps a' s'∧s'.n=s.n∧s'.l.length≤s.l.length
     | .inr (e,x)=>ADead p e x K a':=by
   intro a2 s2 g1 g2 g3 g4
   obtain ⟨a3,i,o,q1,q2⟩:=in_j0 hp hl g1 hi hn (k:=K) (by unfold Sz at *; rw [g2]; exact hK)
   cases hr:one2 ps ins nots s2 with
   | inl v=>
    obtain ⟨q,s'⟩:=v
    rw [hr] at q2
    obtain ⟨rfl,q2,q3,q4,q5,q6⟩:=q2
    obtain ⟨a4,i',o',u1,u2⟩:=ih false i o a3 s' q2 (by omega) q5 q6 (by unfold Sz at *; rw [q3,g2]; exact hK)
    refine ⟨a4,i',o',loopC_go (by rw [g4]; exact q1) u1,?_⟩
    simp only [bnd]
    cases hr2:inS ps k false i o s' with
    | inl v=>
     obtain ⟨q,s''⟩:=v
     rw [hr2] at u2
     exact ⟨u2.1,u2.2.1,by rw [u2.2.2.1,q3,g2],by omega⟩
    | inr v=>obtain ⟨e,x⟩:=v; rw [hr2] at u2; exact u2
   | inr v=>
    obtain ⟨e,x⟩:=v
    rw [hr] at q2
    exact ⟨a3,i,o,loopC_go (by rw [g4]; exact q1) (in_exit (ADead.asleep q2) _ _ _),q2⟩
  rcases sep_a hp hl h2 hK first with ⟨rfl,e1⟩ | ⟨rfl,e1⟩
  ·rw [e1]
   exact rest a1 s h2 rfl (Nat.le_refl _) (by rw [hbody]; rfl)
  cases hr:sepS false s with
  | inl v=>
   obtain ⟨u,s2⟩:=v
   rw [hr] at e1
   obtain ⟨a2,q1,q2⟩:=e1
   have hn':=sepS_n hr
   refine rest a2 s2 q2 hn'.1 hn'.2 ?_
   rw [hbody]
   unfold p58_j1
   simp only [Bool.not_false,if_true]
   rw [q1]; rfl
  | inr v=>
   obtain ⟨e,x⟩:=v
   rw [hr] at e1
   obtain ⟨a2,q1,q2⟩:=e1
   obtain ⟨i,q3⟩:=in_j0d q2.asleep (ins:=ins) (nots:=nots) hi
   refine ⟨a2,i,nots,loopC_go ?_ (in_exit q2.asleep false _ _),q2⟩
   rw [hbody]
   unfold p58_j1
   simp only [Bool.not_false,if_true]
   rw [q1]
   exact q3
theorem out_exit {a:Tparser} (h:Asleep a) (b:Bool) (outs:List TArc):loopC p58_l1 (b,some a,outs)=some (some a,outs):=by
 refine loopC_end ?_
 unfold p58_l1
 simp only [Option.bind_some]
 rw [if_neg h.1]
 rfl
theorem out_a {p:List Int} (hp:Bytes p) (hl:p.length≤1000000) {ps:List (List UInt8)} {K:Nat}:∀ (k:Nat) (first:Bool) (outs:List TArc) (a:Tparser) (s:PS),AOk p ps a s→s.l.length≤k→outs.length≤8→Sz K s→
  ∃ a' o,loopC p58_l1 (first,some a,outs)=some (some a',o)∧match outS ps k first outs s with
   | .inl (q,s')=>q=o∧AOk p ps a' s'∧s'.n=s.n∧s'.l.length≤s.l.length
   | .inr (e,x)=>ADead p e x K a':=by
 intro k
 induction k with
 | zero=>
  intro first outs a s h hk
  have:s.l=[]:=List.eq_nil_of_length_eq_zero (by omega)
  exact absurd this h.wf.ne
 | succ k ih=>
  intro first outs a s h hk hi hK
  rw [outS]
  obtain ⟨t,ts,e1,e2⟩:=h.open
  have hbody:p58_l1 (first,some a,outs)=p58_j3 first outs a (!isS s [59]):=by
   unfold p58_l1
   simp only [Option.bind_some]
   rw [if_pos h.err,isS_a e2]
   have:a.l=t::ts:=by rw [e1]
   rw [this,idx0]
   simp only [Option.bind_some]
   unfold isA p58_j4
   by_cases hk3:t.Kind=3
   ·simp [hk3]
   simp [hk3]
  by_cases hs:isS s [59]=true
  ·rw [if_pos hs]
   refine ⟨a,outs,loopC_end ?_,rfl,h,rfl,Nat.le_refl _⟩
   rw [hbody,hs]
   rfl
  rw [if_neg hs]
  have hs':isS s [59]=false:=by simpa using hs
  rw [hs'] at hbody
  have rest:∀ (a2:Tparser) (s2:PS),AOk p ps a2 s2→s2.n=s.n→s2.l.length≤s.l.length→p58_l1 (first,some a,outs)=p58_j2 outs (some a2)→
    ∃ a' o,loopC p58_l1 (first,some a,outs)=some (some a',o)∧match bnd (arcS ps outs s2) fun outs s=>outS ps k false outs s with
     | .inl (q,s')=>q=o∧AOk p ps a' s'∧s'.n=s.n∧s'.l.length≤s.l.length
     | .inr (e,x)=>ADead p e x K a':=by
   intro a2 s2 g1 g2 g3 g4
   have ha:=arc_a hp hl g1 (x1:=outs) (by omega) (k:=K) (by unfold Sz at *; rw [g2]; exact hK)
   unfold p58_j2 at g4
   cases hr:arcS ps outs s2 with
   | inl v=>
    obtain ⟨v,s'⟩:=v
    rw [hr] at ha
    obtain ⟨a3,q1,q2⟩:=ha
    obtain ⟨f1,f2,f3,f4,f5⟩:=arcS_n hr
    have hlt:=g1.wf.shorter (by rw [f3]; decide)
    rw [q1] at g4
    obtain ⟨a4,o',u1,u2⟩:=ih false v a3 s' q2 (by omega) (by omega) (by unfold Sz at *; rw [f1,g2]; exact hK)
    refine ⟨a4,o',loopC_go (by rw [g4]; rfl) u1,?_⟩
    simp only [bnd]
    cases hr2:outS ps k false v s' with
    | inl v=>
     obtain ⟨q,s''⟩:=v
     rw [hr2] at u2
     exact ⟨u2.1,u2.2.1,by rw [u2.2.2.1,f1,g2],by omega⟩
    | inr v=>obtain ⟨e,x⟩:=v; rw [hr2] at u2; exact u2
   | inr v=>
    obtain ⟨e,x⟩:=v
    rw [hr] at ha
    obtain ⟨v,a3,q1,q2⟩:=ha
    rw [q1] at g4
    exact ⟨a3,v,loopC_go (by rw [g4]; rfl) (out_exit q2.asleep _ _),q2⟩
  rcases sep_a hp hl h hK first with ⟨rfl,e1⟩ | ⟨rfl,e1⟩
  ·rw [e1]
   exact rest a s h rfl (Nat.le_refl _) (by rw [hbody]; rfl)
  cases hr:sepS false s with
  | inl v=>
   obtain ⟨u,s2⟩:=v
   rw [hr] at e1
   obtain ⟨a2,q1,q2⟩:=e1
   have hn':=sepS_n hr
   refine rest a2 s2 q2 hn'.1 hn'.2 ?_
   rw [hbody]
   unfold p58_j3
   simp only [Bool.not_false,if_true]
   rw [q1]; rfl
  | inr v=>
   obtain ⟨e,x⟩:=v
   rw [hr] at e1
   obtain ⟨a2,q1,q2⟩:=e1
   obtain ⟨o,q3⟩:=arc_d q2.asleep (x1:=outs) (by omega)
   refine ⟨a2,o,loopC_go ?_ (out_exit q2.asleep false _),q2⟩
   rw [hbody]
   unfold p58_j3
   simp only [Bool.not_false,if_true]
   rw [q1]
   simp only [Option.bind_some]
   unfold p58_j2
   rw [q3]; rfl
end Go.Proofs.Ytloaoofdbilpeaa
namespace Go.Proofs.Ytloaoofdbilpeaa
open Go Go.Am
noncomputable def optA (x:List UInt8) (l:Option Tparser):Option (Int×Option Tparser):=(p56 l x).bind fun u=>if u.1=true then (p57 u.2 0).bind fun w=>some (w.1,w.2) else some (0,u.2)
theorem optA_bind {β:Type} (x:List UInt8) (l:Option Tparser) (f:Int→Option Tparser→Option β):((p56 l x).bind fun u=>if u.1=true then ((p57 u.2 0).bind fun w=>f w.1 w.2) else f 0 u.2)=(optA x l).bind fun w=>f w.1 w.2:=by
 unfold optA
 cases p56 l x with
 | none=>rfl
 | some u=>
  simp only [Option.bind_some]
  split
  ·cases p57 u.2 0<;>rfl
  rfl
theorem opt_a {p:List Int} (hp:Bytes p) (hl:p.length≤1000000) {ps:List (List UInt8)} {a:Tparser} {s:PS} (h:AOk p ps a s) (x:List UInt8) {k:Nat} (hk:Sz k s):SimA p ps k (optA x (some a)) (optS x s):=by
 obtain ⟨a1,h1,h2⟩:=sign_a h x
 unfold optA optS
 rw [h1]
 simp only [Option.bind_some]
 by_cases hs:isS s x=true
 ·rw [if_pos hs] at h2
  rw [if_pos hs,if_pos hs]
  have hn:=num_a hp hl h2 0 (k:=k) hk
  cases hr:numS 0 (stp s) with
  | inl v=>
   obtain ⟨v,s1⟩:=v
   rw [hr] at hn
   obtain ⟨a1,h2,h3⟩:=hn
   rw [h2]
   exact ⟨a1,rfl,h3⟩
  | inr v=>
   obtain ⟨v,x⟩:=v
   rw [hr] at hn
   obtain ⟨w,a1,h2,h3⟩:=hn
   rw [h2]
   exact ⟨w,a1,rfl,h3⟩
 rw [if_neg hs] at h2
 rw [if_neg hs,if_neg hs]
 exact ⟨a1,rfl,h2⟩
theorem opt_d {a:Tparser} (h:Asleep a) (x:List UInt8):optA x (some a)=some (0,some a):=by
 unfold optA
 rw [p56_d h]; rfl
structure Sl (a a':Tparser):Prop where
 pp:a'.p=a.p
 l:a'.l=a.l
 f:a'.f=a.f
 n:a'.n.Places.length≤a.n.Places.length+1∧a'.n.Trans.length≤a.n.Trans.length+1
theorem Sl.dead {p:List Int} {e x:Int} {k:Nat} {a a':Tparser} (s:Sl a a') (h:ADead p e x k a):ADead p e x (k+1) a':=by
 have h1:=h.n
 have h2:=s.n
 exact ⟨by rw [s.pp]; exact h.pp,by rw [s.l]; exact h.l,by rw [s.f]; exact h.f,h.e,by omega,by rw [s.l]; exact h.tl,h.xa⟩
theorem ADead.mono {p:List Int} {e x:Int} {k k':Nat} {a:Tparser} (h:ADead p e x k a) (hk:k≤k'):ADead p e x k' a:=⟨h.pp,h.l,h.f,h.e,by have:=h.n; omega,h.tl,h.xa⟩
theorem j5_d {a:Tparser} (h:Asleep a) (hn:a.n.Trans.length≤1000) (u:List UInt8×Option Tparser) (c d:Int):∃ a',p58_j5 u c (some a) d=some (some a')∧Sl a a':=by
 unfold p58_j5
 rw [want_d h]
 simp only [Option.bind_some]
 rw [in_exit h]
 simp only [Option.bind_some]
 rw [out_exit h]
 simp only [Option.bind_some]
 rw [app_ok (by simp; omega)]
 simp only [Option.bind_some]
 exact ⟨_,rfl,rfl,rfl,rfl,by simp,by simp⟩
theorem j6_d {a:Tparser} (h:Asleep a) (hn:a.n.Trans.length≤1000) (u:List UInt8×Option Tparser) (c:Int):∃ a',p58_j6 u (some a) c=some (some a')∧Sl a a':=by
 unfold p58_j6
 rw [optA_bind [33] (some a) (fun d l=>p58_j5 u c l d),opt_d h]
 exact j5_d h hn u c 0
theorem one2_n {ps:List (List UInt8)} {ins nots:List TArc} {s s':PS} {q:List TArc×List TArc} (h:one2 ps ins nots s=.inl (q,s')) (hi:ins.length≤8) (hn:nots.length≤8):s'.n=s.n∧s'.l.length≤s.l.length∧q.1.length≤8∧q.2.length≤8:=by
 unfold one2 at h
 split at h
 ·obtain ⟨v,s1,h1,h2⟩:=bnd_inl h
  cases h2
  obtain ⟨a,b,c,d,e⟩:=arcS_n h1
  have:=nx_len (stp s).l
  have h3:(stp s).l.length≤s.l.length:=nx_len _
  exact ⟨a,by omega,hi,by simp only; omega⟩
 obtain ⟨v,s1,h1,h2⟩:=bnd_inl h
 cases h2
 obtain ⟨a,b,c,d,e⟩:=arcS_n h1
 have:=nx_len s.l
 exact ⟨a,by omega,by simp only; omega,hn⟩
theorem inS_n {ps:List (List UInt8)}:∀ {k:Nat} {b:Bool} {ins nots:List TArc} {s s':PS} {q:List TArc×List TArc},inS ps k b ins nots s=.inl (q,s')→ins.length≤8→nots.length≤8→s'.n=s.n∧s'.l.length≤s.l.length∧q.1.length≤8∧q.2.length≤8
 | 0,b,ins,nots,s,s',q,h,_,_=>by unfold inS er at h; cases h
 | k+1,b,ins,nots,s,s',q,h,hi,hn=>by
  rw [inS_succ] at h
  split at h
  ·cases h
   exact ⟨rfl,nx_len _,hi,hn⟩
  obtain ⟨_,s1,h1,h⟩:=bnd_inl h
  obtain ⟨v,s2,h2,h⟩:=bnd_inl h
  have a1:=sepS_n h1
  have a2:=one2_n h2 hi hn
  have a3:=inS_n h a2.2.2.1 a2.2.2.2
  exact ⟨by rw [a3.1,a2.1,a1.1],by omega,a3.2.2⟩
theorem outS_n {ps:List (List UInt8)}:∀ {k:Nat} {b:Bool} {outs:List TArc} {s s':PS} {q:List TArc},outS ps k b outs s=.inl (q,s')→outs.length≤8→s'.n=s.n∧s'.l.length≤s.l.length∧q.length≤8
 | 0,b,outs,s,s',q,h,_=>by unfold outS er at h; cases h
 | k+1,b,outs,s,s',q,h,hi=>by
  rw [outS] at h
  split at h
  ·cases h
   exact ⟨rfl,Nat.le_refl _,hi⟩
  obtain ⟨_,s1,h1,h⟩:=bnd_inl h
  obtain ⟨v,s2,h2,h⟩:=bnd_inl h
  have a1:=sepS_n h1
  obtain ⟨c1,c2,c3,c4,c5⟩:=arcS_n h2
  have a3:=outS_n h (by omega)
  have:=nx_len s1.l
  exact ⟨by rw [a3.1,c1,a1.1],by omega,a3.2.2⟩
theorem transS_n {ps:List (List UInt8)} {s s':PS} {u:Unit} (h:transS ps s=.inl (u,s')):∃ t:TTrans,s'.n=⟨s.n.Places,s.n.Trans++[t]⟩∧s'.l.length≤s.l.length∧t.In.length≤8∧t.Not.length≤8∧t.Out.length≤8:=by
 unfold transS at h
 obtain ⟨nm,s1,q1,h⟩:=bnd_inl h
 obtain ⟨d,s2,q2,h⟩:=bnd_inl h
 obtain ⟨c,s3,q3,h⟩:=bnd_inl h
 obtain ⟨_,s4,q4,h⟩:=bnd_inl h
 obtain ⟨io,s5,q5,h⟩:=bnd_inl h
 obtain ⟨o,s6,q6,h⟩:=bnd_inl h
 cases h
 have a1:=nameS_n q1
 have a2:=optS_n q2
 have a3:=optS_n q3
 have a4:=want_n q4
 have a5:=inS_n q5 (by simp) (by simp)
 have a6:=outS_n q6 (by simp)
 have l1:s1.l.length≤s.l.length:=by rw [a1.2]; exact nx_len _
 have n4:s4.n=s3.n:=by rw [a4]; rfl
 have l4:s4.l.length≤s3.l.length:=by rw [a4]; exact nx_len _
 have en:s6.n=s.n:=by rw [a6.1,a5.1,n4,a3.1,a2.1,a1.1]
 refine ⟨⟨nm,d,c,io.1,io.2,o⟩,by simp only; rw [en],by simp only; omega,a5.2.2.1,a5.2.2.2,a6.2.2⟩
theorem trans_a {p:List Int} (hp:Bytes p) (hl:p.length≤1000000) {ps:List (List UInt8)} {a:Tparser} {s:PS} (h:AOk p ps a s) {k:Nat} (hk:Sz k s) (hk2:k≤100):SimU p ps (k+1) (p58 (some a)) (transS ps s):=by
 unfold p58 transS
 have hn:=name_a hp hl h (k:=k) hk
 cases hr:nameS s with
 | inr v=>
  obtain ⟨e,x⟩:=v
  rw [hr] at hn
  obtain ⟨v,a1,h1,h2⟩:=hn
  rw [h1]
  simp only [Option.bind_some,bnd]
  rw [optA_bind [64] (some a1) (fun d l=>p58_j6 (v,some a1) l d),opt_d h2.asleep]
  obtain ⟨a2,h3,h4⟩:=j6_d h2.asleep (by have:=h2.n; omega) (v,some a1) 0
  exact ⟨a2,h3,h4.dead h2⟩
 | inl v=>
  obtain ⟨nm,s1⟩:=v
  rw [hr] at hn
  obtain ⟨a1,h1,h2⟩:=hn
  obtain ⟨n1,_⟩:=nameS_n hr
  rw [h1]
  simp only [Option.bind_some,bnd]
  rw [optA_bind [64] (some a1) (fun d l=>p58_j6 (nm,some a1) l d)]
  have hk1:Sz k s1:=by unfold Sz at *; rw [n1]; exact hk
  have ho:=opt_a hp hl h2 [64] hk1
  cases hr2:optS [64] s1 with
  | inr v=>
   obtain ⟨e,x⟩:=v
   rw [hr2] at ho
   obtain ⟨d,a2,h3,h4⟩:=ho
   rw [h3]
   obtain ⟨a3,h5,h6⟩:=j6_d h4.asleep (by have:=h4.n; omega) (nm,some a1) d
   exact ⟨a3,h5,h6.dead h4⟩
  | inl v=>
   obtain ⟨d,s2⟩:=v
   rw [hr2] at ho
   obtain ⟨a2,h3,h4⟩:=ho
   obtain ⟨n2,_⟩:=optS_n hr2
   rw [h3]
   simp only [Option.bind_some,bnd]
   unfold p58_j6
   rw [optA_bind [33] (some a2) (fun c l=>p58_j5 (nm,some a1) d l c)]
   have hk2':Sz k s2:=by unfold Sz at *; rw [n2]; exact hk1
   have ho:=opt_a hp hl h4 [33] hk2'
   cases hr3:optS [33] s2 with
   | inr v=>
    obtain ⟨e,x⟩:=v
    rw [hr3] at ho
    obtain ⟨c,a3,h5,h6⟩:=ho
    rw [h5]
    obtain ⟨a4,h7,h8⟩:=j5_d h6.asleep (by have:=h6.n; omega) (nm,some a1) d c
    exact ⟨a4,h7,h8.dead h6⟩
   | inl v=>
    obtain ⟨c,s3⟩:=v
    rw [hr3] at ho
    obtain ⟨a3,h5,h6⟩:=ho
    obtain ⟨n3,_⟩:=optS_n hr3
    rw [h5]
    simp only [Option.bind_some,bnd]
    unfold p58_j5
    have hk3:Sz k s3:=by unfold Sz at *; rw [n3]; exact hk2'
    have hw:=want_a hp hl h6 [58] (k:=k) hk3
    cases hr4:want [58] s3 with
    | inr v=>
     obtain ⟨e,x⟩:=v
     rw [hr4] at hw
     obtain ⟨a4,h7,h8⟩:=hw
     rw [h7]
     simp only [Option.bind_some]
     rw [in_exit h8.asleep]
     simp only [Option.bind_some]
     rw [out_exit h8.asleep]
     simp only [Option.bind_some]
     rw [app_ok (by have:=h8.n; simp; omega)]
     simp only [Option.bind_some]
     exact ⟨_,rfl,Sl.dead (a:=a4) ⟨rfl,rfl,rfl,by simp,by simp⟩ h8⟩
    | inl v=>
     obtain ⟨u,s4⟩:=v
     rw [hr4] at hw
     obtain ⟨a4,h7,h8⟩:=hw
     have n4:=want_n hr4
     subst n4
     rw [h7]
     simp only [Option.bind_some]
     obtain ⟨a5,i,o,h9,h10⟩:=in_a hp hl (stp s3).l.length true [] [] a4 (stp s3) h8 (Nat.le_refl _) (by simp) (by simp) (K:=k) hk3
     rw [h9]
     simp only [Option.bind_some]
     cases hr5:inS ps (stp s3).l.length true [] [] (stp s3) with
     | inr v=>
      obtain ⟨e,x⟩:=v
      rw [hr5] at h10
      have h10:ADead p e x k a5:=h10
      rw [out_exit h10.asleep]
      simp only [Option.bind_some]
      rw [app_ok (by have:=h10.n; simp; omega)]
      simp only [Option.bind_some]
      exact ⟨_,rfl,Sl.dead (a:=a5) ⟨rfl,rfl,rfl,by simp,by simp⟩ h10⟩
     | inl v=>
      obtain ⟨io,s5⟩:=v
      rw [hr5] at h10
      obtain ⟨rfl,h11,n5,_⟩:=h10
      have hk5:Sz k s5:=by unfold Sz at *; rw [n5]; exact hk3
      obtain ⟨a6,q,h12,h13⟩:=out_a hp hl s5.l.length true [] a5 s5 h11 (Nat.le_refl _) (by simp) (K:=k) hk5
      rw [h12]
      simp only [Option.bind_some]
      cases hr6:outS ps s5.l.length true [] s5 with
      | inr v=>
       obtain ⟨e,x⟩:=v
       rw [hr6] at h13
       have h13:ADead p e x k a6:=h13
       rw [app_ok (by have:=h13.n; simp; omega)]
       simp only [Option.bind_some]
       exact ⟨_,rfl,Sl.dead (a:=a6) ⟨rfl,rfl,rfl,by simp,by simp⟩ h13⟩
      | inl v=>
       obtain ⟨oo,s6⟩:=v
       rw [hr6] at h13
       obtain ⟨rfl,h14,n6,_⟩:=h13
       have hk6:Sz k s6:=by unfold Sz at *; rw [n6]; exact hk5
       have hlen:a6.n.Trans.length≤100:=by rw [h14.n]; unfold Sz at hk6; omega
       rw [app_ok (by simp; omega)]
       simp only [Option.bind_some]
       exact ⟨_,rfl,h14.pp,h14.l,h14.f,by simp only; rw [h14.n],h14.pl,h14.td,h14.wf⟩
theorem j1_d {a:Tparser} (h:Asleep a) (hn:a.n.Places.length≤1000) (u:List UInt8×Option Tparser) (c:Int):∃ a',p40_j1 u (some a) c=some (some a')∧Sl a a':=by
 unfold p40_j1
 simp only [Option.bind_some]
 rw [app_ok (by simp; omega)]
 simp only [Option.bind_some]
 unfold p40_j0
 rw [want_d (a:=⟨a.p,a.l,a.f,⟨a.n.Places++[TPlace.mk u.1 c],a.n.Trans⟩,a.places,a.told⟩) h]
 exact ⟨_,rfl,rfl,rfl,rfl,by simp,by simp⟩
theorem place_a {p:List Int} (hp:Bytes p) (hl:p.length≤1000000) {ps:List (List UInt8)} {a:Tparser} {s:PS} (h:AOk p ps a s) {k:Nat} (hk:Sz k s) (hk2:k≤100):SimU p ps (k+1) (p40_j2 (some a)) (bnd (placeS s) fun _ s=>want [59] s):=by
 unfold p40_j2 placeS
 have hn:=name_a hp hl h (k:=k) hk
 cases hr:nameS s with
 | inr v=>
  obtain ⟨e,x⟩:=v
  rw [hr] at hn
  obtain ⟨v,a1,h1,h2⟩:=hn
  rw [h1]
  simp only [Option.bind_some,bnd]
  rw [optA_bind [61] (some a1) (fun d l=>p40_j1 (v,some a1) l d),opt_d h2.asleep]
  obtain ⟨a2,h3,h4⟩:=j1_d h2.asleep (by have:=h2.n; omega) (v,some a1) 0
  exact ⟨a2,h3,h4.dead h2⟩
 | inl v=>
  obtain ⟨nm,s1⟩:=v
  rw [hr] at hn
  obtain ⟨a1,h1,h2⟩:=hn
  obtain ⟨n1,_⟩:=nameS_n hr
  rw [h1]
  simp only [Option.bind_some,bnd]
  rw [optA_bind [61] (some a1) (fun d l=>p40_j1 (nm,some a1) l d)]
  have hk1:Sz k s1:=by unfold Sz at *; rw [n1]; exact hk
  have ho:=opt_a hp hl h2 [61] hk1
  cases hr2:optS [61] s1 with
  | inr v=>
   obtain ⟨e,x⟩:=v
   rw [hr2] at ho
   obtain ⟨d,a2,h3,h4⟩:=ho
   rw [h3]
   obtain ⟨a3,h5,h6⟩:=j1_d h4.asleep (by have:=h4.n; omega) (nm,some a1) d
   exact ⟨a3,h5,h6.dead h4⟩
  | inl v=>
   obtain ⟨d,s2⟩:=v
   rw [hr2] at ho
   obtain ⟨a2,h3,h4⟩:=ho
   obtain ⟨n2,_⟩:=optS_n hr2
   rw [h3]
   simp only [Option.bind_some,bnd]
   unfold p40_j1
   simp only [Option.bind_some]
   have hk2':Sz k s2:=by unfold Sz at *; rw [n2]; exact hk1
   have hlen:a2.n.Places.length≤100:=by rw [h4.n]; unfold Sz at hk2'; omega
   rw [app_ok (by simp; omega)]
   simp only [Option.bind_some]
   unfold p40_j0
   have h5:AOk p ps ⟨a2.p,a2.l,a2.f,⟨a2.n.Places++[⟨nm,d⟩],a2.n.Trans⟩,a2.places,a2.told⟩ ⟨s2.l,⟨s2.n.Places++[⟨nm,d⟩],s2.n.Trans⟩,s2.told⟩:=
    ⟨h4.pp,h4.l,h4.f,by simp only; rw [h4.n],h4.pl,h4.td,h4.wf⟩
   have hw:=want_a hp hl h5 [59] (k:=k+1) (by unfold Sz at hk2'; simp; omega)
   cases hr3:want [59] ⟨s2.l,⟨s2.n.Places++[⟨nm,d⟩],s2.n.Trans⟩,s2.told⟩ with
   | inr v=>
    obtain ⟨e,x⟩:=v
    rw [hr3] at hw
    obtain ⟨a3,h6,h7⟩:=hw
    rw [h6]
    exact ⟨a3,rfl,h7⟩
   | inl v=>
    obtain ⟨u,s3⟩:=v
    rw [hr3] at hw
    obtain ⟨a3,h6,h7⟩:=hw
    rw [h6]
    exact ⟨a3,rfl,h7⟩
theorem p39_eq (t:TTl) (x:List UInt8):p39 t x=some (decide (t.Kind=1)&&(t.Text==x)):=by
 unfold p39 p39_j0
 by_cases h:t.Kind=1<;>simp [h]
theorem j0_d {a:Tparser} (h:Asleep a):p40_j0 (some a)=some (some a):=by
 unfold p40_j0
 rw [want_d h]; rfl
theorem j2_d {a:Tparser} (h:Asleep a) (hn:a.n.Places.length≤1000):∃ a',p40_j2 (some a)=some (some a')∧Sl a a':=by
 unfold p40_j2
 obtain ⟨v,a1,h1,h2⟩:=name_d h
 rw [h1]
 simp only [Option.bind_some]
 have h':=h.sm h2
 rw [optA_bind [61] (some a1) (fun d l=>p40_j1 (v,some a1) l d),opt_d h']
 obtain ⟨a2,h3,h4⟩:=j1_d h' (by rw [h2.n]; exact hn) (v,some a1) 0
 exact ⟨a2,h3,by rw [h4.pp,h2.pp],by rw [h4.l,h2.l],by rw [h4.f,h2.f],by have:=h4.n; rw [h2.n] at this; exact this⟩
theorem j3_d {a:Tparser} (h:Asleep a) (hn:a.n.Trans.length≤1000):∃ a',p40_j3 (some a)=some (some a')∧Sl a a':=by
 unfold p40_j3 p58
 obtain ⟨v,a1,h1,h2⟩:=name_d h
 rw [h1]
 simp only [Option.bind_some]
 have h':=h.sm h2
 rw [optA_bind [64] (some a1) (fun d l=>p58_j6 (v,some a1) l d),opt_d h']
 obtain ⟨a2,h3,h4⟩:=j6_d h' (by rw [h2.n]; exact hn) (v,some a1) 0
 simp only [Option.bind_some]
 rw [h3]
 simp only [Option.bind_some]
 have ha2:Asleep a2:=⟨by rw [h4.f]; exact h'.1,by rw [h4.l]; exact h'.2.1,by rw [h4.l]; exact h'.2.2⟩
 rw [j0_d ha2]
 exact ⟨a2,rfl,by rw [h4.pp,h2.pp],by rw [h4.l,h2.l],by rw [h4.f,h2.f],by have:=h4.n; rw [h2.n] at this; exact this⟩
theorem item_a {p:List Int} (hp:Bytes p) (hl:p.length≤1000000) {ps:List (List UInt8)} {a:Tparser} {s:PS} (h:AOk p ps a s) {k:Nat} (hk:Sz k s) (hk2:k≤100):SimU p ps (k+1) (p40 (some a)) (itemS ps s):=by
 obtain ⟨t,ts,e1,e2⟩:=h.open
 rw [e1] at h ⊢
 have eh:hd s.l=tokL t:=by rw [e2]; rfl
 have hs:=stp_ok h
 obtain ⟨t2,ts2,e3,e4⟩:=hs.open
 have hks:Sz k (stp s):=hk
 unfold p40 itemS bodyS
 rw [p53_a,eh]
 simp only [Option.bind_some]
 have hnx:nx (t::ts)=t2::ts2:=by
  have:=congrArg Tparser.l e3
  exact this
 rw [hnx] at hs ⊢
 rw [idx0]
 simp only [Option.bind_some]
 rw [p39_eq]
 simp only [Option.bind_some]
 have kwe:∀ x,kw (tokL t) x=(decide (t.Kind=1)&&(t.Text==x)):=fun x=>rfl
 rw [kwe]
 by_cases h1:(decide (t.Kind=1)&&(t.Text==[112,108,97,99,101]))=true
 ·rw [if_pos h1,if_pos h1]
  by_cases h32:s.n.Places.length=32
  ·rw [if_pos (by omega),if_pos h32]
   obtain ⟨b,h3,h4⟩:=fail_a hp hl (s:=stp s) hs e4 (e:=5) (by decide) hks
   have h3:p54 (some ⟨p,t2::ts2,Z4,s.n,a.places,a.told⟩) 5 t2=some (some b):=h3
   rw [h3]
   obtain ⟨b2,h5,h6⟩:=j2_d h4.asleep (by have:=h4.n; omega)
   exact ⟨b2,h5,h6.dead h4⟩
  rw [if_neg (by omega),if_neg h32]
  exact place_a hp hl hs hks hk2
 rw [if_neg h1,if_neg h1,p39_eq,kwe]
 simp only [Option.bind_some]
 by_cases h2:(decide (t.Kind=1)&&(t.Text==[116,114,97,110,115]))=true
 ·rw [if_pos h2,if_pos h2]
  by_cases h32:s.n.Trans.length=32
  ·rw [if_pos (by omega),if_pos h32]
   obtain ⟨b,h3,h4⟩:=fail_a hp hl (s:=stp s) hs e4 (e:=5) (by decide) hks
   have h3:p54 (some ⟨p,t2::ts2,Z4,s.n,a.places,a.told⟩) 5 t2=some (some b):=h3
   rw [h3]
   obtain ⟨b2,h5,h6⟩:=j3_d h4.asleep (by have:=h4.n; omega)
   exact ⟨b2,h5,h6.dead h4⟩
  rw [if_neg (by omega),if_neg h32]
  have ht:=trans_a hp hl hs hks hk2
  unfold p40_j3
  cases hr:transS ps (stp s) with
  | inr v=>
   obtain ⟨e,x⟩:=v
   rw [hr] at ht
   obtain ⟨b,h3,h4⟩:=ht
   have h3:p58 (some ⟨p,t2::ts2,Z4,s.n,a.places,a.told⟩)=some (some b):=h3
   rw [h3]
   exact ⟨b,j0_d h4.asleep,h4⟩
  | inl v=>
   obtain ⟨u,s1⟩:=v
   rw [hr] at ht
   obtain ⟨b,h3,h4⟩:=ht
   have h3:p58 (some ⟨p,t2::ts2,Z4,s.n,a.places,a.told⟩)=some (some b):=h3
   rw [h3]
   have hn1:Sz (k+1) s1:=by
    obtain ⟨t,q1,_⟩:=transS_n hr
    unfold Sz at *
    rw [q1]
    simp
    omega
   have hw:=want_a hp hl h4 [59] (k:=k+1) hn1
   simp only [Option.bind_some,bnd]
   unfold p40_j0
   cases hr3:want [59] s1 with
   | inr v=>
    obtain ⟨e,x⟩:=v
    rw [hr3] at hw
    obtain ⟨a3,h6,h7⟩:=hw
    rw [h6]
    exact ⟨a3,rfl,h7⟩
   | inl v=>
    obtain ⟨u,s3⟩:=v
    rw [hr3] at hw
    obtain ⟨a3,h6,h7⟩:=hw
    rw [h6]
    exact ⟨a3,rfl,h7⟩
 rw [if_neg h2,if_neg h2]
 have ht:=hd_ok e2 h.wf
 have h3:=p54_a hp hl (n:=s.n) (pl:=a.places) (td:=a.told) (l:=t2::ts2) 6 ht
 rw [h3]
 have h4:ADead p 6 (tokL t).at_ k ⟨p,t2::ts2,FF p 6 t.At,s.n,a.places,a.told⟩:=⟨rfl,by simp,rfl,by decide,hk,fun u hu=>(hs.wf.ok (tokL u) (by rw [e4]; exact List.mem_map_of_mem (f:=tokL) hu)).2.2,ht.1⟩
 refine ⟨_,j0_d h4.asleep,?_⟩
 rw [eh]
 exact h4.mono (Nat.le_succ _)
theorem plc_none:∀ {ps:List (List UInt8)} {x:List UInt8},plc ps x=none↔x∉ps
 | [],x=>by simp [plc]
 | y::r,x=>by
  unfold plc
  by_cases h:y=x
  ·simp [h]
  rw [if_neg h,Option.map_eq_none_iff,plc_none]
  simp [Ne.symm h]
end Go.Proofs.Ytloaoofdbilpeaa
namespace Go.Proofs.Ytloaoofdbilpeaa
open Go Go.Am
def NOk (n:TNet):Prop:=n.Places.length≤32∧n.Trans.length≤32∧∀ t,t∈n.Trans→t.In.length≤8∧t.Not.length≤8∧t.Out.length≤8
theorem placeS_n {s s':PS} {u:Unit} (h:placeS s=.inl (u,s')):∃ t:TPlace,s'.n=⟨s.n.Places++[t],s.n.Trans⟩∧s'.l.length≤s.l.length:=by
 unfold placeS at h
 obtain ⟨nm,s1,q1,h⟩:=bnd_inl h
 obtain ⟨d,s2,q2,h⟩:=bnd_inl h
 cases h
 have a1:=nameS_n q1
 have a2:=optS_n q2
 have l1:s1.l.length≤s.l.length:=by rw [a1.2]; exact nx_len _
 have en:s2.n=s.n:=by rw [a2.1,a1.1]
 exact ⟨⟨nm,d⟩,by simp only; rw [en],by simp only; omega⟩
theorem kw_k {t:Tok} {x:List UInt8} (h:kw t x=true):t.k=1:=by
 unfold kw at h
 simp only [Bool.and_eq_true,decide_eq_true_eq] at h
 exact h.1
theorem itemS_n {p:List Int} {ps:List (List UInt8)} {s s':PS} {u:Unit} (hw:WF p s.l) (hn:NOk s.n) (h:itemS ps s=.inl (u,s')):NOk s'.n∧s'.l.length < s.l.length:=by
 unfold itemS at h
 obtain ⟨_,s1,h1,h⟩:=bnd_inl h
 have e:=want_n h
 have l1:s'.l.length≤s1.l.length:=by rw [e]; exact nx_len _
 have n1:s'.n=s1.n:=by rw [e]; rfl
 obtain ⟨b1,b2,b3⟩:=hn
 unfold bodyS er at h1
 split at h1
 ·rename_i hk
  split at h1
  ·cases h1
  have hlt:=hw.shorter (by rw [kw_k hk]; decide)
  obtain ⟨t,q1,q2⟩:=placeS_n h1
  have q2:s1.l.length≤(nx s.l).length:=q2
  refine ⟨?_,by omega⟩
  rw [n1,q1]
  refine ⟨by simp [stp]; omega,b2,b3⟩
 split at h1
 ·rename_i hk
  split at h1
  ·cases h1
  have hlt:=hw.shorter (by rw [kw_k hk]; decide)
  obtain ⟨t,q1,q2,q3⟩:=transS_n h1
  have q2:s1.l.length≤(nx s.l).length:=q2
  refine ⟨?_,by omega⟩
  rw [n1,q1]
  refine ⟨b1,by simp [stp]; omega,fun x hx=>?_⟩
  rcases List.mem_append.1 hx with hx | hx
  ·exact b3 x hx
  rw [List.mem_singleton] at hx; subst hx; exact q3
 cases h1
theorem main_a {p:List Int} (hp:Bytes p) (hl:p.length≤1000000) {ps:List (List UInt8)}:∀ (k:Nat) (a:Tparser) (s:PS),AOk p ps a s→s.l.length≤k→NOk s.n→
  ∃ a',loopC p26_l1 (some a)=some (some a')∧match allS ps k s with
   | .inl n=>a'.f=Z4∧a'.n=n∧NOk n
   | .inr (e,x)=>ADead p e x 33 a':=by
 intro k
 induction k with
 | zero=>
  intro a s h hk
  have:s.l=[]:=List.eq_nil_of_length_eq_zero (by omega)
  exact absurd this h.wf.ne
 | succ k ih=>
  intro a s h hk hn
  rw [allS]
  obtain ⟨t,ts,e1,e2⟩:=h.open
  have eh:hd s.l=tokL t:=by rw [e2]; rfl
  have hbody:p26_l1 (some a)=p26_j2 a (!decide (t.Kind=0)):=by
   unfold p26_l1
   simp only [Option.bind_some]
   rw [if_pos h.err]
   have:a.l=t::ts:=by rw [e1]
   rw [this,idx0]; rfl
  by_cases h0:t.Kind=0
  ·rw [if_pos (by rw [eh]; exact h0)]
   refine ⟨a,loopC_end ?_,h.f,h.n,hn⟩
   rw [hbody]
   unfold p26_j2
   rw [if_neg (by simp [h0])]
  rw [if_neg (by rw [eh]; exact h0)]
  have hb2:p26_l1 (some a)=(p40 (some a)).bind fun u=>some (.inl u):=by
   rw [hbody]
   unfold p26_j2
   rw [if_pos (by simp [h0])]
  have hi:=item_a hp hl h (k:=32) ⟨hn.1,hn.2.1⟩ (by omega)
  cases hr:itemS ps s with
  | inl v=>
   obtain ⟨u,s'⟩:=v
   rw [hr] at hi
   obtain ⟨a1,q1,q2⟩:=hi
   obtain ⟨q3,q4⟩:=itemS_n h.wf hn hr
   obtain ⟨a2,q5,q6⟩:=ih a1 s' q2 (by omega) q3
   exact ⟨a2,loopC_go (by rw [hb2,q1]; rfl) q5,q6⟩
  | inr v=>
   obtain ⟨e,x⟩:=v
   rw [hr] at hi
   obtain ⟨a1,q1,q2⟩:=hi
   refine ⟨a1,loopC_go (by rw [hb2,q1]; rfl) (loopC_end ?_),q2⟩
   unfold p26_l1
   simp only [Option.bind_some]
   rw [if_neg q2.asleep.1]
   rfl
theorem p62_eq {l:List TArc} (h:l.length≤1000):p62 l=some l:=by
 unfold p62
 rw [app_ok (by simp; omega)]; rfl
theorem p41_eq {n:TNet} (h:NOk n):p41 n=some n:=by
 obtain ⟨h1,h2,h3⟩:=h
 unfold p41 p60 p61
 rw [app_ok (by simp; omega),app_ok (by simp; omega)]
 simp only [Option.bind_some,List.nil_append]
 have key:∃ r,loopC (p41_l0 n.Trans) ((0:Int),n.Trans)=some r∧r=n.Trans:=by
  refine loop_cnt n.Trans.length (fun k st=>st=((k:Int),n.Trans)) _ ?_ ?_ rfl
  ·rintro k _ hk rfl
   left
   refine ⟨_,?_,rfl⟩
   unfold p41_l0
   simp only
   have hm:=h3 _ (List.getElem_mem hk)
   rw [if_pos (by omega),idx_get hk]
   simp only [Option.bind_some]
   rw [p62_eq (by omega),p62_eq (by omega),p62_eq (by omega)]
   simp only [Option.bind_some,Int.toNat_natCast]
   rw [wrap64 (by omega) (by omega)]
   simp
   exact List.set_getElem_self hk
  rintro _ rfl
  refine ⟨_,?_,rfl⟩
  unfold p41_l0
  simp only
  rw [if_neg (by omega)]
 obtain ⟨r,k1,rfl⟩:=key
 rw [k1]
 rfl
theorem plc_app:∀ (ps:List (List UInt8)) (y x:List UInt8),plc (ps++[y]) x=match plc ps x with
  | some k=>some k
  | none=>if y=x then some ps.length else none
 | [],y,x=>by simp [plc]
 | z::r,y,x=>by
  simp only [List.cons_append,plc,plc_app r y x]
  by_cases h:z=x
  ·simp [h]
  simp only [if_neg h]
  cases plc r x with
  | some k=>rfl
  | none=>
   by_cases h2:y=x<;>simp [h2]
def PlR (m:List (List UInt8×Int)) (ps:List (List UInt8)):Prop:=(∀ x,mget keS m x=(plc ps x).map (fun k:Nat=>(k:Int)))∧m.length=ps.length
theorem PlR.put {m:List (List UInt8×Int)} {ps:List (List UInt8)} (h:PlR m ps) {y:List UInt8} (hy:y∉ps):PlR (mput keS m y (m.length:Int)) (ps++[y]):=by
 have hn:mget keS m y=none:=by rw [h.1,plc_none.2 hy]; rfl
 refine ⟨fun x=>?_,by rw [mput_new keS y _ m hn]; simp [h.2]⟩
 rw [plc_app]
 by_cases hx:x=y
 ·subst hx
  rw [mget_put_same,plc_none.2 hy]
  simp [h.2]
 rw [mget_put_ne _ hx,h.1 x]
 cases hp:plc ps x with
 | some k=>rfl
 | none=>simp [Ne.symm hx]
theorem names_a {L:List TTl} (hL:L≠[]) (hl:L.length≤10000000) (f:TFault):∃ m,loopC (p26_l0 (L,f) (L.take (L.length - 1))) ((0:Int),[])=some m∧PlR m (placesOf (L.map tokL) []):=by
 have hlen:0 < L.length:=List.length_pos_iff.2 hL
 refine loop_cnt (L.length - 1) (fun i st=>∃ m acc,st=((i:Int),m)∧PlR m acc∧placesOf (L.map tokL) []=placesOf ((L.map tokL).drop i) acc) _ ?_ ?_ ⟨[],[],rfl,⟨fun _=>rfl,rfl⟩,rfl⟩
 ·rintro i _ hi ⟨m,acc,rfl,h1,h2⟩
  left
  have hi1:i < L.length:=by omega
  have hi2:i+1 < L.length:=by omega
  have hd1:(L.map tokL).drop i=tokL L[i]::tokL L[i+1]::(L.map tokL).drop (i+2):=by
   rw [List.drop_eq_getElem_cons (by simpa using hi1),List.drop_eq_getElem_cons (by simpa using hi2)]
   simp
  have hd2:(L.map tokL).drop (i+1)=tokL L[i+1]::(L.map tokL).drop (i+2):=by
   rw [List.drop_eq_getElem_cons (by simpa using hi2)]
   simp
  rw [hd1,placesOf,← hd2] at h2
  refine ⟨(((i+1:Nat):Int),(if kw (tokL L[i]) [112,108,97,99,101]=true∧(tokL L[i+1]).k=1∧(tokL L[i+1]).s∉acc then mput keS m L[i+1].Text (m.length:Int) else m)),?_,_,_,rfl,?_,h2⟩
  ·unfold p26_l0
   simp only
   rw [if_pos (by simp; omega),idx_ok (show (L.take (L.length - 1))[i]? = some L[i] by rw [List.getElem?_take_of_lt hi,List.getElem?_eq_getElem hi1])]
   simp only [Option.bind_some]
   rw [p39_eq]
   simp only [Option.bind_some]
   have hw:IntKind.wrap .i64 ((i:Int)+1)=((i+1:Nat):Int):=by rw [wrap64 (by omega) (by omega)]; rfl
   rw [hw,idx_get hi2]
   simp only [Option.bind_some]
   have kwe:kw (tokL L[i]) [112,108,97,99,101]=(decide (L[i].Kind=1)&&(L[i].Text==[112,108,97,99,101])):=rfl
   rw [kwe]
   have hmem:(mget keS m L[i+1].Text).isSome=true↔L[i+1].Text∈acc:=by
    rw [h1.1]
    cases hp:plc acc L[i+1].Text with
    | none=>simp [plc_none.1 hp]
    | some k=>
     simp
     exact Classical.not_not.1 fun h=>by rw [plc_none.2 h] at hp; cases hp
   by_cases c1:(decide (L[i].Kind=1)&&(L[i].Text==[112,108,97,99,101]))=true
   ·rw [if_pos c1]
    unfold p26_j1
    by_cases c2:L[i+1].Kind=1
    ·rw [if_pos (by simp [c2]),hw,idx_get hi2]
     simp only [Option.bind_some]
     by_cases c3:L[i+1].Text∈acc
     ·rw [if_neg (by rw [hmem.2 c3]; simp),if_neg (fun h=>h.2.2 c3)]
      unfold p26_j0
      rw [hw]
     rw [if_pos (by
      have:(mget keS m L[i+1].Text).isSome=false:=Bool.eq_false_iff.2 fun h=>c3 (hmem.1 h)
      rw [this]; rfl),if_pos ⟨c1,c2,c3⟩]
     unfold p26_j0
     rw [hw]
    rw [if_neg (by simp [c2]),if_neg (fun h=>c2 h.2.1)]
    unfold p26_j0
    rw [hw]
   rw [if_neg c1,if_neg (fun h=>c1 h.1)]
   unfold p26_j1 p26_j0
   rw [hw]; rfl
  split
  ·rename_i hc; exact h1.put hc.2.2
  exact h1
 rintro _ ⟨m,acc,rfl,h1,h2⟩
 refine ⟨m,?_,?_⟩
 ·unfold p26_l0
  simp only
  rw [if_neg (by simp)]
 rw [h2]
 have:(L.map tokL).drop (L.length - 1)=[tokL L[L.length - 1]]:=by
  rw [List.drop_eq_getElem_cons (by simp; omega),List.drop_eq_nil_of_le (by simp; omega)]
  simp
 rw [this]
 exact h1
theorem p26_eq {p:List Int} (hp:Bytes p) (hl:p.length≤1000000):∃ L e a,LexR p 0 [] (L,e,a)∧
  ((e=0∧WF p L∧match parseS L with
   | .inl n=>NOk n∧p26 p=some (n,Z4)
   | .inr (e,x)=>e≠0∧(∃ i:Nat,i≤p.length∧x=(i:Int))∧p26 p=some (⟨[],[]⟩,FF p e x))∨
   (e≠0∧(∃ i:Nat,i≤p.length∧a=(i:Int))∧p26 p=some (⟨[],[]⟩,FF p e a))):=by
 obtain ⟨r,h1,L,e,a,h2,h3⟩:=p18_eq hp hl
 refine ⟨L,e,a,h2,?_⟩
 unfold p26
 rw [h1]
 simp only [Option.bind_some]
 rcases h3 with ⟨rfl,h4,h5⟩ | ⟨h4,i,h5,rfl,rfl⟩
 ·left
  have hw:=lex_wf hp hl h2
  refine ⟨rfl,hw,?_⟩
  rw [h4]
  rw [if_neg (by simp)]
  have hne:r.1≠[]:=fun h=>by rw [h] at h5; exact hw.ne h5.symm
  have hlen:0 < r.1.length:=List.length_pos_iff.2 hne
  have hlen2:r.1.length≤10000000:=by
   have:=lexR_count h2 (Nat.zero_le _) (Nat.le_refl _)
   simp only at this
   rw [← h5,List.length_map] at this
   omega
  have hwr:IntKind.wrap .i64 ((r.1.length:Int) - 1)=((r.1.length - 1:Nat):Int):=by rw [wrap64 (by omega) (by omega)]; omega
  have hs:slc r.1 0 (IntKind.wrap .i64 ((r.1.length:Int) - 1))=some (r.1.take (r.1.length - 1)):=by
   rw [hwr]
   have:=slc_ok (l:=r.1) (i:=0) (j:=r.1.length - 1) (by omega) (by omega)
   simpa using this
  rw [hs]
  simp only [Option.bind_some]
  obtain ⟨m,q1,q2⟩:=names_a hne hlen2 r.2
  rw [q1]
  simp only [Option.bind_some]
  have h0:AOk p (placesOf L []) ⟨p,r.1,Z4,⟨[],[]⟩,m,[]⟩ ⟨L,⟨[],[]⟩,[]⟩:=by
   refine ⟨rfl,h5,rfl,rfl,?_,fun x=>?_,hw⟩
   ·rw [← h5]; exact q2.1
   simp [mget]
  obtain ⟨a',g1,g2⟩:=main_a hp hl L.length _ _ h0 (Nat.le_refl _) ⟨by simp,by simp,fun t ht=>by cases ht⟩
  rw [g1]
  simp only [Option.bind_some]
  unfold parseS
  cases hr:allS (placesOf L []) L.length ⟨L,⟨[],[]⟩,[]⟩ with
  | inl n=>
   rw [hr] at g2
   obtain ⟨g2,rfl,g3⟩:=g2
   refine ⟨g3,?_⟩
   rw [g2,if_neg (by simp),p41_eq g3]
   rfl
  | inr v=>
   obtain ⟨e,x⟩:=v
   rw [hr] at g2
   have g2:ADead p e x 33 a':=g2
   refine ⟨g2.e,g2.xa,?_⟩
   rw [if_pos (by simpa using g2.asleep.1),g2.f]
 right
 refine ⟨h4,⟨i,h5,rfl⟩,?_⟩
 rw [if_pos (by simpa using h4)]
 simp [FF]
end Go.Proofs.Ytloaoofdbilpeaa
namespace Go.Proofs.Ytloaoofdbilpeaa
open Go Go.Am
def lexF (p:List Int):Nat→Nat→List Tok→Option (List Tok×Int×Int)
 | 0,_,_=>none
 | k+1,i,l=>if i < p.length then (match stepS p i with
   | .inl (j,t)=>lexF p k j (l++t)
   | .inr e=>some ([],e,(i:Int)))
  else if i=p.length then some (l++[⟨0,[],0,(p.length:Int)⟩],0,0) else none
theorem lexF_ok {p:List Int}:∀ {k i:Nat} {l:List Tok} {r:List Tok×Int×Int},lexF p k i l=some r→LexR p i l r
 | 0,i,l,r,h=>by cases h
 | k+1,i,l,r,h=>by
  rw [lexF] at h
  split at h
  ·rename_i hi
   split at h
   ·rename_i j t hs
    exact .go hi hs (lexF_ok h)
   rename_i e hs
   cases h
   exact .err hi hs
  split at h
  ·rename_i hi
   cases h
   exact .done hi
  cases h
def parseF (p:List Int):TNet⊕(Int×Int):=match lexF p (p.length+1) 0 [] with
 | some (L,e,a)=>if e=0 then parseS L else .inr (e,a)
 | none=>.inr (0,0)
theorem p26_ok {p:List Int} (hp:Bytes p) (hl:p.length≤1000000) {n:TNet} (h:parseF p=.inl n):p26 p=some (n,Z4)∧NOk n:=by
 unfold parseF at h
 split at h
 ·rename_i L e a hL
  split at h
  ·rename_i he
   subst he
   obtain ⟨L',e',a',h1,h2⟩:=p26_eq hp hl
   have hd:=LexR.det (lexF_ok hL) h1
   simp only [Prod.mk.injEq] at hd
   obtain ⟨rfl,rfl,rfl⟩:=hd
   rcases h2 with ⟨_,_,h3⟩ | ⟨h3,_⟩
   ·rw [h] at h3; exact ⟨h3.2,h3.1⟩
   exact absurd rfl h3
  cases h
 cases h
theorem bytes_str (s:List UInt8):Bytes (strI s):=by
 intro c hc
 unfold strI at hc
 obtain ⟨b,_,rfl⟩:=List.mem_map.1 hc
 have:=b.toNat_lt
 omega
theorem bytesI_ok {s:List UInt8} (h:s.length≤1000000000):bytesI s=some (strI s):=by
 unfold bytesI roomCells
 rw [if_pos (by omega)]; rfl
def ex0:List UInt8:=[112,108,97,99,101,32,112,32,61,32,49,59,32,116,114,97,110,115,32,116,32,64,50,58,32,112,32,45,62,32,112,59]
theorem p25_eq:p25=some true:=by
 have h:p26 (strI ex0)=some (⟨[⟨[112],1⟩],[⟨[116],2,0,[⟨0,1⟩],[],[⟨0,1⟩]⟩]⟩,Z4):=(p26_ok (bytes_str ex0) (by decide) (by kernel_rfl)).1
 unfold p25
 have e:strI ex0=[(112:Int),(108:Int),(97:Int),(99:Int),(101:Int),(32:Int),(112:Int),(32:Int),(61:Int),(32:Int),(49:Int),(59:Int),(32:Int),(116:Int),(114:Int),(97:Int),(110:Int),(115:Int),(32:Int),(116:Int),(32:Int),(64:Int),(50:Int),(58:Int),(32:Int),(112:Int),(32:Int),(45:Int),(62:Int),(32:Int),(112:Int),(59:Int)]:=rfl
 rw [← e,h]
 rfl
end Go.Proofs.Ytloaoofdbilpeaa
namespace Go.Proofs.Ytloaoofdbilpeaa
open Go Go.Am
def ArcsOk (m:Nat) (l:List TArc):Prop:=(∀ a,a∈l→1≤a.N∧a.N≤1000000∧0≤a.Place∧a.Place < (m:Int))∧l.Pairwise fun a b=>a.Place≠b.Place
def NameOk (x:List UInt8):Prop:=(∀ i,i < x.length→okAt (strI x) i=true)∧x≠[]∧x.length≤12
def TrOk (m:Nat) (t:TTrans):Prop:=(0≤t.Delay∧t.Delay≤1000000)∧(0≤t.Prio∧t.Prio≤1000000)∧ArcsOk m t.In∧ArcsOk m t.Not∧ArcsOk m t.Out
def nms (n:TNet):List (List UInt8):=n.Places.map TPlace.Name++n.Trans.map TTrans.Name
structure NGood (m:Nat) (n:TNet):Prop where
 nd:(nms n).Nodup
 nm:∀ x,x∈nms n→NameOk x
 tk:∀ p,p∈n.Places→0≤p.Tokens∧p.Tokens≤1000000
 tr:∀ t,t∈n.Trans→TrOk m t
theorem numS_r {m v:Int} {s s':PS} (h:numS m s=.inl (v,s')):m≤v∧v≤1000000∧(hd s.l).k=2:=by
 unfold numS er at h
 split at h
 ·rename_i hk
  split at h
  ·cases h
  rename_i h2; cases h; exact ⟨by omega,by omega,hk⟩
 cases h
theorem optS_r {x:List UInt8} {v:Int} {s s':PS} (h:optS x s=.inl (v,s')):0≤v∧v≤1000000:=by
 unfold optS at h
 split at h
 ·have:=numS_r h; exact ⟨this.1,this.2.1⟩
 cases h; exact ⟨by decide,by decide⟩
theorem plc_lt:∀ {ps:List (List UInt8)} {x:List UInt8} {k:Nat},plc ps x=some k→k < ps.length
 | [],x,k,h=>by cases h
 | y::r,x,k,h=>by
  unfold plc at h
  split at h
  ·cases h; simp
  rw [Option.map_eq_some_iff] at h
  obtain ⟨j,h1,rfl⟩:=h
  have:=plc_lt h1
  simp
  omega
theorem arcS_g {ps:List (List UInt8)} {l v:List TArc} {s s':PS} (h:arcS ps l s=.inl (v,s')) (hl:ArcsOk ps.length l):ArcsOk ps.length v:=by
 unfold arcS er at h
 split at h
 ·split at h
  ·cases h
  rename_i k hk
  have hk:=plc_lt hk
  split at h
  ·cases h
  rename_i hany
  have hne:∀ a,a∈l→a.Place≠(k:Int):=fun a ha he=>hany (by rw [List.any_eq_true]; exact ⟨a,ha,by simpa using he⟩)
  have key:∀ w:Int,1≤w→w≤1000000→ArcsOk ps.length (l++[⟨(k:Int),w⟩]):=by
   intro w w1 w2
   refine ⟨fun a ha=>?_,?_⟩
   ·rcases List.mem_append.1 ha with ha | ha
    ·exact hl.1 a ha
    rw [List.mem_singleton] at ha; subst ha
    exact ⟨w1,w2,by simp,by simp; omega⟩
   rw [List.pairwise_append]
   refine ⟨hl.2,by simp,fun a ha b hb=>?_⟩
   rw [List.mem_singleton] at hb; subst hb
   exact hne a ha
  split at h
  ·cases h
  split at h
  ·obtain ⟨n,s1,h1,h2⟩:=bnd_inl h
   cases h2
   have:=numS_r h1
   exact key n this.1 this.2.1
  cases h
  exact key 1 (by decide) (by decide)
 cases h
theorem one2_g {ps:List (List UInt8)} {ins nots:List TArc} {s s':PS} {q:List TArc×List TArc} (h:one2 ps ins nots s=.inl (q,s')) (hi:ArcsOk ps.length ins) (hn:ArcsOk ps.length nots):ArcsOk ps.length q.1∧ArcsOk ps.length q.2:=by
 unfold one2 at h
 split at h
 ·obtain ⟨v,s1,h1,h2⟩:=bnd_inl h
  cases h2
  exact ⟨hi,arcS_g h1 hn⟩
 obtain ⟨v,s1,h1,h2⟩:=bnd_inl h
 cases h2
 exact ⟨arcS_g h1 hi,hn⟩
theorem inS_g {ps:List (List UInt8)}:∀ {k:Nat} {b:Bool} {ins nots:List TArc} {s s':PS} {q:List TArc×List TArc},inS ps k b ins nots s=.inl (q,s')→ArcsOk ps.length ins→ArcsOk ps.length nots→ArcsOk ps.length q.1∧ArcsOk ps.length q.2
 | 0,b,ins,nots,s,s',q,h,_,_=>by unfold inS er at h; cases h
 | k+1,b,ins,nots,s,s',q,h,hi,hn=>by
  rw [inS_succ] at h
  split at h
  ·cases h; exact ⟨hi,hn⟩
  obtain ⟨_,s1,h1,h⟩:=bnd_inl h
  obtain ⟨v,s2,h2,h⟩:=bnd_inl h
  have a2:=one2_g h2 hi hn
  exact inS_g h a2.1 a2.2
theorem outS_g {ps:List (List UInt8)}:∀ {k:Nat} {b:Bool} {outs:List TArc} {s s':PS} {q:List TArc},outS ps k b outs s=.inl (q,s')→ArcsOk ps.length outs→ArcsOk ps.length q
 | 0,b,outs,s,s',q,h,_=>by unfold outS er at h; cases h
 | k+1,b,outs,s,s',q,h,hi=>by
  rw [outS] at h
  split at h
  ·cases h; exact hi
  obtain ⟨_,s1,h1,h⟩:=bnd_inl h
  obtain ⟨v,s2,h2,h⟩:=bnd_inl h
  exact outS_g h (arcS_g h2 hi)
def E (l:List Tok):Prop:=∀ t,t∈l.dropLast→t.k≠0
structure Pres (s s':PS):Prop where
 po:∀ acc,placesOf s.l acc=placesOf s'.l acc
 e:E s.l→E s'.l
theorem Pres.rfl' (s:PS):Pres s s:=⟨fun _=>rfl,id⟩
theorem Pres.trans {a b c:PS} (x:Pres a b) (y:Pres b c):Pres a c:=⟨fun acc=>(x.po acc).trans (y.po acc),fun h=>y.e (x.e h)⟩
theorem E.nx:∀ {l:List Tok},E l→E (nx l)
 | [],h=>h
 | [_],h=>h
 | a::b::r,h=>fun t ht=>h t (by rw [List.dropLast_cons_of_ne_nil (by simp)]; exact List.mem_cons_of_mem _ ht)
theorem skip_po:∀ {l:List Tok} (acc:List (List UInt8)),(kw (hd l) [112,108,97,99,101]=false∨(hd (nx l)).k≠1)→placesOf l acc=placesOf (nx l) acc
 | [],acc,_=>rfl
 | [_],acc,_=>rfl
 | a::b::r,acc,h=>by
  rw [placesOf]
  have:¬ (kw a [112,108,97,99,101]=true∧b.k=1∧b.s∉acc):=by
   rintro ⟨h1,h2,_⟩
   rcases h with h | h
   ·have h:kw a [112,108,97,99,101]=false:=h
    rw [h] at h1; cases h1
   exact h h2
  rw [if_neg this]; rfl
theorem kw_not {t:Tok} (x:List UInt8) (h:t.k≠1):kw t x=false:=by
 unfold kw; simp [h]
theorem Pres.stp {s:PS} (h:(hd s.l).k≠1∨(hd (Proofs.Ytloaoofdbilpeaa.nx s.l)).k≠1):Pres s (stp s):=
 ⟨fun acc=>skip_po acc (h.imp (fun h=>kw_not _ h) id),E.nx⟩
theorem isS_k {s:PS} {x:List UInt8} (h:isS s x=true):(hd s.l).k=3:=by
 unfold isS at h
 simp only [Bool.and_eq_true,decide_eq_true_eq] at h
 exact h.1
theorem want_k {x:List UInt8} {s s':PS} {u:Unit} (h:want x s=.inl (u,s')):(hd s.l).k=3:=by
 unfold want er at h
 split at h
 ·rename_i h1; exact isS_k h1
 cases h
theorem want_p {x:List UInt8} {s s':PS} {u:Unit} (h:want x s=.inl (u,s')):Pres s s':=by
 have:=want_n h
 subst this
 exact Pres.stp (.inl (by rw [want_k h]; decide))
theorem numS_p {m v:Int} {s s':PS} (h:numS m s=.inl (v,s')):Pres s s':=by
 have:=numS_n h
 subst this
 exact Pres.stp (.inl (by rw [(numS_r h).2.2]; decide))
theorem optS_p {x:List UInt8} {v:Int} {s s':PS} (h:optS x s=.inl (v,s')):Pres s s'∧((hd s'.l).k=3→(hd s.l).k=3):=by
 unfold optS at h
 split at h
 ·rename_i h1
  have hk:=isS_k h1
  exact ⟨(Pres.stp (.inl (by rw [hk]; decide))).trans (numS_p h),fun _=>hk⟩
 cases h; exact ⟨Pres.rfl' _,id⟩
theorem nameS_p {v:List UInt8} {s s':PS} (h:nameS s=.inl (v,s')) (h3:(hd s'.l).k=3):Pres s s':=by
 have:=(nameS_n h).2
 rw [this] at h3
 have q:Pres s (stp s):=Pres.stp (.inr (by rw [h3]; decide))
 exact ⟨fun acc=>by rw [q.po acc,this]; rfl,fun he=>by rw [this]; exact q.e he⟩
theorem arcS_p {ps:List (List UInt8)} {l v:List TArc} {s s':PS} (h:arcS ps l s=.inl (v,s')) (h3:(hd s'.l).k=3):Pres s s':=by
 unfold arcS er at h
 split at h
 ·split at h
  ·cases h
  split at h
  ·cases h
  split at h
  ·cases h
  split at h
  ·rename_i h1
   obtain ⟨n,s1,h2,h4⟩:=bnd_inl h
   cases h4
   have hk:=isS_k h1
   have q1:Pres s (stp s):=Pres.stp (.inr (by show (hd (stp s).l).k≠1; rw [hk]; decide))
   have q2:Pres (stp s) (stp (stp s)):=Pres.stp (.inl (by rw [hk]; decide))
   exact (q1.trans q2).trans (numS_p h2)
  cases h
  exact Pres.stp (.inr (by show (hd (stp s).l).k≠1; rw [h3]; decide))
 cases h
theorem sepS_p {b:Bool} {s s':PS} {u:Unit} (h:sepS b s=.inl (u,s')):Pres s s'∧(b=false→(hd s.l).k=3):=by
 unfold sepS at h
 split at h
 ·rename_i hb; cases h; exact ⟨Pres.rfl' _,fun h=>by rw [h] at hb; cases hb⟩
 exact ⟨want_p h,fun _=>want_k h⟩
theorem one2_p {ps:List (List UInt8)} {ins nots:List TArc} {s s':PS} {q:List TArc×List TArc} (h:one2 ps ins nots s=.inl (q,s')) (h3:(hd s'.l).k=3):Pres s s':=by
 unfold one2 at h
 split at h
 ·rename_i h0
  obtain ⟨v,s1,h1,h2⟩:=bnd_inl h
  cases h2
  exact (Pres.stp (.inl (by rw [isS_k h0]; decide))).trans (arcS_p h1 h3)
 obtain ⟨v,s1,h1,h2⟩:=bnd_inl h
 cases h2
 exact arcS_p h1 h3
theorem inS_p {ps:List (List UInt8)}:∀ {k:Nat} {b:Bool} {ins nots:List TArc} {s s':PS} {q:List TArc×List TArc},inS ps k b ins nots s=.inl (q,s')→Pres s s'∧(b=false→(hd s.l).k=3)
 | 0,b,ins,nots,s,s',q,h=>by unfold inS er at h; cases h
 | k+1,b,ins,nots,s,s',q,h=>by
  rw [inS_succ] at h
  split at h
  ·rename_i h0
   cases h
   have hk:=isS_k h0
   exact ⟨Pres.stp (.inl (by rw [hk]; decide)),fun _=>hk⟩
  obtain ⟨_,s1,h1,h⟩:=bnd_inl h
  obtain ⟨v,s2,h2,h⟩:=bnd_inl h
  have a1:=sepS_p h1
  have a3:=inS_p h
  exact ⟨(a1.1.trans (one2_p h2 (a3.2 rfl))).trans a3.1,a1.2⟩
theorem outS_p {ps:List (List UInt8)}:∀ {k:Nat} {b:Bool} {outs:List TArc} {s s':PS} {q:List TArc},outS ps k b outs s=.inl (q,s')→Pres s s'∧(b=false→(hd s.l).k=3)
 | 0,b,outs,s,s',q,h=>by unfold outS er at h; cases h
 | k+1,b,outs,s,s',q,h=>by
  rw [outS] at h
  split at h
  ·rename_i h0
   cases h
   exact ⟨Pres.rfl' _,fun _=>isS_k h0⟩
  obtain ⟨_,s1,h1,h⟩:=bnd_inl h
  obtain ⟨v,s2,h2,h⟩:=bnd_inl h
  have a1:=sepS_p h1
  have a3:=outS_p h
  exact ⟨(a1.1.trans (arcS_p h2 (a3.2 rfl))).trans a3.1,a1.2⟩
structure It (p:List Int) (ps:List (List UInt8)) (s:PS):Prop where
 wf:WF p s.l
 e:E s.l
 len:NOk s.n
 perm:(nms s.n).Perm s.told
 nd:s.told.Nodup
 nm:∀ x,x∈s.told→NameOk x
 tk:∀ q,q∈s.n.Places→0≤q.Tokens∧q.Tokens≤1000000
 tr:∀ t,t∈s.n.Trans→TrOk ps.length t
 po:placesOf s.l (s.n.Places.map TPlace.Name)=ps
theorem nameS_g {p:List Int} {v:List UInt8} {s s':PS} (hw:WF p s.l) (h:nameS s=.inl (v,s')):NameOk v∧v∉s.told∧s'.told=s.told++[v]∧(hd s.l).s=v∧(hd s.l).k=1:=by
 unfold nameS er at h
 split at h
 ·rename_i hk
  split at h
  ·rename_i h2
   cases h
   have:=hw.hd_ok.2.1 hk
   exact ⟨⟨this.1,this.2,h2.1⟩,h2.2,rfl,rfl,hk⟩
  cases h
 cases h
theorem want_wf {p:List Int} {x:List UInt8} {s s':PS} {u:Unit} (hw:WF p s.l) (h:want x s=.inl (u,s')):WF p s'.l:=by
 rw [want_n h]; exact hw.nx
theorem numS_wf {p:List Int} {m v:Int} {s s':PS} (hw:WF p s.l) (h:numS m s=.inl (v,s')):WF p s'.l:=by
 rw [numS_n h]; exact hw.nx
theorem optS_wf {p:List Int} {x:List UInt8} {v:Int} {s s':PS} (hw:WF p s.l) (h:optS x s=.inl (v,s')):WF p s'.l:=by
 unfold optS at h
 split at h
 ·exact numS_wf (s:=stp s) hw.nx h
 cases h; exact hw
theorem arcS_wf {p:List Int} {ps:List (List UInt8)} {l v:List TArc} {s s':PS} (hw:WF p s.l) (h:arcS ps l s=.inl (v,s')):WF p s'.l:=by
 unfold arcS er at h
 split at h
 ·split at h
  ·cases h
  split at h
  ·cases h
  split at h
  ·cases h
  split at h
  ·obtain ⟨n,s1,h2,h4⟩:=bnd_inl h
   cases h4
   exact numS_wf (s:=stp (stp s)) hw.nx.nx h2
  cases h; exact hw.nx
 cases h
theorem sepS_wf {p:List Int} {b:Bool} {s s':PS} {u:Unit} (hw:WF p s.l) (h:sepS b s=.inl (u,s')):WF p s'.l:=by
 unfold sepS at h
 split at h
 ·cases h; exact hw
 exact want_wf hw h
theorem inS_wf {p:List Int} {ps:List (List UInt8)}:∀ {k:Nat} {b:Bool} {ins nots:List TArc} {s s':PS} {q:List TArc×List TArc},WF p s.l→inS ps k b ins nots s=.inl (q,s')→WF p s'.l
 | 0,b,ins,nots,s,s',q,hw,h=>by unfold inS er at h; cases h
 | k+1,b,ins,nots,s,s',q,hw,h=>by
  rw [inS_succ] at h
  split at h
  ·cases h; exact hw.nx
  obtain ⟨_,s1,h1,h⟩:=bnd_inl h
  obtain ⟨v,s2,h2,h⟩:=bnd_inl h
  refine inS_wf ?_ h
  have w1:=sepS_wf hw h1
  unfold one2 at h2
  split at h2
  ·obtain ⟨v,s3,h3,h4⟩:=bnd_inl h2
   cases h4
   exact arcS_wf (s:=stp s1) w1.nx h3
  obtain ⟨v,s3,h3,h4⟩:=bnd_inl h2
  cases h4
  exact arcS_wf w1 h3
theorem outS_wf {p:List Int} {ps:List (List UInt8)}:∀ {k:Nat} {b:Bool} {outs:List TArc} {s s':PS} {q:List TArc},WF p s.l→outS ps k b outs s=.inl (q,s')→WF p s'.l
 | 0,b,outs,s,s',q,hw,h=>by unfold outS er at h; cases h
 | k+1,b,outs,s,s',q,hw,h=>by
  rw [outS] at h
  split at h
  ·cases h; exact hw
  obtain ⟨_,s1,h1,h⟩:=bnd_inl h
  obtain ⟨v,s2,h2,h⟩:=bnd_inl h
  exact outS_wf (arcS_wf (sepS_wf hw h1) h2) h
theorem two_toks {p:List Int} {l:List Tok} (hw:WF p l) (hk:(hd l).k≠0):∃ a b r,l=a::b::r:=by
 cases l with
 | nil=>exact absurd rfl hw.ne
 | cons a l=>
  cases l with
  | nil=>exact absurd (hw.last a rfl) hk
  | cons b r=>exact ⟨a,b,r,rfl⟩
theorem arcS_told {ps:List (List UInt8)} {l v:List TArc} {s s':PS} (h:arcS ps l s=.inl (v,s')):s'.told=s.told:=by
 unfold arcS er at h
 split at h
 ·split at h
  ·cases h
  split at h
  ·cases h
  split at h
  ·cases h
  split at h
  ·obtain ⟨n,s1,h1,h2⟩:=bnd_inl h
   cases h2
   rw [numS_n h1]; rfl
  cases h
  rfl
 cases h
theorem sepS_told {b:Bool} {s s':PS} {u:Unit} (h:sepS b s=.inl (u,s')):s'.told=s.told:=by
 unfold sepS at h
 split at h
 ·cases h; rfl
 rw [want_n h]; rfl
theorem inS_told {ps:List (List UInt8)}:∀ {k:Nat} {b:Bool} {ins nots:List TArc} {s s':PS} {q:List TArc×List TArc},inS ps k b ins nots s=.inl (q,s')→s'.told=s.told
 | 0,b,ins,nots,s,s',q,h=>by unfold inS er at h; cases h
 | k+1,b,ins,nots,s,s',q,h=>by
  rw [inS_succ] at h
  split at h
  ·cases h; rfl
  obtain ⟨_,s1,h1,h⟩:=bnd_inl h
  obtain ⟨v,s2,h2,h⟩:=bnd_inl h
  have t2:s2.told=s1.told:=by
   unfold one2 at h2
   split at h2
   ·obtain ⟨v,s3,h3,h4⟩:=bnd_inl h2
    cases h4
    exact arcS_told (s:=stp s1) h3
   obtain ⟨v,s3,h3,h4⟩:=bnd_inl h2
   cases h4
   exact arcS_told h3
  rw [inS_told h,t2,sepS_told h1]
theorem outS_told {ps:List (List UInt8)}:∀ {k:Nat} {b:Bool} {outs:List TArc} {s s':PS} {q:List TArc},outS ps k b outs s=.inl (q,s')→s'.told=s.told
 | 0,b,outs,s,s',q,h=>by unfold outS er at h; cases h
 | k+1,b,outs,s,s',q,h=>by
  rw [outS] at h
  split at h
  ·cases h; rfl
  obtain ⟨_,s1,h1,h⟩:=bnd_inl h
  obtain ⟨v,s2,h2,h⟩:=bnd_inl h
  rw [outS_told h,arcS_told h2,sepS_told h1]
theorem it_step {p:List Int} {ps:List (List UInt8)} {s s':PS} {u:Unit} (I:It p ps s) (h:itemS ps s=.inl (u,s')):It p ps s':=by
 have hlen:=(itemS_n I.wf I.len h).1
 unfold itemS at h
 obtain ⟨_,s1,h1,h⟩:=bnd_inl h
 have e0:=want_n h
 have k1:=want_k h
 have p1:=want_p h
 unfold bodyS er at h1
 split at h1
 ·rename_i hk
  split at h1
  ·cases h1
  have hk1:=kw_k hk
  obtain ⟨a,b,r,el⟩:=two_toks I.wf (by rw [hk1]; decide)
  unfold placeS at h1
  obtain ⟨nm,s2,q1,h1⟩:=bnd_inl h1
  obtain ⟨d,s3,q2,h1⟩:=bnd_inl h1
  cases h1
  have w1:WF p (stp s).l:=I.wf.nx
  obtain ⟨g1,g2,g3,g4,g5⟩:=nameS_g w1 q1
  have g2:nm∉s.told:=g2
  have g3:s2.told=s.told++[nm]:=g3
  have n2:s2.n=s.n:=(nameS_n q1).1
  have n3:s3.n=s.n:=by rw [(optS_n q2).1,n2]
  have t3:s3.told=s.told++[nm]:=by
   unfold optS at q2
   split at q2
   ·rw [numS_n q2]; exact g3
   cases q2; exact g3
  have o:=optS_p q2
  have k2:(hd s2.l).k=3:=o.2 k1
  have pr:=((nameS_p q1 k2).trans o.1).trans (b:=s3) (Pres.rfl' _)
  have hmem:∀ x,x∈s.n.Places.map TPlace.Name→x∈s.told:=fun x hx=>I.perm.mem_iff.1 (by unfold nms; exact List.mem_append_left _ hx)
  have hpo:placesOf s.l (s.n.Places.map TPlace.Name)=placesOf (stp s).l (s.n.Places.map TPlace.Name++[nm]):=by
   rw [el] at hk ⊢
   have e2:(stp s).l=b::r:=by show nx s.l=_; rw [el]; rfl
   rw [e2] at g4 g5 ⊢
   rw [placesOf,if_pos ⟨hk,g5,by rw [show b.s=nm from g4]; exact fun hx=>g2 (hmem _ hx)⟩,show b.s=nm from g4]
  have wf3:=optS_wf (p:=p) (s:=s2) (by rw [(nameS_n q1).2]; exact w1.nx) q2
  refine ⟨?_,?_,hlen,?_,?_,?_,?_,?_,?_⟩
  ·exact want_wf (s:=⟨s3.l,⟨s3.n.Places++[⟨nm,d⟩],s3.n.Trans⟩,s3.told⟩) wf3 h
  ·exact p1.e (pr.e (I.e.nx))
  ·rw [e0]
   show (nms ⟨s3.n.Places++[⟨nm,d⟩],s3.n.Trans⟩).Perm s3.told
   rw [t3,n3]
   unfold nms
   simp only [List.map_append,List.map_cons,List.map_nil,List.append_assoc]
   have:(s.n.Places.map TPlace.Name++([nm]++s.n.Trans.map TTrans.Name)).Perm ((s.n.Places.map TPlace.Name++s.n.Trans.map TTrans.Name)++[nm]):=by
    rw [List.append_assoc]
    exact List.Perm.append_left _ List.perm_append_comm
   exact this.trans (List.Perm.append_right _ I.perm)
  ·rw [e0]
   show s3.told.Nodup
   rw [t3,List.nodup_append]
   exact ⟨I.nd,by simp,fun x hx y hy=>by rw [List.mem_singleton] at hy; subst hy; exact fun he=>g2 (he▸hx)⟩
  ·rw [e0]
   show ∀ x,x∈s3.told→NameOk x
   rw [t3]
   intro x hx
   rcases List.mem_append.1 hx with hx | hx
   ·exact I.nm x hx
   rw [List.mem_singleton] at hx; subst hx; exact g1
  ·rw [e0]
   show ∀ q,q∈s3.n.Places++[TPlace.mk nm d]→_
   rw [n3]
   intro x hx
   rcases List.mem_append.1 hx with hx | hx
   ·exact I.tk x hx
   rw [List.mem_singleton] at hx; subst hx; exact optS_r q2
  ·rw [e0]
   show ∀ t,t∈s3.n.Trans→_
   rw [n3]; exact I.tr
  rw [← p1.po]
  rw [e0]
  show placesOf s3.l ((s3.n.Places++[TPlace.mk nm d]).map TPlace.Name)=ps
  rw [n3,List.map_append,← pr.po]
  rw [← I.po,hpo]; rfl
 split at h1
 ·rename_i hk0 hk
  split at h1
  ·cases h1
  have hk1:=kw_k hk
  unfold transS at h1
  obtain ⟨nm,s2,q1,h1⟩:=bnd_inl h1
  obtain ⟨d,s3,q2,h1⟩:=bnd_inl h1
  obtain ⟨c,s4,q3,h1⟩:=bnd_inl h1
  obtain ⟨_,s5,q4,h1⟩:=bnd_inl h1
  obtain ⟨io,s6,q5,h1⟩:=bnd_inl h1
  obtain ⟨oo,s7,q6,h1⟩:=bnd_inl h1
  cases h1
  have w1:WF p (stp s).l:=I.wf.nx
  obtain ⟨g1,g2,g3,g4,g5⟩:=nameS_g w1 q1
  have g2:nm∉s.told:=g2
  have g3:s2.told=s.told++[nm]:=g3
  have n2:s2.n=s.n:=(nameS_n q1).1
  have w2:WF p s2.l:=by rw [(nameS_n q1).2]; exact w1.nx
  have w3:=optS_wf w2 q2
  have w4:=optS_wf w3 q3
  have w5:=want_wf w4 q4
  have w6:=inS_wf w5 q5
  have w7:=outS_wf w6 q6
  have n5:s5.n=s4.n:=by rw [want_n q4]; rfl
  have n7:s7.n=s.n:=by rw [(outS_n q6 (by simp)).1,(inS_n q5 (by simp) (by simp)).1,n5,(optS_n q3).1,(optS_n q2).1,n2]
  have to:∀ {x:List UInt8} {v:Int} {s s':PS},optS x s=.inl (v,s')→s'.told=s.told:=by
   intro x v s s' h
   unfold optS at h
   split at h
   ·rw [numS_n h]; rfl
   cases h; rfl
  have t5:s5.told=s4.told:=by rw [want_n q4]; rfl
  have t7:s7.told=s.told++[nm]:=by rw [outS_told q6,inS_told q5,t5,to q3,to q2,g3]
  have o4:=want_k q4
  have o3:=optS_p q3
  have o2:=optS_p q2
  have k2:(hd s2.l).k=3:=o2.2 (o3.2 o4)
  have sk:Pres s (stp s):=by
   refine ⟨fun acc=>skip_po acc (.inl ?_),E.nx⟩
   cases hq:kw (hd s.l) [112,108,97,99,101] with
   | false=>rfl
   | true=>exact absurd hq hk0
  have pr:Pres s s7:=((((((sk.trans (nameS_p q1 k2)).trans o2.1).trans o3.1).trans (want_p q4)).trans (inS_p q5).1).trans (outS_p q6).1)
  have ai:=inS_g q5 ⟨by simp,by simp⟩ ⟨by simp,by simp⟩
  have ao:=outS_g q6 ⟨by simp,by simp⟩
  refine ⟨?_,?_,hlen,?_,?_,?_,?_,?_,?_⟩
  ·exact want_wf (s:=⟨s7.l,⟨s7.n.Places,s7.n.Trans++[⟨nm,d,c,io.1,io.2,oo⟩]⟩,s7.told⟩) w7 h
  ·exact p1.e (pr.e I.e)
  ·rw [e0]
   show (nms ⟨s7.n.Places,s7.n.Trans++[⟨nm,d,c,io.1,io.2,oo⟩]⟩).Perm s7.told
   rw [t7,n7]
   unfold nms
   simp only [List.map_append,List.map_cons,List.map_nil]
   rw [← List.append_assoc]
   exact List.Perm.append_right _ I.perm
  ·rw [e0]
   show s7.told.Nodup
   rw [t7,List.nodup_append]
   exact ⟨I.nd,by simp,fun x hx y hy=>by rw [List.mem_singleton] at hy; subst hy; exact fun he=>g2 (he▸hx)⟩
  ·rw [e0]
   show ∀ x,x∈s7.told→NameOk x
   rw [t7]
   intro x hx
   rcases List.mem_append.1 hx with hx | hx
   ·exact I.nm x hx
   rw [List.mem_singleton] at hx; subst hx; exact g1
  ·rw [e0]
   show ∀ q,q∈s7.n.Places→_
   rw [n7]; exact I.tk
  ·rw [e0]
   show ∀ t,t∈s7.n.Trans++[TTrans.mk nm d c io.1 io.2 oo]→_
   rw [n7]
   intro x hx
   rcases List.mem_append.1 hx with hx | hx
   ·exact I.tr x hx
   rw [List.mem_singleton] at hx; subst hx
   exact ⟨optS_r q2,optS_r q3,ai.1,ai.2,ao⟩
  rw [← p1.po,e0]
  show placesOf s7.l (s7.n.Places.map TPlace.Name)=ps
  rw [n7,← pr.po,I.po]
 cases h1
theorem all_good {p:List Int} {ps:List (List UInt8)}:∀ {k:Nat} {s:PS} {n:TNet},It p ps s→allS ps k s=.inl n→NOk n∧NGood ps.length n∧ps=n.Places.map TPlace.Name
 | 0,s,n,I,h=>by cases h
 | k+1,s,n,I,h=>by
  rw [allS] at h
  split at h
  ·rename_i h0
   cases h
   refine ⟨I.len,⟨I.perm.nodup_iff.2 I.nd,fun x hx=>I.nm x (I.perm.mem_iff.1 hx),I.tk,I.tr⟩,?_⟩
   have hl:∃ a,s.l=[a]:=by
    cases hl:s.l with
    | nil=>exact absurd hl I.wf.ne
    | cons a l=>
     cases l with
     | nil=>exact ⟨a,rfl⟩
     | cons b r=>
      rw [hl] at h0
      exact absurd h0 (I.e a (by rw [hl,List.dropLast_cons_of_ne_nil (by simp)]; exact List.mem_cons_self ..))
   obtain ⟨a,hl⟩:=hl
   have:=I.po
   rw [hl] at this
   exact this.symm
  split at h
  ·rename_i u s' hi
   exact all_good (it_step I hi) h
  cases h
theorem one_k {p:List Int} {i:Nat} {k n:Int} {e:Nat} (ho:oneS p i=.inl (k,e,n)):k≠0:=by
 unfold oneS at ho
 simp only at ho
 split at ho
 ·cases ho; decide
 split at ho
 ·split at ho<;>cases ho; decide
 split at ho
 ·cases ho; decide
 split at ho<;>cases ho; decide
theorem lex_E' {p:List Int} {i:Nat} {l:List Tok} {r:List Tok×Int×Int} (h:LexR p i l r):(∀ t,t∈l→t.k≠0)→E r.1:=by
 induction h with
 | done e=>
  intro h t ht
  rw [List.dropLast_concat] at ht
  exact h t ht
 | err h1 h2=>intro _ t ht; cases ht
 | @go i j l ts r h1 h2 _ ih=>
  intro h
  refine ih fun t ht=>?_
  rcases List.mem_append.1 ht with ht | ht
  ·exact h t ht
  unfold stepS at h2
  simp only at h2
  split at h2
  ·cases h2; cases ht
  split at h2
  ·cases h2; cases ht
  split at h2
  ·rename_i ho
   cases h2
   rw [List.mem_singleton] at ht
   subst ht
   exact one_k ho
  cases h2
theorem parse_good {p:List Int} (hp:Bytes p) (hl:p.length≤1000000) {L:List Tok} {a:Int} (h:LexR p 0 [] (L,0,a)) {n:TNet} (hn:parseS L=.inl n):NOk n∧NGood n.Places.length n:=by
 have I:It p (placesOf L []) ⟨L,⟨[],[]⟩,[]⟩:=
  ⟨lex_wf hp hl h,lex_E' h (fun t ht=>by cases ht),⟨by simp,by simp,(fun t ht=>by cases ht)⟩,by simp [nms],by simp,(fun x hx=>by cases hx),(fun x hx=>by cases hx),(fun x hx=>by cases hx),rfl⟩
 obtain ⟨h1,h2,h3⟩:=all_good I hn
 rw [h3,List.length_map] at h2
 exact ⟨h1,h2⟩
end Go.Proofs.Ytloaoofdbilpeaa
namespace Go.Proofs.Ytloaoofdbilpeaa
open Go Go.Am
theorem p80_no {n least:Int} (h:least≤n∧n≤1000000):p80 n least=some false:=by
 unfold p80 p80_j0
 rw [if_neg (by omega)]
 simp; omega
theorem p71_no {a b c:List TArc} (ha:a.length≤8) (hb:b.length≤8) (hc:c.length≤8):p71 [a,b,c]=some false:=by
 have hx:∀ x:List TArc,x∈[a,b,c]→x.length≤8:=by
  intro x hx
  simp only [List.mem_cons,List.not_mem_nil,or_false] at hx
  rcases hx with rfl | rfl | rfl<;>assumption
 have key:∃ r,loopC (p86_l0 [a,b,c] (fun y0=>p78 y0)) (0:Int)=some r∧r=.inr ():=by
  refine loop_cnt 3 (fun k st=>st=(k:Int)) _ ?_ ?_ rfl
  ·rintro k _ hk rfl
   left
   refine ⟨_,?_,rfl⟩
   unfold p86_l0
   rw [if_pos (by simp; omega),idx_get (show k < [a,b,c].length from hk)]
   simp only [Option.bind_some]
   unfold p78
   have:=hx _ (List.getElem_mem (show k < [a,b,c].length from hk))
   simp only [Option.bind_some]
   rw [if_neg (by simp; omega),wrap64 (by omega) (by omega)]; rfl
  rintro _ rfl
  refine ⟨_,?_,rfl⟩
  unfold p86_l0
  rw [if_neg (by simp)]
 obtain ⟨r,h1,rfl⟩:=key
 unfold p71 p77 p86
 rw [h1]; rfl
theorem p79_eq {n:TNet} (h:NOk n):p79 n=some (nms n):=by
 obtain ⟨h1,h2,_⟩:=h
 have k1:∃ r,loopC (p79_l0 n) ((0:Int),[])=some r∧r=n.Places.map TPlace.Name:=by
  refine loop_cnt n.Places.length (fun k st=>st=((k:Int),(n.Places.take k).map TPlace.Name)) _ ?_ ?_ rfl
  ·rintro k _ hk rfl
   left
   refine ⟨_,?_,rfl⟩
   unfold p79_l0
   simp only
   rw [if_pos (by omega),idx_get hk]
   simp only [Option.bind_some]
   rw [app_ok (by simp; omega)]
   simp only [Option.bind_some]
   rw [wrap64 (by omega) (by omega),List.take_succ_eq_append_getElem hk,List.map_append]; rfl
  rintro _ rfl
  refine ⟨_,?_,rfl⟩
  unfold p79_l0
  simp only
  rw [if_neg (by omega),List.take_length]
 have k2:∃ r,loopC (p79_l1 n) ((0:Int),n.Places.map TPlace.Name)=some r∧r=nms n:=by
  refine loop_cnt n.Trans.length (fun k st=>st=((k:Int),n.Places.map TPlace.Name++(n.Trans.take k).map TTrans.Name)) _ ?_ ?_ (by simp)
  ·rintro k _ hk rfl
   left
   refine ⟨_,?_,rfl⟩
   unfold p79_l1
   simp only
   rw [if_pos (by omega),idx_get hk]
   simp only [Option.bind_some]
   rw [app_ok (by simp; omega)]
   simp only [Option.bind_some]
   rw [wrap64 (by omega) (by omega),List.take_succ_eq_append_getElem hk,List.map_append,← List.append_assoc]; rfl
  rintro _ rfl
  refine ⟨_,?_,rfl⟩
  unfold p79_l1
  simp only
  rw [if_neg (by omega),List.take_length]; rfl
 obtain ⟨r1,e1,rfl⟩:=k1
 obtain ⟨r2,e2,rfl⟩:=k2
 unfold p79
 rw [e1]
 simp only [Option.bind_some]
 rw [e2]; rfl
theorem p72_yes {n:TNet} {m:Nat} (h:NOk n) (hg:NGood m n):p72 n=some true:=by
 have hlen:(nms n).length≤64:=by
  unfold nms
  have:=h.1
  have:=h.2.1
  simp; omega
 have key:∃ r,loopC (p72_l0 (nms n)) ((0:Int),[])=some r∧r=.inr ():=by
  refine loop_cnt (nms n).length (fun k st=>∃ mp,st=((k:Int),mp)∧∀ x,(mget keS mp x).getD false=decide (x∈(nms n).take k)) _ ?_ ?_ ⟨[],rfl,fun x=>by simp [mget]⟩
  ·rintro k _ hk ⟨mp,rfl,hm⟩
   left
   have hnm:=hg.nm _ (List.getElem_mem hk)
   have hnot:(nms n)[k]∉(nms n).take k:=by
    intro hin
    have hnd:=hg.nd
    rw [← List.take_append_drop k (nms n),List.nodup_append] at hnd
    exact hnd.2.2 _ hin _ (by rw [List.drop_eq_getElem_cons hk]; exact List.mem_cons_self ..) rfl
   refine ⟨_,?_,mput keS mp (nms n)[k] true,rfl,fun x=>?_⟩
   ·unfold p72_l0
    simp only
    rw [if_pos (by omega),idx_get hk]
    simp only [Option.bind_some]
    rw [p23_eq (by have:=hnm.2.2; omega)]
    simp only [Option.bind_some]
    rw [if_neg (by rw [decide_eq_true (p:=_∧_∧_) ⟨hnm.1,hnm.2.1,hnm.2.2⟩]; simp)]
    unfold p72_j0
    rw [hm,if_neg (by simp [hnot]),wrap64 (by omega) (by omega)]; rfl
   rw [List.take_succ_eq_append_getElem hk]
   by_cases hx:x=(nms n)[k]
   ·rw [hx,mget_put_same]
    exact (decide_eq_true (List.mem_append_right _ (List.mem_singleton.2 rfl))).symm
   rw [mget_put_ne _ hx,hm x]
   exact decide_eq_decide.2 ⟨fun h=>List.mem_append_left _ h,fun h=>(List.mem_append.1 h).resolve_right (fun h=>hx (List.mem_singleton.1 h))⟩
  rintro _ ⟨mp,rfl,hm⟩
  refine ⟨_,?_,rfl⟩
  unfold p72_l0
  simp only
  rw [if_neg (by omega)]
 obtain ⟨r,h1,rfl⟩:=key
 unfold p72
 rw [p79_eq h]
 simp only [Option.bind_some]
 rw [h1]; rfl
theorem p87_no {l:List TArc} (hl:l.length≤1000) {e:TArc} (h:∀ a,a∈l→a.Place≠e.Place):p87 l (fun y0=>p88 y0 e)=some false:=by
 have key:∃ r,loopC (p90_l0 l (fun y0=>p88 y0 e)) (0:Int)=some r∧r=.inr ():=by
  refine loop_cnt l.length (fun k st=>st=(k:Int)) _ ?_ ?_ rfl
  ·rintro k _ hk rfl
   left
   refine ⟨_,?_,rfl⟩
   unfold p90_l0
   rw [if_pos (by omega),idx_get hk]
   simp only [Option.bind_some]
   unfold p88
   have:=h _ (List.getElem_mem hk)
   simp only [Option.bind_some]
   rw [if_neg (by simpa using this),wrap64 (by omega) (by omega)]; rfl
  rintro _ rfl
  refine ⟨_,?_,rfl⟩
  unfold p90_l0
  rw [if_neg (by omega)]
 obtain ⟨r,h1,rfl⟩:=key
 unfold p87 p90
 rw [h1]; rfl
theorem p81_no {l:List TArc} (hl:l.length≤1000) {m:Nat} (h:ArcsOk m l):p81 l (m:Int)=some 0:=by
 have key:∃ r,loopC (p81_l0 l (m:Int)) (0:Int)=some r∧r=.inr ():=by
  refine loop_cnt l.length (fun k st=>st=(k:Int)) _ ?_ ?_ rfl
  ·rintro k _ hk rfl
   left
   refine ⟨_,?_,rfl⟩
   unfold p81_l0
   have ha:=h.1 _ (List.getElem_mem hk)
   rw [if_pos (by omega),idx_get hk]
   simp only [Option.bind_some]
   rw [p80_no ⟨ha.1,ha.2.1⟩]
   simp only [Option.bind_some]
   rw [if_neg (by simp),if_neg (by omega)]
   unfold p81_j0
   rw [if_neg (by simp; omega)]
   have hs:=slc_ok (l:=l) (i:=0) (j:=k) (by omega) (by omega)
   have hs:slc l 0 (k:Int)=some (l.take k):=by simpa using hs
   rw [hs]
   simp only [Option.bind_some]
   rw [p87_no (by simp; omega) (fun a ha'=>by
    have hp:=h.2
    rw [← List.take_append_drop k l,List.pairwise_append] at hp
    exact hp.2.2 a ha' l[k] (by rw [List.drop_eq_getElem_cons hk]; exact List.mem_cons_self ..))]
   simp only [Option.bind_some]
   rw [if_neg (by simp),wrap64 (by omega) (by omega)]; rfl
  rintro _ rfl
  refine ⟨_,?_,rfl⟩
  unfold p81_l0
  rw [if_neg (by omega)]
 obtain ⟨r,h1,rfl⟩:=key
 unfold p81
 rw [h1]; rfl
theorem p73_no {n:TNet} (h:NOk n) (hg:NGood n.Places.length n):p73 n=some 0:=by
 obtain ⟨h1,h2,h3⟩:=h
 have k1:∃ r,loopC (p73_l0 n) ((0:Int),(0:Int))=some r∧r=.inr 0:=by
  refine loop_cnt n.Places.length (fun k st=>st=((0:Int),(k:Int))) _ ?_ ?_ rfl
  ·rintro k _ hk rfl
   left
   refine ⟨_,?_,rfl⟩
   unfold p73_l0
   simp only
   have:=hg.tk _ (List.getElem_mem hk)
   rw [if_pos (by omega),idx_get hk]
   simp only [Option.bind_some]
   rw [p80_no this]
   simp only [Option.bind_some]
   rw [if_neg (by simp),wrap64 (by omega) (by omega)]; rfl
  rintro _ rfl
  refine ⟨_,?_,rfl⟩
  unfold p73_l0
  simp only
  rw [if_neg (by omega)]
 have k3:∀ (a b c:List TArc) (y:Int),ArcsOk n.Places.length a→ArcsOk n.Places.length b→ArcsOk n.Places.length c→a.length≤8→b.length≤8→c.length≤8→∃ r,loopC (p73_l1 n) (y,(0:Int),[a,b,c])=some r∧r=.inr y:=by
  intro a b c y ha hb hc la lb lc
  have hx:∀ x:List TArc,x∈[a,b,c]→ArcsOk n.Places.length x∧x.length≤8:=by
   intro x hx
   simp only [List.mem_cons,List.not_mem_nil,or_false] at hx
   rcases hx with rfl | rfl | rfl<;>exact ⟨by assumption,by assumption⟩
  refine loop_cnt 3 (fun k st=>st=(y,(k:Int),[a,b,c])) _ ?_ ?_ rfl
  ·rintro k _ hk rfl
   left
   refine ⟨_,?_,rfl⟩
   unfold p73_l1
   simp only
   rw [if_pos (by simp; omega),idx_get (show k < [a,b,c].length from hk)]
   simp only [Option.bind_some]
   have:=hx _ (List.getElem_mem (show k < [a,b,c].length from hk))
   rw [p81_no (by omega) this.1]
   simp only [Option.bind_some]
   rw [if_neg (by simp),wrap64 (by omega) (by omega)]; rfl
  rintro _ rfl
  refine ⟨_,?_,rfl⟩
  unfold p73_l1
  simp only
  rw [if_neg (by simp)]
 have k2:∃ r,loopC (p73_l2 n) ((0:Int),(0:Int))=some r∧r=.inr ():=by
  refine loop_cnt n.Trans.length (fun k st=>st=((0:Int),(k:Int))) _ ?_ ?_ rfl
  ·rintro k _ hk rfl
   left
   refine ⟨_,?_,rfl⟩
   unfold p73_l2
   simp only
   have ht:=hg.tr _ (List.getElem_mem hk)
   have hs:=h3 _ (List.getElem_mem hk)
   rw [if_pos (by omega),idx_get hk]
   simp only [Option.bind_some]
   rw [p80_no ht.1]
   simp only [Option.bind_some]
   rw [if_neg (by simp),p80_no ht.2.1]
   simp only [Option.bind_some]
   unfold p73_j0
   rw [if_neg (by simp)]
   obtain ⟨r,q1,rfl⟩:=k3 _ _ _ 0 ht.2.2.1 ht.2.2.2.1 ht.2.2.2.2 hs.1 hs.2.1 hs.2.2
   rw [q1]
   simp only [Option.bind_some]
   rw [wrap64 (by omega) (by omega)]; rfl
  rintro _ rfl
  refine ⟨_,?_,rfl⟩
  unfold p73_l2
  simp only
  rw [if_neg (by omega)]
 obtain ⟨r1,e1,rfl⟩:=k1
 obtain ⟨r2,e2,rfl⟩:=k2
 unfold p73
 rw [e1]
 simp only [Option.bind_some]
 rw [e2]; rfl
theorem p47_no {n:TNet} (h:NOk n) (hg:NGood n.Places.length n):p47 n=some 0:=by
 have h':=h
 obtain ⟨h1,h2,h3⟩:=h
 have k1:∃ r,loopC (p47_l0 n) (0:Int)=some r∧r=.inr ():=by
  refine loop_cnt n.Trans.length (fun k st=>st=(k:Int)) _ ?_ ?_ rfl
  ·rintro k _ hk rfl
   left
   refine ⟨_,?_,rfl⟩
   unfold p47_l0
   have hs:=h3 _ (List.getElem_mem hk)
   rw [if_pos (by omega),idx_get hk]
   simp only [Option.bind_some]
   rw [p71_no hs.1 hs.2.1 hs.2.2]
   simp only [Option.bind_some]
   rw [if_neg (by simp),wrap64 (by omega) (by omega)]; rfl
  rintro _ rfl
  refine ⟨_,?_,rfl⟩
  unfold p47_l0
  rw [if_neg (by omega)]
 obtain ⟨r1,e1,rfl⟩:=k1
 unfold p47
 rw [if_neg (by omega)]
 unfold p47_j0
 rw [if_neg (by simp; omega),e1]
 simp only [Option.bind_some]
 rw [p72_yes h' hg]
 simp only [Option.bind_some]
 rw [if_neg (by simp),p73_no h' hg]; rfl
end Go.Proofs.Ytloaoofdbilpeaa
namespace Go.Proofs.Ytloaoofdbilpeaa
open Go Go.Am
abbrev RP:=Tq5
structure ROk (p:List Int) (RL:List TToken) (ps:List (List UInt8)) (r:RP) (s:PS):Prop where
 rl:r.l=RL
 i:∃ i:Nat,r.i=(i:Int)∧(RL.drop i).map tokR=s.l
 e:r.e=0
 n:r.n=s.n
 pl:r.places=ps
 td:r.told=s.told
 wf:WF p s.l
 len:RL.length≤10000000
structure RDead (RL:List TToken) (e x:Int) (k:Nat) (r:RP):Prop where
 rl:r.l=RL
 i:∃ i:Nat,r.i=(i:Int)∧i < RL.length
 ee:r.e=e
 ne:e≠0
 x:r.at_=x
 n:r.n.Places.length≤k∧r.n.Trans.length≤k∧r.told.length≤100+k
theorem RDead.mono {RL:List TToken} {e x:Int} {k k':Nat} {r:RP} (h:RDead RL e x k r) (hk:k≤k'):RDead RL e x k' r:=⟨h.rl,h.i,h.ee,h.ne,h.x,by have:=h.n; omega⟩
theorem RDead.err {RL:List TToken} {e x:Int} {k:Nat} {r:RP} (h:RDead RL e x k r):r.e≠0:=by rw [h.ee]; exact h.ne
def SimR {α:Type} (p:List Int) (RL:List TToken) (ps:List (List UInt8)) (k:Nat) (r:Option (α×Option RP)):Res α→Prop
 | .inl (v,s')=>∃ r',r=some (v,some r')∧ROk p RL ps r' s'
 | .inr (e,x)=>∃ v r',r=some (v,some r')∧RDead RL e x k r'
def SimV (p:List Int) (RL:List TToken) (ps:List (List UInt8)) (k:Nat) (r:Option (Option RP)):Res Unit→Prop
 | .inl (_,s')=>∃ r',r=some (some r')∧ROk p RL ps r' s'
 | .inr (e,x)=>∃ r',r=some (some r')∧RDead RL e x k r'
def Sr (k:Nat) (s:PS):Prop:=s.n.Places.length≤k∧s.n.Trans.length≤k∧s.told.length≤100+k
theorem ROk.open {p:List Int} {RL:List TToken} {ps:List (List UInt8)} {r:RP} {s:PS} (h:ROk p RL ps r s):∃ (i:Nat) (t:TToken) (ts:List TToken),r=⟨RL,(i:Int),0,r.at_,s.n,ps,s.told⟩∧RL.drop i=t::ts∧s.l=tokR t::ts.map tokR∧i < RL.length∧RL[i]? = some t:=by
 obtain ⟨rl,ri,re,ra,rn,rp,rt⟩:=r
 obtain ⟨h1,⟨i,h2,h3⟩,h4,h5,h6,h7,h8,h9⟩:=h
 simp only at h1 h2 h4 h5 h6 h7
 subst h1 h2 h4 h5 h6 h7
 have hi:i < rl.length:=by
  rcases Nat.lt_or_ge i rl.length with h | h
  ·exact h
  rw [List.drop_eq_nil_of_le h] at h3
  exact absurd h3.symm h8.ne
 have hd:=List.drop_eq_getElem_cons hi
 rw [hd] at h3
 exact ⟨i,rl[i],rl.drop (i+1),rfl,hd,h3.symm,hi,List.getElem?_eq_getElem hi⟩
theorem step_r {p:List Int} {RL:List TToken} {ps:List (List UInt8)} {r:RP} {s:PS} (h:ROk p RL ps r s):∃ r',p65 (some r)=some (some r')∧ROk p RL ps r' (stp s):=by
 obtain ⟨i,t,ts,e1,e2,e3,hi,e4⟩:=h.open
 have hlen:=h.len
 have hwf:=h.wf
 rw [e1]
 unfold p65
 simp only [Option.bind_some,if_pos]
 unfold p65_j0
 have hw:IntKind.wrap .i64 ((RL.length:Int) - 1)=(RL.length:Int) - 1:=wrap64 (by omega) (by omega)
 rw [hw]
 by_cases h1:i+1 < RL.length
 ·rw [if_pos (by simp; omega)]
  refine ⟨_,rfl,rfl,⟨i+1,?_,?_⟩,rfl,rfl,rfl,rfl,hwf.nx,hlen⟩
  ·simp only; rw [wrap64 (by omega) (by omega)]; rfl
  show (RL.drop (i+1)).map tokR=nx s.l
  have hd:RL.drop (i+1)=ts:=by rw [← List.drop_drop,e2]; rfl
  rw [e3,hd]
  cases ts with
  | nil=>
   have:=congrArg List.length hd
   simp at this
   omega
  | cons b ts=>rfl
 rw [if_neg (by simp; omega)]
 refine ⟨_,rfl,rfl,⟨i,rfl,?_⟩,rfl,rfl,rfl,rfl,hwf.nx,hlen⟩
 show (RL.drop i).map tokR=nx s.l
 have hts:ts=[]:=by
  have:=congrArg List.length e2
  simp at this
  exact List.eq_nil_of_length_eq_zero (by omega)
 rw [e2,e3,hts]; rfl
theorem step_d {r:RP} (h:r.e≠0):p65 (some r)=some (some r):=by
 unfold p65
 simp only [Option.bind_some]
 rw [if_neg h]
 rfl
theorem fail_d {r:RP} (h:r.e≠0) (e:Int):p66 (some r) e=some (some r):=by
 unfold p66
 simp only [Option.bind_some]
 rw [if_neg h]
theorem fail_r {p:List Int} {RL:List TToken} {ps:List (List UInt8)} {r:RP} {s:PS} (h:ROk p RL ps r s) {e:Int} (he:e≠0) {k:Nat} (hk:Sr k s):∃ r',p66 (some r) e=some (some r')∧RDead RL e (hd s.l).at_ k r':=by
 obtain ⟨i,t,ts,e1,e2,e3,hi,e4⟩:=h.open
 rw [e1]
 unfold p66
 simp only [Option.bind_some,if_pos]
 rw [idx_ok e4]
 exact ⟨_,rfl,rfl,⟨i,rfl,hi⟩,rfl,he,by rw [e3]; rfl,hk⟩
theorem sees_d {r:RP} (h:r.e≠0) (k:Int) (x:List UInt8):p64 (some r) k x=some false:=by
 unfold p64
 simp only [Option.bind_some]
 rw [if_neg h]
 rfl
theorem sees_r {p:List Int} {RL:List TToken} {ps:List (List UInt8)} {r:RP} {s:PS} (h:ROk p RL ps r s) (k:Int) (x:List UInt8):p64 (some r) k x=some (decide ((hd s.l).k=k)&&(decide (x=[])||((hd s.l).s==x))):=by
 obtain ⟨i,t,ts,e1,e2,e3,hi,e4⟩:=h.open
 rw [e1,e3]
 unfold p64
 simp only [Option.bind_some,if_pos]
 rw [idx_ok e4]
 simp only [Option.bind_some]
 show p64_j2 x _ (decide (t.Kind=k))=some (decide (t.Kind=k)&&(decide (x=[])||(t.Text==x)))
 unfold p64_j2 p64_j1 p64_j0
 by_cases h1:t.Kind=k
 ·simp only [h1,decide_true,if_true,Bool.true_and]
  by_cases h2:x=[]
  ·subst h2; simp
  simp only [idx_ok e4,Option.bind_some]
  simp [h2]
 simp [h1]
theorem sees_s {p:List Int} {RL:List TToken} {ps:List (List UInt8)} {r:RP} {s:PS} (h:ROk p RL ps r s) {x:List UInt8} (hx:x≠[]):p64 (some r) 3 x=some (isS s x):=by
 rw [sees_r h]
 simp [isS,hx]
theorem sees_k {p:List Int} {RL:List TToken} {ps:List (List UInt8)} {r:RP} {s:PS} (h:ROk p RL ps r s) (k:Int):p64 (some r) k []=some (decide ((hd s.l).k=k)):=by
 rw [sees_r h]
 simp
theorem want_r {p:List Int} {RL:List TToken} {ps:List (List UInt8)} {r:RP} {s:PS} (h:ROk p RL ps r s) {x:List UInt8} (hx:x≠[]) {k:Nat} (hk:Sr k s):SimV p RL ps k (p69 (some r) x) (want x s):=by
 unfold p69 want
 rw [sees_s h hx]
 simp only [Option.bind_some]
 by_cases hs:isS s x=true
 ·rw [if_neg (by simp [hs]),if_pos hs]
  unfold p69_j0
  obtain ⟨r',h1,h2⟩:=step_r h
  rw [h1]
  exact ⟨r',rfl,h2⟩
 rw [if_pos (by simpa using hs),if_neg hs]
 obtain ⟨r',h1,h2⟩:=fail_r h (e:=6) (by decide) hk
 rw [h1]
 simp only [Option.bind_some]
 unfold p69_j0
 rw [step_d h2.err]
 exact ⟨r',rfl,h2⟩
theorem want_rd {r:RP} (h:r.e≠0) (x:List UInt8):p69 (some r) x=some (some r):=by
 unfold p69
 rw [sees_d h]
 simp only [Option.bind_some,Bool.not_false,if_true]
 rw [fail_d h]
 simp only [Option.bind_some]
 unfold p69_j0
 rw [step_d h]; rfl
theorem num_r {p:List Int} {RL:List TToken} {ps:List (List UInt8)} {r:RP} {s:PS} (h:ROk p RL ps r s) (least:Int) {k:Nat} (hk:Sr k s):SimR p RL ps k (p68 (some r) least) (numS least s):=by
 obtain ⟨i,t,ts,e1,e2,e3,hi,e4⟩:=h.open
 have eh:hd s.l=tokR t:=by rw [e3]; rfl
 unfold p68 numS
 rw [sees_k h]
 simp only [Option.bind_some]
 by_cases h1:(hd s.l).k=2
 ·rw [if_neg (by simp [h1]),if_pos h1]
  have hj:∀ b:Bool,(b=true↔((hd s.l).n < least∨1000000 < (hd s.l).n))→SimR p RL ps k (p68_j1 r t b) (if (hd s.l).n < least∨1000000 < (hd s.l).n then er s 3 else .inl ((hd s.l).n,stp s)):=by
   intro b hb
   unfold p68_j1 p68_j0
   by_cases h2:(hd s.l).n < least∨1000000 < (hd s.l).n
   ·rw [if_pos (hb.2 h2),if_pos h2]
    obtain ⟨r',h3,h4⟩:=fail_r h (e:=3) (by decide) hk
    rw [h3]
    simp only [Option.bind_some]
    rw [step_d h4.err]
    exact ⟨_,r',rfl,h4⟩
   rw [if_neg (fun hh=>h2 (hb.1 hh)),if_neg h2]
   obtain ⟨r',h3,h4⟩:=step_r h
   rw [h3]
   exact ⟨r',by rw [eh]; rfl,h4⟩
  have hidx:idx r.l r.i=some t:=by rw [e1]; exact idx_ok e4
  rw [hidx]
  simp only [Option.bind_some]
  have en:(hd s.l).n=t.N:=by rw [eh]; rfl
  split
  ·rename_i h2; exact hj true (by rw [en]; simp [h2])
  rename_i h2; exact hj _ (by rw [en]; simp [h2])
 rw [if_pos (by simp [h1]),if_neg h1]
 obtain ⟨r',h3,h4⟩:=fail_r h (e:=6) (by decide) hk
 rw [h3]
 exact ⟨_,r',rfl,h4⟩
theorem p63_eq {l:List (List UInt8)} (hl:l.length≤1000001) (x:List UInt8):p63 l x=some (match plc l x with
  | some k=>(k:Int)
  | none=>-1):=by
 have key:∀ (d i:Nat),i+d=l.length→(match plc (l.drop i) x with
   | some k=>loopC (p63_l0 l x) (i:Int)=some (.inl ((i+k:Nat):Int))
   | none=>loopC (p63_l0 l x) (i:Int)=some (.inr ())):=by
  intro d
  induction d with
  | zero=>
   intro i hi
   rw [List.drop_eq_nil_of_le (by omega)]
   simp only [plc]
   refine loopC_end ?_
   unfold p63_l0
   rw [if_neg (by omega)]
  | succ d ih=>
   intro i hi
   have hi':i < l.length:=by omega
   rw [List.drop_eq_getElem_cons hi']
   have hb:p63_l0 l x (i:Int)=if l[i]=x then some (.inr (.inl (i:Int))) else some (.inl ((i+1:Nat):Int)):=by
    unfold p63_l0
    rw [if_pos (by omega),idx_get hi']
    simp only [Option.bind_some]
    rw [wrap64 (by omega) (by omega)]
    by_cases h:l[i]=x<;>simp [h]
   by_cases h:l[i]=x
   ·rw [if_pos h] at hb
    simp only [plc,if_pos h]
    exact loopC_end hb
   rw [if_neg h] at hb
   have:=ih (i+1) (by omega)
   simp only [plc,if_neg h]
   cases hp:plc (l.drop (i+1)) x with
   | none=>rw [hp] at this; exact loopC_go hb this
   | some k=>
    rw [hp] at this
    simp only [Option.map_some]
    rw [show i+(k+1)=i+1+k by omega]
    exact loopC_go hb this
 have h0:=key l.length 0 (by omega)
 rw [List.drop_zero] at h0
 unfold p63
 cases hp:plc l x with
 | none=>
  rw [hp] at h0
  have h0:loopC (p63_l0 l x) 0=some (.inr ()):=h0
  rw [h0]; rfl
 | some k=>
  rw [hp] at h0
  have h0:loopC (p63_l0 l x) 0=some (.inl ((0+k:Nat):Int)):=h0
  rw [h0]
  simp
theorem name_j0d {RL:List TToken} {e x:Int} {k:Nat} {r:RP} (h:RDead RL e x k r) (hk:k≤1000) (t:TToken):∃ r',p67_j0 t (some r)=some (t.Text,some r')∧RDead RL e x (k+1) r':=by
 unfold p67_j0
 simp only [Option.bind_some]
 have hn:=h.n
 rw [app_ok (by simp; omega)]
 simp only [Option.bind_some]
 rw [step_d (r:=⟨r.l,r.i,r.e,r.at_,r.n,r.places,r.told++[t.Text]⟩) h.err]
 exact ⟨_,rfl,h.rl,h.i,h.ee,h.ne,h.x,by simp; omega⟩
theorem name_r {p:List Int} {RL:List TToken} {ps:List (List UInt8)} {r:RP} {s:PS} (h:ROk p RL ps r s) {k:Nat} (hk:Sr k s) (hk2:k≤1000):SimR p RL ps (k+1) (p67 (some r)) (nameS s):=by
 obtain ⟨i,t,ts,e1,e2,e3,hi,e4⟩:=h.open
 have eh:hd s.l=tokR t:=by rw [e3]; rfl
 unfold p67 nameS
 have hidx:idx r.l r.i=some t:=by rw [e1]; exact idx_ok e4
 simp only [Option.bind_some]
 rw [hidx]
 simp only [Option.bind_some]
 rw [sees_k h]
 simp only [Option.bind_some]
 by_cases h1:(hd s.l).k=1
 ·rw [if_neg (by simp [h1]),if_pos h1]
  have hj:∀ b:Bool,(b=true↔¬ ((hd s.l).s.length≤12∧(hd s.l).s∉s.told))→SimR p RL ps (k+1) (p67_j1 t b (some r)) (if (hd s.l).s.length≤12∧(hd s.l).s∉s.told then .inl ((hd s.l).s,⟨nx s.l,s.n,s.told++[(hd s.l).s]⟩) else er s 7):=by
   intro b hb
   unfold p67_j1
   by_cases h2:(hd s.l).s.length≤12∧(hd s.l).s∉s.told
   ·rw [if_neg (fun hh=>(hb.1 hh) h2),if_pos h2]
    unfold p67_j0
    simp only [Option.bind_some]
    have htd:=h.td
    have hks:=hk.2.2
    rw [app_ok (by rw [htd]; simp; omega)]
    simp only [Option.bind_some]
    have h':ROk p RL ps ⟨r.l,r.i,r.e,r.at_,r.n,r.places,r.told++[t.Text]⟩ ⟨s.l,s.n,s.told++[(hd s.l).s]⟩:=⟨h.rl,h.i,h.e,h.n,h.pl,by simp only; rw [htd,eh]; rfl,h.wf,h.len⟩
    obtain ⟨r',q1,q2⟩:=step_r h'
    rw [q1]
    exact ⟨r',by rw [eh]; rfl,q2⟩
   rw [if_pos (hb.2 h2),if_neg h2]
   obtain ⟨r',q1,q2⟩:=fail_r h (e:=7) (by decide) hk
   rw [q1]
   simp only [Option.bind_some]
   obtain ⟨r2,q3,q4⟩:=name_j0d q2 hk2 t
   exact ⟨_,r2,q3,q4⟩
  have es:(hd s.l).s=t.Text:=by rw [eh]; rfl
  split
  ·rename_i h2
   exact hj true (by rw [es]; simp; intro h3; omega)
  rename_i h2
  rw [h.td,p63_eq (by have:=hk.2.2; omega)]
  simp only [Option.bind_some]
  refine hj _ ?_
  rw [es]
  cases hp:plc s.told t.Text with
  | none=>
   have:=plc_none.1 hp
   simp [this]
   omega
  | some q=>
   have:t.Text∈s.told:=Classical.not_not.1 fun hh=>by rw [plc_none.2 hh] at hp; cases hp
   simp [this]
 rw [if_pos (by simp [h1]),if_neg h1]
 obtain ⟨r',q1,q2⟩:=fail_r h (e:=6) (by decide) hk
 rw [q1]
 simp only [Option.bind_some]
 obtain ⟨r2,q3,q4⟩:=name_j0d q2 hk2 t
 exact ⟨_,r2,q3,q4⟩
theorem name_rd {RL:List TToken} {e x:Int} {k:Nat} {r:RP} (h:RDead RL e x k r) (hk:k≤1000):∃ v r',p67 (some r)=some (v,some r')∧RDead RL e x (k+1) r':=by
 obtain ⟨i,h1,h2⟩:=h.i
 unfold p67
 simp only [Option.bind_some]
 have hidx:idx r.l r.i=some RL[i]:=by rw [h1,h.rl]; exact idx_get h2
 rw [hidx]
 simp only [Option.bind_some]
 rw [sees_d h.err]
 simp only [Option.bind_some,Bool.not_false,if_true]
 rw [fail_d h.err]
 simp only [Option.bind_some]
 obtain ⟨r2,q3,q4⟩:=name_j0d h hk RL[i]
 exact ⟨_,r2,q3,q4⟩
theorem p70_loop {x1:List TArc} (hx:x1.length≤1000) (y:Int) (b:Bool):loopC (p70_l0 x1 y) (b,(0:Int))=some (b||x1.any fun a=>decide (a.Place=y)):=by
 have key:∃ r,loopC (p70_l0 x1 y) (b,(0:Int))=some r∧r=(b||x1.any fun a=>decide (a.Place=y)):=by
  refine loop_cnt x1.length (fun k st=>st=(b||(x1.take k).any (fun a=>decide (a.Place=y)),(k:Int))) _ ?_ ?_ (by simp)
  ·rintro k _ hk rfl
   left
   refine ⟨_,?_,rfl⟩
   unfold p70_l0
   simp only
   rw [if_pos (by omega)]
   rw [List.take_succ_eq_append_getElem hk,List.any_append]
   generalize (List.any (List.take k x1) fun a=>decide (a.Place=y))=A
   unfold p70_j0
   rw [wrap64 (by omega) (by omega),idx_get hk]
   cases b<;>cases A<;>simp
  rintro _ rfl
  refine ⟨_,?_,rfl⟩
  unfold p70_l0
  simp only
  rw [if_neg (by omega)]
  simp
 obtain ⟨r,h1,h2⟩:=key
 rw [h1,h2]
theorem arc_j2 {p:List Int} {RL:List TToken} {ps:List (List UInt8)} {r:RP} {s:PS} (h:ROk p RL ps r s) {x1:List TArc} (hx:x1.length≤1000) (q:Int) {k:Nat} (hk:Sr k s) :
  SimR p RL ps k (p70_j2 x1 q (some r)) (if isS (stp s) [42]=true then bnd (numS 1 (stp (stp s))) fun n s=>.inl (x1++[⟨q,n⟩],s) else .inl (x1++[⟨q,1⟩],stp s)):=by
 obtain ⟨r1,g1,g2⟩:=step_r h
 unfold p70_j2
 rw [g1]
 simp only [Option.bind_some]
 rw [sees_s g2 (by simp)]
 simp only [Option.bind_some]
 have hj:∀ (y:Int) (a:RP),p70_j1 x1 q y (some a)=some (x1++[⟨q,y⟩],some a):=by
  intro y a
  unfold p70_j1
  rw [app_ok (by simp; omega)]; rfl
 by_cases h1:isS (stp s) [42]=true
 ·rw [if_pos h1,if_pos h1]
  obtain ⟨r2,g3,g4⟩:=step_r g2
  rw [g3]
  simp only [Option.bind_some]
  have hn:=num_r g4 1 (k:=k) hk
  cases hr:numS 1 (stp (stp s)) with
  | inl v=>
   obtain ⟨v,s1⟩:=v
   rw [hr] at hn
   obtain ⟨a1,h2,h3⟩:=hn
   rw [h2]
   simp only [Option.bind_some,hj,bnd]
   exact ⟨a1,rfl,h3⟩
  | inr v=>
   obtain ⟨v,x⟩:=v
   rw [hr] at hn
   obtain ⟨w,a1,h2,h3⟩:=hn
   rw [h2]
   simp only [Option.bind_some,hj,bnd]
   exact ⟨_,a1,rfl,h3⟩
 rw [if_neg h1,if_neg h1,hj]
 exact ⟨r1,rfl,g2⟩
theorem arc_j2d {x1:List TArc} (hx:x1.length≤1000) (q:Int) {r:RP} (h:r.e≠0):∃ v,p70_j2 x1 q (some r)=some (v,some r):=by
 unfold p70_j2
 rw [step_d h]
 simp only [Option.bind_some]
 rw [sees_d h]
 simp only [Option.bind_some,Bool.false_eq_true,if_false]
 unfold p70_j1
 rw [app_ok (by simp; omega)]
 exact ⟨_,rfl⟩
theorem arc_j3d {x1:List TArc} (hx:x1.length≤1000) (q:Int) {r:RP} (h:r.e≠0):∃ v,p70_j3 x1 q (some r)=some (v,some r):=by
 unfold p70_j3
 split
 ·rw [fail_d h]; exact arc_j2d hx q h
 exact arc_j2d hx q h
theorem arc_r {p:List Int} {RL:List TToken} {ps:List (List UInt8)} (hps:ps.length≤1000001) {r:RP} {s:PS} (h:ROk p RL ps r s) {x1:List TArc} (hx:x1.length≤1000) {k:Nat} (hk:Sr k s):SimR p RL ps k (p70 (some r) x1) (arcS ps x1 s):=by
 obtain ⟨i,t,ts,e1,e2,e3,hi,e4⟩:=h.open
 have eh:hd s.l=tokR t:=by rw [e3]; rfl
 unfold p70 arcS
 rw [sees_k h]
 simp only [Option.bind_some]
 by_cases h1:(hd s.l).k=1
 ·rw [if_neg (by simp [h1]),if_pos h1]
  have hidx:idx r.l r.i=some t:=by rw [e1]; exact idx_ok e4
  rw [hidx]
  simp only [Option.bind_some]
  rw [h.pl,p63_eq hps]
  simp only [Option.bind_some]
  rw [p70_loop hx]
  simp only [Option.bind_some]
  have es:(hd s.l).s=t.Text:=by rw [eh]; rfl
  rw [es]
  have seven:∀ q:Int,SimR p RL ps k (Option.bind (p66 (some r) 7) fun u=>p70_j3 x1 q u) (er s 7):=by
   intro q
   obtain ⟨r',q1,q2⟩:=fail_r h (e:=7) (by decide) hk
   rw [q1]
   obtain ⟨v,q3⟩:=arc_j3d hx q q2.err
   exact ⟨v,r',q3,q2⟩
  cases hq:plc ps t.Text with
  | none=>
   simp only
   rw [if_pos (by simp)]
   exact seven _
  | some q=>
   simp only
   rw [show (decide ((q:Int) < 0))=false by simp]
   simp only [Bool.false_or]
   by_cases h2:x1.any (fun a=>decide (a.Place=(q:Int)))=true
   ·rw [if_pos h2,if_pos h2]; exact seven _
   rw [if_neg h2,if_neg h2]
   unfold p70_j3
   by_cases h8:x1.length=8
   ·rw [if_pos (by omega),if_pos h8]
    obtain ⟨r',q1,q2⟩:=fail_r h (e:=5) (by decide) hk
    rw [q1]
    obtain ⟨v,q3⟩:=arc_j2d hx (q:Int) q2.err
    exact ⟨v,r',q3,q2⟩
   rw [if_neg (by omega),if_neg h8]
   exact arc_j2 h hx (q:Int) hk
 rw [if_pos (by simp [h1]),if_neg h1]
 obtain ⟨r',q1,q2⟩:=fail_r h (e:=6) (by decide) hk
 rw [q1]
 exact ⟨_,r',rfl,q2⟩
theorem arc_rd {r:RP} (h:r.e≠0) (x1:List TArc):p70 (some r) x1=some (x1,some r):=by
 unfold p70
 rw [sees_d h]
 simp only [Option.bind_some,Bool.not_false,if_true]
 rw [fail_d h]; rfl
theorem nameS_t {v:List UInt8} {s s':PS} (h:nameS s=.inl (v,s')):s'.told.length=s.told.length+1:=by
 unfold nameS er at h
 split at h
 ·split at h<;>cases h; simp
 cases h
theorem arcS_t {ps:List (List UInt8)} {l v:List TArc} {s s':PS} (h:arcS ps l s=.inl (v,s')):s'.told=s.told:=by
 unfold arcS er at h
 split at h
 ·split at h
  ·cases h
  split at h
  ·cases h
  split at h
  ·cases h
  split at h
  ·obtain ⟨n,s1,h1,h2⟩:=bnd_inl h
   cases h2
   have:=numS_n h1
   subst this
   rfl
  cases h
  rfl
 cases h
end Go.Proofs.Ytloaoofdbilpeaa
namespace Go.Proofs.Ytloaoofdbilpeaa
open Go Go.Am
theorem in8 {p:List Int} {RL:List TToken} {ps:List (List UInt8)} (hps:ps.length≤1000001) {r:RP} {s:PS} (h:ROk p RL ps r s) {ins nots:List TArc} (hi:ins.length≤8) (hn:nots.length≤8) {k:Nat} (hk:Sr k s) {j:Nat} (hj:j≤1000000000) :
  ∃ r' i o,p46_j8 (j:Int) ins nots (some r)=some (.inl (((j+1:Nat):Int),some r',i,o))∧match one2 ps ins nots s with
   | .inl (q,s')=>q=(i,o)∧ROk p RL ps r' s'∧s'.n=s.n∧s'.told=s.told∧s'.l.length < s.l.length∧i.length≤8∧o.length≤8
   | .inr (e,x)=>RDead RL e x k r':=by
 have h7:∀ (l:Option RP) (a b:List TArc),p46_j7 (j:Int) l a b=some (.inl (((j+1:Nat):Int),l,a,b)):=by
  intro l a b
  unfold p46_j7
  rw [wrap64 (by omega) (by omega)]; rfl
 unfold p46_j8 one2
 rw [sees_s h (by simp)]
 simp only [Option.bind_some]
 by_cases hs:isS s [126]=true
 ·rw [if_pos hs,if_pos hs]
  obtain ⟨r1,h1,h2⟩:=step_r h
  rw [h1]
  simp only [Option.bind_some]
  have ha:=arc_r hps h2 (x1:=nots) (by omega) (k:=k) hk
  cases hr:arcS ps nots (stp s) with
  | inl v=>
   obtain ⟨v,s'⟩:=v
   rw [hr] at ha
   obtain ⟨a',g1,g2⟩:=ha
   obtain ⟨e1,e2,e3,e4,e5⟩:=arcS_n hr
   have e6:=arcS_t hr
   rw [g1]
   simp only [Option.bind_some,h7]
   have hlt:=h2.wf.shorter (by rw [e3]; decide)
   have:(stp s).l.length≤s.l.length:=nx_len _
   exact ⟨a',ins,v,rfl,rfl,g2,e1,e6,by omega,hi,by omega⟩
  | inr v=>
   obtain ⟨e,x⟩:=v
   rw [hr] at ha
   obtain ⟨v,a',g1,g2⟩:=ha
   rw [g1]
   simp only [Option.bind_some,h7]
   exact ⟨a',ins,v,rfl,g2⟩
 rw [if_neg hs,if_neg hs]
 have ha:=arc_r hps h (x1:=ins) (by omega) (k:=k) hk
 cases hr:arcS ps ins s with
 | inl v=>
  obtain ⟨v,s'⟩:=v
  rw [hr] at ha
  obtain ⟨a',g1,g2⟩:=ha
  obtain ⟨e1,e2,e3,e4,e5⟩:=arcS_n hr
  have e6:=arcS_t hr
  rw [g1]
  simp only [Option.bind_some,h7]
  have hlt:=h.wf.shorter (by rw [e3]; decide)
  exact ⟨a',v,nots,rfl,rfl,g2,e1,e6,by omega,by omega,hn⟩
 | inr v=>
  obtain ⟨e,x⟩:=v
  rw [hr] at ha
  obtain ⟨v,a',g1,g2⟩:=ha
  rw [g1]
  simp only [Option.bind_some,h7]
  exact ⟨a',v,nots,rfl,g2⟩
theorem in8d {r:RP} (h:r.e≠0) {j:Nat} (hj:j≤1000000000) (ins nots:List TArc):p46_j8 (j:Int) ins nots (some r)=some (.inl (((j+1:Nat):Int),some r,ins,nots)):=by
 unfold p46_j8
 rw [sees_d h]
 simp only [Option.bind_some,Bool.false_eq_true,if_false]
 rw [arc_rd h]
 simp only [Option.bind_some]
 unfold p46_j7
 rw [wrap64 (by omega) (by omega)]; rfl
theorem inx_d {r:RP} (h:r.e≠0) (j:Int) (ins nots:List TArc):loopC p46_l1 (j,some r,ins,nots)=some (some r,ins,nots):=by
 refine loopC_end ?_
 unfold p46_l1
 simp only [Option.bind_some]
 rw [if_neg h]
 rfl
theorem in_r {p:List Int} {RL:List TToken} {ps:List (List UInt8)} (hps:ps.length≤1000001) {K:Nat}:∀ (k:Nat) (j:Nat) (ins nots:List TArc) (r:RP) (s:PS),ROk p RL ps r s→s.l.length≤k→j+k≤1000000000→ins.length≤8→nots.length≤8→Sr K s→
  ∃ r' i o,loopC p46_l1 ((j:Int),some r,ins,nots)=some (some r',i,o)∧match inS ps k (decide (j=0)) ins nots s with
   | .inl (q,s')=>q=(i,o)∧∃ s0,ROk p RL ps r' s0∧isS s0 [45,62]=true∧s'=stp s0∧s0.n=s.n∧s0.told=s.told
   | .inr (e,x)=>RDead RL e x K r':=by
 intro k
 induction k with
 | zero=>
  intro j ins nots r s h hk
  have:s.l=[]:=List.eq_nil_of_length_eq_zero (by omega)
  exact absurd this h.wf.ne
 | succ k ih=>
  intro j ins nots r s h hk hj hi hn hK
  rw [inS_succ]
  have hbody:p46_l1 ((j:Int),some r,ins,nots)=p46_j9 (j:Int) ins nots (!isS s [45,62]) (some r):=by
   unfold p46_l1
   simp only [Option.bind_some]
   rw [if_pos h.e,sees_s h (by simp)]
   rfl
  by_cases hs:isS s [45,62]=true
  ·rw [if_pos hs]
   refine ⟨r,ins,nots,loopC_end ?_,rfl,s,h,hs,rfl,rfl,rfl⟩
   rw [hbody,hs]
   rfl
  rw [if_neg hs]
  have hs':isS s [45,62]=false:=by simpa using hs
  rw [hs'] at hbody
  have rest:∀ (r2:RP) (s2:PS),ROk p RL ps r2 s2→s2.n=s.n→s2.told=s.told→s2.l.length≤s.l.length→p46_l1 ((j:Int),some r,ins,nots)=p46_j8 (j:Int) ins nots (some r2)→
    ∃ r' i o,loopC p46_l1 ((j:Int),some r,ins,nots)=some (some r',i,o)∧match bnd (one2 ps ins nots s2) fun q s=>inS ps k false q.1 q.2 s with
     | .inl (q,s')=>q=(i,o)∧∃ s0,ROk p RL ps r' s0∧isS s0 [45,62]=true∧s'=stp s0∧s0.n=s.n∧s0.told=s.told
     | .inr (e,x)=>RDead RL e x K r':=by
   intro a2 s2 g1 g2 g3' g3 g4
   obtain ⟨a3,i,o,q1,q2⟩:=in8 hps g1 hi hn (k:=K) (by unfold Sr at *; rw [g2,g3']; exact hK) (j:=j) (by omega)
   cases hr:one2 ps ins nots s2 with
   | inl v=>
    obtain ⟨q,s'⟩:=v
    rw [hr] at q2
    obtain ⟨rfl,q2,q3,q3',q4,q5,q6⟩:=q2
    obtain ⟨a4,i',o',u1,u2⟩:=ih (j+1) i o a3 s' q2 (by omega) (by omega) q5 q6 (by unfold Sr at *; rw [q3,q3',g2,g3']; exact hK)
    refine ⟨a4,i',o',loopC_go (by rw [g4]; exact q1) u1,?_⟩
    simp only [bnd]
    rw [show (decide (j+1=0))=false by simp] at u2
    cases hr2:inS ps k false i o s' with
    | inl v=>
     obtain ⟨q,s''⟩:=v
     rw [hr2] at u2
     obtain ⟨u3,s0,u4,u5,u6,u7,u8⟩:=u2
     exact ⟨u3,s0,u4,u5,u6,by rw [u7,q3,g2],by rw [u8,q3',g3']⟩
    | inr v=>obtain ⟨e,x⟩:=v; rw [hr2] at u2; exact u2
   | inr v=>
    obtain ⟨e,x⟩:=v
    rw [hr] at q2
    have q2:RDead RL e x K a3:=q2
    exact ⟨a3,i,o,loopC_go (by rw [g4]; exact q1) (inx_d q2.err _ _ _),q2⟩
  by_cases h0:j=0
  ·subst h0
   simp only [decide_true]
   have:sepS true s=.inl ((),s):=rfl
   rw [this]
   refine rest r s h rfl rfl (Nat.le_refl _) ?_
   rw [hbody]
   unfold p46_j9
   simp
  have hd0:decide (j=0)=false:=by simp [h0]
  rw [hd0]
  have hw:SimV p RL ps K (p69 (some r) [44]) (sepS false s):=want_r h (by simp) hK
  have hb2:p46_l1 ((j:Int),some r,ins,nots)=(p69 (some r) [44]).bind fun u=>p46_j8 (j:Int) ins nots u:=by
   rw [hbody]
   unfold p46_j9
   simp only [Bool.not_false,if_true]
   rw [if_pos (by omega)]
  cases hr:sepS false s with
  | inl v=>
   obtain ⟨u,s2⟩:=v
   rw [hr] at hw
   obtain ⟨a2,q1,q2⟩:=hw
   have hn':=sepS_n hr
   have hs2:s2=stp s:=want_n hr
   refine rest a2 s2 q2 hn'.1 (by rw [hs2]; rfl) hn'.2 ?_
   rw [hb2,q1]; rfl
  | inr v=>
   obtain ⟨e,x⟩:=v
   rw [hr] at hw
   obtain ⟨a2,q1,q2⟩:=hw
   refine ⟨a2,ins,nots,loopC_go ?_ (inx_d q2.err ((j+1:Nat):Int) _ _),q2⟩
   rw [hb2,q1]
   exact in8d q2.err (by omega) ins nots
theorem outx_d {r:RP} (h:r.e≠0) (j:Int) (outs:List TArc):loopC p46_l2 (j,some r,outs)=some (some r,outs):=by
 refine loopC_end ?_
 unfold p46_l2
 simp only [Option.bind_some]
 rw [if_neg h]
 rfl
theorem out_r {p:List Int} {RL:List TToken} {ps:List (List UInt8)} (hps:ps.length≤1000001) {K:Nat}:∀ (k:Nat) (j:Nat) (outs:List TArc) (r:RP) (s:PS),ROk p RL ps r s→s.l.length≤k→j+k≤1000000000→outs.length≤8→Sr K s→
  ∃ r' o,loopC p46_l2 ((j:Int),some r,outs)=some (some r',o)∧match outS ps k (decide (j=0)) outs s with
   | .inl (q,s')=>q=o∧ROk p RL ps r' s'∧s'.n=s.n∧s'.told=s.told
   | .inr (e,x)=>RDead RL e x K r':=by
 intro k
 induction k with
 | zero=>
  intro j outs r s h hk
  have:s.l=[]:=List.eq_nil_of_length_eq_zero (by omega)
  exact absurd this h.wf.ne
 | succ k ih=>
  intro j outs r s h hk hj hi hK
  rw [outS]
  have hbody:p46_l2 ((j:Int),some r,outs)=p46_j11 (j:Int) outs (!isS s [59]) (some r):=by
   unfold p46_l2
   simp only [Option.bind_some]
   rw [if_pos h.e,sees_s h (by simp)]
   rfl
  by_cases hs:isS s [59]=true
  ·rw [if_pos hs]
   refine ⟨r,outs,loopC_end ?_,rfl,h,rfl,rfl⟩
   rw [hbody,hs]
   rfl
  rw [if_neg hs]
  have hs':isS s [59]=false:=by simpa using hs
  rw [hs'] at hbody
  have rest:∀ (r2:RP) (s2:PS),ROk p RL ps r2 s2→s2.n=s.n→s2.told=s.told→s2.l.length≤s.l.length→p46_l2 ((j:Int),some r,outs)=p46_j10 (j:Int) outs (some r2)→
    ∃ r' o,loopC p46_l2 ((j:Int),some r,outs)=some (some r',o)∧match bnd (arcS ps outs s2) fun outs s=>outS ps k false outs s with
     | .inl (q,s')=>q=o∧ROk p RL ps r' s'∧s'.n=s.n∧s'.told=s.told
     | .inr (e,x)=>RDead RL e x K r':=by
   intro a2 s2 g1 g2 g3' g3 g4
   have ha:=arc_r hps g1 (x1:=outs) (by omega) (k:=K) (by unfold Sr at *; rw [g2,g3']; exact hK)
   unfold p46_j10 at g4
   rw [wrap64 (by omega) (by omega)] at g4
   cases hr:arcS ps outs s2 with
   | inl v=>
    obtain ⟨v,s'⟩:=v
    rw [hr] at ha
    obtain ⟨a3,q1,q2⟩:=ha
    obtain ⟨f1,f2,f3,f4,f5⟩:=arcS_n hr
    have f6:=arcS_t hr
    have hlt:=g1.wf.shorter (by rw [f3]; decide)
    rw [q1] at g4
    obtain ⟨a4,o',u1,u2⟩:=ih (j+1) v a3 s' q2 (by omega) (by omega) (by omega) (by unfold Sr at *; rw [f1,f6,g2,g3']; exact hK)
    refine ⟨a4,o',loopC_go (by rw [g4]; rfl) u1,?_⟩
    simp only [bnd]
    rw [show (decide (j+1=0))=false by simp] at u2
    cases hr2:outS ps k false v s' with
    | inl v=>
     obtain ⟨q,s''⟩:=v
     rw [hr2] at u2
     exact ⟨u2.1,u2.2.1,by rw [u2.2.2.1,f1,g2],by rw [u2.2.2.2,f6,g3']⟩
    | inr v=>obtain ⟨e,x⟩:=v; rw [hr2] at u2; exact u2
   | inr v=>
    obtain ⟨e,x⟩:=v
    rw [hr] at ha
    obtain ⟨v,a3,q1,q2⟩:=ha
    rw [q1] at g4
    exact ⟨a3,v,loopC_go (by rw [g4]; rfl) (outx_d q2.err _ _),q2⟩
  by_cases h0:j=0
  ·subst h0
   simp only [decide_true]
   have:sepS true s=.inl ((),s):=rfl
   rw [this]
   refine rest r s h rfl rfl (Nat.le_refl _) ?_
   rw [hbody]
   unfold p46_j11
   simp
  have hd0:decide (j=0)=false:=by simp [h0]
  rw [hd0]
  have hw:SimV p RL ps K (p69 (some r) [44]) (sepS false s):=want_r h (by simp) hK
  have hb2:p46_l2 ((j:Int),some r,outs)=(p69 (some r) [44]).bind fun u=>p46_j10 (j:Int) outs u:=by
   rw [hbody]
   unfold p46_j11
   simp only [Bool.not_false,if_true]
   rw [if_pos (by omega)]
  cases hr:sepS false s with
  | inl v=>
   obtain ⟨u,s2⟩:=v
   rw [hr] at hw
   obtain ⟨a2,q1,q2⟩:=hw
   have hn':=sepS_n hr
   have hs2:s2=stp s:=want_n hr
   refine rest a2 s2 q2 hn'.1 (by rw [hs2]; rfl) hn'.2 ?_
   rw [hb2,q1]; rfl
  | inr v=>
   obtain ⟨e,x⟩:=v
   rw [hr] at hw
   obtain ⟨a2,q1,q2⟩:=hw
   refine ⟨a2,outs,loopC_go ?_ (outx_d q2.err ((j+1:Nat):Int) _),q2⟩
   rw [hb2,q1]
   simp only [Option.bind_some]
   unfold p46_j10
   rw [arc_rd q2.err,wrap64 (by omega) (by omega)]
   rfl
noncomputable def optR (x:List UInt8) (l:Option RP):Option (Int×Option RP):=(p64 l 3 x).bind fun y=>if y=true then (p65 l).bind fun u=>(p68 u 0).bind fun w=>some (w.1,w.2) else some (0,l)
theorem optR_bind {β:Type} (x:List UInt8) (l:Option RP) (f:Int→Option RP→Option β):((p64 l 3 x).bind fun y=>if y=true then ((p65 l).bind fun u=>(p68 u 0).bind fun w=>f w.1 w.2) else f 0 l)=(optR x l).bind fun w=>f w.1 w.2:=by
 unfold optR
 cases p64 l 3 x with
 | none=>rfl
 | some u=>
  simp only [Option.bind_some]
  split
  ·cases p65 l with
   | none=>rfl
   | some v=>simp only [Option.bind_some]; cases p68 v 0<;>rfl
  rfl
theorem opt_r {p:List Int} {RL:List TToken} {ps:List (List UInt8)} {r:RP} {s:PS} (h:ROk p RL ps r s) {x:List UInt8} (hx:x≠[]) {k:Nat} (hk:Sr k s):SimR p RL ps k (optR x (some r)) (optS x s):=by
 unfold optR optS
 rw [sees_s h hx]
 simp only [Option.bind_some]
 by_cases hs:isS s x=true
 ·rw [if_pos hs,if_pos hs]
  obtain ⟨r1,g1,g2⟩:=step_r h
  rw [g1]
  simp only [Option.bind_some]
  have hn:=num_r g2 0 (k:=k) hk
  cases hr:numS 0 (stp s) with
  | inl v=>
   obtain ⟨v,s1⟩:=v
   rw [hr] at hn
   obtain ⟨a1,h2,h3⟩:=hn
   rw [h2]
   exact ⟨a1,rfl,h3⟩
  | inr v=>
   obtain ⟨v,x⟩:=v
   rw [hr] at hn
   obtain ⟨w,a1,h2,h3⟩:=hn
   rw [h2]
   exact ⟨w,a1,rfl,h3⟩
 rw [if_neg hs,if_neg hs]
 exact ⟨r,rfl,h⟩
theorem opt_rd {r:RP} (h:r.e≠0) (x:List UInt8):optR x (some r)=some (0,some r):=by
 unfold optR
 rw [sees_d h]; rfl
theorem sepS_t {b:Bool} {s s':PS} {u:Unit} (h:sepS b s=.inl (u,s')):s'.told=s.told:=by
 unfold sepS at h
 split at h
 ·cases h; rfl
 have:=want_n h; subst this; rfl
theorem one2_t {ps:List (List UInt8)} {ins nots:List TArc} {s s':PS} {q:List TArc×List TArc} (h:one2 ps ins nots s=.inl (q,s')):s'.told=s.told:=by
 unfold one2 at h
 split at h
 ·obtain ⟨v,s1,h1,h2⟩:=bnd_inl h
  cases h2
  exact arcS_t (s:=stp s) h1
 obtain ⟨v,s1,h1,h2⟩:=bnd_inl h
 cases h2
 exact arcS_t h1
theorem inS_t {ps:List (List UInt8)}:∀ {k:Nat} {b:Bool} {ins nots:List TArc} {s s':PS} {q:List TArc×List TArc},inS ps k b ins nots s=.inl (q,s')→s'.told=s.told
 | 0,b,ins,nots,s,s',q,h=>by unfold inS er at h; cases h
 | k+1,b,ins,nots,s,s',q,h=>by
  rw [inS_succ] at h
  split at h
  ·cases h; rfl
  obtain ⟨_,s1,h1,h⟩:=bnd_inl h
  obtain ⟨v,s2,h2,h⟩:=bnd_inl h
  rw [inS_t h,one2_t h2,sepS_t h1]
theorem outS_t {ps:List (List UInt8)}:∀ {k:Nat} {b:Bool} {outs:List TArc} {s s':PS} {q:List TArc},outS ps k b outs s=.inl (q,s')→s'.told=s.told
 | 0,b,outs,s,s',q,h=>by unfold outS er at h; cases h
 | k+1,b,outs,s,s',q,h=>by
  rw [outS] at h
  split at h
  ·cases h; rfl
  obtain ⟨_,s1,h1,h⟩:=bnd_inl h
  obtain ⟨v,s2,h2,h⟩:=bnd_inl h
  rw [outS_t h,arcS_t h2,sepS_t h1]
theorem optS_t {x:List UInt8} {v:Int} {s s':PS} (h:optS x s=.inl (v,s')):s'.told=s.told:=by
 unfold optS at h
 split at h
 ·have:=numS_n h; subst this; rfl
 cases h; rfl
theorem j4_r {p:List Int} {RL:List TToken} {ps:List (List UInt8)} {r:RP} {s:PS} (h:ROk p RL ps r s) {k:Nat} (hk:Sr k s):match want [59] s with
  | .inl (_,s')=>∃ r',p46_j4 (some r)=some (.inl (some r'))∧ROk p RL ps r' s'
  | .inr (e,x)=>∃ r',p46_j4 (some r)=some (.inl (some r'))∧RDead RL e x k r':=by
 have hw:=want_r h (x:=[59]) (by simp) hk
 unfold p46_j4
 cases hr:want [59] s with
 | inl v=>
  obtain ⟨u,s'⟩:=v
  rw [hr] at hw
  obtain ⟨r',q1,q2⟩:=hw
  rw [q1]
  exact ⟨r',rfl,q2⟩
 | inr v=>
  obtain ⟨e,x⟩:=v
  rw [hr] at hw
  obtain ⟨r',q1,q2⟩:=hw
  rw [q1]
  exact ⟨r',rfl,q2⟩
theorem j4_rd {r:RP} (h:r.e≠0):p46_j4 (some r)=some (.inl (some r)):=by
 unfold p46_j4
 rw [want_rd h]; rfl
def SimJ (p:List Int) (RL:List TToken) (ps:List (List UInt8)) (k:Nat) (r:Option ((Option RP)⊕(Option RP))):Res Unit→Prop
 | .inl (_,s')=>∃ r',r=some (.inl (some r'))∧ROk p RL ps r' s'
 | .inr (e,x)=>∃ r',r=some (.inl (some r'))∧RDead RL e x k r'
theorem j5_rd {RL:List TToken} {e x:Int} {k:Nat} {r:RP} (h:RDead RL e x k r) (hk:k≤1000) (u:List UInt8×Option RP) (c:Int):∃ r',p46_j5 u (some r) c=some (.inl (some r'))∧RDead RL e x (k+1) r':=by
 unfold p46_j5
 simp only [Option.bind_some]
 have hn:=h.n
 rw [app_ok (by simp; omega)]
 simp only [Option.bind_some]
 rw [j4_rd (r:=⟨r.l,r.i,r.e,r.at_,⟨r.n.Places++[TPlace.mk u.1 c],r.n.Trans⟩,r.places,r.told⟩) h.err]
 exact ⟨_,rfl,h.rl,h.i,h.ee,h.ne,h.x,by simp; omega⟩
theorem place_r {p:List Int} {RL:List TToken} {ps:List (List UInt8)} {r:RP} {s:PS} (h:ROk p RL ps r s) {k:Nat} (hk:Sr k s) (hk2:k≤100):SimJ p RL ps (k+2) (p46_j6 (some r)) (bnd (placeS s) fun _ s=>want [59] s):=by
 unfold p46_j6 placeS
 have hn:=name_r h (k:=k) hk (by omega)
 cases hr:nameS s with
 | inr v=>
  obtain ⟨e,x⟩:=v
  rw [hr] at hn
  obtain ⟨v,a1,h1,h2⟩:=hn
  rw [h1]
  simp only [Option.bind_some,bnd]
  rw [optR_bind [61] (some a1) (fun d l=>p46_j5 (v,some a1) l d),opt_rd h2.err]
  obtain ⟨a2,h3,h4⟩:=j5_rd h2 (by omega) (v,some a1) 0
  exact ⟨a2,h3,h4⟩
 | inl v=>
  obtain ⟨nm,s1⟩:=v
  rw [hr] at hn
  obtain ⟨a1,h1,h2⟩:=hn
  obtain ⟨n1,_⟩:=nameS_n hr
  have t1:=nameS_t hr
  rw [h1]
  simp only [Option.bind_some,bnd]
  rw [optR_bind [61] (some a1) (fun d l=>p46_j5 (nm,some a1) l d)]
  have hk1:Sr (k+1) s1:=by unfold Sr at *; rw [n1]; omega
  have ho:=opt_r h2 (x:=[61]) (by simp) hk1
  cases hr2:optS [61] s1 with
  | inr v=>
   obtain ⟨e,x⟩:=v
   rw [hr2] at ho
   obtain ⟨d,a2,h3,h4⟩:=ho
   rw [h3]
   obtain ⟨a3,h5,h6⟩:=j5_rd h4 (by omega) (nm,some a1) d
   exact ⟨a3,h5,h6⟩
  | inl v=>
   obtain ⟨d,s2⟩:=v
   rw [hr2] at ho
   obtain ⟨a2,h3,h4⟩:=ho
   obtain ⟨n2,_⟩:=optS_n hr2
   have t2:=optS_t hr2
   rw [h3]
   simp only [Option.bind_some,bnd]
   unfold p46_j5
   simp only [Option.bind_some]
   have hk2':Sr (k+1) s2:=by unfold Sr at *; rw [n2,t2]; exact hk1
   have hlen:a2.n.Places.length≤1000:=by rw [h4.n]; unfold Sr at hk2'; omega
   rw [app_ok (by simp; omega)]
   simp only [Option.bind_some]
   have h5:ROk p RL ps ⟨a2.l,a2.i,a2.e,a2.at_,⟨a2.n.Places++[TPlace.mk nm d],a2.n.Trans⟩,a2.places,a2.told⟩ ⟨s2.l,⟨s2.n.Places++[TPlace.mk nm d],s2.n.Trans⟩,s2.told⟩:=
    ⟨h4.rl,h4.i,h4.e,by simp only; rw [h4.n],h4.pl,h4.td,h4.wf,h4.len⟩
   have hw:=j4_r h5 (k:=k+2) (by unfold Sr at hk2' ⊢; simp; omega)
   cases hr3:want [59] ⟨s2.l,⟨s2.n.Places++[TPlace.mk nm d],s2.n.Trans⟩,s2.told⟩ with
   | inr v=>obtain ⟨e,x⟩:=v; rw [hr3] at hw; exact hw
   | inl v=>obtain ⟨u,s3⟩:=v; rw [hr3] at hw; exact hw
theorem tr_end {RL:List TToken} {e x:Int} {k:Nat} {r:RP} (h:RDead RL e x k r) (hk:k≤1000) (t:TTrans):∃ r',((app 104 r.n.Trans [t]).bind fun b=>p46_j4 (some (Tq5.mk r.l r.i r.e r.at_ (TNet.mk r.n.Places b) r.places r.told)))=some (.inl (some r'))∧RDead RL e x (k+1) r':=by
 have hn:=h.n
 rw [app_ok (by simp; omega)]
 simp only [Option.bind_some]
 rw [j4_rd (r:=⟨r.l,r.i,r.e,r.at_,⟨r.n.Places,r.n.Trans++[t]⟩,r.places,r.told⟩) h.err]
 exact ⟨_,rfl,h.rl,h.i,h.ee,h.ne,h.x,by simp; omega⟩
theorem j12_rd {RL:List TToken} {e x:Int} {k:Nat} {r:RP} (h:RDead RL e x k r) (hk:k≤1000) (u:List UInt8×Option RP) (c d:Int):∃ r',p46_j12 u c (some r) d=some (.inl (some r'))∧RDead RL e x (k+1) r':=by
 unfold p46_j12
 rw [want_rd h.err]
 simp only [Option.bind_some]
 rw [inx_d h.err]
 simp only [Option.bind_some]
 rw [want_rd h.err]
 simp only [Option.bind_some]
 rw [outx_d h.err]
 simp only [Option.bind_some]
 exact tr_end h hk _
theorem j13_rd {RL:List TToken} {e x:Int} {k:Nat} {r:RP} (h:RDead RL e x k r) (hk:k≤1000) (u:List UInt8×Option RP) (c:Int):∃ r',p46_j13 u (some r) c=some (.inl (some r'))∧RDead RL e x (k+1) r':=by
 unfold p46_j13
 rw [optR_bind [33] (some r) (fun d l=>p46_j12 u c l d),opt_rd h.err]
 exact j12_rd h hk u c 0
theorem trans_r {p:List Int} {RL:List TToken} {ps:List (List UInt8)} (hps:ps.length≤1000001) {r:RP} {s:PS} (h:ROk p RL ps r s) {k:Nat} (hk:Sr k s) (hk2:k≤100) (hlen:s.l.length≤10000000):SimJ p RL ps (k+2) (p46_j14 (some r)) (bnd (transS ps s) fun _ s=>want [59] s):=by
 unfold p46_j14 transS
 have hn:=name_r h (k:=k) hk (by omega)
 cases hr:nameS s with
 | inr v=>
  obtain ⟨e,x⟩:=v
  rw [hr] at hn
  obtain ⟨v,a1,h1,h2⟩:=hn
  rw [h1]
  simp only [Option.bind_some,bnd]
  rw [optR_bind [64] (some a1) (fun d l=>p46_j13 (v,some a1) l d),opt_rd h2.err]
  obtain ⟨a2,h3,h4⟩:=j13_rd h2 (by omega) (v,some a1) 0
  exact ⟨a2,h3,h4⟩
 | inl v=>
  obtain ⟨nm,s1⟩:=v
  rw [hr] at hn
  obtain ⟨a1,h1,h2⟩:=hn
  obtain ⟨n1,l1⟩:=nameS_n hr
  have t1:=nameS_t hr
  rw [h1]
  simp only [Option.bind_some,bnd]
  rw [optR_bind [64] (some a1) (fun d l=>p46_j13 (nm,some a1) l d)]
  have hk1:Sr (k+1) s1:=by unfold Sr at *; rw [n1]; omega
  have ho:=opt_r h2 (x:=[64]) (by simp) hk1
  cases hr2:optS [64] s1 with
  | inr v=>
   obtain ⟨e,x⟩:=v
   rw [hr2] at ho
   obtain ⟨d,a2,h3,h4⟩:=ho
   rw [h3]
   obtain ⟨a3,h5,h6⟩:=j13_rd h4 (by omega) (nm,some a1) d
   exact ⟨a3,h5,h6⟩
  | inl v=>
   obtain ⟨d,s2⟩:=v
   rw [hr2] at ho
   obtain ⟨a2,h3,h4⟩:=ho
   obtain ⟨n2,l2⟩:=optS_n hr2
   have t2:=optS_t hr2
   rw [h3]
   simp only [Option.bind_some,bnd]
   unfold p46_j13
   rw [optR_bind [33] (some a2) (fun c l=>p46_j12 (nm,some a1) d l c)]
   have hk2':Sr (k+1) s2:=by unfold Sr at *; rw [n2,t2]; exact hk1
   have ho:=opt_r h4 (x:=[33]) (by simp) hk2'
   cases hr3:optS [33] s2 with
   | inr v=>
    obtain ⟨e,x⟩:=v
    rw [hr3] at ho
    obtain ⟨c,a3,h5,h6⟩:=ho
    rw [h5]
    obtain ⟨a4,h7,h8⟩:=j12_rd h6 (by omega) (nm,some a1) d c
    exact ⟨a4,h7,h8⟩
   | inl v=>
    obtain ⟨c,s3⟩:=v
    rw [hr3] at ho
    obtain ⟨a3,h5,h6⟩:=ho
    obtain ⟨n3,l3⟩:=optS_n hr3
    have t3:=optS_t hr3
    rw [h5]
    simp only [Option.bind_some,bnd]
    unfold p46_j12
    have hk3:Sr (k+1) s3:=by unfold Sr at *; rw [n3,t3]; exact hk2'
    have hw:=want_r h6 (x:=[58]) (by simp) hk3
    cases hr4:want [58] s3 with
    | inr v=>
     obtain ⟨e,x⟩:=v
     rw [hr4] at hw
     obtain ⟨a4,h7,h8⟩:=hw
     rw [h7]
     simp only [Option.bind_some]
     rw [inx_d h8.err]
     simp only [Option.bind_some]
     rw [want_rd h8.err]
     simp only [Option.bind_some]
     rw [outx_d h8.err]
     simp only [Option.bind_some]
     exact tr_end h8 (by omega) _
    | inl v=>
     obtain ⟨u,s4⟩:=v
     rw [hr4] at hw
     obtain ⟨a4,h7,h8⟩:=hw
     have n4:=want_n hr4
     subst n4
     have l4:(stp s3).l.length≤s3.l.length:=nx_len _
     have l1':s1.l.length≤s.l.length:=by rw [l1]; exact nx_len _
     rw [h7]
     simp only [Option.bind_some]
     obtain ⟨a5,i,o,h9,h10⟩:=in_r hps (stp s3).l.length 0 [] [] a4 (stp s3) h8 (Nat.le_refl _) (by omega) (by simp) (by simp) (K:=k+1) hk3
     have h9:loopC p46_l1 (0,some a4,[],[])=some (some a5,i,o):=h9
     rw [h9]
     simp only [Option.bind_some]
     simp only [decide_true] at h10
     cases hr5:inS ps (stp s3).l.length true [] [] (stp s3) with
     | inr v=>
      obtain ⟨e,x⟩:=v
      rw [hr5] at h10
      have h10:RDead RL e x (k+1) a5:=h10
      rw [want_rd h10.err]
      simp only [Option.bind_some]
      rw [outx_d h10.err]
      simp only [Option.bind_some]
      exact tr_end h10 (by omega) _
     | inl v=>
      obtain ⟨io,s5⟩:=v
      rw [hr5] at h10
      obtain ⟨rfl,s0,h11,hi0,rfl,n5,t5⟩:=h10
      have hk5:Sr (k+1) s0:=by unfold Sr at *; rw [n5,t5]; exact hk3
      have hw2:=want_r h11 (x:=[45,62]) (by simp) hk5
      unfold want at hw2
      rw [if_pos hi0] at hw2
      obtain ⟨a6,h12,h13⟩:=hw2
      rw [h12]
      simp only [Option.bind_some]
      have l5:=(inS_n hr5 (by simp) (by simp)).2.1
      obtain ⟨a7,q,h14,h15⟩:=out_r hps (stp s0).l.length 0 [] a6 (stp s0) h13 (Nat.le_refl _) (by omega) (by simp) (K:=k+1) hk5
      have h14:loopC p46_l2 (0,some a6,[])=some (some a7,q):=h14
      rw [h14]
      simp only [Option.bind_some]
      simp only [decide_true] at h15
      cases hr6:outS ps (stp s0).l.length true [] (stp s0) with
      | inr v=>
       obtain ⟨e,x⟩:=v
       rw [hr6] at h15
       exact tr_end h15 (by omega) _
      | inl v=>
       obtain ⟨oo,s6⟩:=v
       rw [hr6] at h15
       obtain ⟨rfl,h16,n6,t6⟩:=h15
       have hk6:Sr (k+1) s6:=by unfold Sr at *; rw [n6,t6]; exact hk5
       have hlen:a7.n.Trans.length≤1000:=by rw [h16.n]; unfold Sr at hk6; omega
       rw [app_ok (by simp; omega)]
       simp only [Option.bind_some]
       have h17:ROk p RL ps ⟨a7.l,a7.i,a7.e,a7.at_,⟨a7.n.Places,a7.n.Trans++[TTrans.mk nm d c i o oo]⟩,a7.places,a7.told⟩ ⟨s6.l,⟨s6.n.Places,s6.n.Trans++[TTrans.mk nm d c i o oo]⟩,s6.told⟩:=
        ⟨h16.rl,h16.i,h16.e,by simp only; rw [h16.n],h16.pl,h16.td,h16.wf,h16.len⟩
       have hw:=j4_r h17 (k:=k+2) (by unfold Sr at hk6 ⊢; simp; omega)
       cases hr7:want [59] ⟨s6.l,⟨s6.n.Places,s6.n.Trans++[TTrans.mk nm d c i o oo]⟩,s6.told⟩ with
       | inr v=>obtain ⟨e,x⟩:=v; rw [hr7] at hw; exact hw
       | inl v=>obtain ⟨u,s7⟩:=v; rw [hr7] at hw; exact hw
theorem kw_sees {p:List Int} {RL:List TToken} {ps:List (List UInt8)} {r:RP} {s:PS} (h:ROk p RL ps r s) {x:List UInt8} (hx:x≠[]):p64 (some r) 1 x=some (kw (hd s.l) x):=by
 rw [sees_r h]
 simp [kw,hx]
theorem j6_rd {RL:List TToken} {e x:Int} {k:Nat} {r:RP} (h:RDead RL e x k r) (hk:k≤100):∃ r',p46_j6 (some r)=some (.inl (some r'))∧RDead RL e x (k+2) r':=by
 unfold p46_j6
 obtain ⟨v,a1,h1,h2⟩:=name_rd h (by omega)
 rw [h1]
 simp only [Option.bind_some]
 rw [optR_bind [61] (some a1) (fun d l=>p46_j5 (v,some a1) l d),opt_rd h2.err]
 exact j5_rd h2 (by omega) (v,some a1) 0
theorem j14_rd {RL:List TToken} {e x:Int} {k:Nat} {r:RP} (h:RDead RL e x k r) (hk:k≤100):∃ r',p46_j14 (some r)=some (.inl (some r'))∧RDead RL e x (k+2) r':=by
 unfold p46_j14
 obtain ⟨v,a1,h1,h2⟩:=name_rd h (by omega)
 rw [h1]
 simp only [Option.bind_some]
 rw [optR_bind [64] (some a1) (fun d l=>p46_j13 (v,some a1) l d),opt_rd h2.err]
 exact j13_rd h2 (by omega) (v,some a1) 0
theorem item_r {p:List Int} {RL:List TToken} {ps:List (List UInt8)} (hps:ps.length≤1000001) {r:RP} {s:PS} (h:ROk p RL ps r s) {k:Nat} (hk:Sr k s) (hk2:k≤98) (hlen:s.l.length≤10000000):SimJ p RL ps (k+2) (p46_j15 r true) (itemS ps s):=by
 unfold p46_j15 itemS bodyS
 rw [if_pos rfl,kw_sees h (by simp)]
 simp only [Option.bind_some]
 obtain ⟨r1,g1,g2⟩:=step_r h
 have hk1:Sr k (stp s):=hk
 have hl1:(stp s).l.length≤10000000:=Nat.le_trans (nx_len _) hlen
 by_cases h1:kw (hd s.l) [112,108,97,99,101]=true
 ·rw [if_pos h1,if_pos h1,g1]
  simp only [Option.bind_some]
  have en:r1.n=s.n:=g2.n
  rw [en]
  by_cases h32:s.n.Places.length=32
  ·rw [if_pos (by omega),if_pos h32]
   obtain ⟨b,h3,h4⟩:=fail_r g2 (e:=5) (by decide) hk1
   rw [h3]
   exact j6_rd h4 (by omega)
  rw [if_neg (by omega),if_neg h32]
  exact place_r g2 hk1 (by omega)
 rw [if_neg h1,if_neg h1,kw_sees h (by simp)]
 simp only [Option.bind_some]
 by_cases h2:kw (hd s.l) [116,114,97,110,115]=true
 ·rw [if_pos h2,if_pos h2,g1]
  simp only [Option.bind_some]
  have en:r1.n=s.n:=g2.n
  rw [en]
  by_cases h32:s.n.Trans.length=32
  ·rw [if_pos (by omega),if_pos h32]
   obtain ⟨b,h3,h4⟩:=fail_r g2 (e:=5) (by decide) hk1
   rw [h3]
   exact j14_rd h4 (by omega)
  rw [if_neg (by omega),if_neg h32]
  exact trans_r hps g2 hk1 (by omega) hl1
 rw [if_neg h2,if_neg h2]
 obtain ⟨b,h3,h4⟩:=fail_r h (e:=6) (by decide) hk
 rw [h3]
 exact ⟨b,j4_rd h4.err,h4.mono (by omega)⟩
theorem itemS_t {ps:List (List UInt8)} {s s':PS} {u:Unit} (h:itemS ps s=.inl (u,s')) (ht:s.told.length=s.n.Places.length+s.n.Trans.length):s'.told.length=s'.n.Places.length+s'.n.Trans.length:=by
 unfold itemS at h
 obtain ⟨_,s1,h1,h⟩:=bnd_inl h
 have e:=want_n h
 have e1:s'.told=s1.told:=by rw [e]; rfl
 have n1:s'.n=s1.n:=by rw [e]; rfl
 rw [e1,n1]
 unfold bodyS er at h1
 split at h1
 ·split at h1
  ·cases h1
  unfold placeS at h1
  obtain ⟨nm,s2,q1,h1⟩:=bnd_inl h1
  obtain ⟨d,s3,q2,h1⟩:=bnd_inl h1
  cases h1
  have a1:=(nameS_n q1).1
  have a2:=nameS_t q1
  have a3:=(optS_n q2).1
  have a4:=optS_t q2
  simp only [a4,a3,a1,a2]
  simp [stp]
  omega
 split at h1
 ·split at h1
  ·cases h1
  unfold transS at h1
  obtain ⟨nm,s2,q1,h1⟩:=bnd_inl h1
  obtain ⟨d,s3,q2,h1⟩:=bnd_inl h1
  obtain ⟨c,s4,q3,h1⟩:=bnd_inl h1
  obtain ⟨_,s5,q4,h1⟩:=bnd_inl h1
  obtain ⟨io,s6,q5,h1⟩:=bnd_inl h1
  obtain ⟨o,s7,q6,h1⟩:=bnd_inl h1
  cases h1
  have a1:=(nameS_n q1).1
  have a2:=nameS_t q1
  have a3:=(optS_n q2).1
  have a4:=optS_t q2
  have a5:=(optS_n q3).1
  have a6:=optS_t q3
  have a7:=want_n q4
  have a8:=(inS_n q5 (by simp) (by simp)).1
  have a9:=inS_t q5
  have b1:=(outS_n q6 (by simp)).1
  have b2:=outS_t q6
  have c1:s5.n=s4.n:=by rw [a7]; rfl
  have c2:s5.told=s4.told:=by rw [a7]; rfl
  simp only [b2,a9,c2,a6,a4,b1,a8,c1,a5,a3,a1,a2]
  simp [stp]
  omega
 cases h1
theorem main_r {p:List Int} {RL:List TToken} {ps:List (List UInt8)} (hps:ps.length≤1000001) (x:Int×Int):∀ (k:Nat) (r:RP) (s:PS),ROk p RL ps r s→s.l.length≤k→k≤10000000→NOk s.n→s.told.length=s.n.Places.length+s.n.Trans.length→
  ∃ r',loopC (p46_l3 (RL,x)) (some r)=some (some r')∧match allS ps k s with
   | .inl n=>r'.e=0∧r'.n=n
   | .inr (e,x)=>RDead RL e x 34 r':=by
 intro k
 induction k with
 | zero=>
  intro r s h hk
  have:s.l=[]:=List.eq_nil_of_length_eq_zero (by omega)
  exact absurd this h.wf.ne
 | succ k ih=>
  intro r s h hk hk2 hn ht
  rw [allS]
  obtain ⟨i,t,ts,e1,e2,e3,hi,e4⟩:=h.open
  have eh:hd s.l=tokR t:=by rw [e3]; rfl
  have hbody:p46_l3 (RL,x) (some r)=p46_j15 r (!decide (t.Kind=0)):=by
   unfold p46_l3
   simp only [Option.bind_some]
   rw [if_pos h.e]
   have:r.i=(i:Int):=by rw [e1]
   rw [this,idx_ok e4]; rfl
  by_cases h0:t.Kind=0
  ·rw [if_pos (by rw [eh]; exact h0)]
   refine ⟨r,loopC_end ?_,h.e,h.n⟩
   rw [hbody]
   unfold p46_j15
   rw [if_neg (by simp [h0])]
  rw [if_neg (by rw [eh]; exact h0)]
  rw [show (!decide (t.Kind=0))=true by simp [h0]] at hbody
  obtain ⟨b1,b2,b3⟩:=hn
  have hi:=item_r hps h (k:=32) ⟨b1,b2,by omega⟩ (by omega) (by omega)
  cases hr:itemS ps s with
  | inl v=>
   obtain ⟨u,s'⟩:=v
   rw [hr] at hi
   obtain ⟨a1,q1,q2⟩:=hi
   obtain ⟨q3,q4⟩:=itemS_n h.wf ⟨b1,b2,b3⟩ hr
   obtain ⟨a2,q5,q6⟩:=ih a1 s' q2 (by omega) (by omega) q3 (itemS_t hr ht)
   exact ⟨a2,loopC_go (by rw [hbody,q1]) q5,q6⟩
  | inr v=>
   obtain ⟨e,x'⟩:=v
   rw [hr] at hi
   obtain ⟨a1,q1,q2⟩:=hi
   refine ⟨a1,loopC_go (by rw [hbody,q1]) (loopC_end ?_),q2⟩
   unfold p46_l3
   simp only [Option.bind_some]
   rw [if_neg q2.err]
   rfl
theorem names_r {L:List TToken} (hl:L.length≤1000001) (x:Int×Int):∃ m,loopC (p46_l0 (L,x)) ((0:Int),[])=some m∧m=placesOf (L.map tokR) []∧m.length≤L.length:=by
 refine loop_cnt L.length (fun i st=>∃ acc:List (List UInt8),st=((i:Int),acc)∧acc.length≤i∧i≤L.length∧placesOf (L.map tokR) []=placesOf ((L.map tokR).drop i) acc) _ ?_ ?_ ⟨[],rfl,Nat.le_refl _,Nat.zero_le _,rfl⟩
 ·rintro i _ hi ⟨acc,rfl,h1,h3,h2⟩
  have hw:IntKind.wrap .i64 ((i:Int)+1)=((i+1:Nat):Int):=by rw [wrap64 (by omega) (by omega)]; rfl
  by_cases hi2:i+1 < L.length
  ·left
   have hi1:i < L.length:=by omega
   have hd1:(L.map tokR).drop i=tokR L[i]::tokR L[i+1]::(L.map tokR).drop (i+2):=by
    rw [List.drop_eq_getElem_cons (by simpa using hi1),List.drop_eq_getElem_cons (by simpa using hi2)]
    simp
   have hd2:(L.map tokR).drop (i+1)=tokR L[i+1]::(L.map tokR).drop (i+2):=by
    rw [List.drop_eq_getElem_cons (by simpa using hi2)]
    simp
   rw [hd1,placesOf,← hd2] at h2
   refine ⟨(((i+1:Nat):Int),(if kw (tokR L[i]) [112,108,97,99,101]=true∧(tokR L[i+1]).k=1∧(tokR L[i+1]).s∉acc then acc++[(tokR L[i+1]).s] else acc)),?_,_,rfl,?_,hi,h2⟩
   ·have hj0:∀ c:List (List UInt8),p46_j0 (i:Int) c=some (.inl (((i+1:Nat):Int),c)):=by
     intro c; unfold p46_j0; rw [hw]
    have kwe:kw (tokR L[i]) [112,108,97,99,101]=(decide (L[i].Kind=1)&&(L[i].Text==[112,108,97,99,101])):=rfl
    rw [kwe]
    unfold p46_l0
    simp only
    rw [hw,if_pos (by omega),idx_get hi1]
    simp only [Option.bind_some]
    by_cases c1:L[i].Kind=1
    ·rw [if_pos c1]
     unfold p46_j3
     by_cases c2:(L[i].Text==[112,108,97,99,101])=true
     ·rw [if_pos c2,hw,idx_get hi2]
      simp only [Option.bind_some]
      unfold p46_j2
      by_cases c3:L[i+1].Kind=1
      ·rw [if_pos (by simp [c3]),hw,idx_get hi2]
       simp only [Option.bind_some]
       rw [p63_eq (by omega)]
       simp only [Option.bind_some]
       unfold p46_j1
       cases hp:plc acc L[i+1].Text with
       | none=>
        simp only
        rw [if_pos (by simp),hw,idx_get hi2]
        simp only [Option.bind_some]
        rw [app_ok (by simp; omega)]
        simp only [Option.bind_some]
        rw [if_pos ⟨by simp [c1,c2],c3,plc_none.1 hp⟩,hj0]
        rfl
       | some q=>
        simp only
        rw [if_neg (by simp),if_neg (fun h=>by rw [plc_none.2 (show L[i+1].Text∉acc from h.2.2)] at hp; cases hp),hj0]
      rw [if_neg (by simp [c3]),if_neg (fun h=>c3 h.2.1)]
      unfold p46_j1
      rw [if_neg (by simp),hj0]
     rw [if_neg c2,if_neg (fun h=>c2 (by have:=h.1; simp only [Bool.and_eq_true,decide_eq_true_eq] at this; exact this.2))]
     unfold p46_j2 p46_j1
     rw [if_neg (by simp),if_neg (by simp),hj0]
    rw [if_neg c1,if_neg (fun h=>c1 (by have:=h.1; simp only [Bool.and_eq_true,decide_eq_true_eq] at this; exact this.1))]
    unfold p46_j3 p46_j2 p46_j1
    rw [if_neg (by simp),if_neg (by simp),if_neg (by simp),hj0]
   split
   ·simp; omega
   omega
  right
  refine ⟨acc,?_,?_,by omega⟩
  ·unfold p46_l0
   simp only
   rw [hw,if_neg (by omega)]
  rw [h2]
  have:(L.map tokR).drop i=[tokR L[i]]:=by
   rw [List.drop_eq_getElem_cons (by simpa using hi),List.drop_eq_nil_of_le (by simp; omega)]
   simp
  rw [this]
  rfl
 rintro _ ⟨acc,rfl,h1,h3,h2⟩
 refine ⟨acc,?_,?_,by omega⟩
 ·have hw:IntKind.wrap .i64 ((L.length:Int)+1)=((L.length+1:Nat):Int):=by rw [wrap64 (by omega) (by omega)]; rfl
  unfold p46_l0
  simp only
  rw [hw,if_neg (by omega)]
 rw [h2,List.drop_eq_nil_of_le (by simp)]
 rfl
theorem p46_eq {p:List Int} (hp:Bytes p) (hl:p.length≤1000000) {L:List Tok} {e a:Int} (hL:LexR p 0 [] (L,e,a)) :
  (e=0→match parseS L with
   | .inl n=>p46 p=some (n,0,0)
   | .inr (e,x)=>p46 p=some (⟨[],[]⟩,e,x))∧(e≠0→p46 p=some (⟨[],[]⟩,e,a)):=by
 obtain ⟨r,h1,L',e',a',h2,h3⟩:=p19_eq hp hl
 have hd:=LexR.det hL h2
 simp only [Prod.mk.injEq] at hd
 obtain ⟨rfl,rfl,rfl⟩:=hd
 unfold p46
 rw [h1]
 simp only [Option.bind_some]
 rcases h3 with ⟨rfl,h4,h5,h6⟩ | ⟨h4,h5,i,h6,rfl,h7⟩
 ·refine ⟨fun _=>?_,fun h=>absurd rfl h⟩
  have hw:=lex_wf hp hl hL
  rw [h4,if_neg (by simp)]
  obtain ⟨l,x⟩:=r
  simp only at h4 h5 h6
  obtain ⟨m,q1,q2,q3⟩:=names_r (L:=l) (by omega) x
  rw [q1]
  simp only [Option.bind_some]
  rw [h5] at q2
  have h0:ROk p l m ⟨l,0,0,0,⟨[],[]⟩,m,[]⟩ ⟨L,⟨[],[]⟩,[]⟩:=⟨rfl,⟨0,rfl,by simpa using h5⟩,rfl,rfl,rfl,rfl,hw,by omega⟩
  have hll:L.length=l.length:=by rw [← h5]; simp
  obtain ⟨r',g1,g2⟩:=main_r (show m.length≤1000001 by omega) x L.length _ _ h0 (Nat.le_refl _) (by omega) ⟨by simp,by simp,fun t ht=>by cases ht⟩ rfl
  rw [g1]
  simp only [Option.bind_some]
  unfold parseS
  rw [← q2]
  cases hr:allS m L.length ⟨L,⟨[],[]⟩,[]⟩ with
  | inl n=>
   rw [hr] at g2
   obtain ⟨g2,rfl⟩:=g2
   simp only
   rw [g2,if_neg (by simp)]
  | inr v=>
   obtain ⟨e,x'⟩:=v
   rw [hr] at g2
   have g2:RDead l e x' 34 r':=g2
   simp only
   rw [if_pos (by simpa using g2.err),g2.ee,g2.x]
 refine ⟨fun h=>absurd h h4,fun _=>?_⟩
 rw [h5,if_pos (by simpa using h4),h7]
end Go.Proofs.Ytloaoofdbilpeaa
namespace Go.Proofs.Ytloaoofdbilpeaa
open Go Go.Am
theorem p45_eq {a b:List TArc} (ha:a.length≤1000000):∃ r,p45 a b=some r∧(r=true↔a=b):=by
 unfold p45
 by_cases hl:a.length=b.length
 ·rw [if_neg (by simp [hl])]
  have key:∃ r,loopC (p45_l0 a b) (0:Int)=some r∧(r=.inr ()↔a=b):=by
   refine loop_cnt a.length (fun k st=>st=(k:Int)∧a.take k=b.take k) _ ?_ ?_ ⟨rfl,rfl⟩
   ·rintro k _ hk ⟨rfl,he⟩
    have hkb:k < b.length:=by omega
    unfold p45_l0
    rw [if_pos (by omega),idx_get hk,idx_get hkb]
    simp only [Option.bind_some]
    by_cases h:a[k]=b[k]
    ·left
     rw [if_neg (by simp [h])]
     refine ⟨_,rfl,by rw [wrap64 (by omega) (by omega)]; rfl,?_⟩
     rw [List.take_succ_eq_append_getElem hk,List.take_succ_eq_append_getElem hkb,he,h]
    right
    rw [if_pos (by
     have:¬ (a[k].Place=b[k].Place∧a[k].N=b[k].N):=fun hh=>h (by
      cases h1:a[k]; cases h2:b[k]; rw [h1,h2] at hh; simp only at hh; rw [hh.1,hh.2])
     simp only [Bool.and_true,Bool.not_eq_true',Bool.and_eq_false_iff,decide_eq_false_iff_not]
     by_cases h3:a[k].Place=b[k].Place
     ·exact .inr fun h4=>this ⟨h3,h4⟩
     exact .inl h3)]
    refine ⟨_,rfl,by simp,fun hh=>?_⟩
    subst hh; exact absurd rfl h
   rintro _ ⟨rfl,he⟩
   unfold p45_l0
   rw [if_neg (by omega)]
   refine ⟨_,rfl,fun _=>?_,fun _=>rfl⟩
   rw [List.take_length,hl,List.take_length] at he
   exact he
  obtain ⟨r,h1,h2⟩:=key
  rw [h1]
  simp only [Option.bind_some]
  cases r with
  | inl u=>exact ⟨false,rfl,by simp at h2 ⊢; exact h2⟩
  | inr u=>exact ⟨true,rfl,by simp at h2 ⊢; exact h2⟩
 rw [if_pos (by simp; omega)]
 exact ⟨false,rfl,by simp; intro h; exact hl (by rw [h])⟩
theorem trans_alike {x y:TTrans} (hx:x.In.length≤1000000∧x.Not.length≤1000000∧x.Out.length≤1000000) (k:Int) :
  (x=y∧(if (!(x.Name==y.Name))=true then p29_j4 k x y true else p29_j4 k x y (!decide (x.Delay=y.Delay)))=some (.inl (IntKind.wrap .i64 (k+1))))∨
  (x≠y∧(if (!(x.Name==y.Name))=true then p29_j4 k x y true else p29_j4 k x y (!decide (x.Delay=y.Delay)))=some (.inr (.inl ()))):=by
 have hT:∀ b,b=true→p29_j0 k b=some (.inr (.inl ())):=fun b h=>by unfold p29_j0; rw [if_pos h]
 have h1T:p29_j1 k x y true=some (.inr (.inl ())):=by unfold p29_j1; rw [if_pos rfl]; exact hT _ rfl
 have h2T:p29_j2 k x y true=some (.inr (.inl ())):=by unfold p29_j2; rw [if_pos rfl]; exact h1T
 have h3T:p29_j3 k x y true=some (.inr (.inl ())):=by unfold p29_j3; rw [if_pos rfl]; exact h2T
 have h4T:p29_j4 k x y true=some (.inr (.inl ())):=by unfold p29_j4; rw [if_pos rfl]; exact h3T
 obtain ⟨b1,e1,q1⟩:=p45_eq (b:=y.In) hx.1
 obtain ⟨b2,e2,q2⟩:=p45_eq (b:=y.Not) hx.2.1
 obtain ⟨b3,e3,q3⟩:=p45_eq (b:=y.Out) hx.2.2
 by_cases n1:x.Name=y.Name
 ·rw [if_neg (by simp [n1])]
  by_cases n2:x.Delay=y.Delay
  ·rw [show (!decide (x.Delay=y.Delay))=false by simp [n2]]
   unfold p29_j4
   rw [if_neg (by simp)]
   by_cases n3:x.Prio=y.Prio
   ·rw [show (!decide (x.Prio=y.Prio))=false by simp [n3]]
    unfold p29_j3
    rw [if_neg (by simp),e1]
    simp only [Option.bind_some]
    cases b1 with
    | false=>exact .inr ⟨fun h=>Bool.noConfusion (q1.2 (by rw [h])),h2T⟩
    | true=>
     simp only [Bool.not_true]
     unfold p29_j2
     rw [if_neg (by simp),e2]
     simp only [Option.bind_some]
     cases b2 with
     | false=>exact .inr ⟨fun h=>Bool.noConfusion (q2.2 (by rw [h])),h1T⟩
     | true=>
      simp only [Bool.not_true]
      unfold p29_j1
      rw [if_neg (by simp),e3]
      simp only [Option.bind_some]
      cases b3 with
      | false=>exact .inr ⟨fun h=>Bool.noConfusion (q3.2 (by rw [h])),hT _ rfl⟩
      | true=>
       refine .inl ⟨?_,rfl⟩
       have i1:=q1.1 rfl
       have i2:=q2.1 rfl
       have i3:=q3.1 rfl
       cases x; cases y
       simp only at n1 n2 n3 i1 i2 i3
       rw [n1,n2,n3,i1,i2,i3]
   rw [show (!decide (x.Prio=y.Prio))=true by simp [n3]]
   exact .inr ⟨fun h=>n3 (by rw [h]),h3T⟩
  rw [show (!decide (x.Delay=y.Delay))=true by simp [n2]]
  exact .inr ⟨fun h=>n2 (by rw [h]),h4T⟩
 rw [if_pos (by simp [n1])]
 exact .inr ⟨fun h=>n1 (by rw [h]),h4T⟩
def NLen (n:TNet):Prop:=n.Places.length≤1000000∧n.Trans.length≤1000000∧∀ t,t∈n.Trans→t.In.length≤1000000∧t.Not.length≤1000000∧t.Out.length≤1000000
theorem NOk.len {n:TNet} (h:NOk n):NLen n:=⟨by have:=h.1; omega,by have:=h.2.1; omega,fun t ht=>by have:=h.2.2 t ht; omega⟩
theorem p29_eq {x y:TNet} (hx:NLen x):∃ r,p29 x y=some r∧(r=true↔x=y):=by
 obtain ⟨l1,l2,l3⟩:=hx
 unfold p29
 have hF:x≠y→∃ r,p29_j5 x y true=some r∧(r=true↔x=y):=fun h=>⟨false,by unfold p29_j5; rw [if_pos rfl],by simp [h]⟩
 by_cases c1:x.Places.length=y.Places.length
 ·rw [if_neg (by simp [c1])]
  by_cases c2:x.Trans.length=y.Trans.length
  ·rw [show (!decide ((x.Trans.length:Int)=(y.Trans.length:Int)))=false by simp [c2]]
   unfold p29_j5
   rw [if_neg (by simp)]
   have k1:∃ r,loopC (p29_l0 x y) (false,(0:Int))=some r∧(r=.inr false∧x.Places=y.Places∨r=.inl ()∧x.Places≠y.Places):=by
    refine loop_cnt x.Places.length (fun k st=>st=(false,(k:Int))∧x.Places.take k=y.Places.take k) _ ?_ ?_ ⟨rfl,rfl⟩
    ·rintro k _ hk ⟨rfl,he⟩
     have hkb:k < y.Places.length:=by omega
     unfold p29_l0
     simp only
     rw [if_pos (by omega),idx_get hk,idx_get hkb]
     simp only [Option.bind_some]
     by_cases h:x.Places[k]=y.Places[k]
     ·left
      rw [if_neg (by simp [h])]
      refine ⟨_,rfl,by rw [wrap64 (by omega) (by omega)]; rfl,?_⟩
      rw [List.take_succ_eq_append_getElem hk,List.take_succ_eq_append_getElem hkb,he,h]
     right
     rw [if_pos (by
      have:¬ (x.Places[k].Name=y.Places[k].Name∧x.Places[k].Tokens=y.Places[k].Tokens):=fun hh=>h (by
       cases h1:x.Places[k]; cases h2:y.Places[k]; rw [h1,h2] at hh; simp only at hh; rw [hh.1,hh.2])
      by_cases h3:x.Places[k].Name=y.Places[k].Name
      ·have h4:¬ x.Places[k].Tokens=y.Places[k].Tokens:=fun h4=>this ⟨h3,h4⟩
       simp [h4]
      simp [h3])]
     exact ⟨_,rfl,.inr ⟨rfl,fun hh=>h (by simp only [hh])⟩⟩
    rintro _ ⟨rfl,he⟩
    unfold p29_l0
    simp only
    rw [if_neg (by omega)]
    refine ⟨_,rfl,.inl ⟨rfl,?_⟩⟩
    rw [List.take_length,c1,List.take_length] at he
    exact he
   obtain ⟨r,h1,h2⟩:=k1
   rw [h1]
   simp only [Option.bind_some]
   rcases h2 with ⟨rfl,h2⟩ | ⟨rfl,h2⟩
   ·simp only
    have k2:∃ r,loopC (p29_l1 x y) (0:Int)=some r∧(r=.inr ()∧x.Trans=y.Trans∨r=.inl ()∧x.Trans≠y.Trans):=by
     refine loop_cnt x.Trans.length (fun k st=>st=(k:Int)∧x.Trans.take k=y.Trans.take k) _ ?_ ?_ ⟨rfl,rfl⟩
     ·rintro k _ hk ⟨rfl,he⟩
      have hkb:k < y.Trans.length:=by omega
      unfold p29_l1
      rw [if_pos (by omega),idx_get hk,idx_get hkb]
      simp only [Option.bind_some]
      rcases trans_alike (y:=y.Trans[k]) (l3 _ (List.getElem_mem hk)) (k:Int) with ⟨h,e⟩ | ⟨h,e⟩
      ·left
       refine ⟨_,e,by rw [wrap64 (by omega) (by omega)]; rfl,?_⟩
       rw [List.take_succ_eq_append_getElem hk,List.take_succ_eq_append_getElem hkb,he,h]
      right
      exact ⟨_,e,.inr ⟨rfl,fun hh=>h (by simp only [hh])⟩⟩
     rintro _ ⟨rfl,he⟩
     unfold p29_l1
     rw [if_neg (by omega)]
     refine ⟨_,rfl,.inl ⟨rfl,?_⟩⟩
     rw [List.take_length,c2,List.take_length] at he
     exact he
    obtain ⟨r,h3,h4⟩:=k2
    rw [h3]
    simp only [Option.bind_some]
    rcases h4 with ⟨rfl,h4⟩ | ⟨rfl,h4⟩
    ·exact ⟨true,rfl,fun _=>by cases x; cases y; simp only at h2 h4; rw [h2,h4],fun _=>rfl⟩
    exact ⟨false,rfl,by simp; intro h; exact h4 (by rw [h])⟩
   exact ⟨false,rfl,by simp; intro h; exact h2 (by rw [h])⟩
  rw [show (!decide ((x.Trans.length:Int)=(y.Trans.length:Int)))=true by simp; omega]
  exact hF fun h=>c2 (by rw [h])
 rw [if_pos (by simp; omega)]
 exact hF fun h=>c1 (by rw [h])
theorem p29_same {x:TNet} (hx:NLen x):p29 x x=some true:=by
 obtain ⟨r,h1,h2⟩:=p29_eq (y:=x) hx
 rw [h1,h2.2 rfl]
end Go.Proofs.Ytloaoofdbilpeaa
namespace Go.Proofs.Ytloaoofdbilpeaa
open Go Go.Am
theorem p30_true {p:List Int} (hp:Bytes p) (hl:p.length≤1000000):p30 p=some true:=by
 obtain ⟨L,e,a,h1,h2⟩:=p26_eq hp hl
 obtain ⟨r1,r2⟩:=p46_eq hp hl h1
 unfold p30
 have fault:∀ (e x:Int) (i:Nat),e≠0→i≤p.length→x=(i:Int)→p26 p=some (⟨[],[]⟩,FF p e x)→p46 p=some (⟨[],[]⟩,e,x)→
   ((p26 p).bind fun u104=>(p46 p).bind fun u119=>if (!decide (u119.2.1=(0:Int)))=true then ((p20 p u119.2.2).bind fun u130=>if ((decide (u104.2.Err=u119.2.1))&&((decide (u104.2.At=u119.2.2))&&((decide (u104.2.Line=u130.1))&&((decide (u104.2.Col=u130.2))&&true))))=true then (p30_j0 (decide ((IntKind.wrap .i64 ((u104.1.Places.length:Int)+(u104.1.Trans.length:Int)))=(0:Int)))) else (p30_j0 false)) else (if ((decide (u104.2.Err=(0:Int)))&&((decide (u104.2.At=(0:Int)))&&((decide (u104.2.Line=(0:Int)))&&((decide (u104.2.Col=(0:Int)))&&true))))=true then ((p29 u104.1 u119.1).bind fun y155=>p30_j2 u104 y155) else (p30_j2 u104 false)))=some true:=by
  intro e x i he hi hx q1 q2
  subst hx
  rw [q1,q2]
  simp only [Option.bind_some]
  rw [if_pos (by simpa using he),p20_eq hl hi]
  simp only [Option.bind_some]
  rw [if_pos (by simp [FF])]
  rfl
 rcases h2 with ⟨rfl,hw,h3⟩ | ⟨he,⟨i,hi,hx⟩,h3⟩
 ·have r1:=r1 rfl
  cases hr:parseS L with
  | inl n=>
   rw [hr] at h3 r1
   obtain ⟨h4,h5⟩:=h3
   have r1:p46 p=some (n,0,0):=r1
   obtain ⟨_,hg⟩:=parse_good hp hl h1 hr
   rw [h5,r1]
   simp only [Option.bind_some]
   rw [if_neg (by simp),if_pos (by simp),p29_same h4.len]
   simp only [Option.bind_some]
   unfold p30_j2
   rw [if_pos rfl,p47_no h4 hg]
   rfl
  | inr v=>
   obtain ⟨e,x⟩:=v
   rw [hr] at h3 r1
   obtain ⟨h4,⟨i,hi,hx⟩,h5⟩:=h3
   have r1:p46 p=some (⟨[],[]⟩,e,x):=r1
   exact fault e x i h4 hi hx h5 r1
 exact fault e a i he hi hx h3 (r2 he)
end Go.Proofs.Ytloaoofdbilpeaa
namespace Go.Proofs.Ytloaoofdbilpeaa
open Go Go.Am
def dg:Nat→Nat→List UInt8
 | 0,n=>[u8 (48+(n:Int))]
 | f+1,n=>if n < 10 then [u8 (48+(n:Int))] else dg f (n / 10)++[u8 (48+((n % 10:Nat):Int))]
def dgs (n:Int):List UInt8:=dg 7 n.toNat
theorem dg_len:∀ f n,(dg f n).length≤f+1
 | 0,n=>by simp [dg]
 | f+1,n=>by
  have:=dg_len f (n / 10)
  unfold dg
  split
  ·simp
  simp; omega
theorem dgs_len (n:Int):(dgs n).length≤8:=dg_len 7 _
theorem wrap_dig {n:Nat} (h:n < 10):IntKind.wrap .u8 (IntKind.wrap .i64 ((48:Int)+(n:Int)))=48+(n:Int):=by
 rw [wrap64 (by omega) (by omega),IntWalk.u8_in _ (by omega)]
theorem q42_dg:∀ (f k n:Nat),f < k→f≤7→n < 10 ^ (f+1)→n≤100000000→q42 k (n:Int)=some (dg f n)
 | _,0,n,h,_,_,_=>by omega
 | 0,k+1,n,h,_,hn,_=>by
  have hn:n < 10:=by simpa using hn
  show b42 (q42 k) (n:Int)=_
  unfold b42
  rw [if_neg (by omega),if_pos (by omega)]
  simp only [List.map_cons,List.map_nil,wrap_dig hn,dg]
 | f+1,k+1,n,h,hf,hn,hb=>by
  show b42 (q42 k) (n:Int)=_
  unfold b42 dg
  rw [if_neg (by omega)]
  by_cases h10:n < 10
  ·rw [if_pos (by omega),if_pos h10]
   simp only [List.map_cons,List.map_nil,wrap_dig h10]
  rw [if_neg (by omega),if_neg h10]
  have e1:Int.tdiv (n:Int) (10:Int)=((n / 10:Nat):Int):=by rw [Int.tdiv_eq_ediv_of_nonneg (by omega)]; omega
  have e2:Int.tmod (n:Int) (10:Int)=((n % 10:Nat):Int):=by rw [Int.tmod_eq_emod_of_nonneg (by omega)]; omega
  have hp:10 ^ (f+1+1)=10 ^ (f+1) * 10:=Nat.pow_succ ..
  have hlt:n / 10 < 10 ^ (f+1):=by rw [Nat.div_lt_iff_lt_mul (by omega)]; omega
  rw [e1,e2,wrap64 (by omega) (by omega),q42_dg f k (n / 10) (by omega) (by omega) hlt (by omega)]
  simp only [Option.bind_some,List.map_cons,List.map_nil,wrap_dig (Nat.mod_lt n (show 0 < 10 by omega))]
  rw [catS_ok (by have:=dg_len f (n / 10); simp; omega)]
  rfl
theorem p42_eq {n:Int} (h0:0≤n) (h1:n≤1000000):p42 n=some (dgs n):=by
 unfold p42 dgs
 have:=q42_dg 7 64 n.toNat (by omega) (by omega) (by omega) (by omega)
 rwa [Int.toNat_of_nonneg h0] at this
structure PNet (n:TNet):Prop where
 good:NGood n.Places.length n
 lp:n.Places.length≤32
 lt:n.Trans.length≤32
 la:∀ t,t∈n.Trans→t.In.length≤8∧t.Not.length≤8∧t.Out.length≤8
def nmOf (n:TNet) (i:Int):List UInt8:=((n.Places[i.toNat]?).map TPlace.Name).getD []
def arcT (n:TNet) (a:TArc):List UInt8:=nmOf n a.Place++if a.N=1 then [] else 42::dgs a.N
def tilT (n:TNet) (a:TArc):List UInt8:=126::arcT n a
def sp (f:Bool) (l:List TArc):List UInt8:=if f=true∧l=[] then [32] else [44,32]
def jn (g:TArc→List UInt8):Bool→List TArc→List UInt8
 | _,[]=>[]
 | f,a::l=>sp f []++(g a++jn g false l)
def nT (pre:List UInt8) (n:Int):List UInt8:=if n=0 then [] else pre++dgs n
def trT (n:TNet) (t:TTrans):List UInt8:=[116,114,97,110,115,32]++(t.Name++(nT [32,64] t.Delay++(nT [32,33] t.Prio++([58]++(jn (arcT n) true t.In++(jn (tilT n) t.In.isEmpty t.Not++([32,45,62]++(jn (arcT n) true t.Out++[59,10]))))))))
def plT (p:TPlace):List UInt8:=[112,108,97,99,101,32]++(p.Name++(nT [32,61,32] p.Tokens++[59,10]))
def netT (n:TNet):List UInt8:=(n.Places.map plT).flatten++(n.Trans.map (trT n)).flatten
theorem sp_len (f:Bool) (l:List TArc):(sp f l).length≤2:=by unfold sp; split<;>simp
theorem nT_len {pre:List UInt8} (h:pre.length≤3) (n:Int):(nT pre n).length≤11:=by
 have:=dgs_len n
 unfold nT; split
 ·simp
 simp; omega
theorem jn_len {g:TArc→List UInt8}:∀ {f:Bool} {l:List TArc},(∀ a,a∈l→(g a).length≤22)→(jn g f l).length≤24 * l.length
 | _,[],_=>Nat.zero_le _
 | f,a::l,h=>by
  have h1:=jn_len (f:=false) (l:=l) fun x hx=>h x (List.mem_cons_of_mem _ hx)
  have h2:=h a (List.mem_cons_self ..)
  have h3:=sp_len f []
  unfold jn
  simp only [List.length_append,List.length_cons]
  omega
theorem jn_snoc (g:TArc→List UInt8):∀ (f:Bool) (l:List TArc) (a:TArc),jn g f (l++[a])=jn g f l++(sp f l++g a)
 | f,[],a=>by simp [jn]
 | f,b::l,a=>by
  have h:=jn_snoc g false l a
  have e:sp false l=sp f (b::l):=by unfold sp; simp
  simp only [List.cons_append,jn,h,e,List.append_assoc]
theorem sp_snoc (f:Bool) (l:List TArc) (a:TArc):sp f (l++[a])=[44,32]:=by unfold sp; simp
theorem jl {ρ:Type} {F:List UInt8×List UInt8×Int→Option ((List UInt8×List UInt8×Int)⊕ρ)} {l:List TArc} {g:TArc→List UInt8} {out:List UInt8→List UInt8→ρ} (hg:∀ a,a∈l→(g a).length≤22) (hl:l.length≤8)
  (hs:∀ acc sep k (h:k < l.length),acc.length≤200000→sep.length≤2→F (acc,sep,(k:Int))=some (.inl (acc++(sep++g l[k]),[44,32],(k:Int)+1)))
  (hd:∀ acc sep,F (acc,sep,(l.length:Int))=some (.inr (out acc sep))) {acc:List UInt8} {f:Bool} (hacc:acc.length≤100000):loopC F (acc,sp f [],0)=some (out (acc++jn g f l) (sp f l)):=by
 obtain ⟨r,h1,h2⟩:∃ r,loopC F (acc,sp f [],0)=some r∧r=out (acc++jn g f l) (sp f l):=by
  refine loop_cnt l.length (fun k (st:List UInt8×List UInt8×Int)=>st=(acc++jn g f (l.take k),sp f (l.take k),(k:Int))) _ ?_ ?_ (by simp [jn])
  ·rintro k _ hk rfl
   have hj:=jn_len (g:=g) (f:=f) (l:=l.take k) fun a ha=>hg a (List.mem_of_mem_take ha)
   have hm:(l.take k).length≤l.length:=by simp; omega
   refine .inl ⟨_,hs _ _ k hk (by simp; simp at hj; omega) (sp_len _ _),?_⟩
   rw [List.take_succ_eq_append_getElem hk,jn_snoc,sp_snoc,List.append_assoc]
   rfl
  rintro _ rfl
  rw [List.take_length]
  exact ⟨_,hd _ _,rfl⟩
 rw [h1,h2]
theorem fl {α:Type} {F:List UInt8×Int→Option ((List UInt8×Int)⊕List UInt8)} {l:List α} {g:α→List UInt8} (hg:∀ a,a∈l→(g a).length≤1000) (hl:l.length≤32)
  (hs:∀ acc k (h:k < l.length),acc.length≤90000→F (acc,(k:Int))=some (.inl (acc++g l[k],(k:Int)+1)))
  (hd:∀ acc,F (acc,(l.length:Int))=some (.inr acc)) {acc:List UInt8} (hacc:acc.length≤40000):loopC F (acc,0)=some (acc++(l.map g).flatten):=by
 have hlen:∀ m:List α,(∀ a,a∈m→(g a).length≤1000)→(m.map g).flatten.length≤1000 * m.length:=by
  intro m
  induction m with
  | nil=>intro _; simp
  | cons a m ih=>
   intro h
   have h1:=ih fun x hx=>h x (List.mem_cons_of_mem _ hx)
   have h2:=h a (List.mem_cons_self ..)
   simp only [List.map_cons,List.flatten_cons,List.length_append,List.length_cons]
   omega
 obtain ⟨r,h1,h2⟩:∃ r,loopC F (acc,0)=some r∧r=acc++(l.map g).flatten:=by
  refine loop_cnt l.length (fun k (st:List UInt8×Int)=>st=(acc++((l.take k).map g).flatten,(k:Int))) _ ?_ ?_ (by simp)
  ·rintro k _ hk rfl
   have hj:=hlen (l.take k) fun a ha=>hg a (List.mem_of_mem_take ha)
   rw [List.length_take] at hj
   refine .inl ⟨_,hs _ k hk (by rw [List.length_append]; omega),?_⟩
   rw [List.take_succ_eq_append_getElem hk,List.map_append,List.flatten_append]
   simp
  rintro _ rfl
  rw [List.take_length]
  exact ⟨_,hd _,rfl⟩
 rw [h1,h2]
theorem flat_len {α:Type} {g:α→List UInt8}:∀ {m:List α},(∀ a,a∈m→(g a).length≤1000)→(m.map g).flatten.length≤1000 * m.length
 | [],_=>by simp
 | a::m,h=>by
  have h1:=flat_len (m:=m) fun x hx=>h x (List.mem_cons_of_mem _ hx)
  have h2:=h a (List.mem_cons_self ..)
  simp only [List.map_cons,List.flatten_cons,List.length_append,List.length_cons]
  omega
theorem nmOf_mem {n:TNet} {i:Int} (h0:0≤i) (h1:i < (n.Places.length:Int)):∃ h:i.toNat < n.Places.length,nmOf n i=n.Places[i.toNat].Name∧idx n.Places i=some n.Places[i.toNat]:=by
 have h:i.toNat < n.Places.length:=by omega
 refine ⟨h,?_,?_⟩
 ·unfold nmOf; rw [List.getElem?_eq_getElem h]; rfl
 unfold idx; rw [if_pos h0,List.getElem?_eq_getElem h]
section
variable {n:TNet} (P:PNet n)
include P
theorem PNet.nlen {x:List UInt8} (h:x∈nms n):x.length≤12:=(P.good.nm x h).2.2
theorem arc_len {a:TArc} (h0:0≤a.Place) (h1:a.Place < (n.Places.length:Int)):(arcT n a).length≤21:=by
 obtain ⟨h,e1,e2⟩:=nmOf_mem h0 h1
 have h2:=P.nlen (x:=n.Places[a.Place.toNat].Name) (by unfold nms; exact List.mem_append_left _ (List.mem_map_of_mem (List.getElem_mem h)))
 have h3:=dgs_len a.N
 unfold arcT
 rw [e1,List.length_append]
 split
 ·simp; omega
 simp; omega
theorem p43_eq {a:TArc} (h0:0≤a.Place) (h1:a.Place < (n.Places.length:Int)) (h2:1≤a.N) (h3:a.N≤1000000):p43 n a=some (arcT n a):=by
 obtain ⟨h,e1,e2⟩:=nmOf_mem h0 h1
 have h4:=P.nlen (x:=n.Places[a.Place.toNat].Name) (by unfold nms; exact List.mem_append_left _ (List.mem_map_of_mem (List.getElem_mem h)))
 have h5:=dgs_len a.N
 unfold p43 arcT p43_j0
 rw [e1,e2]
 simp only [Option.bind_some]
 by_cases hn:a.N=1
 ·rw [if_neg (by simp [hn]),if_pos hn,List.append_nil]
 rw [if_pos (by simp [hn]),if_neg hn,p42_eq (by omega) h3]
 simp only [Option.bind_some]
 rw [catS_ok (by simp; omega)]
 simp only [Option.bind_some]
 rw [catS_ok (by simp; omega)]
 rfl
theorem l1_eq {t:TTrans} (ha:ArcsOk n.Places.length t.In) (hl:t.In.length≤8) {acc:List UInt8} (hacc:acc.length≤100000):loopC (p27_l1 n t) (acc,[32],0)=some (acc++jn (arcT n) true t.In,sp true t.In):=by
 refine jl (F:=p27_l1 n t) (l:=t.In) (g:=arcT n) (out:=fun a b=>(a,b)) (f:=true) (fun a h=>?_) hl (fun acc sep k h h1 h2=>?_) (fun acc sep=>?_) hacc
 ·obtain ⟨_,_,q1,q2⟩:=ha.1 a h
  have:=arc_len P q1 q2
  omega
 ·obtain ⟨q1,q2,q3,q4⟩:=ha.1 _ (List.getElem_mem h)
  have:=arc_len P q3 q4
  unfold p27_l1
  simp only
  rw [if_pos (by omega),idx_get h]
  simp only [Option.bind_some]
  rw [p43_eq P q3 q4 q1 q2]
  simp only [Option.bind_some]
  rw [catS_ok (by omega)]
  simp only [Option.bind_some]
  rw [catS_ok (by simp; omega),wrap64 (by omega) (by omega)]
  rfl
 unfold p27_l1
 simp only
 rw [if_neg (by omega)]
theorem l2_eq {t:TTrans} (ha:ArcsOk n.Places.length t.Not) (hl:t.Not.length≤8) {f:Bool} {acc:List UInt8} (hacc:acc.length≤100000):loopC (p27_l2 n t) (acc,sp f [],0)=some (acc++jn (tilT n) f t.Not):=by
 refine jl (F:=p27_l2 n t) (l:=t.Not) (g:=tilT n) (out:=fun a b=>a) (f:=f) (fun a h=>?_) hl (fun acc sep k h h1 h2=>?_) (fun acc sep=>?_) hacc
 ·obtain ⟨_,_,q1,q2⟩:=ha.1 a h
  have:=arc_len P q1 q2
  unfold tilT
  simp
  omega
 ·obtain ⟨q1,q2,q3,q4⟩:=ha.1 _ (List.getElem_mem h)
  have:=arc_len P q3 q4
  unfold p27_l2
  simp only
  rw [if_pos (by omega),catS_ok (by simp; omega)]
  simp only [Option.bind_some]
  rw [idx_get h]
  simp only [Option.bind_some]
  rw [p43_eq P q3 q4 q1 q2]
  simp only [Option.bind_some]
  rw [catS_ok (by simp; omega)]
  simp only [Option.bind_some]
  rw [catS_ok (by simp; omega),wrap64 (by omega) (by omega)]
  simp only [Option.bind_some,tilT,List.append_assoc,List.singleton_append]
 unfold p27_l2
 simp only
 rw [if_neg (by omega)]
theorem l3_eq {t:TTrans} (ha:ArcsOk n.Places.length t.Out) (hl:t.Out.length≤8) {acc:List UInt8} (hacc:acc.length≤100000):loopC (p27_l3 n t) (acc,[32],0)=some (acc++jn (arcT n) true t.Out):=by
 refine jl (F:=p27_l3 n t) (l:=t.Out) (g:=arcT n) (out:=fun a b=>a) (f:=true) (fun a h=>?_) hl (fun acc sep k h h1 h2=>?_) (fun acc sep=>?_) hacc
 ·obtain ⟨_,_,q1,q2⟩:=ha.1 a h
  have:=arc_len P q1 q2
  omega
 ·obtain ⟨q1,q2,q3,q4⟩:=ha.1 _ (List.getElem_mem h)
  have:=arc_len P q3 q4
  unfold p27_l3
  simp only
  rw [if_pos (by omega),idx_get h]
  simp only [Option.bind_some]
  rw [p43_eq P q3 q4 q1 q2]
  simp only [Option.bind_some]
  rw [catS_ok (by omega)]
  simp only [Option.bind_some]
  rw [catS_ok (by simp; omega),wrap64 (by omega) (by omega)]
  rfl
 unfold p27_l3
 simp only
 rw [if_neg (by omega)]
theorem jlens {t:TTrans} (ht:t∈n.Trans):(jn (arcT n) true t.In).length≤192∧(jn (tilT n) t.In.isEmpty t.Not).length≤192∧(jn (arcT n) true t.Out).length≤192∧t.Name.length≤12:=by
 obtain ⟨_,_,a1,a2,a3⟩:=P.good.tr t ht
 obtain ⟨b1,b2,b3⟩:=P.la t ht
 have c1:=jn_len (g:=arcT n) (f:=true) (l:=t.In) fun a h=>by have:=arc_len P (a1.1 a h).2.2.1 (a1.1 a h).2.2.2; omega
 have c2:=jn_len (g:=tilT n) (f:=t.In.isEmpty) (l:=t.Not) fun a h=>by have:=arc_len P (a2.1 a h).2.2.1 (a2.1 a h).2.2.2; unfold tilT; simp; omega
 have c3:=jn_len (g:=arcT n) (f:=true) (l:=t.Out) fun a h=>by have:=arc_len P (a3.1 a h).2.2.1 (a3.1 a h).2.2.2; omega
 have c4:=P.nlen (x:=t.Name) (by unfold nms; exact List.mem_append_right _ (List.mem_map_of_mem ht))
 omega
theorem trT_len {t:TTrans} (ht:t∈n.Trans):(trT n t).length≤1000:=by
 obtain ⟨h1,h2,h3,h4⟩:=jlens P ht
 have h5:=nT_len (pre:=[32,64]) (by simp) t.Delay
 have h6:=nT_len (pre:=[32,33]) (by simp) t.Prio
 unfold trT
 simp only [List.length_append,List.length_cons,List.length_nil]
 omega
theorem plT_len {p:TPlace} (hp:p∈n.Places):(plT p).length≤1000:=by
 have h1:=P.nlen (x:=p.Name) (by unfold nms; exact List.mem_append_left _ (List.mem_map_of_mem hp))
 have h5:=nT_len (pre:=[32,61,32]) (by simp) p.Tokens
 unfold plT
 simp only [List.length_append,List.length_cons,List.length_nil]
 omega
theorem netT_len:(netT n).length≤64000:=by
 have h1:=flat_len (m:=n.Places) (g:=plT) fun a h=>plT_len P h
 have h2:=flat_len (m:=n.Trans) (g:=trT n) fun a h=>trT_len P h
 have:=P.lp
 have:=P.lt
 unfold netT
 rw [List.length_append]
 omega
theorem j1_eq {t:TTrans} (ht:t∈n.Trans) (k:Int) {acc:List UInt8} (hacc:acc.length≤91000):p27_j1 n k t acc=some (.inl (acc++([58]++(jn (arcT n) true t.In++(jn (tilT n) t.In.isEmpty t.Not++([32,45,62]++(jn (arcT n) true t.Out++[59,10]))))),IntKind.wrap .i64 (k+1))):=by
 obtain ⟨_,_,a1,a2,a3⟩:=P.good.tr t ht
 obtain ⟨b1,b2,b3⟩:=P.la t ht
 obtain ⟨h1,h2,h3,h4⟩:=jlens P ht
 unfold p27_j1
 rw [catS_ok (by simp; omega)]
 simp only [Option.bind_some]
 rw [l1_eq P a1 b1 (by simp; omega)]
 simp only [Option.bind_some]
 have e:sp true t.In=sp t.In.isEmpty []:=by unfold sp; simp
 rw [e,l2_eq P a2 b2 (by simp; omega)]
 simp only [Option.bind_some]
 rw [catS_ok (by simp; omega)]
 simp only [Option.bind_some]
 rw [l3_eq P a3 b3 (by simp; omega)]
 simp only [Option.bind_some]
 rw [catS_ok (by simp; omega)]
 simp only [Option.bind_some,List.append_assoc]
theorem j2_eq {t:TTrans} (ht:t∈n.Trans) (k:Int) {acc:List UInt8} (hacc:acc.length≤90500):p27_j2 n k t acc=some (.inl (acc++(nT [32,33] t.Prio++([58]++(jn (arcT n) true t.In++(jn (tilT n) t.In.isEmpty t.Not++([32,45,62]++(jn (arcT n) true t.Out++[59,10])))))),IntKind.wrap .i64 (k+1))):=by
 obtain ⟨_,a0,_⟩:=P.good.tr t ht
 have h5:=dgs_len t.Prio
 unfold p27_j2 nT
 by_cases hz:t.Prio=0
 ·rw [if_neg (by simp [hz]),if_pos hz,j1_eq P ht k (by omega)]
  rfl
 rw [if_pos (by simp [hz]),if_neg hz,p42_eq a0.1 a0.2]
 simp only [Option.bind_some]
 rw [catS_ok (by simp; omega)]
 simp only [Option.bind_some]
 rw [catS_ok (by simp; omega)]
 simp only [Option.bind_some]
 rw [j1_eq P ht k (by simp; omega)]
 simp only [List.append_assoc]
theorem l4_eq {acc:List UInt8} (hacc:acc.length≤40000):loopC (p27_l4 n) (acc,0)=some (acc++(n.Trans.map (trT n)).flatten):=by
 refine fl (fun a h=>trT_len P h) P.lt (fun acc k h h1=>?_) (fun acc=>?_) hacc
 ·have ht:=List.getElem_mem h
  have hk:=P.lt
  obtain ⟨a0,_⟩:=P.good.tr _ ht
  obtain ⟨_,_,_,h4⟩:=jlens P ht
  have h5:=dgs_len n.Trans[k].Delay
  unfold p27_l4
  simp only
  rw [if_pos (by omega),idx_get h]
  simp only [Option.bind_some]
  rw [catS_ok (by simp; omega)]
  simp only [Option.bind_some]
  rw [catS_ok (by simp; omega)]
  simp only [Option.bind_some]
  have hw:IntKind.wrap .i64 ((k:Int)+1)=(k:Int)+1:=wrap64 (by omega) (by omega)
  by_cases hz:n.Trans[k].Delay=0
  ·rw [if_neg (by simp [hz]),j2_eq P ht k (by simp; omega),hw]
   unfold trT
   rw [show nT [32,64] n.Trans[k].Delay=[] from if_pos hz]
   simp only [List.append_assoc,List.nil_append]
  rw [if_pos (by simp [hz]),p42_eq a0.1 a0.2]
  simp only [Option.bind_some]
  rw [catS_ok (by simp; omega)]
  simp only [Option.bind_some]
  rw [catS_ok (by simp; omega)]
  simp only [Option.bind_some]
  rw [j2_eq P ht k (by simp; omega),hw]
  unfold trT
  rw [show nT [32,64] n.Trans[k].Delay=[32,64]++dgs n.Trans[k].Delay from if_neg hz]
  simp only [List.append_assoc]
 unfold p27_l4
 simp only
 rw [if_neg (by omega)]
theorem l0_eq:loopC (p27_l0 n) ([],0)=some ((n.Places.map plT).flatten):=by
 have:=fl (F:=p27_l0 n) (l:=n.Places) (g:=plT) (acc:=[]) (fun a h=>plT_len P h) P.lp (fun acc k h h1=>?_) (fun acc=>?_) (by simp)
 ·rwa [List.nil_append] at this
 ·have hp:=List.getElem_mem h
  have hk:=P.lp
  have a0:=P.good.tk _ hp
  have h4:=P.nlen (x:=n.Places[k].Name) (by unfold nms; exact List.mem_append_left _ (List.mem_map_of_mem hp))
  have h5:=dgs_len n.Places[k].Tokens
  have hw:IntKind.wrap .i64 ((k:Int)+1)=(k:Int)+1:=wrap64 (by omega) (by omega)
  unfold p27_l0 p27_j0
  simp only
  rw [if_pos (by omega),idx_get h]
  simp only [Option.bind_some]
  rw [catS_ok (by simp; omega)]
  simp only [Option.bind_some]
  rw [catS_ok (by simp; omega)]
  simp only [Option.bind_some]
  by_cases hz:n.Places[k].Tokens=0
  ·rw [if_neg (by simp [hz]),catS_ok (by simp; omega)]
   simp only [Option.bind_some]
   unfold plT
   rw [hw,show nT [32,61,32] n.Places[k].Tokens=[] from if_pos hz]
   simp only [List.append_assoc,List.nil_append]
  rw [if_pos (by simp [hz]),p42_eq a0.1 a0.2]
  simp only [Option.bind_some]
  rw [catS_ok (by simp; omega)]
  simp only [Option.bind_some]
  rw [catS_ok (by simp; omega)]
  simp only [Option.bind_some]
  rw [catS_ok (by simp; omega)]
  simp only [Option.bind_some]
  unfold plT
  rw [hw,show nT [32,61,32] n.Places[k].Tokens=[32,61,32]++dgs n.Places[k].Tokens from if_neg hz]
  simp only [List.append_assoc]
 unfold p27_l0
 simp only
 rw [if_neg (by omega)]
theorem p27_eq:p27 n=some (netT n):=by
 have h1:=flat_len (m:=n.Places) (g:=plT) fun a h=>plT_len P h
 have:=P.lp
 unfold p27
 rw [l0_eq P]
 simp only [Option.bind_some]
 rw [l4_eq P (by omega)]
 rfl
end
end Go.Proofs.Ytloaoofdbilpeaa
namespace Go.Proofs.Ytloaoofdbilpeaa
open Go Go.Am
def B8 (n:Int):Prop:=0≤n∧n≤255
def ActOk (x:TAct):Prop:=B8 x.D∧B8 x.P∧B8 x.I∧B8 x.J∧B8 x.N∧B8 x.O∧B8 x.Q
def DraftIn (d:TDraft):Prop:=(∀ c,c∈d.Tokens→B8 c)∧∀ a,a∈d.Acts→ActOk a
def pn (i:Nat):List UInt8:=[112,u8 (97+(i:Int))]
def tn (i:Nat):List UInt8:=[116,u8 (48+(i:Int)),46,120]
instance (x:List UInt8):Decidable (NameOk x):=by unfold NameOk; infer_instance
theorem nms_all:∀ m,m < 8→∀ q,q < 10→((List.range m).map pn++(List.range q).map tn).Nodup∧∀ x,x∈(List.range m).map pn++(List.range q).map tn→NameOk x∧x≠[112,108,97,99,101]:=by
 have h:decide (∀ m,m < 8→∀ q,q < 10→((List.range m).map pn++(List.range q).map tn).Nodup∧∀ x,x∈(List.range m).map pn++(List.range q).map tn→NameOk x∧x≠[112,108,97,99,101])=true:=by kernel_rfl
 exact of_decide_eq_true h
theorem p44_eq {m:Nat} {l:List TArc} {pl n:Int} (ha:ArcsOk m l) (hl:l.length≤4) (h0:0≤pl) (h1:pl < (m:Int)) (h2:1≤n) (h3:n≤1000000):∃ l',p44 l pl n=some l'∧ArcsOk m l'∧l'.length≤l.length+1:=by
 obtain ⟨r,q1,q2⟩:∃ r,loopC (p44_l0 l pl) 0=some r∧(r=.inl ()∨(r=.inr ()∧∀ a,a∈l→a.Place≠pl)):=by
  refine loop_cnt l.length (fun k (st:Int)=>st=(k:Int)∧∀ a,a∈l.take k→a.Place≠pl) _ ?_ ?_ ⟨rfl,by simp⟩
  ·rintro k _ hk ⟨rfl,h⟩
   unfold p44_l0
   rw [if_pos (by omega),idx_get hk]
   simp only [Option.bind_some]
   by_cases he:l[k].Place=pl
   ·rw [if_pos he]; exact .inr ⟨_,rfl,.inl rfl⟩
   rw [if_neg he,wrap64 (by omega) (by omega)]
   refine .inl ⟨_,rfl,rfl,fun a h'=>?_⟩
   rw [List.take_succ_eq_append_getElem hk] at h'
   rcases List.mem_append.1 h' with h' | h'
   ·exact h a h'
   rw [List.mem_singleton] at h'; subst h'; exact he
  rintro _ ⟨rfl,h⟩
  rw [List.take_length] at h
  unfold p44_l0
  rw [if_neg (by omega)]
  exact ⟨_,rfl,.inr ⟨rfl,h⟩⟩
 unfold p44
 rw [q1]
 rcases q2 with rfl | ⟨rfl,h⟩
 ·exact ⟨l,rfl,ha,Nat.le_succ _⟩
 simp only [Option.bind_some]
 rw [app_ok (by simp; omega)]
 refine ⟨_,rfl,⟨fun a h'=>?_,?_⟩,by simp⟩
 ·rcases List.mem_append.1 h' with h' | h'
  ·exact ha.1 a h'
  rw [List.mem_singleton] at h'; subst h'; exact ⟨h2,h3,h0,h1⟩
 rw [List.pairwise_append]
 refine ⟨ha.2,List.pairwise_singleton ..,fun a h1 b h2=>?_⟩
 rw [List.mem_singleton] at h2
 subst h2
 exact h a h1
def GStep (m:Nat) (k:Nat) (c:List TTrans) (s:List UInt8) (r:Option ((Int×List TTrans)⊕List TTrans)):Prop:=
 ∃ t,r=some (.inl ((k:Int)+1,c++[t]))∧t.Name=s∧TrOk m t∧t.In.length≤8∧t.Not.length≤8∧t.Out.length≤8
theorem aok_nil (m:Nat):ArcsOk m []:=⟨fun a h=>(nomatch h),.nil⟩
theorem tm {x:Int} (h:B8 x) (k:Int) (hk:0 < k) (h2:k≤255):Int.tmod x k=x % k∧Int.tdiv x k=x / k:=⟨Int.tmod_eq_emod_of_nonneg h.1,Int.tdiv_eq_ediv_of_nonneg h.1⟩
theorem rm {m:Nat} {ps:List TPlace} (hm:ps.length=m) (m0:0 < m) (m7:m≤7) {x:Int} (h0:0≤x) (h1:x≤255):∃ d,remI .i64 (IntKind.wrap .i64 x) (ps.length:Int)=some d∧0≤d∧d < (m:Int):=by
 rw [wrap64 (by omega) (by omega),remI_ok (by omega),hm,Int.tmod_eq_emod_of_nonneg h0]
 exact ⟨_,rfl,Int.emod_nonneg _ (by omega),Int.emod_lt_of_pos _ (by omega)⟩
section
variable {m k:Nat} {c:List TTrans} {e:TAct} {s:List UInt8} (he:ActOk e) (hk:k < 9) (hc:c.length≤9)
include he hk hc
theorem j1_g {a b o:List TArc} {d:Int} (ha:ArcsOk m a) (hb:ArcsOk m b) (ho:ArcsOk m o) (la:a.length≤8) (lb:b.length≤8) (lo:o.length≤8) (h0:0≤d) (h1:d≤1000000):GStep m k c s (p28_j1 (k:Int) c e s a b o d):=by
 obtain ⟨e1,e2,e3,e4,e5,e6,e7⟩:=he
 have f:=tm e2 3 (by omega) (by omega)
 unfold B8 at e2
 unfold p28_j1
 rw [app_ok (by simp; omega),f.1,wrap64 (by omega) (by omega),wrap64 (by omega) (by omega)]
 exact ⟨_,rfl,rfl,⟨⟨h0,h1⟩,by simp only; omega,ha,hb,ho⟩,la,lb,lo⟩
theorem j3_g {a b o:List TArc} (ha:ArcsOk m a) (hb:ArcsOk m b) (ho:ArcsOk m o) (la:a.length≤8) (lb:b.length≤8) (lo:o.length≤8):GStep m k c s (p28_j3 (k:Int) c e s a b o):=by
 have e1:=he.1
 have f:=tm e1 5 (by omega) (by omega)
 unfold B8 at e1
 have key:∀ b':Bool,GStep m k c s (p28_j2 (k:Int) c e s a b o b'):=by
  intro b'
  unfold p28_j2
  split
  ·exact j1_g he hk hc ha hb ho la lb lo (by omega) (by omega)
  rw [f.1,wrap64 (by omega) (by omega)]
  exact j1_g he hk hc ha hb ho la lb lo (by omega) (by omega)
 unfold p28_j3
 split
 ·exact key _
 exact key _
variable {ps:List TPlace} (hm:ps.length=m) (m0:0 < m) (m7:m≤7)
include hm m0 m7
theorem j4_g {a b o:List TArc} (ha:ArcsOk m a) (hb:ArcsOk m b) (ho:ArcsOk m o) (la:a.length≤8) (lb:b.length≤8) (lo:o.length≤1):GStep m k c s (p28_j4 ps (k:Int) c e s a b o):=by
 have e7:=he.2.2.2.2.2.2
 have f:=tm e7 3 (by omega) (by omega)
 unfold B8 at e7
 unfold p28_j4
 split
 ·rw [f.2,IntWalk.u8_in _ (by omega)]
  obtain ⟨d,q1,q2,q3⟩:=rm hm m0 m7 (x:=e.Q / 3) (by omega) (by omega)
  rw [q1]
  simp only [Option.bind_some]
  obtain ⟨l',r1,r2,r3⟩:=p44_eq ho (by omega) q2 q3 (n:=1) (by omega) (by omega)
  rw [r1]
  exact j3_g he hk hc ha hb r2 la lb (by omega)
 exact j3_g he hk hc ha hb ho la lb (by omega)
theorem j5_g {a b:List TArc} (ha:ArcsOk m a) (hb:ArcsOk m b) (la:a.length≤8) (lb:b.length≤8):GStep m k c s (p28_j5 ps (k:Int) c e s a b):=by
 have e6:=he.2.2.2.2.2.1
 have f:=tm e6 5 (by omega) (by omega)
 have f2:=tm e6 128 (by omega) (by omega)
 unfold B8 at e6
 unfold p28_j5
 split
 ·rw [f.2,f2.2,IntWalk.u8_in _ (show 0≤e.O / 5∧e.O / 5≤255 by omega),IntWalk.u8_in _ (show 0≤e.O / 128∧e.O / 128≤255 by omega)]
  obtain ⟨d,q1,q2,q3⟩:=rm hm m0 m7 (x:=e.O / 5) (by omega) (by omega)
  rw [q1]
  simp only [Option.bind_some]
  rw [wrap64 (n:=e.O / 128) (by omega) (by omega),wrap64 (by omega) (by omega)]
  obtain ⟨l',r1,r2,r3⟩:=p44_eq (aok_nil m) (by simp) q2 q3 (n:=1+e.O / 128) (by omega) (by omega)
  rw [r1]
  exact j4_g he hk hc hm m0 m7 ha hb r2 la lb (by simpa using r3)
 exact j4_g he hk hc hm m0 m7 ha hb (aok_nil m) la lb (by simp)
theorem j6_g {a:List TArc} (ha:ArcsOk m a) (la:a.length≤8):GStep m k c s (p28_j6 ps (k:Int) c e s a):=by
 have e5:=he.2.2.2.2.1
 have f:=tm e5 4 (by omega) (by omega)
 have f2:=tm e5 64 (by omega) (by omega)
 unfold B8 at e5
 unfold p28_j6
 split
 ·rw [f.2,f2.2,IntWalk.u8_in _ (show 0≤e.N / 4∧e.N / 4≤255 by omega),IntWalk.u8_in _ (show 0≤e.N / 64∧e.N / 64≤255 by omega)]
  obtain ⟨d,q1,q2,q3⟩:=rm hm m0 m7 (x:=e.N / 4) (by omega) (by omega)
  rw [q1]
  simp only [Option.bind_some]
  rw [wrap64 (n:=e.N / 64) (by omega) (by omega),wrap64 (by omega) (by omega)]
  obtain ⟨l',r1,r2,r3⟩:=p44_eq (aok_nil m) (by simp) q2 q3 (n:=1+e.N / 64) (by omega) (by omega)
  rw [r1]
  exact j5_g he hk hc hm m0 m7 ha r2 la (by simp at r3; omega)
 exact j5_g he hk hc hm m0 m7 ha (aok_nil m) la (by simp)
end
theorem j7_g {x0:TDraft} (hd:DraftIn x0) {m k:Nat} {c:List TTrans} (hk:k < 9) (hk2:k < x0.Acts.length) (hc:c.length≤9) {ps:List TPlace} (hm:ps.length=m) (m0:0 < m) (m7:m≤7):GStep m k c (tn k) (p28_j7 x0 ps (k:Int) c true):=by
 have he:=hd.2 _ (List.getElem_mem hk2)
 have e3:=he.2.2.1
 have e4:=he.2.2.2.1
 have f:=tm e4 3 (by omega) (by omega)
 have f2:=tm e3 64 (by omega) (by omega)
 unfold B8 at e3 e4
 unfold p28_j7
 rw [if_pos rfl,idx_get hk2]
 simp only [Option.bind_some]
 rw [wrap64 (n:=48+(k:Int)) (by omega) (by omega),IntWalk.u8_in (48+(k:Int)) (by omega),catS_ok (by simp)]
 simp only [Option.bind_some]
 rw [catS_ok (by simp)]
 simp only [Option.bind_some]
 obtain ⟨d,q1,q2,q3⟩:=rm hm m0 m7 (x:=x0.Acts[k].I) (by omega) (by omega)
 rw [q1]
 simp only [Option.bind_some]
 rw [f2.2,IntWalk.u8_in _ (show 0≤x0.Acts[k].I / 64∧x0.Acts[k].I / 64≤255 by omega),wrap64 (n:=x0.Acts[k].I / 64) (by omega) (by omega),Int.tmod_eq_emod_of_nonneg (show 0≤x0.Acts[k].I / 64 by omega),wrap64 (by omega) (by omega)]
 obtain ⟨l',r1,r2,r3⟩:=p44_eq (aok_nil m) (by simp) q2 q3 (n:=1+x0.Acts[k].I / 64 % 2) (by omega) (by omega)
 have r3:l'.length≤1:=by simpa using r3
 rw [r1]
 simp only [Option.bind_some]
 split
 ·rw [f.2,IntWalk.u8_in _ (show 0≤x0.Acts[k].J / 3∧x0.Acts[k].J / 3≤255 by omega)]
  obtain ⟨d2,t1,t2,t3⟩:=rm hm m0 m7 (x:=x0.Acts[k].J / 3) (by omega) (by omega)
  rw [t1]
  simp only [Option.bind_some]
  obtain ⟨l2,u1,u2,u3⟩:=p44_eq r2 (by omega) t2 t3 (n:=1) (by omega) (by omega)
  rw [u1]
  exact j6_g he hk hc hm m0 m7 u2 (by omega)
 exact j6_g he hk hc hm m0 m7 r2 (by omega)
theorem p28_eq {x0:TDraft} (hd:DraftIn x0) (ht:x0.Tokens.length≤60) (ha:x0.Acts.length≤12):∃ n,p28 x0=some n∧PNet n∧∀ x,x∈nms n→x≠[112,108,97,99,101]:=by
 obtain ⟨m,hm⟩:∃ m:Nat,m=1+x0.Tokens.length % 7:=⟨_,rfl⟩
 have hw:IntKind.wrap .i64 ((1:Int)+(Int.tmod (x0.Tokens.length:Int) (7:Int)))=(m:Int):=by
  rw [Int.tmod_eq_emod_of_nonneg (by omega),wrap64 (by omega) (by omega)]
  omega
 obtain ⟨ps,q1,q2,q3⟩:∃ r,loopC (p28_l0 x0) (0,[])=some r∧r.map TPlace.Name=(List.range m).map pn∧∀ p,p∈r→0≤p.Tokens∧p.Tokens≤1000000:=by
  refine loop_cnt m (fun k (st:Int×List TPlace)=>st.1=(k:Int)∧st.2.map TPlace.Name=(List.range k).map pn∧∀ p,p∈st.2→0≤p.Tokens∧p.Tokens≤1000000) _ ?_ ?_ ⟨rfl,rfl,fun p hp=>nomatch hp⟩
  ·rintro k ⟨_,c⟩ hk ⟨rfl,h1,h2⟩
   simp only at h1 h2
   have hl:c.length=k:=by have:=congrArg List.length h1; simpa using this
   have key:∀ v:Int,0≤v→v≤1000000→∃ s',p28_j0 (k:Int) c v=some (.inl s')∧s'.1=((k+1:Nat):Int)∧s'.2.map TPlace.Name=(List.range (k+1)).map pn∧∀ p,p∈s'.2→0≤p.Tokens∧p.Tokens≤1000000:=by
    intro v v0 v1
    unfold p28_j0
    rw [wrap64 (n:=97+(k:Int)) (by omega) (by omega),IntWalk.u8_in (97+(k:Int)) (by omega),catS_ok (by simp)]
    simp only [Option.bind_some]
    rw [app_ok (by simp; omega),wrap64 (by omega) (by omega)]
    refine ⟨_,rfl,rfl,?_,fun p hp=>?_⟩
    ·rw [List.map_append,h1,List.range_succ,List.map_append]; rfl
    rcases List.mem_append.1 hp with hp | hp
    ·exact h2 p hp
    rw [List.mem_singleton] at hp; subst hp; exact ⟨v0,v1⟩
   unfold p28_l0
   simp only
   rw [hw,if_pos (by omega)]
   by_cases hj:k < x0.Tokens.length
   ·rw [if_pos (by omega),idx_get hj]
    have hb:=hd.1 _ (List.getElem_mem hj)
    have f:=tm hb 5 (by omega) (by omega)
    unfold B8 at hb
    simp only [Option.bind_some]
    rw [f.1,wrap64 (by omega) (by omega)]
    exact .inl (key _ (by omega) (by omega))
   rw [if_neg (by omega)]
   exact .inl (key 0 (by omega) (by omega))
  rintro ⟨_,c⟩ ⟨rfl,h1,h2⟩
  unfold p28_l0
  simp only
  rw [hw,if_neg (by omega)]
  exact ⟨_,rfl,h1,h2⟩
 have hl:ps.length=m:=by have:=congrArg List.length q2; simpa using this
 obtain ⟨qn,hq⟩:∃ q:Nat,q=min x0.Acts.length 9:=⟨_,rfl⟩
 obtain ⟨ts,r1,r2,r3⟩:∃ r,loopC (p28_l1 x0 ps) (0,[])=some r∧r.map TTrans.Name=(List.range qn).map tn∧∀ t,t∈r→TrOk m t∧t.In.length≤8∧t.Not.length≤8∧t.Out.length≤8:=by
  refine loop_cnt qn (fun k (st:Int×List TTrans)=>st.1=(k:Int)∧st.2.map TTrans.Name=(List.range k).map tn∧∀ t,t∈st.2→TrOk m t∧t.In.length≤8∧t.Not.length≤8∧t.Out.length≤8) _ ?_ ?_ ⟨rfl,rfl,fun p hp=>nomatch hp⟩
  ·rintro k ⟨_,c⟩ hk ⟨rfl,h1,h2⟩
   simp only at h1 h2
   have hlc:c.length=k:=by have:=congrArg List.length h1; simpa using this
   unfold p28_l1
   simp only
   rw [if_pos (by omega),show decide ((k:Int) < 9)=true from decide_eq_true (by omega)]
   obtain ⟨t,g1,g2,g3⟩:=j7_g hd (m:=m) (k:=k) (c:=c) (by omega) (by omega) (by omega) hl (by omega) (by omega)
   refine .inl ⟨_,g1,rfl,?_,fun p hp=>?_⟩
   ·rw [List.map_append,h1,List.range_succ,List.map_append,List.map_singleton,g2]; rfl
   rcases List.mem_append.1 hp with hp | hp
   ·exact h2 p hp
   rw [List.mem_singleton] at hp; subst hp; exact g3
  rintro ⟨_,c⟩ ⟨rfl,h1,h2⟩
  have e:p28_l1 x0 ps ((qn:Int),c)=some (.inr c):=by
   unfold p28_l1 p28_j7
   simp only
   by_cases hx:(qn:Int) < (x0.Acts.length:Int)
   ·rw [if_pos hx,show decide ((qn:Int) < 9)=false from decide_eq_false (by omega),if_neg (by simp)]
   rw [if_neg hx,if_neg (by simp)]
  exact ⟨_,e,h1,h2⟩
 have hlt:ts.length=qn:=by have:=congrArg List.length r2; simpa using this
 unfold p28
 rw [q1]
 simp only [Option.bind_some]
 rw [r1]
 have hn:=nms_all m (by omega) qn (by omega)
 refine ⟨_,rfl,⟨⟨?_,?_,q3,fun t h=>by rw [show (TNet.mk ps ts).Places.length=m from hl]; exact (r3 t h).1⟩,?_,?_,fun t h=>(r3 t h).2⟩,?_⟩
 ·unfold nms; simp only; rw [q2,r2]; exact hn.1
 ·unfold nms; simp only; rw [q2,r2]; exact fun x hx=>(hn.2 x hx).1
 ·show ps.length≤32; omega
 ·show ts.length≤32; omega
 unfold nms; simp only; rw [q2,r2]; exact fun x hx=>(hn.2 x hx).2
end Go.Proofs.Ytloaoofdbilpeaa
namespace Go.Proofs.Ytloaoofdbilpeaa
open Go Go.Am
theorem Bytes.app {a b:List Int} (ha:Bytes a) (hb:Bytes b):Bytes (a++b):=fun c hc=>by
 rcases List.mem_append.1 hc with h | h
 ·exact ha c h
 exact hb c h
theorem near_go {t w:List Int} (hb:Bytes t) (hs:t.length≤64000) {at1 less:Int} (h1:0≤at1∧at1≤65535) (hw:Bytes w) (hwl:w.length≤10) (hl:B8 less) :
  ((remI .i64 (IntKind.wrap .i64 at1) (IntKind.wrap .i64 ((t.length:Int)+(1:Int)))).bind fun d15=>(slc t (0:Int) d15).bind fun y16=>(app 1 [] y16).bind fun y17=>(app 1 y17 w).bind fun y18=>(slc t (if (t.length:Int) < (IntKind.wrap .i64 (d15+(IntKind.wrap .i64 (Int.tmod less (9:Int))))) then (t.length:Int) else (IntKind.wrap .i64 (d15+(IntKind.wrap .i64 (Int.tmod less (9:Int)))))) (t.length:Int)).bind fun y19=>(app 1 y18 y19).bind fun y20=>(p30 y20).bind fun y21=>some y21)=some true:=by
 have f:=Int.tmod_eq_emod_of_nonneg (b:=9) hl.1
 unfold B8 at hl
 rw [wrap64 (n:=at1) (by omega) (by omega),wrap64 (n:=(t.length:Int)+1) (by omega) (by omega),remI_ok (by omega),Int.tmod_eq_emod_of_nonneg h1.1,f,wrap64 (n:=less % 9) (by omega) (by omega)]
 simp only [Option.bind_some]
 have e0:=Int.emod_nonneg at1 (show (t.length:Int)+1≠0 by omega)
 have e1:=Int.emod_lt_of_pos at1 (show 0 < (t.length:Int)+1 by omega)
 obtain ⟨i,hi⟩:∃ i:Nat,at1 % ((t.length:Int)+1)=(i:Int):=⟨(at1 % ((t.length:Int)+1)).toNat,by omega⟩
 rw [hi] at e1 ⊢
 rw [show (0:Int)=((0:Nat):Int) from rfl,slc_ok (Nat.zero_le _) (by omega)]
 simp only [Option.bind_some]
 rw [app_ok (by simp; omega),Option.bind_some,app_ok (by simp; omega),Option.bind_some,wrap64 (n:=(i:Int)+less % 9) (by omega) (by omega)]
 obtain ⟨j,hj,hj2⟩:∃ j:Nat,(if (t.length:Int) < (i:Int)+less % 9 then (t.length:Int) else (i:Int)+less % 9)=(j:Int)∧j≤t.length:=by
  split
  ·exact ⟨_,rfl,Nat.le_refl _⟩
  exact ⟨((i:Int)+less % 9).toNat,by omega,by omega⟩
 rw [hj,slc_ok hj2 (Nat.le_refl _),Option.bind_some,app_ok (by simp; omega),Option.bind_some]
 have hby:Bytes ([]++(t.take i).drop 0++w++(t.take t.length).drop j):=by
  refine ((Bytes.app (fun c hc=>by cases hc) ?_).app hw).app ?_
  ·exact fun c hc=>hb c (List.mem_of_mem_take (List.mem_of_mem_drop hc))
  exact fun c hc=>hb c (List.mem_of_mem_take (List.mem_of_mem_drop hc))
 rw [p30_true hby (by simp; omega)]
 rfl
theorem p16_j0_true {d:TDraft} {at1:Int} {w:List Int} {less:Int} (h1:0≤at1∧at1≤65535) (hw:Bytes w) (hl:B8 less) (hd:DraftIn d) (b:Bool) (hb:b=true∨(d.Tokens.length≤60∧d.Acts.length≤12∧w.length≤10)):p16_j0 d at1 w less b=some true:=by
 unfold p16_j0
 cases b with
 | true=>rw [if_pos rfl,p25_eq]; rfl
 | false=>
  rcases hb with h | ⟨h2,h3,h4⟩
  ·cases h
  obtain ⟨n,q1,q2,_⟩:=p28_eq hd h2 h3
  have hlen:=netT_len q2
  rw [if_neg (by simp),q1]
  simp only [Option.bind_some]
  rw [p27_eq q2]
  simp only [Option.bind_some]
  rw [bytesI_ok (by omega)]
  exact near_go (bytes_str _) (by unfold strI; rw [List.length_map]; exact hlen) h1 hw h4 hl
theorem p16_true {d:TDraft} {at1:Int} {w:List Int} {less:Int} (h1:0≤at1∧at1≤65535) (hw:Bytes w) (hl:B8 less) (hd:DraftIn d):p16 d at1 w less=some true:=by
 unfold p16
 rw [p25_eq]
 simp only [Option.bind_some]
 rw [if_neg (by simp)]
 unfold p16_j2 p16_j1
 split
 ·exact p16_j0_true h1 hw hl hd true (.inl rfl)
 rename_i g1
 split
 ·exact p16_j0_true h1 hw hl hd true (.inl rfl)
 rename_i g2
 refine p16_j0_true h1 hw hl hd _ ?_
 by_cases g3:(10:Int) < (w.length:Int)
 ·exact .inl (by simpa using g3)
 simp only [decide_eq_true_eq] at g1 g2
 exact .inr ⟨by omega,by omega,by omega⟩
end Go.Proofs.Ytloaoofdbilpeaa
namespace Go.Proofs.Ytloaoofdbilpeaa
open Go Go.Am
theorem wf8 {n:Int} (h:(Lit.int .u8 n).wf=true):0≤n∧n≤255:=by
 simp only [Lit.wf,Bool.and_eq_true,decide_eq_true_eq] at h
 exact h
theorem wf16 {n:Int} (h:(Lit.int .u16 n).wf=true):0≤n∧n≤65535:=by
 simp only [Lit.wf,Bool.and_eq_true,decide_eq_true_eq] at h
 exact h
theorem ty_act {h:Heap}:∀ c,TyC (.agg [(.int .u8),(.int .u8),(.int .u8),(.int .u8),(.int .u8),(.int .u8),(.int .u8)]) h c→∃ x,rAct.R (Frz h) c x∧ActOk x:=by
 intro c ht
 simp only [TyC,TyCs] at ht
 obtain ⟨_,_,rfl,⟨n1,rfl,w1⟩,_,_,rfl,⟨n2,rfl,w2⟩,_,_,rfl,⟨n3,rfl,w3⟩,_,_,rfl,⟨n4,rfl,w4⟩,_,_,rfl,⟨n5,rfl,w5⟩,_,_,rfl,⟨n6,rfl,w6⟩,_,_,rfl,⟨n7,rfl,w7⟩,rfl⟩:=ht
 exact ⟨⟨n1,n2,n3,n4,n5,n6,n7⟩,rAct_mk (x:=⟨n1,n2,n3,n4,n5,n6,n7⟩),wf8 w1,wf8 w2,wf8 w3,wf8 w4,wf8 w5,wf8 w6,wf8 w7⟩
theorem ty_draft {h:Heap} {a:AV} (ht:TyA (.agg [(.sl (.int .u8)),(.sl (.agg [(.int .u8),(.int .u8),(.int .u8),(.int .u8),(.int .u8),(.int .u8),(.int .u8)]))]) h a) :
  ∃ (a0 a1:AV) (d:TDraft),a=.agg [a0,a1]∧SlR (rI .u8) (Frz h) a0 d.Tokens∧SlR rAct (Frz h) a1 d.Acts∧DraftIn d:=by
 obtain ⟨cs,rfl,ht⟩:=ht
 simp only [TyCs] at ht
 obtain ⟨_,_,rfl,h1,_,_,rfl,h2,rfl⟩:=ht
 obtain ⟨s0,l0,rfl,k1,k2,_⟩:=sl_open (r:=rI .u8) (ok:=B8) rfl (fun c hc=>by obtain ⟨n,q1,q2⟩:=int_open hc; exact ⟨n,q1,wf8 q2⟩) h1
 obtain ⟨s1,l1,rfl,k3,k4,_⟩:=sl_open (r:=rAct) (ok:=ActOk) rfl ty_act h2
 exact ⟨s0,s1,⟨l0,l1⟩,rfl,k1,k3,k2,k4⟩
theorem law_parseNear:∀ h xs,TyAs [(.agg [(.sl (.int .u8)),(.sl (.agg [(.int .u8),(.int .u8),(.int .u8),(.int .u8),(.int .u8),(.int .u8),(.int .u8)]))]),(.int .u16),(.sl (.int .u8)),(.int .u8)] h xs→ACalls F 16 xs h fun v _=>v=.bool true:=by
 intro h xs ht
 obtain ⟨a,b,rfl,h1,h4⟩:=ht
 obtain ⟨a2,b2,rfl,⟨n2,e2,w2⟩,h5⟩:=h4
 obtain ⟨a3,b3,rfl,h3,h6⟩:=h5
 obtain ⟨a4,b4,rfl,⟨n4,e4,w4⟩,h7⟩:=h6
 simp only [TyAs] at h7
 subst h7
 cases e2
 cases e4
 obtain ⟨a0,a1,d,rfl,k1,k2,k3⟩:=ty_draft h1
 obtain ⟨s0,l0,e0,k4,k5,_⟩:=sl_open (r:=rI .u8) (ok:=fun n=>0≤n∧n≤255) (cs:=[a3]) rfl (fun c hc=>by obtain ⟨n,q1,q2⟩:=int_open hc; exact ⟨n,q1,wf8 q2⟩) h3
 obtain rfl:a3=s0:=by injection e0
 exact (r16 k1.frz k2.frz k4.frz (p16_true (wf16 w2) k5 (wf8 w4) k3)).val fun v h' hq=>hq.1
end Go.Proofs.Ytloaoofdbilpeaa
