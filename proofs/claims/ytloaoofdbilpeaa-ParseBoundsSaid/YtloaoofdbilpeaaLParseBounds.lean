/- The law ParseBounds: its pure function answers true, whatever it is called with; so does the machine's function. No condition. Own work. -/
import Derived.Test.YtloaoofdbilpeaaPParseBounds
import Derived.Test.YtloaoofdbilpeaaPm2ParseBounds
import Derived.Laws.RangeAny
import Derived.Laws.RangeString
import Derived.KernelRfl
/- Lexing, plainly: what the tokens of bytes are. Own work. -/
namespace Go.Proofs.Ytloaoofdbilpeaa
open Go Go.Am
set_option linter.unusedVariables false
set_option linter.unusedSimpArgs false
/-- A loop that is told how many rounds are left. -/
theorem loop_cnt {τ ρ:Type} {f:τ→Option (τ⊕ρ)} (n:Nat) (I:Nat→τ→Prop) (Q:ρ→Prop)
  (step:∀ k s,k < n→I k s→(∃ s',f s=some (.inl s')∧I (k+1) s')∨∃ r,f s=some (.inr r)∧Q r)
  (done:∀ s,I n s→∃ r,f s=some (.inr r)∧Q r) {s:τ} (h0:I 0 s):∃ r,loopC f s=some r∧Q r:=by
 suffices key:∀ d k s,k+d=n→I k s→∃ r,iter f (d+1) s=some r∧Q r by
  obtain ⟨r,h1,h2⟩:=key n 0 s (by omega) h0
  exact ⟨r,loopC_iff.2 ⟨_,h1⟩,h2⟩
 intro d
 induction d with
 | zero=>
  intro k s hk hI
  obtain rfl:k=n:=by omega
  obtain ⟨r,h1,h2⟩:=done s hI
  exact ⟨r,by simp only [iter,h1],h2⟩
 | succ d ih=>
  intro k s hk hI
  rcases step k s (by omega) hI with ⟨s',h1,h2⟩ | ⟨r,h1,h2⟩
  ·obtain ⟨r,h3,h4⟩:=ih (k+1) s' (by omega) h2
   exact ⟨r,by rw [iter]; simp only [h1]; exact h3,h4⟩
  ·exact ⟨r,by rw [iter]; simp only [h1],h2⟩
/-- All are bytes. -/
def Bytes (p:List Int):Prop:=∀ c,c∈p→0≤c∧c≤255
theorem Bytes.get {p:List Int} (h:Bytes p) {i:Nat} (hi:i < p.length):0≤p[i]∧p[i]≤255:=h _ (List.getElem_mem hi)
def isSm (c:Int):Bool:=decide (97≤c)&&decide (c≤122)
def isDg (c:Int):Bool:=decide (48≤c)&&decide (c≤57)
def isWd (c:Int):Bool:=isSm c||(isDg c||decide (c=46))
def isBl (c:Int):Bool:=decide (c=32)||(decide (c=9)||(decide (c=10)||decide (c=13)))
def isSg (c:Int):Bool:=decide (c=59)||(decide (c=58)||(decide (c=44)||(decide (c=42)||(decide (c=33)||(decide (c=126)||(decide (c=64)||decide (c=61)))))))
def nnl (c:Int):Bool:=!decide (c=10)
/-- Where a run of such ends. -/
def run (P:Int→Bool) (p:List Int) (i:Nat):Nat:=i+((p.drop i).takeWhile P).length
theorem run_step {P:Int→Bool} {p:List Int} {i:Nat} (hi:i < p.length):run P p i=if P p[i]=true then run P p (i+1) else i:=by
 unfold run
 rw [List.drop_eq_getElem_cons hi,List.takeWhile_cons]
 split
 ·simp; omega
 ·simp
theorem run_end {P:Int→Bool} {p:List Int} {i:Nat} (hi:p.length≤i):run P p i=i:=by
 unfold run
 rw [List.drop_eq_nil_of_le hi]; rfl
theorem run_ge (P:Int→Bool) (p:List Int) (i:Nat):i≤run P p i:=by unfold run; omega
theorem run_le {P:Int→Bool} {p:List Int} {i:Nat} (hi:i≤p.length):run P p i≤p.length:=by
 unfold run
 have:=List.Sublist.length_le (List.takeWhile_sublist P (l:=p.drop i))
 rw [List.length_drop] at this
 omega
/-- A number's value, as long as it is not too great. -/
def numv:List Int→Int→Option Int
 | [],n=>some n
 | d::l,n=>if 1125899906842624 < 10 * n+(d - 48) then none else numv l (10 * n+(d - 48))
def num (p:List Int) (i:Nat) (n:Int):Option Int:=numv ((p.drop i).takeWhile isDg) n
theorem num_step {p:List Int} {i:Nat} (hi:i < p.length) (n:Int):num p i n=if isDg p[i]=true then (if 1125899906842624 < 10 * n+(p[i] - 48) then none else num p (i+1) (10 * n+(p[i] - 48))) else some n:=by
 unfold num
 rw [List.drop_eq_getElem_cons hi,List.takeWhile_cons]
 split
 ·rfl
 ·rfl
theorem num_end {p:List Int} {i:Nat} (hi:p.length≤i) (n:Int):num p i n=some n:=by
 unfold num
 rw [List.drop_eq_nil_of_le hi]; rfl
/-- A token: kind, text, number, place. -/
structure Tok where
 k:Int
 s:List UInt8
 n:Int
 at_:Int
def textOf (p:List Int) (i j:Nat):List UInt8:=((p.take j).drop i).map u8
/-- One token: kind, end, number; or the error. -/
def oneS (p:List Int) (i:Nat):(Int×Nat×Int)⊕Int:=
 let c:=p.getD i 0
 if isSm c=true then .inl (1,run isWd p (i+1),0)
 else if isDg c=true then match num p i 0 with
  | some n=>.inl (2,run isDg p (i+1),n)
  | none=>.inr 3
 else if c=45∧p[i+1]? = some 62 then .inl (3,i+2,0)
 else if isSg c=true then .inl (3,i+1,0)
 else .inr 6
/-- One step: to where, with which token; or the error. -/
def stepS (p:List Int) (i:Nat):(Nat×List Tok)⊕Int:=
 let c:=p.getD i 0
 if isBl c=true then .inl (i+1,[])
 else if c=35 then .inl (run nnl p i,[])
 else match oneS p i with
  | .inl (k,e,n)=>.inl (e,[⟨k,textOf p i e,n,(i:Int)⟩])
  | .inr e=>.inr e
/-- From a place on, behind some tokens: all tokens; or the error, and where. -/
inductive LexR (p:List Int):Nat→List Tok→(List Tok×Int×Int)→Prop where
 | done {i:Nat} {l:List Tok}:i=p.length→LexR p i l (l++[⟨0,[],0,(p.length:Int)⟩],0,0)
 | go {i j:Nat} {l t:List Tok} {r:List Tok×Int×Int}:i < p.length→stepS p i=.inl (j,t)→LexR p j (l++t) r→LexR p i l r
 | err {i:Nat} {l:List Tok} {e:Int}:i < p.length→stepS p i=.inr e→LexR p i l ([],e,(i:Int))
theorem LexR.det {p:List Int} {i:Nat} {l:List Tok} {r r':List Tok×Int×Int} (h:LexR p i l r) (h':LexR p i l r'):r=r':=by
 induction h with
 | done e=>
  cases h' with
  | done _=>rfl
  | go h1 _ _=>omega
  | err h1 _=>omega
 | go h1 h2 _ ih=>
  cases h' with
  | done e=>omega
  | go _ k2 k3=>rw [h2] at k2; cases k2; exact ih k3
  | err _ k2=>rw [h2] at k2; cases k2
 | err h1 h2=>
  cases h' with
  | done e=>omega
  | go _ k2 _=>rw [h2] at k2; cases k2
  | err _ k2=>rw [h2] at k2; cases k2; rfl
theorem isDg_lt {c:Int} (h:isDg c=true):48≤c∧c≤57:=by
 simpa [isDg] using h
theorem oneS_gt {p:List Int} {i j:Nat} {k n:Int} (hi:i < p.length) (h:oneS p i=.inl (k,j,n)):i < j∧j≤p.length:=by
 unfold oneS at h
 simp only at h
 split at h
 ·cases h; exact ⟨Nat.lt_of_lt_of_le (Nat.lt_succ_self i) (run_ge _ _ _),run_le (by omega)⟩
 ·split at h
  ·split at h
   ·cases h; exact ⟨Nat.lt_of_lt_of_le (Nat.lt_succ_self i) (run_ge _ _ _),run_le (by omega)⟩
   ·cases h
  ·split at h
   ·rename_i h1
    cases h
    have:=(List.getElem?_eq_some_iff.1 h1.2).1
    omega
   ·split at h
    ·cases h; omega
    ·cases h
theorem getD_of {p:List Int} {i:Nat} (hi:i < p.length):p.getD i 0=p[i]:=by
 rw [List.getD_eq_getElem?_getD,List.getElem?_eq_getElem hi]; rfl
theorem stepS_gt {p:List Int} {i j:Nat} {t:List Tok} (hi:i < p.length) (h:stepS p i=.inl (j,t)):i < j∧j≤p.length∧t.length≤1:=by
 unfold stepS at h
 simp only at h
 split at h
 ·cases h; simp; omega
 ·split at h
  ·rename_i h1
   cases h
   rw [getD_of hi] at h1
   have:run nnl p i=run nnl p (i+1):=by rw [run_step hi,if_pos (by rw [h1]; decide)]
   rw [this]
   exact ⟨Nat.lt_of_lt_of_le (Nat.lt_succ_self i) (run_ge _ _ _),run_le (by omega),by simp⟩
  ·split at h
   ·rename_i h1
    cases h
    obtain ⟨g1,g2⟩:=oneS_gt hi h1
    exact ⟨g1,g2,by simp⟩
   ·cases h
/-! ### the program's small functions -/
theorem p37_eq (c:Int):p37 c=some (isSm c):=by
 unfold p37 p37_j0 isSm
 split<;>rename_i h<;>simp [h]
theorem p38_eq (c:Int):p38 c=some (isDg c):=by
 unfold p38 p38_j0 isDg
 split<;>rename_i h<;>simp [h]
theorem p48_eq (s:List UInt8) (c:Int):p48 s c=some (idxB s c):=rfl
theorem indexByte_eq (c:UInt8):∀ s:List UInt8,Go.Lib.indexByte s c=if c∈s then ((s.takeWhile (fun b=>b != c)).length:Int) else -1
 | []=>rfl
 | b::s=>by
  unfold Go.Lib.indexByte
  rw [indexByte_eq c s]
  by_cases h:b=c
  ·subst h; simp
  ·have h1:(b==c)=false:=by simpa using h
   have h2:(b != c)=true:=by simpa using h
   rw [h1,List.takeWhile_cons,h2]
   simp only [Bool.false_eq_true,if_false,if_true,List.length_cons]
   by_cases hm:c∈s
   ·rw [if_pos hm,if_pos (List.mem_cons_of_mem _ hm)]
    have:((((s.takeWhile (fun b=>b != c)).length:Nat):Int)==-1)=false:=by
     rw [beq_eq_false_iff_ne]; omega
    rw [this]; simp
   ·have hm':¬ c∈b::s:=by
     intro hh
     rcases List.mem_cons.1 hh with e | hh
     ·exact h e.symm
     ·exact hm hh
    rw [if_neg hm,if_neg hm']; rfl
theorem u8_inj {a b:Int} (ha:0≤a∧a≤255) (hb:0≤b∧b≤255):a.toNat.toUInt8=b.toNat.toUInt8↔a=b:=by
 constructor
 ·intro h
  have:=congrArg UInt8.toNat h
  simp only [Nat.toUInt8,UInt8.toNat_ofNat'] at this
  omega
 ·rintro rfl; rfl
theorem mem_u8 {s:List Int} (hs:Bytes s) {c:Int} (hc:0≤c∧c≤255):c.toNat.toUInt8∈s.map (fun x=>x.toNat.toUInt8)↔c∈s:=by
 rw [List.mem_map]
 constructor
 ·rintro ⟨a,h1,h2⟩
  rw [(u8_inj (hs a h1) hc).1 h2] at h1
  exact h1
 ·intro h; exact ⟨c,h,rfl⟩
theorem idxB_ge {s:List UInt8} {c:Int}:0≤idxB s c↔c.toNat.toUInt8∈s:=by
 unfold idxB
 rw [indexByte_eq]
 split
 ·rename_i h; simp [h]
 ·rename_i h; simp [h]
theorem p48_bl {c:Int} (hc:0≤c∧c≤255):0≤idxB ([32,9,13,10]:List UInt8) c↔isBl c=true:=by
 rw [idxB_ge,show ([32,9,13,10]:List UInt8)=([32,9,13,10]:List Int).map (fun x=>x.toNat.toUInt8) from rfl,mem_u8 (by intro x hx; simp at hx; omega) hc]
 simp [isBl]
 omega
theorem p48_sg {c:Int} (hc:0≤c∧c≤255):0≤idxB ([59,58,44,42,33,126,64,61]:List UInt8) c↔isSg c=true:=by
 rw [idxB_ge,show ([59,58,44,42,33,126,64,61]:List UInt8)=([59,58,44,42,33,126,64,61]:List Int).map (fun x=>x.toNat.toUInt8) from rfl,mem_u8 (by intro x hx; simp at hx; omega) hc]
 simp [isSg]
end Go.Proofs.Ytloaoofdbilpeaa
/- The program's lexer, plainly. Own work. -/
namespace Go.Proofs.Ytloaoofdbilpeaa
open Go Go.Am
set_option linter.unusedVariables false
set_option linter.unusedSimpArgs false
theorem slc_ok {α:Type} {l:List α} {i j:Nat} (h:i≤j) (hj:j≤l.length):slc l (i:Int) (j:Int)=some ((l.take j).drop i):=by
 unfold slc
 rw [if_pos (by omega)]
 simp
theorem take_nl {p:List Int} (hp:Bytes p) (i:Nat):((p.drop i).map (fun x=>x.toNat.toUInt8)).takeWhile (fun b=>b != (10:Int).toNat.toUInt8)=((p.drop i).takeWhile nnl).map (fun x=>x.toNat.toUInt8):=by
 have:∀ q:List Int,Bytes q→(q.map (fun x=>x.toNat.toUInt8)).takeWhile (fun b=>b != (10:Int).toNat.toUInt8)=(q.takeWhile nnl).map (fun x=>x.toNat.toUInt8):=by
  intro q hq
  induction q with
  | nil=>rfl
  | cons c q ih=>
   have hc:=hq c (by simp)
   have ih:=ih (fun x hx=>hq x (by simp [hx]))
   rw [List.map_cons,List.takeWhile_cons,List.takeWhile_cons]
   by_cases h:c=10
   ·subst h; rfl
   ·have h1:(c.toNat.toUInt8 != (10:Int).toNat.toUInt8)=true:=by
     rw [bne_iff_ne]
     intro e
     exact h ((u8_inj hc (by omega)).1 e)
    have h2:nnl c=true:=by simp [nnl,h]
    rw [h1,h2]
    simp only [if_true,List.map_cons,ih]
 exact this _ (fun c hc=>hp c (List.mem_of_mem_drop hc))
theorem u8_eq:(fun x:Int=>x.toNat.toUInt8)=u8:=by
 funext x; rfl
/-- A line's end from a place on: none; or where. -/
theorem nl_idx {p:List Int} (hp:Bytes p) {i:Nat} (hi:i≤p.length):(idxB ((p.drop i).map u8) 10 < 0∧run nnl p i=p.length)∨(idxB ((p.drop i).map u8) 10=((run nnl p i - i:Nat):Int)∧∃ h:run nnl p i < p.length,p[run nnl p i]=10):=by
 unfold idxB
 have hmu:=mem_u8 (s:=p.drop i) (c:=10) (fun c hc=>hp c (List.mem_of_mem_drop hc)) (by omega)
 rw [indexByte_eq,← u8_eq,take_nl hp,List.length_map]
 by_cases hm:(10:Int)∈p.drop i
 ·rw [if_pos (hmu.2 hm)]
  right
  refine ⟨by unfold run; rw [Nat.add_sub_cancel_left],?_⟩
  have key:∀ q:List Int,(10:Int)∈q→∃ h:(q.takeWhile nnl).length < q.length,q[(q.takeWhile nnl).length]=10:=by
   intro q hq
   induction q with
   | nil=>cases hq
   | cons c q ih=>
    rw [List.takeWhile_cons]
    by_cases h:c=10
    ·subst h; exact ⟨by simp [nnl],by simp [nnl]⟩
    ·have h2:nnl c=true:=by simp [nnl,h]
     obtain ⟨g1,g2⟩:=ih (by rcases List.mem_cons.1 hq with e | e; exact absurd e.symm h; exact e)
     simp only [h2,if_true,List.length_cons,List.getElem_cons_succ]
     exact ⟨by omega,g2⟩
  obtain ⟨g1,g2⟩:=key _ hm
  rw [List.length_drop] at g1
  refine ⟨by unfold run; omega,?_⟩
  rw [List.getElem_drop] at g2
  exact g2
 ·rw [if_neg (fun h=>hm (hmu.1 h))]
  left
  refine ⟨by omega,?_⟩
  have key:∀ q:List Int,¬ (10:Int)∈q→q.takeWhile nnl=q:=by
   intro q hq
   induction q with
   | nil=>rfl
   | cons c q ih=>
    have h2:nnl c=true:=by
     simp only [nnl,Bool.not_eq_true',decide_eq_false_iff_not]
     rintro rfl
     exact hq (by simp)
    rw [List.takeWhile_cons,h2]
    simp only [if_true]
    rw [ih (fun h=>hq (by simp [h]))]
  unfold run
  rw [key _ hm,List.length_drop]; omega
/-- The blanks. -/
theorem p31_eq {p:List Int} (hp:Bytes p) (hl:p.length≤1000000) {i:Nat} (hi:i≤p.length) :
  ∃ j:Nat,p31 p (i:Int)=some (j:Int)∧i≤j∧j≤p.length∧(∀ l r,LexR p j l r→LexR p i l r)∧(∀ h:j < p.length,isBl p[j]=false∧p[j]≠35):=by
 have key:∃ r,loopC (p31_l0 p) (i:Int)=some r∧∃ j:Nat,(r=.inl (j:Int)∨r=.inr (j:Int))∧i≤j∧j≤p.length∧(∀ l r,LexR p j l r→LexR p i l r)∧(∀ h:j < p.length,isBl p[j]=false∧p[j]≠35):=by
  refine loop_cnt (p.length - i) (fun k s=>∃ j:Nat,s=(j:Int)∧i+k≤j∧j≤p.length∧∀ l r,LexR p j l r→LexR p i l r) _ ?_ ?_ ⟨i,rfl,by omega,hi,fun _ _ h=>h⟩
  ·rintro k _ hk ⟨j,rfl,h1,h2,h3⟩
   unfold p31_l0
   by_cases hj:j < p.length
   ·have hb:=hp.get hj
    rw [if_pos (by omega),idx_get hj]
    simp only [Option.bind_some,p48_eq]
    by_cases hbl:isBl p[j]=true
    ·rw [if_pos ((p48_bl hb).2 hbl)]
     refine .inl ⟨_,rfl,j+1,by rw [wrap64 (by omega) (by omega)]; rfl,by omega,by omega,fun l r h=>h3 l r (.go hj (t:=[]) (j:=j+1) ?_ (by simpa using h))⟩
     unfold stepS
     simp only [getD_of hj]
     rw [if_pos hbl]
    ·rw [if_neg (fun h=>hbl ((p48_bl hb).1 h))]
     by_cases hc:p[j]=35
     ·rw [if_pos hc,slc_ok (Nat.le_of_lt hj) (Nat.le_refl _),List.take_length]
      simp only [Option.bind_some]
      have hst:stepS p j=.inl (run nnl p j,[]):=by
       unfold stepS
       simp only [getD_of hj]
       rw [if_neg hbl,if_pos hc]
      obtain ⟨hg1,hg2,_⟩:=stepS_gt hj hst
      rcases nl_idx hp (Nat.le_of_lt hj) with ⟨g1,g2⟩ | ⟨g1,g2,g3⟩
      ·rw [if_pos g1]
       refine .inr ⟨_,rfl,p.length,.inl rfl,by omega,Nat.le_refl _,fun l r h=>h3 l r (.go hj hst (by rw [g2]; simpa using h)),fun h=>absurd h (by omega)⟩
      ·rw [g1,if_neg (by omega)]
       refine .inl ⟨_,rfl,run nnl p j,by rw [wrap64 (by omega) (by omega)]; omega,by omega,hg2,fun l r h=>h3 l r (.go hj hst (by simpa using h))⟩
     ·rw [if_neg hc]
      exact .inr ⟨_,rfl,j,.inl rfl,by omega,h2,h3,fun _=>⟨by simpa using hbl,hc⟩⟩
   ·rw [if_neg (by omega)]
    exact .inr ⟨_,rfl,j,.inr rfl,by omega,h2,h3,fun h=>absurd h hj⟩
  ·rintro _ ⟨j,rfl,h1,h2,h3⟩
   unfold p31_l0
   rw [if_neg (by omega)]
   exact ⟨_,rfl,j,.inr rfl,by omega,h2,h3,fun h=>absurd h (by omega)⟩
 obtain ⟨r,h1,j,h2,h3⟩:=key
 refine ⟨j,?_,h3⟩
 unfold p31
 rw [h1]
 rcases h2 with rfl | rfl<;>rfl
/-- A run of a word's bytes. -/
theorem p32_word {p:List Int} (hl:p.length≤1000000) {i:Nat} (hi:i≤p.length):loopC (p32_l0 p) (i:Int)=some ((run isWd p i:Nat):Int):=by
 obtain ⟨r,h1,h2⟩:∃ r,loopC (p32_l0 p) (i:Int)=some r∧r=((run isWd p i:Nat):Int):=by
  refine loop_cnt (p.length - i) (fun k s=>s=((i+k:Nat):Int)∧run isWd p i=run isWd p (i+k)) _ ?_ ?_ ⟨rfl,rfl⟩
  ·rintro k _ hk ⟨rfl,h⟩
   have hj:i+k < p.length:=by omega
   rw [run_step hj] at h
   unfold p32_l0
   rw [if_pos (by omega),idx_get hj]
   simp only [Option.bind_some,p37_eq,p38_eq]
   have fin:∀ b:Bool,b=isWd p[i+k]→(∃ s',p32_j1 ((i+k:Nat):Int) b=some (.inl s')∧s'=((i+(k+1):Nat):Int)∧run isWd p i=run isWd p (i+(k+1)))∨∃ r,p32_j1 ((i+k:Nat):Int) b=some (.inr r)∧r=((run isWd p i:Nat):Int):=by
    rintro b rfl
    unfold p32_j1
    cases hw:isWd p[i+k] with
    | true=>
     rw [if_pos rfl]
     rw [hw,if_pos rfl] at h
     exact .inl ⟨_,rfl,by rw [wrap64 (by omega) (by omega)]; omega,h⟩
    | false=>
     rw [if_neg (by simp)]
     rw [hw,if_neg (by simp)] at h
     exact .inr ⟨_,rfl,by rw [h]⟩
   unfold p32_j3 p32_j2
   cases hs:isSm p[i+k] with
   | true=>
    rw [if_pos rfl,if_pos rfl]
    exact fin _ (by simp [isWd,hs])
   | false=>
    rw [if_neg (by simp)]
    cases hd:isDg p[i+k] with
    | true=>
     rw [if_pos rfl]
     exact fin _ (by simp [isWd,hs,hd])
    | false=>
     rw [if_neg (by simp),idx_get hj]
     exact fin _ (by simp [isWd,hs,hd])
  ·rintro _ ⟨rfl,h⟩
   rw [run_end (i:=i+(p.length - i)) (by omega)] at h
   unfold p32_l0 p32_j1
   rw [if_neg (by omega),if_neg (by simp)]
   exact ⟨_,rfl,by rw [h]⟩
 rw [h1,h2]
/-- A run of digits, and their number. -/
theorem p32_num {p:List Int} (hl:p.length≤1000000) {i:Nat} (hi:i≤p.length) {n:Int} (h0:0≤n) (h1:n≤1125899906842624) :
  ∃ r,loopC (p32_l1 p) ((i:Int),n)=some r∧(match num p i n with | some m=>r=.inr ((run isDg p i:Nat),m) | none=>∃ u,r=.inl u):=by
 refine loop_cnt (p.length - i) (fun k s=>∃ m:Int,s=(((i+k:Nat):Int),m)∧0≤m∧m≤1125899906842624∧run isDg p i=run isDg p (i+k)∧num p i n=num p (i+k) m) _ ?_ ?_ ⟨n,rfl,h0,h1,rfl,rfl⟩
 ·rintro k _ hk ⟨m,rfl,g0,g1,g2,g3⟩
  have hj:i+k < p.length:=by omega
  rw [run_step hj] at g2
  rw [num_step hj] at g3
  unfold p32_l1
  simp only
  rw [if_pos (by omega),idx_get hj]
  simp only [Option.bind_some,p38_eq]
  unfold p32_j4
  cases hd:isDg p[i+k] with
  | true=>
   have hb:=isDg_lt hd
   rw [if_pos rfl,idx_get hj]
   simp only [Option.bind_some]
   have e1:IntKind.wrap .u8 (p[i+k] - 48)=p[i+k] - 48:=IntWalk.u8_in _ (by omega)
   rw [e1,wrap64 (n:=10 * m) (by omega) (by omega),wrap64 (n:=p[i+k] - 48) (by omega) (by omega),wrap64 (by omega) (by omega)]
   rw [hd,if_pos rfl] at g2 g3
   by_cases hc:1125899906842624 < 10 * m+(p[i+k] - 48)
   ·rw [if_pos hc] at g3 ⊢
    refine .inr ⟨_,rfl,?_⟩
    rw [g3]
    exact ⟨_,rfl⟩
   ·rw [if_neg hc] at g3 ⊢
    exact .inl ⟨_,rfl,10 * m+(p[i+k] - 48),by rw [wrap64 (by omega) (by omega)]; rfl,by omega,by omega,g2,g3⟩
  | false=>
   rw [if_neg (by simp)]
   rw [hd,if_neg (by simp)] at g2 g3
   refine .inr ⟨_,rfl,?_⟩
   rw [g3,g2]
 ·rintro _ ⟨m,rfl,g0,g1,g2,g3⟩
  rw [run_end (i:=i+(p.length - i)) (by omega)] at g2
  rw [num_end (i:=i+(p.length - i)) (by omega)] at g3
  unfold p32_l1 p32_j4
  simp only
  rw [if_neg (by omega),if_neg (by simp)]
  refine ⟨_,rfl,?_⟩
  rw [g3,g2]
end Go.Proofs.Ytloaoofdbilpeaa
/- Lines and columns, plainly. Own work. -/
namespace Go.Proofs.Ytloaoofdbilpeaa
open Go Go.Am
set_option linter.unusedVariables false
set_option linter.unusedSimpArgs false
/-- Where the last line's end ahead of a place stands. -/
def lastN (p:List Int):Nat→Int
 | 0=>-1
 | i+1=>if p[i]? = some 10 then (i:Int) else lastN p i
/-- How many lines' ends stand ahead of a place. -/
def cntN (p:List Int):Nat→Nat
 | 0=>0
 | i+1=>cntN p i+if p[i]? = some 10 then 1 else 0
theorem lastN_succ (p:List Int) (i:Nat):lastN p (i+1)=if p[i]? = some 10 then (i:Int) else lastN p i:=rfl
theorem cntN_succ (p:List Int) (i:Nat):cntN p (i+1)=cntN p i+if p[i]? = some 10 then 1 else 0:=rfl
theorem lastN_lt (p:List Int):∀ i:Nat,-1≤lastN p i∧lastN p i < (i:Int)
 | 0=>⟨Int.le_refl _,by show (-1:Int) < 0; omega⟩
 | i+1=>by
  have:=lastN_lt p i
  unfold lastN
  split<;>omega
theorem cntN_le (p:List Int):∀ i:Nat,cntN p i≤i
 | 0=>Nat.le_refl _
 | i+1=>by
  have:=cntN_le p i
  unfold cntN
  split<;>omega
theorem u8_nat {c:Int} (hc:0≤c∧c≤255):((u8 c).toNat:Int)=c:=by
 unfold u8
 simp only [UInt8.toNat_ofNat']
 omega
theorem p52_eq {p:List Int} (hp:Bytes p) (hl:p.length≤1000000) {i:Nat} (hi:i≤p.length):p52 ((p.take i).map u8) 10=some (lastN p i):=by
 have hlen:((p.take i).map u8).length=i:=by simp; omega
 unfold p52
 rw [hlen,wrap64 (by omega) (by omega)]
 obtain ⟨r,h1,h2⟩:∃ r,loopC (p52_l0 ((p.take i).map u8) 10) ((i:Int) - 1)=some r∧(r=.inl (lastN p i)∨(r=.inr ()∧lastN p i = -1)):=by
  refine loop_cnt i (fun d (st:Int)=>st=(i:Int) - d - 1∧lastN p i=lastN p (i - d)) _ ?_ ?_ ⟨by omega,rfl⟩
  ·rintro d _ hd ⟨rfl,h⟩
   obtain ⟨j,hj⟩:∃ j,i - d=j+1:=⟨i - d - 1,by omega⟩
   have e1:(i:Int) - d - 1=(j:Int):=by omega
   have hjp:j < p.length:=by omega
   rw [hj] at h
   rw [lastN_succ,List.getElem?_eq_getElem hjp] at h
   unfold p52_l0
   rw [e1,if_pos (by omega)]
   have hix:idxS ((p.take i).map u8) (j:Int)=some p[j]:=by
    unfold idxS
    rw [if_pos (by omega),Int.toNat_natCast,List.getElem?_map,List.getElem?_take,if_pos (by omega),List.getElem?_eq_getElem hjp]
    simp only [Option.map_some]
    rw [u8_nat (hp.get hjp)]
   rw [hix]
   simp only [Option.bind_some]
   by_cases hc:p[j]=10
   ·rw [if_pos hc]
    rw [if_pos (by rw [hc])] at h
    exact .inr ⟨_,rfl,.inl (by rw [h])⟩
   ·rw [if_neg hc]
    rw [if_neg (fun e=>hc (Option.some.inj e))] at h
    refine .inl ⟨_,rfl,?_,?_⟩
    ·rw [wrap64 (by omega) (by omega)]; omega
    ·rw [h,show i - (d+1)=j by omega]
  ·rintro _ ⟨rfl,h⟩
   rw [Nat.sub_self] at h
   unfold p52_l0
   rw [if_neg (by omega)]
   exact ⟨_,rfl,.inr ⟨rfl,h⟩⟩
 rw [h1]
 rcases h2 with rfl | ⟨rfl,h⟩
 ·rfl
 ·rw [h]; rfl
theorem cntB_eq {p:List Int} (hp:Bytes p):∀ {i:Nat},i≤p.length→cntB ((p.take i).map u8) 10=(cntN p i:Int)
 | 0,_=>rfl
 | i+1,hi=>by
  have ih:=cntB_eq hp (i:=i) (by omega)
  have hj:i < p.length:=by omega
  unfold cntB Go.Lib.countByte at ih ⊢
  rw [List.take_succ_eq_append_getElem hj,List.map_append,List.count_append]
  rw [cntN_succ,List.getElem?_eq_getElem hj]
  have:([p[i]].map u8).count (10:Int).toNat.toUInt8=if some p[i]=some 10 then 1 else 0:=by
   rw [List.map_singleton,List.count_singleton]
   by_cases hc:p[i]=10
   ·rw [hc]; rfl
   ·have h1:¬ (u8 p[i]=(10:Int).toNat.toUInt8):=fun e=>hc ((u8_inj (hp.get hj) (by omega)).1 e)
    rw [if_neg (by simpa using h1),if_neg (fun e=>hc (Option.some.inj e))]
  rw [this]
  omega
theorem p21_eq {p:List Int} (hp:Bytes p) (hl:p.length≤1000000) (a:Int) {i:Nat} (hi:i≤p.length) (ha:(if (p.length:Int) < (if a < (0:Int) then (0:Int) else a) then (p.length:Int) else (if a < (0:Int) then (0:Int) else a))=(i:Int)) :
  p21 p a=some (1+(cntN p i:Int),(i:Int) - lastN p i):=by
 have b1:=lastN_lt p i
 have b2:=cntN_le p i
 unfold p21
 rw [ha,show (0:Int)=((0:Nat):Int) from rfl,slc_ok (Nat.zero_le i) hi,List.drop_zero]
 simp only [Option.bind_some]
 have h35:p35 ((p.take i).map u8) [10]=some (cntN p i:Int):=by
  unfold p35
  rw [if_neg (by simp),if_pos (by simp),show idxS ([10]:List UInt8) 0=some 10 from rfl]
  simp only [Option.bind_some]
  rw [cntB_eq hp hi]
 rw [h35]
 simp only [Option.bind_some]
 unfold p36
 rw [p52_eq hp hl hi]
 simp only [Option.bind_some]
 rw [wrap64 (by omega) (by omega),wrap64 (by omega) (by omega)]
 congr 2
 omega
theorem p22_eq {p:List Int} (hp:Bytes p) (hl:p.length≤1000000) (e:Int) {i:Nat} (hi:i≤p.length):p22 p e (i:Int)=some ⟨e,(i:Int),1+(cntN p i:Int),(i:Int) - lastN p i⟩:=by
 unfold p22
 rw [p21_eq hp hl (i:Int) hi (by rw [if_neg (show ¬ (i:Int) < 0 by omega),if_neg (by omega)])]
 rfl
end Go.Proofs.Ytloaoofdbilpeaa
/- The program's tokens are the document's, plainly. Own work. -/
namespace Go.Proofs.Ytloaoofdbilpeaa
open Go Go.Am
set_option linter.unusedVariables false
set_option linter.unusedSimpArgs false
/-- One token by the program. -/
theorem p32_eq {p:List Int} (hp:Bytes p) (hl:p.length≤1000000) {i:Nat} (hi:i < p.length):p32 p (i:Int)=match oneS p i with
  | .inl (k,j,n)=>some (⟨k,textOf p i j,n,(i:Int)⟩,0)
  | .inr e=>some (⟨0,[],0,0⟩,e):=by
 have hb:=hp.get hi
 have put:∀ (j:Nat) (k n:Int),i≤j→j≤p.length→p32_j0 p (i:Int) (j:Int) k n=some (⟨k,textOf p i j,n,(i:Int)⟩,0):=by
  intro j k n h1 h2
  unfold p32_j0
  rw [slc_ok h1 h2]; rfl
 have hw1:IntKind.wrap .i64 ((i:Int)+1)=((i+1:Nat):Int):=by rw [wrap64 (by omega) (by omega)]; rfl
 have hw2:IntKind.wrap .i64 (((i+1:Nat):Int)+1)=((i+2:Nat):Int):=by rw [wrap64 (by omega) (by omega)]; rfl
 unfold p32 oneS
 simp only [getD_of hi]
 rw [idx_get hi]
 simp only [Option.bind_some,p37_eq,p38_eq]
 rw [hw1]
 by_cases hs:isSm p[i]=true
 ·rw [if_pos hs,if_pos hs,p32_word hl (by omega)]
  simp only [Option.bind_some]
  exact put _ _ _ (Nat.le_trans (Nat.le_succ i) (run_ge _ _ _)) (run_le (by omega))
 rw [if_neg hs,if_neg hs]
 by_cases hd:isDg p[i]=true
 ·rw [if_pos hd,if_pos hd]
  have hb2:=isDg_lt hd
  have e1:IntKind.wrap .u8 (p[i] - 48)=p[i] - 48:=IntWalk.u8_in _ (by omega)
  rw [e1,wrap64 (n:=p[i] - 48) (by omega) (by omega)]
  obtain ⟨r,h1,h2⟩:=p32_num hl (i:=i+1) (by omega) (n:=p[i] - 48) (by omega) (by omega)
  have hn:=num_step hi 0
  rw [if_pos hd,if_neg (by omega),show (10:Int) * 0+(p[i] - 48)=p[i] - 48 by omega] at hn
  rw [h1,hn]
  simp only [Option.bind_some]
  cases hv:num p (i+1) (p[i] - 48) with
  | none=>
   rw [hv] at h2
   obtain ⟨u,rfl⟩:=h2
   rfl
  | some m=>
   rw [hv] at h2
   subst h2
   exact put _ _ _ (Nat.le_trans (Nat.le_succ i) (run_ge _ _ _)) (run_le (by omega))
 rw [if_neg hd,if_neg hd]
 have last:∀ b:Bool,b=decide (p[i]=45∧p[i+1]? = some 62)→p32_j5 p (i:Int) p[i] b=match (if p[i]=45∧p[i+1]? = some 62 then Sum.inl (3,i+2,0) else if isSg p[i]=true then Sum.inl (3,i+1,0) else Sum.inr 6:(Int×Nat×Int)⊕Int) with
  | .inl (k,j,n)=>some (⟨k,textOf p i j,n,(i:Int)⟩,0)
  | .inr e=>some (⟨0,[],0,0⟩,e):=by
  rintro b rfl
  unfold p32_j5
  rw [hw1,hw2]
  by_cases h:p[i]=45∧p[i+1]? = some 62
  ·have:=(List.getElem?_eq_some_iff.1 h.2).1
   rw [if_pos (by simpa using h),if_pos h]
   exact put _ _ _ (by omega) (by omega)
  ·rw [if_neg (by simpa using h),if_neg h]
   simp only [p48_eq,Option.bind_some]
   by_cases hg:isSg p[i]=true
   ·rw [if_pos ((p48_sg hb).2 hg),if_pos hg]
    exact put _ _ _ (by omega) (by omega)
   ·rw [if_neg (fun h=>hg ((p48_sg hb).1 h)),if_neg hg]
 by_cases hm:p[i]=45
 ·rw [if_pos hm]
  unfold p32_j6
  by_cases hj:i+1 < p.length
  ·rw [if_pos (by simp; omega),hw1,idx_get hj]
   simp only [Option.bind_some]
   exact last _ (by simp [hm,List.getElem?_eq_getElem hj])
  ·rw [if_neg (by simp; omega)]
   exact last _ (by simp [List.getElem?_eq_none (Nat.le_of_not_lt hj)])
 ·rw [if_neg hm]
  unfold p32_j6
  rw [if_neg (by simp)]
  exact last _ (by simp [hm])
def tokL (t:TTokenlex):Tok:=⟨t.Kind,t.Text,t.N,t.At⟩
def tokR (t:TToken):Tok:=⟨t.Kind,t.Text,t.N,t.At⟩
theorem oneS_err {p:List Int} {i:Nat} {e:Int} (h:oneS p i=.inr e):e=3∨e=6:=by
 unfold oneS at h
 simp only at h
 repeat' split at h
 all_goals first | (cases h; done) | (cases h; simp)
theorem stepS_err {p:List Int} {i:Nat} {e:Int} (h:stepS p i=.inr e):e=3∨e=6:=by
 unfold stepS at h
 simp only at h
 split at h
 ·cases h
 ·split at h
  ·cases h
  ·split at h
   ·cases h
   ·rename_i h1; cases h; exact oneS_err h1
theorem stepS_one {p:List Int} {i:Nat} (hi:i < p.length) (h1:isBl p[i]=false) (h2:p[i]≠35):stepS p i=match oneS p i with
  | .inl (k,e,n)=>.inl (e,[⟨k,textOf p i e,n,(i:Int)⟩])
  | .inr e=>.inr e:=by
 unfold stepS
 simp only [getD_of hi]
 rw [if_neg (by simp [h1]),if_neg h2]
 all_goals (cases oneS p i<;>rfl)
theorem text_len {p:List Int} {i j:Nat} (h:i≤j) (hj:j≤p.length):(textOf p i j).length=j - i:=by
 unfold textOf
 simp; omega
/-- The program's lexer: the tokens, or a fault where the first one is. -/
theorem p18_eq {p:List Int} (hp:Bytes p) (hl:p.length≤1000000):∃ r,p18 p=some r∧∃ L e a,LexR p 0 [] (L,e,a)∧
  ((e=0∧r.2=⟨0,0,0,0⟩∧r.1.map tokL=L)∨(e≠0∧∃ i:Nat,i≤p.length∧a=(i:Int)∧r=([],⟨e,(i:Int),1+(cntN p i:Int),(i:Int) - lastN p i⟩))):=by
 have key:∃ r,loopC (p18_l0 p) ((0:Int),[])=some r∧∃ L e a,LexR p 0 [] (L,e,a)∧
   ((e=0∧r.2=(0,0,0,0)∧r.1.map tokL=L)∨(e≠0∧∃ i:Nat,i≤p.length∧a=(i:Int)∧r=([],e,(i:Int),1+(cntN p i:Int),(i:Int) - lastN p i))):=by
  have round:∀ (i:Nat) (l:List TTokenlex),i≤p.length→l.length≤i→(∀ r,LexR p i (l.map tokL) r→LexR p 0 [] r)→
    (∃ (j:Nat) (l':List TTokenlex),p18_l0 p ((i:Int),l)=some (.inl ((j:Int),l'))∧i < j∧j≤p.length∧l'.length≤j∧∀ r,LexR p j (l'.map tokL) r→LexR p 0 [] r)∨
    ∃ r,p18_l0 p ((i:Int),l)=some (.inr r)∧∃ L e a,LexR p 0 [] (L,e,a)∧
     ((e=0∧r.2=(0,0,0,0)∧r.1.map tokL=L)∨(e≠0∧∃ i:Nat,i≤p.length∧a=(i:Int)∧r=([],e,(i:Int),1+(cntN p i:Int),(i:Int) - lastN p i))):=by
   intro i l hi hll hr
   obtain ⟨j,h1,h2,h3,h4,h5⟩:=p31_eq hp hl hi
   unfold p18_l0
   simp only
   rw [h1]
   simp only [Option.bind_some]
   by_cases hj:j=p.length
   ·subst hj
    rw [if_pos rfl,app_ok (by simp; omega)]
    refine .inr ⟨_,rfl,_,0,0,hr _ (h4 _ _ (.done rfl)),.inl ⟨rfl,rfl,?_⟩⟩
    simp [tokL]
   ·have hj':j < p.length:=by omega
    obtain ⟨g1,g2⟩:=h5 hj'
    have hst:=stepS_one hj' g1 g2
    rw [if_neg (by omega),p32_eq hp hl hj']
    cases ho:oneS p j with
    | inr e=>
     rw [ho] at hst
     simp only [Option.bind_some]
     have he:=oneS_err ho
     rw [if_pos (by simp; omega),p22_eq hp hl e (Nat.le_of_lt hj')]
     exact .inr ⟨_,rfl,[],e,_,hr _ (h4 _ _ (.err hj' hst)),.inr ⟨by omega,j,Nat.le_of_lt hj',rfl,rfl⟩⟩
    | inl q=>
     obtain ⟨k,e,n⟩:=q
     rw [ho] at hst
     obtain ⟨g3,g4⟩:=oneS_gt hj' ho
     simp only [Option.bind_some]
     rw [if_neg (by simp),app_ok (by simp; omega)]
     simp only [Option.bind_some]
     have hlen:=text_len (p:=p) (Nat.le_of_lt g3) g4
     refine .inl ⟨e,l++[⟨k,textOf p j e,n,(j:Int)⟩],?_,by omega,g4,by simp; omega,fun r h=>hr _ (h4 _ _ (.go hj' hst ?_))⟩
     ·rw [hlen,wrap64 (by omega) (by omega),show (j:Int)+((e - j:Nat):Int)=(e:Int) by omega]
     ·simpa [tokL] using h
  refine loop_cnt p.length (fun k st=>∃ (i:Nat) (l:List TTokenlex),st=((i:Int),l)∧k≤i∧i≤p.length∧l.length≤i∧∀ r,LexR p i (l.map tokL) r→LexR p 0 [] r) _ ?_ ?_ ⟨0,[],rfl,Nat.le_refl _,Nat.zero_le _,Nat.le_refl _,fun _ h=>h⟩
  ·rintro k _ hk ⟨i,l,rfl,h1,h2,h3,h4⟩
   rcases round i l h2 h3 h4 with ⟨j,l',g1,g2,g3,g4,g5⟩ | h
   ·exact .inl ⟨_,g1,j,l',rfl,by omega,g3,g4,g5⟩
   ·exact .inr h
  ·rintro _ ⟨i,l,rfl,h1,h2,h3,h4⟩
   rcases round i l h2 h3 h4 with ⟨j,l',g1,g2,g3,g4,g5⟩ | h
   ·omega
   ·exact h
 obtain ⟨r,h1,L,e,a,h2,h3⟩:=key
 unfold p18
 rw [h1]
 obtain ⟨y,c1,c2,c3,c4⟩:=r
 refine ⟨_,rfl,L,e,a,h2,?_⟩
 rcases h3 with ⟨g1,g2,g3⟩ | ⟨g1,i,g2,g3,g4⟩
 ·simp only [Prod.mk.injEq] at g2
  obtain ⟨rfl,rfl,rfl,rfl⟩:=g2
  exact .inl ⟨g1,rfl,g3⟩
 ·simp only [Prod.mk.injEq] at g4
  obtain ⟨rfl,rfl,rfl,rfl,rfl⟩:=g4
  exact .inr ⟨g1,i,g2,g3,rfl⟩
end Go.Proofs.Ytloaoofdbilpeaa
/- The document's tokens, plainly. Own work. -/
namespace Go.Proofs.Ytloaoofdbilpeaa
open Go Go.Am
set_option linter.unusedVariables false
set_option linter.unusedSimpArgs false
def sg8:List Int:=[59,58,44,42,33,126,64,61]
def nextR (a b:Int) (c l:List TToken) (i:Nat):(Nat×List TToken)⊕Int→Option ((Int×Int×Int×List TToken×List TToken)⊕((Int×Int)⊕List TToken))
 | .inl (j,t)=>some (.inl (a,b,(j:Int),c,l++t))
 | .inr e=>some (.inr (.inl (e,(i:Int))))
def unTok (t:Tok):TToken:=⟨t.k,t.s,t.n,t.at_⟩
end Go.Proofs.Ytloaoofdbilpeaa
/- LexNames, plainly. Own work. -/
namespace Go.Proofs.Ytloaoofdbilpeaa
open Go Go.Am
set_option linter.unusedVariables false
set_option linter.unusedSimpArgs false
/-- A byte that may stand there in a name. -/
def okAt (p:List Int) (i:Nat):Bool:=if i=0 then isSm (p.getD i 0) else isWd (p.getD i 0)
theorem rune_of {s:List UInt8} {i:Nat} (hi:i < s.length):((s[i].toNat < 128∧runeAt s i=(s[i].toNat:Int)∧nextAt s i=i+1)∨(128≤s[i].toNat∧128≤runeAt s i)):=by
 have hsz:i < (⟨s.toArray⟩:ByteArray).size:=by simpa [ByteArray.size] using hi
 have hg:(⟨s.toArray⟩:ByteArray)[i]'hsz=s[i]:=by
  show s.toArray[i]=s[i]
  simp
 unfold runeAt nextAt
 rcases Nat.lt_or_ge s[i].toNat 128 with h | h
 ·have:=decode_ascii ⟨s.toArray⟩ i hsz (by rw [hg]; exact h)
  rw [this,hg]
  exact .inl ⟨h,rfl,rfl⟩
 ·have:=decode_high ⟨s.toArray⟩ i hsz (by rw [hg]; exact h)
  exact .inr ⟨h,by omega⟩
theorem strI_get {s:List UInt8} {i:Nat} (hi:i < s.length):(strI s).getD i 0=(s[i].toNat:Int):=by
 unfold strI
 rw [List.getD_eq_getElem?_getD,List.getElem?_map,List.getElem?_eq_getElem hi]; rfl
/-- A name by the program. -/
theorem p23_eq {s:List UInt8} (hl:s.length≤1000000):p23 s=some (decide ((∀ i,i < s.length→okAt (strI s) i=true)∧s≠[]∧s.length≤12)):=by
 have key:∃ r,loopC (p23_l0 s) 0=some r∧((r=.inr ()∧∀ i,i < s.length→okAt (strI s) i=true)∨(r=.inl ()∧∃ i,i < s.length∧okAt (strI s) i=false)):=by
  refine loop_cnt s.length (fun k (st:Nat)=>st=k∧∀ i,i < k→okAt (strI s) i=true) _ ?_ ?_ ⟨rfl,fun i hi=>by omega⟩
  ·rintro m k hk ⟨rfl,h⟩
   have hgd:=strI_get hk
   have fin:∀ b:Bool,b = !okAt (strI s) k→nextAt s k=k+1→(∃ s',p23_j0 s k b=some (.inl s')∧s'=k+1∧∀ i,i < k+1→okAt (strI s) i=true)∨∃ r,p23_j0 s k b=some (.inr r)∧((r=.inr ()∧∀ i,i < s.length→okAt (strI s) i=true)∨(r=.inl ()∧∃ i,i < s.length∧okAt (strI s) i=false)):=by
    rintro b rfl hn
    unfold p23_j0
    cases ho:okAt (strI s) k with
    | true=>
     rw [if_neg (by simp),hn]
     refine .inl ⟨_,rfl,rfl,fun i hi=>?_⟩
     rcases Nat.lt_or_ge i k with hh | hh
     ·exact h i hh
     ·obtain rfl:i=k:=by omega
      exact ho
    | false=>
     rw [if_pos (by simp)]
     exact .inr ⟨_,rfl,.inr ⟨rfl,k,hk,ho⟩⟩
   unfold p23_l0
   rw [if_pos hk]
   rcases rune_of hk with ⟨g1,g2,g3⟩ | ⟨g1,g2⟩
   ·rw [g2]
    have hb:0≤(s[k].toNat:Int)∧(s[k].toNat:Int)≤255:=by omega
    rw [IntWalk.u8_in _ hb]
    simp only [p37_eq,p38_eq,Option.bind_some]
    by_cases hz:(122:Int) < (s[k].toNat:Int)
    ·rw [if_pos hz]
     refine fin _ ?_ g3
     unfold okAt
     rw [hgd]
     split<;>simp [isWd,isSm,isDg]<;>omega
    ·rw [if_neg hz]
     cases hs:isSm (s[k].toNat:Int) with
     | true=>
      rw [if_neg (by simp)]
      unfold p23_j1
      refine fin _ ?_ g3
      unfold okAt
      rw [hgd]
      split<;>simp [isWd,hs]
     | false=>
      rw [if_pos (by simp)]
      unfold p23_j3 p23_j2 p23_j1
      by_cases h0:k=0
      ·subst h0
       rw [if_pos (by simp)]
       refine fin _ ?_ g3
       unfold okAt
       rw [hgd,if_pos rfl,hs]; rfl
      ·rw [if_neg (by omega)]
       cases hd:isDg (s[k].toNat:Int) with
       | true=>
        rw [if_neg (by simp)]
        refine fin _ ?_ g3
        unfold okAt
        rw [hgd,if_neg h0]
        simp [isWd,hd]
       | false=>
        rw [if_pos (by simp)]
        refine fin _ ?_ g3
        unfold okAt
        rw [hgd,if_neg h0]
        simp [isWd,hd,hs]
   ·rw [if_pos (by omega)]
    have ho:okAt (strI s) k=false:=by
     unfold okAt
     rw [hgd]
     split<;>simp [isWd,isSm,isDg]<;>omega
    unfold p23_j0
    rw [if_pos rfl]
    exact .inr ⟨_,rfl,.inr ⟨rfl,k,hk,ho⟩⟩
  ·rintro _ ⟨rfl,h⟩
   unfold p23_l0
   rw [if_neg (by omega)]
   exact ⟨_,rfl,.inl ⟨rfl,h⟩⟩
 obtain ⟨r,h1,h2⟩:=key
 unfold p23
 rw [h1]
 simp only [Option.bind_some]
 rcases h2 with ⟨rfl,h⟩ | ⟨rfl,i,hi,h⟩
 ·simp only
  unfold p23_j4
  by_cases hn:s=[]
  ·rw [if_neg (by simp [hn])]
   simp [hn]
  ·rw [if_pos (by simpa using hn)]
   congr 1
   rw [decide_eq_decide]
   exact ⟨fun h'=>⟨h,hn,by omega⟩,fun h'=>by omega⟩
 ·simp only
  congr 1
  symm
  rw [decide_eq_false_iff_not]
  rintro ⟨h',_⟩
  rw [h' i hi] at h
  cases h
theorem one_word {p:List Int} {e:Nat} {n:Int} {a:Nat} (ha:a < p.length) (h:oneS p a=.inl (1,e,n)):isSm p[a]=true∧e=run isWd p (a+1):=by
 unfold oneS at h
 simp only [getD_of ha] at h
 split at h
 ·rename_i hs; cases h; exact ⟨hs,rfl⟩
 ·split at h
  ·split at h<;>cases h
  ·split at h
   ·cases h
   ·split at h<;>cases h
end Go.Proofs.Ytloaoofdbilpeaa
/- What a net's text says, by tokens: the document's parser as plain functions; and which tokens there are. Own work. -/
namespace Go.Proofs.Ytloaoofdbilpeaa
open Go Go.Am
set_option linter.unusedVariables false
set_option linter.unusedSimpArgs false
/-- Where a parser stands: tokens, the net as far as it is read, names that were told. -/
structure PS where
 l:List Tok
 n:TNet
 told:List (List UInt8)
abbrev Res (α:Type):=(α×PS)⊕(Int×Int)
def hd (l:List Tok):Tok:=l.headD ⟨0,[],0,0⟩
def nx {α:Type}:List α→List α
 | _::b::r=>b::r
 | l=>l
def stp (s:PS):PS:=⟨nx s.l,s.n,s.told⟩
def isS (s:PS) (x:List UInt8):Bool:=decide ((hd s.l).k=3)&&((hd s.l).s==x)
def er {α:Type} (s:PS) (e:Int):Res α:=.inr (e,(hd s.l).at_)
def bnd {α β:Type} (r:Res α) (f:α→PS→Res β):Res β:=match r with
 | .inl (a,s)=>f a s
 | .inr e=>.inr e
def want (x:List UInt8) (s:PS):Res Unit:=if isS s x=true then .inl ((),stp s) else er s 6
def numS (least:Int) (s:PS):Res Int:=
 if (hd s.l).k=2 then (if (hd s.l).n < least∨1000000 < (hd s.l).n then er s 3 else .inl ((hd s.l).n,stp s)) else er s 6
def nameS (s:PS):Res (List UInt8):=
 if (hd s.l).k=1 then (if (hd s.l).s.length≤12∧(hd s.l).s∉s.told then .inl ((hd s.l).s,⟨nx s.l,s.n,s.told++[(hd s.l).s]⟩) else er s 7) else er s 6
def optS (x:List UInt8) (s:PS):Res Int:=if isS s x=true then numS 0 (stp s) else .inl (0,s)
/-- The number of a name. -/
def plc:List (List UInt8)→List UInt8→Option Nat
 | [],_=>none
 | y::r,x=>if y=x then some 0 else (plc r x).map (·+1)
def arcS (ps:List (List UInt8)) (l:List TArc) (s:PS):Res (List TArc):=
 if (hd s.l).k=1 then match plc ps (hd s.l).s with
  | none=>er s 7
  | some k=>if l.any (fun a=>decide (a.Place=(k:Int)))=true then er s 7
   else if l.length=8 then er s 5
   else if isS (stp s) [42]=true then bnd (numS 1 (stp (stp s))) fun n s=>.inl (l++[⟨(k:Int),n⟩],s)
   else .inl (l++[⟨(k:Int),1⟩],stp s)
 else er s 6
def sepS (first:Bool) (s:PS):Res Unit:=if first=true then .inl ((),s) else want [44] s
def inS (ps:List (List UInt8)):Nat→Bool→List TArc→List TArc→PS→Res (List TArc×List TArc)
 | 0,_,_,_,s=>er s 0
 | k+1,first,ins,nots,s=>if isS s [45,62]=true then .inl ((ins,nots),stp s) else
  bnd (sepS first s) fun _ s=>
   if isS s [126]=true then bnd (arcS ps nots (stp s)) fun nots s=>inS ps k false ins nots s
   else bnd (arcS ps ins s) fun ins s=>inS ps k false ins nots s
def outS (ps:List (List UInt8)):Nat→Bool→List TArc→PS→Res (List TArc)
 | 0,_,_,s=>er s 0
 | k+1,first,outs,s=>if isS s [59]=true then .inl (outs,s) else
  bnd (sepS first s) fun _ s=>bnd (arcS ps outs s) fun outs s=>outS ps k false outs s
def transS (ps:List (List UInt8)) (s:PS):Res Unit:=
 bnd (nameS s) fun nm s=>bnd (optS [64] s) fun d s=>bnd (optS [33] s) fun pr s=>bnd (want [58] s) fun _ s=>
 bnd (inS ps s.l.length true [] [] s) fun io s=>bnd (outS ps s.l.length true [] s) fun o s=>.inl ((),⟨s.l,⟨s.n.Places,s.n.Trans++[⟨nm,d,pr,io.1,io.2,o⟩]⟩,s.told⟩)
def placeS (s:PS):Res Unit:=
 bnd (nameS s) fun nm s=>bnd (optS [61] s) fun t s=>.inl ((),⟨s.l,⟨s.n.Places++[⟨nm,t⟩],s.n.Trans⟩,s.told⟩)
def kw (t:Tok) (x:List UInt8):Bool:=decide (t.k=1)&&(t.s==x)
def bodyS (ps:List (List UInt8)) (s:PS):Res Unit:=
 if kw (hd s.l) [112,108,97,99,101]=true then (if s.n.Places.length=32 then er (stp s) 5 else placeS (stp s))
 else if kw (hd s.l) [116,114,97,110,115]=true then (if s.n.Trans.length=32 then er (stp s) 5 else transS ps (stp s))
 else er s 6
def itemS (ps:List (List UInt8)) (s:PS):Res Unit:=bnd (bodyS ps s) fun _ s=>want [59] s
def allS (ps:List (List UInt8)):Nat→PS→TNet⊕(Int×Int)
 | 0,_=>.inr (0,0)
 | k+1,s=>if (hd s.l).k=0 then .inl s.n else match itemS ps s with
  | .inl (_,s)=>allS ps k s
  | .inr e=>.inr e
def placesOf:List Tok→List (List UInt8)→List (List UInt8)
 | a::b::r,acc=>placesOf (b::r) (if kw a [112,108,97,99,101]=true∧b.k=1∧b.s∉acc then acc++[b.s] else acc)
 | _,acc=>acc
def parseS (L:List Tok):TNet⊕(Int×Int):=allS (placesOf L []) L.length ⟨L,⟨[],[]⟩,[]⟩
/-! ### tokens -/
/-- A token of a text: its place is one; a word is one. -/
def TokOk (p:List Int) (t:Tok):Prop:=(∃ i:Nat,i≤p.length∧t.at_=(i:Int))∧(t.k=1→(∀ i,i < t.s.length→okAt (strI t.s) i=true)∧t.s≠[])∧t.s.length≤1000000
/-- Tokens of a text: the last one is the end. -/
structure WF (p:List Int) (l:List Tok):Prop where
 ne:l≠[]
 last:∀ t,l.getLast? = some t→t.k=0
 ok:∀ t,t∈l→TokOk p t
theorem nx_map {α β:Type} (f:α→β):∀ l:List α,(nx l).map f=nx (l.map f)
 | []=>rfl
 | [_]=>rfl
 | _::_::_=>rfl
theorem nx_mem {α:Type}:∀ {l:List α} {x:α},x∈nx l→x∈l
 | [],x,h=>h
 | [_],x,h=>h
 | _::_::_,x,h=>List.mem_cons_of_mem _ h
theorem WF.nx {p:List Int}:∀ {l:List Tok},WF p l→WF p (nx l)
 | [],h=>h
 | [_],h=>h
 | a::b::r,h=>⟨by simp [Proofs.Ytloaoofdbilpeaa.nx],fun t ht=>h.last t (by simpa [Proofs.Ytloaoofdbilpeaa.nx] using ht),fun t ht=>h.ok t (nx_mem ht)⟩
theorem WF.hd_ok {p:List Int} {l:List Tok} (h:WF p l):TokOk p (hd l):=by
 cases l with
 | nil=>exact absurd rfl h.ne
 | cons a r=>exact h.ok a (List.mem_cons_self ..)
/-- Behind a token that isn't the end there are fewer. -/
theorem WF.shorter {p:List Int} {l:List Tok} (h:WF p l) (hk:(hd l).k≠0):(Proofs.Ytloaoofdbilpeaa.nx l).length < l.length:=by
 cases l with
 | nil=>exact absurd rfl h.ne
 | cons a r=>
  cases r with
  | nil=>exact absurd (h.last a rfl) hk
  | cons b r=>simp [Proofs.Ytloaoofdbilpeaa.nx]
theorem lexR_last {p:List Int} {i:Nat} {l:List Tok} {r:List Tok×Int×Int} (h:LexR p i l r):r.2.1=0→∃ q,r.1=q++[⟨0,[],0,(p.length:Int)⟩]:=by
 induction h with
 | done e=>intro _; exact ⟨_,rfl⟩
 | go _ _ _ ih=>exact ih
 | err h1 h2=>
  intro h3
  have:=stepS_err h2
  simp only at h3
  omega
theorem lexR_all {p:List Int} {Q:Tok→Prop} (hend:Q ⟨0,[],0,(p.length:Int)⟩) (hst:∀ i k e n,i < p.length→oneS p i=.inl (k,e,n)→Q ⟨k,textOf p i e,n,(i:Int)⟩) {i:Nat} {l:List Tok} {r:List Tok×Int×Int} (h:LexR p i l r):(∀ t,t∈l→Q t)→∀ t,t∈r.1→Q t:=by
 induction h with
 | done e=>
  intro h t ht
  rcases List.mem_append.1 ht with ht | ht
  ·exact h t ht
  ·rw [List.mem_singleton] at ht; subst ht; exact hend
 | err h1 h2=>intro _ t ht; cases ht
 | @go i j l ts r h1 h2 _ ih=>
  intro h
  refine ih fun t ht=>?_
  rcases List.mem_append.1 ht with ht | ht
  ·exact h t ht
  ·unfold stepS at h2
   simp only at h2
   split at h2
   ·cases h2; cases ht
   ·split at h2
    ·cases h2; cases ht
    ·split at h2
     ·rename_i ho
      cases h2
      rw [List.mem_singleton] at ht
      subst ht
      exact hst _ _ _ _ h1 ho
     ·cases h2
theorem lexR_count {p:List Int} {i:Nat} {l:List Tok} {r:List Tok×Int×Int} (h:LexR p i l r):i≤p.length→l.length≤i→r.1.length≤p.length+1:=by
 induction h with
 | done e=>intro h1 h2; simp; omega
 | err h1 h2=>intro _ _; simp
 | @go i j l ts r h1 h2 _ ih=>
  intro h3 h4
  obtain ⟨g1,g2,g3⟩:=stepS_gt h1 h2
  exact ih g2 (by simp; omega)
theorem text_get {p:List Int} {i j:Nat} (hj:j≤p.length) {k:Nat} (hk:i+k < j):(strI (textOf p i j))[k]? = some ((u8 (p.getD (i+k) 0)).toNat:Int):=by
 unfold strI textOf
 rw [List.map_map,List.getElem?_map,List.getElem?_drop,List.getElem?_take_of_lt hk,List.getElem?_eq_getElem (by omega),getD_of (by omega)]
 rfl
theorem run_wd {p:List Int}:∀ (d:Nat) {i:Nat},d=run isWd p i - i→∀ j,i≤j→j < run isWd p i→isWd (p.getD j 0)=true:=by
 intro d
 induction d with
 | zero=>intro i hd j h1 h2; have:=run_ge isWd p i; omega
 | succ d ih=>
  intro i hd j h1 h2
  have hi:i < p.length:=by
   rcases Nat.lt_or_ge i p.length with h | h
   ·exact h
   ·rw [run_end h] at h2; omega
  have hst:=run_step (P:=isWd) hi
  by_cases hw:isWd p[i]=true
  ·rw [if_pos hw] at hst
   rcases Nat.lt_or_ge i j with h | h
   ·exact ih (i:=i+1) (by rw [← hst]; omega) j h (by rw [← hst]; exact h2)
   ·obtain rfl:i=j:=by omega
    rw [getD_of hi]; exact hw
  ·rw [if_neg hw] at hst; omega
theorem word_ok {p:List Int} (hp:Bytes p) (hl:p.length≤1000000) {a e:Nat} {n:Int} (ha:a < p.length) (h:oneS p a=.inl (1,e,n)):(∀ i,i < (textOf p a e).length→okAt (strI (textOf p a e)) i=true)∧textOf p a e≠[]:=by
 obtain ⟨h1,h2⟩:=one_word ha h
 have hgt:=oneS_gt ha h
 have hlen:=text_len (p:=p) (Nat.le_of_lt hgt.1) hgt.2
 refine ⟨fun i hi=>?_,fun h0=>by rw [h0] at hlen; simp at hlen; omega⟩
 have hg:=text_get (p:=p) (i:=a) hgt.2 (k:=i) (by omega)
 have hb:0≤p.getD (a+i) 0∧p.getD (a+i) 0≤255:=by rw [getD_of (by omega)]; exact hp.get _
 have hg':(strI (textOf p a e)).getD i 0=p.getD (a+i) 0:=by
  rw [List.getD_eq_getElem?_getD,hg,Option.getD_some,u8_nat hb]
 unfold okAt
 rw [hg']
 by_cases h0:i=0
 ·subst h0
  rw [if_pos rfl,Nat.add_zero,getD_of ha]; exact h1
 ·rw [if_neg h0]
  exact run_wd _ (i:=a+1) rfl (a+i) (by omega) (by rw [← h2]; omega)
/-- The tokens of a text are well formed. -/
theorem lex_wf {p:List Int} (hp:Bytes p) (hl:p.length≤1000000) {L:List Tok} {a:Int} (h:LexR p 0 [] (L,0,a)):WF p L:=by
 obtain ⟨q,hq⟩:=lexR_last h rfl
 simp only at hq
 refine ⟨by rw [hq]; simp,fun t ht=>by rw [hq,List.getLast?_concat] at ht; cases ht; rfl,fun t ht=>lexR_all (Q:=TokOk p) ⟨⟨_,Nat.le_refl _,rfl⟩,(fun h=>by simp at h),by simp⟩ (fun i k e n hi ho=>?_) h (fun t ht=>by cases ht) t ht⟩
 have hgt:=oneS_gt hi ho
 refine ⟨⟨i,by omega,rfl⟩,fun hk=>?_,?_⟩
 ·simp only at hk
  subst hk
  exact word_ok hp hl hi ho
 ·simp only [text_len (Nat.le_of_lt hgt.1) hgt.2]; omega
end Go.Proofs.Ytloaoofdbilpeaa
/- The program's parser does what the document's says: function by function. Own work. -/
namespace Go.Proofs.Ytloaoofdbilpeaa
open Go Go.Am
set_option linter.unusedVariables false
set_option linter.unusedSimpArgs false
abbrev Z4:TFault:=⟨0,0,0,0⟩
def FF (p:List Int) (e a:Int):TFault:=⟨e,a,1+(cntN p a.toNat:Int),a - lastN p a.toNat⟩
/-- The parser's state, awake. -/
structure AOk (p:List Int) (ps:List (List UInt8)) (a:Tparser) (s:PS):Prop where
 pp:a.p=p
 l:a.l.map tokL=s.l
 f:a.f=Z4
 n:a.n=s.n
 pl:∀ x,mget keS a.places x=(plc ps x).map (fun k:Nat=>(k:Int))
 td:∀ x,(mget keS a.told x).getD false=decide (x∈s.told)
 wf:WF p s.l
/-- The parser's state behind a fault. -/
structure ADead (p:List Int) (e at_:Int) (k:Nat) (a:Tparser):Prop where
 pp:a.p=p
 l:a.l≠[]
 f:a.f=FF p e at_
 e:e≠0
 n:a.n.Places.length≤k∧a.n.Trans.length≤k
 tl:∀ t,t∈a.l→t.Text.length≤1000000
 xa:∃ i:Nat,i≤p.length∧at_=(i:Int)
/-- What stays, asleep. -/
structure Sm (a a':Tparser):Prop where
 pp:a'.p=a.p
 l:a'.l=a.l
 f:a'.f=a.f
 n:a'.n=a.n
theorem Sm.rfl' (a:Tparser):Sm a a:=⟨rfl,rfl,rfl,rfl⟩
theorem ADead.sm {p:List Int} {e at_:Int} {k:Nat} {a a':Tparser} (h:ADead p e at_ k a) (s:Sm a a'):ADead p e at_ k a':=⟨by rw [s.pp]; exact h.pp,by rw [s.l]; exact h.l,by rw [s.f]; exact h.f,h.e,by rw [s.n]; exact h.n,by rw [s.l]; exact h.tl,h.xa⟩
theorem Sm.trans {a b c:Tparser} (x:Sm a b) (y:Sm b c):Sm a c:=⟨by rw [y.pp,x.pp],by rw [y.l,x.l],by rw [y.f,x.f],by rw [y.n,x.n]⟩
def Asleep (a:Tparser):Prop:=a.f.Err≠0∧a.l≠[]∧∀ t,t∈a.l→t.Text.length≤1000000
theorem Asleep.sm {a a':Tparser} (h:Asleep a) (s:Sm a a'):Asleep a':=⟨by rw [s.f]; exact h.1,by rw [s.l]; exact h.2.1,by rw [s.l]; exact h.2.2⟩
theorem ADead.asleep {p:List Int} {e at_:Int} {k:Nat} {a:Tparser} (h:ADead p e at_ k a):Asleep a:=⟨by rw [h.f]; exact h.e,h.l,h.tl⟩
/-- What a function with a value answers. -/
def SimA {α:Type} (p:List Int) (ps:List (List UInt8)) (k:Nat) (r:Option (α×Option Tparser)):Res α→Prop
 | .inl (v,s')=>∃ a',r=some (v,some a')∧AOk p ps a' s'
 | .inr (e,x)=>∃ v a',r=some (v,some a')∧ADead p e x k a'
def SimU (p:List Int) (ps:List (List UInt8)) (k:Nat) (r:Option (Option Tparser)):Res Unit→Prop
 | .inl (_,s')=>∃ a',r=some (some a')∧AOk p ps a' s'
 | .inr (e,x)=>∃ a',r=some (some a')∧ADead p e x k a'
theorem idx0 {α:Type} (t:α) (ts:List α):idx (t::ts) (0:Int)=some t:=rfl
theorem slc1 {α:Type} (t:α) (ts:List α):slc (t::ts) (1:Int) (((t::ts).length:Nat):Int)=some ts:=by
 have:=slc_ok (l:=t::ts) (i:=1) (j:=(t::ts).length) (by simp) (Nat.le_refl _)
 simpa using this
theorem AOk.open {p:List Int} {ps:List (List UInt8)} {a:Tparser} {s:PS} (h:AOk p ps a s):∃ t ts,a=⟨p,t::ts,Z4,s.n,a.places,a.told⟩∧s.l=tokL t::ts.map tokL:=by
 obtain ⟨ap,al,af,an,apl,atd⟩:=a
 obtain ⟨h1,h2,h3,h4,h5,h6,h7⟩:=h
 simp only at h1 h2 h3 h4 h5 h6
 subst h1 h3 h4
 cases al with
 | nil=>exact absurd h2.symm h7.ne
 | cons t ts=>exact ⟨t,ts,rfl,h2.symm⟩
theorem p53_a {p:List Int} {n:TNet} {pl:List (List UInt8×Int)} {td:List (List UInt8×Bool)} (t:TTokenlex) (ts:List TTokenlex):p53 (some ⟨p,t::ts,Z4,n,pl,td⟩)=some (t,some ⟨p,nx (t::ts),Z4,n,pl,td⟩):=by
 unfold p53
 simp only [Option.bind_some,idx0,if_pos]
 unfold p53_j1
 cases ts with
 | nil=>simp [p53_j0,nx]
 | cons b ts=>
  rw [slc1]
  simp [p53_j0,nx]
  omega
theorem p53_d {a:Tparser} (h:Asleep a):∃ t,a.l.head? = some t∧p53 (some a)=some (t,some a):=by
 obtain ⟨ap,al,af,an,apl,atd⟩:=a
 obtain ⟨h1,h2,_⟩:=h
 cases al with
 | nil=>exact absurd rfl h2
 | cons t ts=>
  refine ⟨t,rfl,?_⟩
  unfold p53
  simp only [Option.bind_some,idx0]
  rw [if_neg h1]
  rfl
theorem p54_d {a:Tparser} (h:Asleep a) (e:Int) (t:TTokenlex):p54 (some a) e t=some (some a):=by
 unfold p54
 simp only [Option.bind_some]
 rw [if_neg h.1]
theorem p54_a {p:List Int} (hp:Bytes p) (hl:p.length≤1000000) {n:TNet} {pl:List (List UInt8×Int)} {td:List (List UInt8×Bool)} {l:List TTokenlex} (e:Int) {t:TTokenlex} (ht:TokOk p (tokL t)) :
  p54 (some ⟨p,l,Z4,n,pl,td⟩) e t=some (some ⟨p,l,FF p e t.At,n,pl,td⟩):=by
 obtain ⟨⟨i,hi,ha⟩,_⟩:=ht
 have ha:t.At=(i:Int):=ha
 unfold p54
 simp only [Option.bind_some,if_pos]
 rw [ha,p22_eq hp hl e hi]
 simp [FF]
def isA (t:TTokenlex) (x:List UInt8):Bool:=decide (t.Kind=3)&&(t.Text==x)
theorem p56_a {p:List Int} {n:TNet} {pl:List (List UInt8×Int)} {td:List (List UInt8×Bool)} (t:TTokenlex) (ts:List TTokenlex) (x:List UInt8) :
  p56 (some ⟨p,t::ts,Z4,n,pl,td⟩) x=some (isA t x,some ⟨p,if isA t x=true then nx (t::ts) else t::ts,Z4,n,pl,td⟩):=by
 unfold p56
 simp only [Option.bind_some,idx0,decide_true,Bool.not_true,Bool.false_eq_true,if_false]
 unfold p56_j1 isA
 by_cases h1:t.Kind=3
 ·by_cases h2:(t.Text==x)=true
  ·simp only [h1,h2,decide_true,Bool.not_true,Bool.and_self,if_true,idx0,Option.bind_some,Bool.false_eq_true,if_false]
   unfold p56_j0
   rw [p53_a]
   rfl
  ·have h2:(t.Text==x)=false:=by simpa using h2
   simp only [h1,h2,decide_true,Bool.not_true,Bool.and_false,idx0,Option.bind_some,Bool.false_eq_true,if_false]
   rfl
 ·simp only [h1,decide_false,Bool.not_false,Bool.false_and,if_true,Bool.false_eq_true,if_false]
  rfl
theorem p56_d {a:Tparser} (h:Asleep a) (x:List UInt8):p56 (some a) x=some (false,some a):=by
 unfold p56
 simp only [Option.bind_some]
 rw [if_pos (by simpa using h.1)]
 rfl
theorem isS_a {t:TTokenlex} {ts:List Tok} {s:PS} (h:s.l=tokL t::ts) (x:List UInt8):isS s x=isA t x:=by
 unfold isS isA
 rw [h]; rfl
theorem stp_ok {p:List Int} {ps:List (List UInt8)} {t:TTokenlex} {ts:List TTokenlex} {s:PS} {pl:List (List UInt8×Int)} {td:List (List UInt8×Bool)} (h:AOk p ps ⟨p,t::ts,Z4,s.n,pl,td⟩ s) :
  AOk p ps ⟨p,nx (t::ts),Z4,s.n,pl,td⟩ (stp s):=by
 refine ⟨rfl,?_,rfl,rfl,h.pl,h.td,h.wf.nx⟩
 rw [nx_map]; exact congrArg nx h.l
/-- sign -/
theorem sign_a {p:List Int} {ps:List (List UInt8)} {a:Tparser} {s:PS} (h:AOk p ps a s) (x:List UInt8):∃ a',p56 (some a) x=some (isS s x,some a')∧AOk p ps a' (if isS s x=true then stp s else s):=by
 obtain ⟨t,ts,e1,e2⟩:=h.open
 rw [e1] at h ⊢
 rw [p56_a,isS_a e2]
 refine ⟨_,rfl,?_⟩
 split
 ·exact stp_ok h
 ·exact h
theorem hd_ok {p:List Int} {t:TTokenlex} {ts:List Tok} {s:PS} (e:s.l=tokL t::ts) (h:WF p s.l):TokOk p (tokL t):=by
 have:=h.hd_ok
 rw [e] at this
 exact this
theorem fail_a {p:List Int} (hp:Bytes p) (hl:p.length≤1000000) {ps:List (List UInt8)} {t:TTokenlex} {ts:List TTokenlex} {s:PS} {pl:List (List UInt8×Int)} {td:List (List UInt8×Bool)} (h:AOk p ps ⟨p,t::ts,Z4,s.n,pl,td⟩ s) (e2:s.l=tokL t::ts.map tokL) {e:Int} (he:e≠0) {k:Nat} (hk:s.n.Places.length≤k∧s.n.Trans.length≤k) :
  ∃ a',p54 (some ⟨p,t::ts,Z4,s.n,pl,td⟩) e t=some (some a')∧ADead p e (hd s.l).at_ k a':=by
 rw [p54_a hp hl e (hd_ok e2 h.wf)]
 refine ⟨_,rfl,rfl,by simp,?_,he,hk,fun u hu=>?_,h.wf.hd_ok.1⟩
 ·rw [e2]; rfl
 ·exact (h.wf.ok (tokL u) (by rw [e2]; exact List.mem_map_of_mem (f:=tokL) hu)).2.2
/-- want -/
theorem want_a {p:List Int} (hp:Bytes p) (hl:p.length≤1000000) {ps:List (List UInt8)} {a:Tparser} {s:PS} (h:AOk p ps a s) (x:List UInt8) {k:Nat} (hk:s.n.Places.length≤k∧s.n.Trans.length≤k):SimU p ps k (p59 (some a) x) (want x s):=by
 obtain ⟨a',h1,h2⟩:=sign_a h x
 unfold p59 want
 rw [h1]
 simp only [Option.bind_some]
 by_cases hs:isS s x=true
 ·rw [if_pos hs] at h2
  rw [if_neg (by rw [hs]; simp),if_pos hs]
  exact ⟨a',rfl,h2⟩
 ·rw [if_neg hs] at h2
  rw [if_pos (by simpa using hs),if_neg hs]
  obtain ⟨t,ts,e1,e2⟩:=h2.open
  rw [e1] at h2 ⊢
  simp only [Option.bind_some,idx0]
  obtain ⟨b,h3,h4⟩:=fail_a hp hl h2 e2 (e:=6) (by decide) hk
  rw [h3]
  exact ⟨b,rfl,h4⟩
theorem want_d {a:Tparser} (h:Asleep a) (x:List UInt8):p59 (some a) x=some (some a):=by
 obtain ⟨t,h1,h2⟩:=p53_d h
 unfold p59
 rw [p56_d h]
 simp only [Option.bind_some,Bool.not_false,if_true]
 obtain ⟨ap,al,af,an,apl,atd⟩:=a
 cases al with
 | nil=>exact absurd rfl h.2.1
 | cons t ts=>
  rw [idx0]
  simp only [Option.bind_some]
  rw [p54_d h]; rfl
/-- number -/
theorem num_a {p:List Int} (hp:Bytes p) (hl:p.length≤1000000) {ps:List (List UInt8)} {a:Tparser} {s:PS} (h:AOk p ps a s) (least:Int) {k:Nat} (hk:s.n.Places.length≤k∧s.n.Trans.length≤k):SimA p ps k (p57 (some a) least) (numS least s):=by
 obtain ⟨t,ts,e1,e2⟩:=h.open
 rw [e1] at h ⊢
 have eh:hd s.l=tokL t:=by rw [e2]; rfl
 unfold p57 numS
 rw [eh]
 simp only [Option.bind_some,idx0]
 by_cases h1:t.Kind=2
 ·rw [if_neg (by simpa using h1),if_pos (show (tokL t).k=2 from h1)]
  have hj:∀ b:Bool,(b=true↔(t.N < least∨1000000 < t.N))→SimA p ps k (p57_j0 ⟨p,t::ts,Z4,s.n,a.places,a.told⟩ t b) (if (tokL t).n < least∨1000000 < (tokL t).n then er s 3 else .inl ((tokL t).n,stp s)):=by
   intro b hb
   unfold p57_j0
   by_cases h2:t.N < least∨1000000 < t.N
   ·rw [if_pos (hb.2 h2),if_pos (show (tokL t).n < least∨1000000 < (tokL t).n from h2)]
    obtain ⟨b,h3,h4⟩:=fail_a hp hl h e2 (e:=3) (by decide) hk
    rw [h3]
    exact ⟨0,b,rfl,h4⟩
   ·rw [if_neg (fun hh=>h2 (hb.1 hh)),if_neg (show ¬ ((tokL t).n < least∨1000000 < (tokL t).n) from h2),p53_a]
    exact ⟨_,rfl,stp_ok h⟩
  split
  ·rename_i h2; exact hj true (by simp [h2])
  ·rename_i h2; exact hj _ (by simp [h2])
 ·rw [if_pos (by simpa using h1),if_neg (show ¬ (tokL t).k=2 from h1)]
  obtain ⟨b,h3,h4⟩:=fail_a hp hl h e2 (e:=6) (by decide) hk
  rw [h3]
  exact ⟨0,b,rfl,h4⟩
end Go.Proofs.Ytloaoofdbilpeaa
/- The program's parser: names, arcs, lists of arcs, transitions, places. Own work. -/
namespace Go.Proofs.Ytloaoofdbilpeaa
open Go Go.Am
set_option linter.unusedVariables false
set_option linter.unusedSimpArgs false
theorem nx_len {α:Type}:∀ l:List α,(nx l).length≤l.length
 | []=>Nat.le_refl _
 | [_]=>Nat.le_refl _
 | _::_::_=>Nat.le_succ _
theorem want_n {x:List UInt8} {s s':PS} {u:Unit} (h:want x s=.inl (u,s')):s'=stp s:=by
 unfold want er at h
 split at h<;>cases h; rfl
theorem numS_n {m v:Int} {s s':PS} (h:numS m s=.inl (v,s')):s'=stp s:=by
 unfold numS er at h
 split at h
 ·split at h<;>cases h; rfl
 ·cases h
theorem nameS_n {v:List UInt8} {s s':PS} (h:nameS s=.inl (v,s')):s'.n=s.n∧s'.l=nx s.l:=by
 unfold nameS er at h
 split at h
 ·split at h<;>cases h; exact ⟨rfl,rfl⟩
 ·cases h
theorem optS_n {x:List UInt8} {v:Int} {s s':PS} (h:optS x s=.inl (v,s')):s'.n=s.n∧s'.l.length≤s.l.length:=by
 unfold optS at h
 split at h
 ·have:=numS_n h
  subst this
  exact ⟨rfl,Nat.le_trans (nx_len _) (nx_len _)⟩
 ·cases h; exact ⟨rfl,Nat.le_refl _⟩
theorem sepS_n {b:Bool} {s s':PS} {u:Unit} (h:sepS b s=.inl (u,s')):s'.n=s.n∧s'.l.length≤s.l.length:=by
 unfold sepS at h
 split at h
 ·cases h; exact ⟨rfl,Nat.le_refl _⟩
 ·have:=want_n h
  subst this
  exact ⟨rfl,nx_len _⟩
theorem bnd_inl {α β:Type} {r:Res α} {f:α→PS→Res β} {v:β} {s':PS} (h:bnd r f=.inl (v,s')):∃ a s,r=.inl (a,s)∧f a s=.inl (v,s'):=by
 unfold bnd at h
 split at h
 ·exact ⟨_,_,rfl,h⟩
 ·cases h
theorem arcS_n {ps:List (List UInt8)} {l v:List TArc} {s s':PS} (h:arcS ps l s=.inl (v,s')):s'.n=s.n∧s'.l.length≤(nx s.l).length∧(hd s.l).k=1∧v.length=l.length+1∧l.length≠8:=by
 unfold arcS er at h
 split at h
 ·rename_i hk
  split at h
  ·cases h
  ·split at h
   ·cases h
   ·split at h
    ·cases h
    ·rename_i h8
     split at h
     ·obtain ⟨n,s1,h1,h2⟩:=bnd_inl h
      cases h2
      have:=numS_n h1
      subst this
      exact ⟨rfl,Nat.le_trans (nx_len _) (nx_len _),hk,by simp,h8⟩
     ·cases h
      exact ⟨rfl,Nat.le_refl _,hk,by simp,h8⟩
 ·cases h
/-- name -/
theorem name_a {p:List Int} (hp:Bytes p) (hl:p.length≤1000000) {ps:List (List UInt8)} {a:Tparser} {s:PS} (h:AOk p ps a s) {k:Nat} (hk:s.n.Places.length≤k∧s.n.Trans.length≤k):SimA p ps k (p55 (some a)) (nameS s):=by
 obtain ⟨t,ts,e1,e2⟩:=h.open
 rw [e1] at h ⊢
 have eh:hd s.l=tokL t:=by rw [e2]; rfl
 have hto:=hd_ok e2 h.wf
 unfold p55 nameS
 rw [eh]
 simp only [Option.bind_some,idx0]
 by_cases h1:t.Kind=1
 ·rw [if_neg (by simpa using h1),if_pos (show (tokL t).k=1 from h1)]
  obtain ⟨w1,w2⟩:(∀ i,i < t.Text.length→okAt (strI t.Text) i=true)∧t.Text≠[]:=hto.2.1 h1
  rw [p23_eq (s:=t.Text) hto.2.2]
  simp only [Option.bind_some]
  have hj:∀ b:Bool,(b=true↔¬ (t.Text.length≤12∧t.Text∉s.told))→SimA p ps k (p55_j0 ⟨p,t::ts,Z4,s.n,a.places,a.told⟩ t b) (if (tokL t).s.length≤12∧(tokL t).s∉s.told then .inl ((tokL t).s,⟨nx s.l,s.n,s.told++[(tokL t).s]⟩) else er s 7):=by
   intro b hb
   unfold p55_j0
   by_cases h2:t.Text.length≤12∧t.Text∉s.told
   ·rw [if_neg (fun hh=>(hb.1 hh) h2),if_pos (show (tokL t).s.length≤12∧(tokL t).s∉s.told from h2),p53_a]
    refine ⟨_,rfl,rfl,?_,rfl,rfl,h.pl,fun x=>?_,h.wf.nx⟩
    ·rw [nx_map]; exact congrArg nx h.l
    ·show (mget keS (mput keS a.told t.Text true) x).getD false=decide (x∈s.told++[t.Text])
     by_cases hx:x=t.Text
     ·subst hx
      rw [mget_put_same]; simp
     ·rw [mget_put_ne _ hx,h.td x]
      simp [hx]
   ·rw [if_pos (hb.2 h2),if_neg (show ¬ ((tokL t).s.length≤12∧(tokL t).s∉s.told) from h2)]
    obtain ⟨b,h3,h4⟩:=fail_a hp hl h e2 (e:=7) (by decide) hk
    rw [h3]
    exact ⟨[],b,rfl,h4⟩
  have htd:=h.td t.Text
  simp only at htd
  split
  ·rename_i h2
   refine hj true ⟨fun _ h3=>?_,fun _=>rfl⟩
   have:(!decide ((∀ i,i < t.Text.length→okAt (strI t.Text) i=true)∧t.Text≠[]∧t.Text.length≤12))=true:=h2
   rw [decide_eq_true (p:=_∧_∧_) ⟨w1,w2,h3.1⟩] at this
   cases this
  ·rename_i h2
   have h2:¬ (!decide ((∀ i,i < t.Text.length→okAt (strI t.Text) i=true)∧t.Text≠[]∧t.Text.length≤12))=true:=h2
   simp only [Bool.not_eq_true',decide_eq_false_iff_not,Classical.not_not] at h2
   refine hj _ ?_
   rw [htd]
   have:=h2.2.2
   simp [this]
 ·rw [if_pos (by simpa using h1),if_neg (show ¬ (tokL t).k=1 from h1)]
  obtain ⟨b,h3,h4⟩:=fail_a hp hl h e2 (e:=6) (by decide) hk
  rw [h3]
  exact ⟨[],b,rfl,h4⟩
theorem name_d {a:Tparser} (h:Asleep a):∃ v a',p55 (some a)=some (v,some a')∧Sm a a':=by
 obtain ⟨ap,al,af,an,apl,atd⟩:=a
 cases al with
 | nil=>exact absurd rfl h.2.1
 | cons t ts=>
  unfold p55
  simp only [Option.bind_some,idx0]
  have hj:∀ b:Bool,∃ v a',p55_j0 ⟨ap,t::ts,af,an,apl,atd⟩ t b=some (v,some a')∧Sm ⟨ap,t::ts,af,an,apl,atd⟩ a':=by
   intro b
   unfold p55_j0
   split
   ·rw [p54_d h]; exact ⟨_,_,rfl,Sm.rfl' _⟩
   ·have h':Asleep ⟨ap,t::ts,af,an,apl,mput keS atd t.Text true⟩:=h
    obtain ⟨u,h1,h2⟩:=p53_d h'
    rw [h2]; exact ⟨_,_,rfl,rfl,rfl,rfl,rfl⟩
  split
  ·rw [p54_d h]; exact ⟨_,_,rfl,Sm.rfl' _⟩
  ·rw [p23_eq (h.2.2 t (List.mem_cons_self ..))]
   simp only [Option.bind_some]
   split
   ·exact hj _
   ·exact hj _
/-- Is a place among a list's arcs? -/
theorem p76_loop {x1:List TArc} (hx:x1.length≤1000) (b:Tparser) (e:TTokenlex) (ok:Bool) :
  loopC (p76_l0 x1 b e) (ok,(0:Int))=some (ok&&!x1.any fun a=>decide (a.Place=(mget keS b.places e.Text).getD 0)):=by
 have key:∃ r,loopC (p76_l0 x1 b e) (ok,(0:Int))=some r∧r=(ok&&!x1.any fun a=>decide (a.Place=(mget keS b.places e.Text).getD 0)):=by
  refine loop_cnt x1.length (fun k st=>st=(ok&&!(x1.take k).any (fun a=>decide (a.Place=(mget keS b.places e.Text).getD 0)),(k:Int))) _ ?_ ?_ (by simp)
  ·rintro k _ hk rfl
   left
   refine ⟨_,?_,rfl⟩
   unfold p76_l0
   simp only
   rw [if_pos (by omega),idx_get hk]
   simp only [Option.bind_some,p76_j0]
   rw [wrap64 (by omega) (by omega)]
   rw [List.take_succ_eq_append_getElem hk,List.any_append]
   split
   ·rename_i h2
    simp only [List.any_cons,List.any_nil,Bool.or_false]
    cases hh:(List.any (List.take k x1) fun a=>decide (a.Place=(mget keS b.places e.Text).getD 0))<;>simp_all
   ·rename_i h2
    have h2:=Bool.eq_false_iff.2 h2
    generalize (List.any (List.take k x1) fun a=>decide (a.Place=(mget keS b.places e.Text).getD 0))=A at h2 ⊢
    cases ok<;>cases A<;>simp_all
  ·rintro _ rfl
   refine ⟨_,?_,rfl⟩
   unfold p76_l0
   simp only
   rw [if_neg (by omega)]
   simp
 obtain ⟨r,h1,h2⟩:=key
 rw [h1,h2]
/-- arc -/
theorem arc_end {p:List Int} (hp:Bytes p) (hl:p.length≤1000000) {ps:List (List UInt8)} {b:Tparser} {e:TTokenlex} {x1:List TArc} (hx:x1.length≤1000) {t:TTokenlex} {ts:List TTokenlex} {s:PS} {pl:List (List UInt8×Int)} {td:List (List UInt8×Bool)} (h:AOk p ps ⟨p,t::ts,Z4,s.n,pl,td⟩ s)
  {q:Nat} (hq:(mget keS b.places e.Text).getD 0=(q:Int)) {k:Nat} (hk:s.n.Places.length≤k∧s.n.Trans.length≤k) :
  SimA p ps k (p76_j2 x1 b e (some ⟨p,t::ts,Z4,s.n,pl,td⟩)) (if isS (stp s) [42]=true then bnd (numS 1 (stp (stp s))) fun n s=>.inl (x1++[⟨(q:Int),n⟩],s) else .inl (x1++[⟨(q:Int),1⟩],stp s)):=by
 have hs:=stp_ok h
 obtain ⟨a',g1,g2⟩:=sign_a hs [42]
 unfold p76_j2
 rw [p53_a]
 simp only [Option.bind_some]
 rw [g1]
 simp only [Option.bind_some]
 have hj:∀ (y:Int) (a:Tparser),p76_j1 x1 b e y (some a)=some (x1++[⟨(q:Int),y⟩],some a):=by
  intro y a
  unfold p76_j1
  rw [hq,app_ok (by simp; omega)]; rfl
 by_cases h1:isS (stp s) [42]=true
 ·rw [if_pos h1] at g2
  rw [if_pos h1,if_pos h1]
  have hn:=num_a hp hl g2 1 (k:=k) hk
  cases hr:numS 1 (stp (stp s)) with
  | inl v=>
   obtain ⟨v,s1⟩:=v
   rw [hr] at hn
   obtain ⟨a1,h2,h3⟩:=hn
   rw [h2]
   simp only [Option.bind_some,hj,bnd]
   exact ⟨a1,rfl,h3⟩
  | inr v=>
   obtain ⟨v,x⟩:=v
   rw [hr] at hn
   obtain ⟨w,a1,h2,h3⟩:=hn
   rw [h2]
   simp only [Option.bind_some,hj,bnd]
   exact ⟨_,a1,rfl,h3⟩
 ·rw [if_neg h1] at g2
  rw [if_neg h1,if_neg h1,hj]
  exact ⟨a',rfl,g2⟩
theorem arc_end_d {x1:List TArc} (hx:x1.length≤1000) {a:Tparser} (h:Asleep a) (b:Tparser) (e:TTokenlex):∃ v,p76_j2 x1 b e (some a)=some (v,some a):=by
 obtain ⟨t,_,h1⟩:=p53_d h
 unfold p76_j2
 rw [h1]
 simp only [Option.bind_some]
 rw [p56_d h]
 simp only [Option.bind_some,Bool.false_eq_true,if_false]
 unfold p76_j1
 rw [app_ok (by simp; omega)]
 exact ⟨_,rfl⟩
theorem arc_a {p:List Int} (hp:Bytes p) (hl:p.length≤1000000) {ps:List (List UInt8)} {a:Tparser} {s:PS} (h:AOk p ps a s) {x1:List TArc} (hx:x1.length≤1000) {k:Nat} (hk:s.n.Places.length≤k∧s.n.Trans.length≤k):SimA p ps k (p76 (some a) x1) (arcS ps x1 s):=by
 obtain ⟨t,ts,e1,e2⟩:=h.open
 rw [e1] at h ⊢
 have eh:hd s.l=tokL t:=by rw [e2]; rfl
 unfold p76 arcS
 rw [eh]
 simp only [Option.bind_some,idx0]
 by_cases h1:t.Kind=1
 ·rw [if_neg (by simpa using h1),if_pos (show (tokL t).k=1 from h1),p76_loop hx]
  simp only [Option.bind_some]
  have hpl:=h.pl t.Text
  simp only at hpl
  rw [hpl]
  have seven:∀ r:Res (List TArc),r=er s 7→SimA p ps k (Option.bind (p54 (some ⟨p,t::ts,Z4,s.n,a.places,a.told⟩) 7 t) fun u=>p76_j2 x1 ⟨p,t::ts,Z4,s.n,a.places,a.told⟩ t u) r:=by
   rintro _ rfl
   obtain ⟨b,h3,h4⟩:=fail_a hp hl h e2 (e:=7) (by decide) hk
   rw [h3]
   obtain ⟨v,h5⟩:=arc_end_d hx h4.asleep ⟨p,t::ts,Z4,s.n,a.places,a.told⟩ t
   simp only [Option.bind_some]
   exact ⟨v,b,h5,h4⟩
  cases hq:plc ps (tokL t).s with
  | none=>
   have hq:plc ps t.Text=none:=hq
   rw [hq]
   simp only [Option.map_none,Option.isSome_none,Bool.false_and,Bool.not_false,if_true]
   exact seven _ rfl
  | some q=>
   have hq:plc ps t.Text=some q:=hq
   rw [hq]
   simp only [Option.map_some,Option.isSome_some,Bool.true_and,Option.getD_some,Bool.not_not]
   by_cases h2:x1.any (fun a=>decide (a.Place=(q:Int)))=true
   ·rw [if_pos h2,if_pos h2]; exact seven _ rfl
   ·rw [if_neg h2,if_neg h2]
    by_cases h8:x1.length=8
    ·rw [if_pos (by omega),if_pos h8]
     obtain ⟨b,h3,h4⟩:=fail_a hp hl h e2 (e:=5) (by decide) hk
     rw [h3]
     obtain ⟨v,h5⟩:=arc_end_d hx h4.asleep ⟨p,t::ts,Z4,s.n,a.places,a.told⟩ t
     simp only [Option.bind_some]
     exact ⟨v,b,h5,h4⟩
    ·rw [if_neg (by omega),if_neg h8]
     exact arc_end hp hl hx h (q:=q) (by simp only; rw [hpl,hq]; rfl) hk
 ·rw [if_pos (by simpa using h1),if_neg (show ¬ (tokL t).k=1 from h1)]
  obtain ⟨b,h3,h4⟩:=fail_a hp hl h e2 (e:=6) (by decide) hk
  rw [h3]
  exact ⟨_,b,rfl,h4⟩
theorem arc_d {a:Tparser} (h:Asleep a) {x1:List TArc} (hx:x1.length≤1000):∃ v,p76 (some a) x1=some (v,some a):=by
 obtain ⟨ap,al,af,an,apl,atd⟩:=a
 cases al with
 | nil=>exact absurd rfl h.2.1
 | cons t ts=>
  unfold p76
  simp only [Option.bind_some,idx0]
  split
  ·rw [p54_d h]; exact ⟨_,rfl⟩
  ·rw [p76_loop hx]
   simp only [Option.bind_some]
   split
   ·rw [p54_d h]; exact arc_end_d hx h _ _
   ·split
    ·rw [p54_d h]; exact arc_end_d hx h _ _
    ·exact arc_end_d hx h _ _
end Go.Proofs.Ytloaoofdbilpeaa
/- The program's parser: lists of arcs, transitions, places, items. Own work. -/
namespace Go.Proofs.Ytloaoofdbilpeaa
open Go Go.Am
set_option linter.unusedVariables false
set_option linter.unusedSimpArgs false
theorem loopC_go {σ ρ:Type} {f:σ→Option (σ⊕ρ)} {s s':σ} {r:ρ} (h:f s=some (.inl s')) (k:loopC f s'=some r):loopC f s=some r:=by
 obtain ⟨n,hn⟩:=loopC_iff.1 k
 exact loopC_iff.2 ⟨n+1,by rw [iter]; simp only [h]; exact hn⟩
theorem loopC_end {σ ρ:Type} {f:σ→Option (σ⊕ρ)} {s:σ} {r:ρ} (h:f s=some (.inr r)):loopC f s=some r:=
 loopC_iff.2 ⟨1,by rw [iter]; simp only [h]⟩
theorem AOk.err {p:List Int} {ps:List (List UInt8)} {a:Tparser} {s:PS} (h:AOk p ps a s):a.f.Err=0:=by rw [h.f]
/-- The same state of tokens, sized. -/
def Sz (k:Nat) (s:PS):Prop:=s.n.Places.length≤k∧s.n.Trans.length≤k
/-- One more arc among two lists. -/
def one2 (ps:List (List UInt8)) (ins nots:List TArc) (s:PS):Res (List TArc×List TArc):=
 if isS s [126]=true then bnd (arcS ps nots (stp s)) fun nots s=>.inl ((ins,nots),s)
 else bnd (arcS ps ins s) fun ins s=>.inl ((ins,nots),s)
theorem inS_succ (ps:List (List UInt8)) (k:Nat) (first:Bool) (ins nots:List TArc) (s:PS):inS ps (k+1) first ins nots s=if isS s [45,62]=true then .inl ((ins,nots),stp s) else
  bnd (sepS first s) fun _ s=>bnd (one2 ps ins nots s) fun q s=>inS ps k false q.1 q.2 s:=by
 rw [inS]
 congr 1
 cases hs:sepS first s with
 | inr v=>rfl
 | inl v=>
  obtain ⟨u,s1⟩:=v
  simp only [bnd,one2]
  split
  ·cases arcS ps nots (stp s1)<;>rfl
  ·cases arcS ps ins s1<;>rfl
theorem in_j0 {p:List Int} (hp:Bytes p) (hl:p.length≤1000000) {ps:List (List UInt8)} {a:Tparser} {s:PS} (h:AOk p ps a s) {ins nots:List TArc} (hi:ins.length≤8) (hn:nots.length≤8) {k:Nat} (hk:Sz k s) :
  ∃ a' i o,p58_j0 ins nots (some a)=some (.inl (false,some a',i,o))∧match one2 ps ins nots s with
   | .inl (q,s')=>q=(i,o)∧AOk p ps a' s'∧s'.n=s.n∧s'.l.length < s.l.length∧i.length≤8∧o.length≤8
   | .inr (e,x)=>ADead p e x k a':=by
 obtain ⟨a1,h1,h2⟩:=sign_a h [126]
 unfold p58_j0 one2
 rw [h1]
 simp only [Option.bind_some]
 by_cases hs:isS s [126]=true
 ·rw [if_pos hs] at h2
  rw [if_pos hs,if_pos hs]
  have ha:=arc_a hp hl h2 (x1:=nots) (by omega) (k:=k) hk
  cases hr:arcS ps nots (stp s) with
  | inl v=>
   obtain ⟨v,s'⟩:=v
   rw [hr] at ha
   obtain ⟨a',g1,g2⟩:=ha
   obtain ⟨e1,e2,e3,e4,e5⟩:=arcS_n hr
   rw [g1]
   have hlt:=h2.wf.shorter (by rw [e3]; decide)
   have:=nx_len s.l
   refine ⟨a',ins,v,rfl,rfl,g2,e1,?_,hi,by omega⟩
   have:(stp s).l.length≤s.l.length:=nx_len _
   omega
  | inr v=>
   obtain ⟨e,x⟩:=v
   rw [hr] at ha
   obtain ⟨v,a',g1,g2⟩:=ha
   rw [g1]
   exact ⟨a',ins,v,rfl,g2⟩
 ·rw [if_neg hs] at h2
  rw [if_neg hs,if_neg hs]
  have ha:=arc_a hp hl h2 (x1:=ins) (by omega) (k:=k) hk
  cases hr:arcS ps ins s with
  | inl v=>
   obtain ⟨v,s'⟩:=v
   rw [hr] at ha
   obtain ⟨a',g1,g2⟩:=ha
   obtain ⟨e1,e2,e3,e4,e5⟩:=arcS_n hr
   rw [g1]
   have hlt:=h2.wf.shorter (by rw [e3]; decide)
   exact ⟨a',v,nots,rfl,rfl,g2,e1,by omega,by omega,hn⟩
  | inr v=>
   obtain ⟨e,x⟩:=v
   rw [hr] at ha
   obtain ⟨v,a',g1,g2⟩:=ha
   rw [g1]
   exact ⟨a',v,nots,rfl,g2⟩
theorem in_j0d {a:Tparser} (h:Asleep a) {ins nots:List TArc} (hi:ins.length≤8):∃ i,p58_j0 ins nots (some a)=some (.inl (false,some a,i,nots)):=by
 obtain ⟨v,h1⟩:=arc_d h (x1:=ins) (by omega)
 unfold p58_j0
 rw [p56_d h]
 simp only [Option.bind_some,Bool.false_eq_true,if_false]
 rw [h1]
 exact ⟨v,rfl⟩
theorem in_exit {a:Tparser} (h:Asleep a) (b:Bool) (ins nots:List TArc):loopC p58_l0 (b,some a,ins,nots)=some (some a,ins,nots):=by
 refine loopC_end ?_
 unfold p58_l0
 simp only [Option.bind_some]
 rw [if_neg h.1]
 rfl
theorem sep_a {p:List Int} (hp:Bytes p) (hl:p.length≤1000000) {ps:List (List UInt8)} {a:Tparser} {s:PS} (h:AOk p ps a s) {k:Nat} (hk:Sz k s) (first:Bool) :
  (first=true∧sepS first s=.inl ((),s))∨(first=false∧SimU p ps k (p59 (some a) [44]) (sepS first s)):=by
 cases first with
 | true=>exact .inl ⟨rfl,rfl⟩
 | false=>exact .inr ⟨rfl,want_a hp hl h [44] hk⟩
theorem in_a {p:List Int} (hp:Bytes p) (hl:p.length≤1000000) {ps:List (List UInt8)} {K:Nat}:∀ (k:Nat) (first:Bool) (ins nots:List TArc) (a:Tparser) (s:PS),AOk p ps a s→s.l.length≤k→ins.length≤8→nots.length≤8→Sz K s→
  ∃ a' i o,loopC p58_l0 (first,some a,ins,nots)=some (some a',i,o)∧match inS ps k first ins nots s with
   | .inl (q,s')=>q=(i,o)∧AOk p ps a' s'∧s'.n=s.n∧s'.l.length≤s.l.length
   | .inr (e,x)=>ADead p e x K a':=by
 intro k
 induction k with
 | zero=>
  intro first ins nots a s h hk
  have:s.l=[]:=List.eq_nil_of_length_eq_zero (by omega)
  exact absurd this h.wf.ne
 | succ k ih=>
  intro first ins nots a s h hk hi hn hK
  rw [inS_succ]
  obtain ⟨a1,h1,h2⟩:=sign_a h [45,62]
  have hbody:p58_l0 (first,some a,ins,nots)=p58_j1 first ins nots (!isS s [45,62]) (some a1):=by
   unfold p58_l0
   simp only [Option.bind_some]
   rw [if_pos h.err,h1]
   rfl
  by_cases hs:isS s [45,62]=true
  ·rw [if_pos hs] at h2
   rw [if_pos hs]
   refine ⟨a1,ins,nots,loopC_end ?_,rfl,h2,rfl,nx_len _⟩
   rw [hbody,hs]
   rfl
  ·rw [if_neg hs] at h2
   rw [if_neg hs]
   have hs':isS s [45,62]=false:=by simpa using hs
   rw [hs'] at hbody
      -- behind the comma
   have rest:∀ (a2:Tparser) (s2:PS),AOk p ps a2 s2→s2.n=s.n→s2.l.length≤s.l.length→p58_l0 (first,some a,ins,nots)=p58_j0 ins nots (some a2)→
     ∃ a' i o,loopC p58_l0 (first,some a,ins,nots)=some (some a',i,o)∧match bnd (one2 ps ins nots s2) fun q s=>inS ps k false q.1 q.2 s with
      | .inl (q,s')=>q=(i,o)∧AOk p ps a' s'∧s'.n=s.n∧s'.l.length≤s.l.length
      | .inr (e,x)=>ADead p e x K a':=by
    intro a2 s2 g1 g2 g3 g4
    obtain ⟨a3,i,o,q1,q2⟩:=in_j0 hp hl g1 hi hn (k:=K) (by unfold Sz at *; rw [g2]; exact hK)
    cases hr:one2 ps ins nots s2 with
    | inl v=>
     obtain ⟨q,s'⟩:=v
     rw [hr] at q2
     obtain ⟨rfl,q2,q3,q4,q5,q6⟩:=q2
     obtain ⟨a4,i',o',u1,u2⟩:=ih false i o a3 s' q2 (by omega) q5 q6 (by unfold Sz at *; rw [q3,g2]; exact hK)
     refine ⟨a4,i',o',loopC_go (by rw [g4]; exact q1) u1,?_⟩
     simp only [bnd]
     cases hr2:inS ps k false i o s' with
     | inl v=>
      obtain ⟨q,s''⟩:=v
      rw [hr2] at u2
      exact ⟨u2.1,u2.2.1,by rw [u2.2.2.1,q3,g2],by omega⟩
     | inr v=>obtain ⟨e,x⟩:=v; rw [hr2] at u2; exact u2
    | inr v=>
     obtain ⟨e,x⟩:=v
     rw [hr] at q2
     exact ⟨a3,i,o,loopC_go (by rw [g4]; exact q1) (in_exit (ADead.asleep q2) _ _ _),q2⟩
   rcases sep_a hp hl h2 hK first with ⟨rfl,e1⟩ | ⟨rfl,e1⟩
   ·rw [e1]
    exact rest a1 s h2 rfl (Nat.le_refl _) (by rw [hbody]; rfl)
   ·cases hr:sepS false s with
    | inl v=>
     obtain ⟨u,s2⟩:=v
     rw [hr] at e1
     obtain ⟨a2,q1,q2⟩:=e1
     have hn':=sepS_n hr
     refine rest a2 s2 q2 hn'.1 hn'.2 ?_
     rw [hbody]
     unfold p58_j1
     simp only [Bool.not_false,if_true]
     rw [q1]; rfl
    | inr v=>
     obtain ⟨e,x⟩:=v
     rw [hr] at e1
     obtain ⟨a2,q1,q2⟩:=e1
     obtain ⟨i,q3⟩:=in_j0d q2.asleep (ins:=ins) (nots:=nots) hi
     refine ⟨a2,i,nots,loopC_go ?_ (in_exit q2.asleep false _ _),q2⟩
     rw [hbody]
     unfold p58_j1
     simp only [Bool.not_false,if_true]
     rw [q1]
     exact q3
/-- The list of what comes out. -/
theorem out_exit {a:Tparser} (h:Asleep a) (b:Bool) (outs:List TArc):loopC p58_l1 (b,some a,outs)=some (some a,outs):=by
 refine loopC_end ?_
 unfold p58_l1
 simp only [Option.bind_some]
 rw [if_neg h.1]
 rfl
theorem out_a {p:List Int} (hp:Bytes p) (hl:p.length≤1000000) {ps:List (List UInt8)} {K:Nat}:∀ (k:Nat) (first:Bool) (outs:List TArc) (a:Tparser) (s:PS),AOk p ps a s→s.l.length≤k→outs.length≤8→Sz K s→
  ∃ a' o,loopC p58_l1 (first,some a,outs)=some (some a',o)∧match outS ps k first outs s with
   | .inl (q,s')=>q=o∧AOk p ps a' s'∧s'.n=s.n∧s'.l.length≤s.l.length
   | .inr (e,x)=>ADead p e x K a':=by
 intro k
 induction k with
 | zero=>
  intro first outs a s h hk
  have:s.l=[]:=List.eq_nil_of_length_eq_zero (by omega)
  exact absurd this h.wf.ne
 | succ k ih=>
  intro first outs a s h hk hi hK
  rw [outS]
  obtain ⟨t,ts,e1,e2⟩:=h.open
  have hbody:p58_l1 (first,some a,outs)=p58_j3 first outs a (!isS s [59]):=by
   unfold p58_l1
   simp only [Option.bind_some]
   rw [if_pos h.err,isS_a e2]
   have:a.l=t::ts:=by rw [e1]
   rw [this,idx0]
   simp only [Option.bind_some]
   unfold isA p58_j4
   by_cases hk3:t.Kind=3
   ·simp [hk3]
   ·simp [hk3]
  by_cases hs:isS s [59]=true
  ·rw [if_pos hs]
   refine ⟨a,outs,loopC_end ?_,rfl,h,rfl,Nat.le_refl _⟩
   rw [hbody,hs]
   rfl
  ·rw [if_neg hs]
   have hs':isS s [59]=false:=by simpa using hs
   rw [hs'] at hbody
   have rest:∀ (a2:Tparser) (s2:PS),AOk p ps a2 s2→s2.n=s.n→s2.l.length≤s.l.length→p58_l1 (first,some a,outs)=p58_j2 outs (some a2)→
     ∃ a' o,loopC p58_l1 (first,some a,outs)=some (some a',o)∧match bnd (arcS ps outs s2) fun outs s=>outS ps k false outs s with
      | .inl (q,s')=>q=o∧AOk p ps a' s'∧s'.n=s.n∧s'.l.length≤s.l.length
      | .inr (e,x)=>ADead p e x K a':=by
    intro a2 s2 g1 g2 g3 g4
    have ha:=arc_a hp hl g1 (x1:=outs) (by omega) (k:=K) (by unfold Sz at *; rw [g2]; exact hK)
    unfold p58_j2 at g4
    cases hr:arcS ps outs s2 with
    | inl v=>
     obtain ⟨v,s'⟩:=v
     rw [hr] at ha
     obtain ⟨a3,q1,q2⟩:=ha
     obtain ⟨f1,f2,f3,f4,f5⟩:=arcS_n hr
     have hlt:=g1.wf.shorter (by rw [f3]; decide)
     rw [q1] at g4
     obtain ⟨a4,o',u1,u2⟩:=ih false v a3 s' q2 (by omega) (by omega) (by unfold Sz at *; rw [f1,g2]; exact hK)
     refine ⟨a4,o',loopC_go (by rw [g4]; rfl) u1,?_⟩
     simp only [bnd]
     cases hr2:outS ps k false v s' with
     | inl v=>
      obtain ⟨q,s''⟩:=v
      rw [hr2] at u2
      exact ⟨u2.1,u2.2.1,by rw [u2.2.2.1,f1,g2],by omega⟩
     | inr v=>obtain ⟨e,x⟩:=v; rw [hr2] at u2; exact u2
    | inr v=>
     obtain ⟨e,x⟩:=v
     rw [hr] at ha
     obtain ⟨v,a3,q1,q2⟩:=ha
     rw [q1] at g4
     exact ⟨a3,v,loopC_go (by rw [g4]; rfl) (out_exit q2.asleep _ _),q2⟩
   rcases sep_a hp hl h hK first with ⟨rfl,e1⟩ | ⟨rfl,e1⟩
   ·rw [e1]
    exact rest a s h rfl (Nat.le_refl _) (by rw [hbody]; rfl)
   ·cases hr:sepS false s with
    | inl v=>
     obtain ⟨u,s2⟩:=v
     rw [hr] at e1
     obtain ⟨a2,q1,q2⟩:=e1
     have hn':=sepS_n hr
     refine rest a2 s2 q2 hn'.1 hn'.2 ?_
     rw [hbody]
     unfold p58_j3
     simp only [Bool.not_false,if_true]
     rw [q1]; rfl
    | inr v=>
     obtain ⟨e,x⟩:=v
     rw [hr] at e1
     obtain ⟨a2,q1,q2⟩:=e1
     obtain ⟨o,q3⟩:=arc_d q2.asleep (x1:=outs) (by omega)
     refine ⟨a2,o,loopC_go ?_ (out_exit q2.asleep false _),q2⟩
     rw [hbody]
     unfold p58_j3
     simp only [Bool.not_false,if_true]
     rw [q1]
     simp only [Option.bind_some]
     unfold p58_j2
     rw [q3]; rfl
end Go.Proofs.Ytloaoofdbilpeaa
/- The program's parser: transitions, places, items, all of a text. Own work. -/
namespace Go.Proofs.Ytloaoofdbilpeaa
open Go Go.Am
set_option linter.unusedVariables false
set_option linter.unusedSimpArgs false
/-- A number that may be there. -/
noncomputable def optA (x:List UInt8) (l:Option Tparser):Option (Int×Option Tparser):=(p56 l x).bind fun u=>if u.1=true then (p57 u.2 0).bind fun w=>some (w.1,w.2) else some (0,u.2)
theorem optA_bind {β:Type} (x:List UInt8) (l:Option Tparser) (f:Int→Option Tparser→Option β):((p56 l x).bind fun u=>if u.1=true then ((p57 u.2 0).bind fun w=>f w.1 w.2) else f 0 u.2)=(optA x l).bind fun w=>f w.1 w.2:=by
 unfold optA
 cases p56 l x with
 | none=>rfl
 | some u=>
  simp only [Option.bind_some]
  split
  ·cases p57 u.2 0<;>rfl
  ·rfl
theorem opt_a {p:List Int} (hp:Bytes p) (hl:p.length≤1000000) {ps:List (List UInt8)} {a:Tparser} {s:PS} (h:AOk p ps a s) (x:List UInt8) {k:Nat} (hk:Sz k s):SimA p ps k (optA x (some a)) (optS x s):=by
 obtain ⟨a1,h1,h2⟩:=sign_a h x
 unfold optA optS
 rw [h1]
 simp only [Option.bind_some]
 by_cases hs:isS s x=true
 ·rw [if_pos hs] at h2
  rw [if_pos hs,if_pos hs]
  have hn:=num_a hp hl h2 0 (k:=k) hk
  cases hr:numS 0 (stp s) with
  | inl v=>
   obtain ⟨v,s1⟩:=v
   rw [hr] at hn
   obtain ⟨a1,h2,h3⟩:=hn
   rw [h2]
   exact ⟨a1,rfl,h3⟩
  | inr v=>
   obtain ⟨v,x⟩:=v
   rw [hr] at hn
   obtain ⟨w,a1,h2,h3⟩:=hn
   rw [h2]
   exact ⟨w,a1,rfl,h3⟩
 ·rw [if_neg hs] at h2
  rw [if_neg hs,if_neg hs]
  exact ⟨a1,rfl,h2⟩
theorem opt_d {a:Tparser} (h:Asleep a) (x:List UInt8):optA x (some a)=some (0,some a):=by
 unfold optA
 rw [p56_d h]; rfl
/-- Asleep, a list grows by one at most. -/
structure Sl (a a':Tparser):Prop where
 pp:a'.p=a.p
 l:a'.l=a.l
 f:a'.f=a.f
 n:a'.n.Places.length≤a.n.Places.length+1∧a'.n.Trans.length≤a.n.Trans.length+1
theorem Sl.dead {p:List Int} {e x:Int} {k:Nat} {a a':Tparser} (s:Sl a a') (h:ADead p e x k a):ADead p e x (k+1) a':=by
 have h1:=h.n
 have h2:=s.n
 exact ⟨by rw [s.pp]; exact h.pp,by rw [s.l]; exact h.l,by rw [s.f]; exact h.f,h.e,by omega,by rw [s.l]; exact h.tl,h.xa⟩
theorem ADead.mono {p:List Int} {e x:Int} {k k':Nat} {a:Tparser} (h:ADead p e x k a) (hk:k≤k'):ADead p e x k' a:=⟨h.pp,h.l,h.f,h.e,by have:=h.n; omega,h.tl,h.xa⟩
theorem j5_d {a:Tparser} (h:Asleep a) (hn:a.n.Trans.length≤1000) (u:List UInt8×Option Tparser) (c d:Int):∃ a',p58_j5 u c (some a) d=some (some a')∧Sl a a':=by
 unfold p58_j5
 rw [want_d h]
 simp only [Option.bind_some]
 rw [in_exit h]
 simp only [Option.bind_some]
 rw [out_exit h]
 simp only [Option.bind_some]
 rw [app_ok (by simp; omega)]
 simp only [Option.bind_some]
 exact ⟨_,rfl,rfl,rfl,rfl,by simp,by simp⟩
theorem j6_d {a:Tparser} (h:Asleep a) (hn:a.n.Trans.length≤1000) (u:List UInt8×Option Tparser) (c:Int):∃ a',p58_j6 u (some a) c=some (some a')∧Sl a a':=by
 unfold p58_j6
 rw [optA_bind [33] (some a) (fun d l=>p58_j5 u c l d),opt_d h]
 exact j5_d h hn u c 0
theorem one2_n {ps:List (List UInt8)} {ins nots:List TArc} {s s':PS} {q:List TArc×List TArc} (h:one2 ps ins nots s=.inl (q,s')) (hi:ins.length≤8) (hn:nots.length≤8):s'.n=s.n∧s'.l.length≤s.l.length∧q.1.length≤8∧q.2.length≤8:=by
 unfold one2 at h
 split at h
 ·obtain ⟨v,s1,h1,h2⟩:=bnd_inl h
  cases h2
  obtain ⟨a,b,c,d,e⟩:=arcS_n h1
  have:=nx_len (stp s).l
  have h3:(stp s).l.length≤s.l.length:=nx_len _
  exact ⟨a,by omega,hi,by simp only; omega⟩
 ·obtain ⟨v,s1,h1,h2⟩:=bnd_inl h
  cases h2
  obtain ⟨a,b,c,d,e⟩:=arcS_n h1
  have:=nx_len s.l
  exact ⟨a,by omega,by simp only; omega,hn⟩
theorem inS_n {ps:List (List UInt8)}:∀ {k:Nat} {b:Bool} {ins nots:List TArc} {s s':PS} {q:List TArc×List TArc},inS ps k b ins nots s=.inl (q,s')→ins.length≤8→nots.length≤8→s'.n=s.n∧s'.l.length≤s.l.length∧q.1.length≤8∧q.2.length≤8
 | 0,b,ins,nots,s,s',q,h,_,_=>by unfold inS er at h; cases h
 | k+1,b,ins,nots,s,s',q,h,hi,hn=>by
  rw [inS_succ] at h
  split at h
  ·cases h
   exact ⟨rfl,nx_len _,hi,hn⟩
  ·obtain ⟨_,s1,h1,h⟩:=bnd_inl h
   obtain ⟨v,s2,h2,h⟩:=bnd_inl h
   have a1:=sepS_n h1
   have a2:=one2_n h2 hi hn
   have a3:=inS_n h a2.2.2.1 a2.2.2.2
   exact ⟨by rw [a3.1,a2.1,a1.1],by omega,a3.2.2⟩
theorem outS_n {ps:List (List UInt8)}:∀ {k:Nat} {b:Bool} {outs:List TArc} {s s':PS} {q:List TArc},outS ps k b outs s=.inl (q,s')→outs.length≤8→s'.n=s.n∧s'.l.length≤s.l.length∧q.length≤8
 | 0,b,outs,s,s',q,h,_=>by unfold outS er at h; cases h
 | k+1,b,outs,s,s',q,h,hi=>by
  rw [outS] at h
  split at h
  ·cases h
   exact ⟨rfl,Nat.le_refl _,hi⟩
  ·obtain ⟨_,s1,h1,h⟩:=bnd_inl h
   obtain ⟨v,s2,h2,h⟩:=bnd_inl h
   have a1:=sepS_n h1
   obtain ⟨c1,c2,c3,c4,c5⟩:=arcS_n h2
   have a3:=outS_n h (by omega)
   have:=nx_len s1.l
   exact ⟨by rw [a3.1,c1,a1.1],by omega,a3.2.2⟩
theorem transS_n {ps:List (List UInt8)} {s s':PS} {u:Unit} (h:transS ps s=.inl (u,s')):∃ t:TTrans,s'.n=⟨s.n.Places,s.n.Trans++[t]⟩∧s'.l.length≤s.l.length∧t.In.length≤8∧t.Not.length≤8∧t.Out.length≤8:=by
 unfold transS at h
 obtain ⟨nm,s1,q1,h⟩:=bnd_inl h
 obtain ⟨d,s2,q2,h⟩:=bnd_inl h
 obtain ⟨c,s3,q3,h⟩:=bnd_inl h
 obtain ⟨_,s4,q4,h⟩:=bnd_inl h
 obtain ⟨io,s5,q5,h⟩:=bnd_inl h
 obtain ⟨o,s6,q6,h⟩:=bnd_inl h
 cases h
 have a1:=nameS_n q1
 have a2:=optS_n q2
 have a3:=optS_n q3
 have a4:=want_n q4
 have a5:=inS_n q5 (by simp) (by simp)
 have a6:=outS_n q6 (by simp)
 have l1:s1.l.length≤s.l.length:=by rw [a1.2]; exact nx_len _
 have n4:s4.n=s3.n:=by rw [a4]; rfl
 have l4:s4.l.length≤s3.l.length:=by rw [a4]; exact nx_len _
 have en:s6.n=s.n:=by rw [a6.1,a5.1,n4,a3.1,a2.1,a1.1]
 refine ⟨⟨nm,d,c,io.1,io.2,o⟩,by simp only; rw [en],by simp only; omega,a5.2.2.1,a5.2.2.2,a6.2.2⟩
theorem trans_a {p:List Int} (hp:Bytes p) (hl:p.length≤1000000) {ps:List (List UInt8)} {a:Tparser} {s:PS} (h:AOk p ps a s) {k:Nat} (hk:Sz k s) (hk2:k≤100):SimU p ps (k+1) (p58 (some a)) (transS ps s):=by
 unfold p58 transS
 have hn:=name_a hp hl h (k:=k) hk
 cases hr:nameS s with
 | inr v=>
  obtain ⟨e,x⟩:=v
  rw [hr] at hn
  obtain ⟨v,a1,h1,h2⟩:=hn
  rw [h1]
  simp only [Option.bind_some,bnd]
  rw [optA_bind [64] (some a1) (fun d l=>p58_j6 (v,some a1) l d),opt_d h2.asleep]
  obtain ⟨a2,h3,h4⟩:=j6_d h2.asleep (by have:=h2.n; omega) (v,some a1) 0
  exact ⟨a2,h3,h4.dead h2⟩
 | inl v=>
  obtain ⟨nm,s1⟩:=v
  rw [hr] at hn
  obtain ⟨a1,h1,h2⟩:=hn
  obtain ⟨n1,_⟩:=nameS_n hr
  rw [h1]
  simp only [Option.bind_some,bnd]
  rw [optA_bind [64] (some a1) (fun d l=>p58_j6 (nm,some a1) l d)]
  have hk1:Sz k s1:=by unfold Sz at *; rw [n1]; exact hk
  have ho:=opt_a hp hl h2 [64] hk1
  cases hr2:optS [64] s1 with
  | inr v=>
   obtain ⟨e,x⟩:=v
   rw [hr2] at ho
   obtain ⟨d,a2,h3,h4⟩:=ho
   rw [h3]
   obtain ⟨a3,h5,h6⟩:=j6_d h4.asleep (by have:=h4.n; omega) (nm,some a1) d
   exact ⟨a3,h5,h6.dead h4⟩
  | inl v=>
   obtain ⟨d,s2⟩:=v
   rw [hr2] at ho
   obtain ⟨a2,h3,h4⟩:=ho
   obtain ⟨n2,_⟩:=optS_n hr2
   rw [h3]
   simp only [Option.bind_some,bnd]
   unfold p58_j6
   rw [optA_bind [33] (some a2) (fun c l=>p58_j5 (nm,some a1) d l c)]
   have hk2':Sz k s2:=by unfold Sz at *; rw [n2]; exact hk1
   have ho:=opt_a hp hl h4 [33] hk2'
   cases hr3:optS [33] s2 with
   | inr v=>
    obtain ⟨e,x⟩:=v
    rw [hr3] at ho
    obtain ⟨c,a3,h5,h6⟩:=ho
    rw [h5]
    obtain ⟨a4,h7,h8⟩:=j5_d h6.asleep (by have:=h6.n; omega) (nm,some a1) d c
    exact ⟨a4,h7,h8.dead h6⟩
   | inl v=>
    obtain ⟨c,s3⟩:=v
    rw [hr3] at ho
    obtain ⟨a3,h5,h6⟩:=ho
    obtain ⟨n3,_⟩:=optS_n hr3
    rw [h5]
    simp only [Option.bind_some,bnd]
    unfold p58_j5
    have hk3:Sz k s3:=by unfold Sz at *; rw [n3]; exact hk2'
    have hw:=want_a hp hl h6 [58] (k:=k) hk3
    cases hr4:want [58] s3 with
    | inr v=>
     obtain ⟨e,x⟩:=v
     rw [hr4] at hw
     obtain ⟨a4,h7,h8⟩:=hw
     rw [h7]
     simp only [Option.bind_some]
     rw [in_exit h8.asleep]
     simp only [Option.bind_some]
     rw [out_exit h8.asleep]
     simp only [Option.bind_some]
     rw [app_ok (by have:=h8.n; simp; omega)]
     simp only [Option.bind_some]
     exact ⟨_,rfl,Sl.dead (a:=a4) ⟨rfl,rfl,rfl,by simp,by simp⟩ h8⟩
    | inl v=>
     obtain ⟨u,s4⟩:=v
     rw [hr4] at hw
     obtain ⟨a4,h7,h8⟩:=hw
     have n4:=want_n hr4
     subst n4
     rw [h7]
     simp only [Option.bind_some]
     obtain ⟨a5,i,o,h9,h10⟩:=in_a hp hl (stp s3).l.length true [] [] a4 (stp s3) h8 (Nat.le_refl _) (by simp) (by simp) (K:=k) hk3
     rw [h9]
     simp only [Option.bind_some]
     cases hr5:inS ps (stp s3).l.length true [] [] (stp s3) with
     | inr v=>
      obtain ⟨e,x⟩:=v
      rw [hr5] at h10
      have h10:ADead p e x k a5:=h10
      rw [out_exit h10.asleep]
      simp only [Option.bind_some]
      rw [app_ok (by have:=h10.n; simp; omega)]
      simp only [Option.bind_some]
      exact ⟨_,rfl,Sl.dead (a:=a5) ⟨rfl,rfl,rfl,by simp,by simp⟩ h10⟩
     | inl v=>
      obtain ⟨io,s5⟩:=v
      rw [hr5] at h10
      obtain ⟨rfl,h11,n5,_⟩:=h10
      have hk5:Sz k s5:=by unfold Sz at *; rw [n5]; exact hk3
      obtain ⟨a6,q,h12,h13⟩:=out_a hp hl s5.l.length true [] a5 s5 h11 (Nat.le_refl _) (by simp) (K:=k) hk5
      rw [h12]
      simp only [Option.bind_some]
      cases hr6:outS ps s5.l.length true [] s5 with
      | inr v=>
       obtain ⟨e,x⟩:=v
       rw [hr6] at h13
       have h13:ADead p e x k a6:=h13
       rw [app_ok (by have:=h13.n; simp; omega)]
       simp only [Option.bind_some]
       exact ⟨_,rfl,Sl.dead (a:=a6) ⟨rfl,rfl,rfl,by simp,by simp⟩ h13⟩
      | inl v=>
       obtain ⟨oo,s6⟩:=v
       rw [hr6] at h13
       obtain ⟨rfl,h14,n6,_⟩:=h13
       have hk6:Sz k s6:=by unfold Sz at *; rw [n6]; exact hk5
       have hlen:a6.n.Trans.length≤100:=by rw [h14.n]; unfold Sz at hk6; omega
       rw [app_ok (by simp; omega)]
       simp only [Option.bind_some]
       exact ⟨_,rfl,h14.pp,h14.l,h14.f,by simp only; rw [h14.n],h14.pl,h14.td,h14.wf⟩
theorem j1_d {a:Tparser} (h:Asleep a) (hn:a.n.Places.length≤1000) (u:List UInt8×Option Tparser) (c:Int):∃ a',p40_j1 u (some a) c=some (some a')∧Sl a a':=by
 unfold p40_j1
 simp only [Option.bind_some]
 rw [app_ok (by simp; omega)]
 simp only [Option.bind_some]
 unfold p40_j0
 rw [want_d (a:=⟨a.p,a.l,a.f,⟨a.n.Places++[TPlace.mk u.1 c],a.n.Trans⟩,a.places,a.told⟩) h]
 exact ⟨_,rfl,rfl,rfl,rfl,by simp,by simp⟩
/-- A place, and the semicolon. -/
theorem place_a {p:List Int} (hp:Bytes p) (hl:p.length≤1000000) {ps:List (List UInt8)} {a:Tparser} {s:PS} (h:AOk p ps a s) {k:Nat} (hk:Sz k s) (hk2:k≤100):SimU p ps (k+1) (p40_j2 (some a)) (bnd (placeS s) fun _ s=>want [59] s):=by
 unfold p40_j2 placeS
 have hn:=name_a hp hl h (k:=k) hk
 cases hr:nameS s with
 | inr v=>
  obtain ⟨e,x⟩:=v
  rw [hr] at hn
  obtain ⟨v,a1,h1,h2⟩:=hn
  rw [h1]
  simp only [Option.bind_some,bnd]
  rw [optA_bind [61] (some a1) (fun d l=>p40_j1 (v,some a1) l d),opt_d h2.asleep]
  obtain ⟨a2,h3,h4⟩:=j1_d h2.asleep (by have:=h2.n; omega) (v,some a1) 0
  exact ⟨a2,h3,h4.dead h2⟩
 | inl v=>
  obtain ⟨nm,s1⟩:=v
  rw [hr] at hn
  obtain ⟨a1,h1,h2⟩:=hn
  obtain ⟨n1,_⟩:=nameS_n hr
  rw [h1]
  simp only [Option.bind_some,bnd]
  rw [optA_bind [61] (some a1) (fun d l=>p40_j1 (nm,some a1) l d)]
  have hk1:Sz k s1:=by unfold Sz at *; rw [n1]; exact hk
  have ho:=opt_a hp hl h2 [61] hk1
  cases hr2:optS [61] s1 with
  | inr v=>
   obtain ⟨e,x⟩:=v
   rw [hr2] at ho
   obtain ⟨d,a2,h3,h4⟩:=ho
   rw [h3]
   obtain ⟨a3,h5,h6⟩:=j1_d h4.asleep (by have:=h4.n; omega) (nm,some a1) d
   exact ⟨a3,h5,h6.dead h4⟩
  | inl v=>
   obtain ⟨d,s2⟩:=v
   rw [hr2] at ho
   obtain ⟨a2,h3,h4⟩:=ho
   obtain ⟨n2,_⟩:=optS_n hr2
   rw [h3]
   simp only [Option.bind_some,bnd]
   unfold p40_j1
   simp only [Option.bind_some]
   have hk2':Sz k s2:=by unfold Sz at *; rw [n2]; exact hk1
   have hlen:a2.n.Places.length≤100:=by rw [h4.n]; unfold Sz at hk2'; omega
   rw [app_ok (by simp; omega)]
   simp only [Option.bind_some]
   unfold p40_j0
   have h5:AOk p ps ⟨a2.p,a2.l,a2.f,⟨a2.n.Places++[⟨nm,d⟩],a2.n.Trans⟩,a2.places,a2.told⟩ ⟨s2.l,⟨s2.n.Places++[⟨nm,d⟩],s2.n.Trans⟩,s2.told⟩:=
    ⟨h4.pp,h4.l,h4.f,by simp only; rw [h4.n],h4.pl,h4.td,h4.wf⟩
   have hw:=want_a hp hl h5 [59] (k:=k+1) (by unfold Sz at hk2'; simp; omega)
   cases hr3:want [59] ⟨s2.l,⟨s2.n.Places++[⟨nm,d⟩],s2.n.Trans⟩,s2.told⟩ with
   | inr v=>
    obtain ⟨e,x⟩:=v
    rw [hr3] at hw
    obtain ⟨a3,h6,h7⟩:=hw
    rw [h6]
    exact ⟨a3,rfl,h7⟩
   | inl v=>
    obtain ⟨u,s3⟩:=v
    rw [hr3] at hw
    obtain ⟨a3,h6,h7⟩:=hw
    rw [h6]
    exact ⟨a3,rfl,h7⟩
theorem p39_eq (t:TTokenlex) (x:List UInt8):p39 t x=some (decide (t.Kind=1)&&(t.Text==x)):=by
 unfold p39 p39_j0
 by_cases h:t.Kind=1<;>simp [h]
theorem j0_d {a:Tparser} (h:Asleep a):p40_j0 (some a)=some (some a):=by
 unfold p40_j0
 rw [want_d h]; rfl
theorem j2_d {a:Tparser} (h:Asleep a) (hn:a.n.Places.length≤1000):∃ a',p40_j2 (some a)=some (some a')∧Sl a a':=by
 unfold p40_j2
 obtain ⟨v,a1,h1,h2⟩:=name_d h
 rw [h1]
 simp only [Option.bind_some]
 have h':=h.sm h2
 rw [optA_bind [61] (some a1) (fun d l=>p40_j1 (v,some a1) l d),opt_d h']
 obtain ⟨a2,h3,h4⟩:=j1_d h' (by rw [h2.n]; exact hn) (v,some a1) 0
 exact ⟨a2,h3,by rw [h4.pp,h2.pp],by rw [h4.l,h2.l],by rw [h4.f,h2.f],by have:=h4.n; rw [h2.n] at this; exact this⟩
theorem j3_d {a:Tparser} (h:Asleep a) (hn:a.n.Trans.length≤1000):∃ a',p40_j3 (some a)=some (some a')∧Sl a a':=by
 unfold p40_j3 p58
 obtain ⟨v,a1,h1,h2⟩:=name_d h
 rw [h1]
 simp only [Option.bind_some]
 have h':=h.sm h2
 rw [optA_bind [64] (some a1) (fun d l=>p58_j6 (v,some a1) l d),opt_d h']
 obtain ⟨a2,h3,h4⟩:=j6_d h' (by rw [h2.n]; exact hn) (v,some a1) 0
 simp only [Option.bind_some]
 rw [h3]
 simp only [Option.bind_some]
 have ha2:Asleep a2:=⟨by rw [h4.f]; exact h'.1,by rw [h4.l]; exact h'.2.1,by rw [h4.l]; exact h'.2.2⟩
 rw [j0_d ha2]
 exact ⟨a2,rfl,by rw [h4.pp,h2.pp],by rw [h4.l,h2.l],by rw [h4.f,h2.f],by have:=h4.n; rw [h2.n] at this; exact this⟩
theorem item_a {p:List Int} (hp:Bytes p) (hl:p.length≤1000000) {ps:List (List UInt8)} {a:Tparser} {s:PS} (h:AOk p ps a s) {k:Nat} (hk:Sz k s) (hk2:k≤100):SimU p ps (k+1) (p40 (some a)) (itemS ps s):=by
 obtain ⟨t,ts,e1,e2⟩:=h.open
 rw [e1] at h ⊢
 have eh:hd s.l=tokL t:=by rw [e2]; rfl
 have hs:=stp_ok h
 obtain ⟨t2,ts2,e3,e4⟩:=hs.open
 have hks:Sz k (stp s):=hk
 unfold p40 itemS bodyS
 rw [p53_a,eh]
 simp only [Option.bind_some]
 have hnx:nx (t::ts)=t2::ts2:=by
  have:=congrArg Tparser.l e3
  exact this
 rw [hnx] at hs ⊢
 rw [idx0]
 simp only [Option.bind_some]
 rw [p39_eq]
 simp only [Option.bind_some]
 have kwe:∀ x,kw (tokL t) x=(decide (t.Kind=1)&&(t.Text==x)):=fun x=>rfl
 rw [kwe]
 by_cases h1:(decide (t.Kind=1)&&(t.Text==[112,108,97,99,101]))=true
 ·rw [if_pos h1,if_pos h1]
  by_cases h32:s.n.Places.length=32
  ·rw [if_pos (by omega),if_pos h32]
   obtain ⟨b,h3,h4⟩:=fail_a hp hl (s:=stp s) hs e4 (e:=5) (by decide) hks
   have h3:p54 (some ⟨p,t2::ts2,Z4,s.n,a.places,a.told⟩) 5 t2=some (some b):=h3
   rw [h3]
   obtain ⟨b2,h5,h6⟩:=j2_d h4.asleep (by have:=h4.n; omega)
   exact ⟨b2,h5,h6.dead h4⟩
  ·rw [if_neg (by omega),if_neg h32]
   exact place_a hp hl hs hks hk2
 ·rw [if_neg h1,if_neg h1,p39_eq,kwe]
  simp only [Option.bind_some]
  by_cases h2:(decide (t.Kind=1)&&(t.Text==[116,114,97,110,115]))=true
  ·rw [if_pos h2,if_pos h2]
   by_cases h32:s.n.Trans.length=32
   ·rw [if_pos (by omega),if_pos h32]
    obtain ⟨b,h3,h4⟩:=fail_a hp hl (s:=stp s) hs e4 (e:=5) (by decide) hks
    have h3:p54 (some ⟨p,t2::ts2,Z4,s.n,a.places,a.told⟩) 5 t2=some (some b):=h3
    rw [h3]
    obtain ⟨b2,h5,h6⟩:=j3_d h4.asleep (by have:=h4.n; omega)
    exact ⟨b2,h5,h6.dead h4⟩
   ·rw [if_neg (by omega),if_neg h32]
    have ht:=trans_a hp hl hs hks hk2
    unfold p40_j3
    cases hr:transS ps (stp s) with
    | inr v=>
     obtain ⟨e,x⟩:=v
     rw [hr] at ht
     obtain ⟨b,h3,h4⟩:=ht
     have h3:p58 (some ⟨p,t2::ts2,Z4,s.n,a.places,a.told⟩)=some (some b):=h3
     rw [h3]
     exact ⟨b,j0_d h4.asleep,h4⟩
    | inl v=>
     obtain ⟨u,s1⟩:=v
     rw [hr] at ht
     obtain ⟨b,h3,h4⟩:=ht
     have h3:p58 (some ⟨p,t2::ts2,Z4,s.n,a.places,a.told⟩)=some (some b):=h3
     rw [h3]
     have hn1:Sz (k+1) s1:=by
      obtain ⟨t,q1,_⟩:=transS_n hr
      unfold Sz at *
      rw [q1]
      simp
      omega
     have hw:=want_a hp hl h4 [59] (k:=k+1) hn1
     simp only [Option.bind_some,bnd]
     unfold p40_j0
     cases hr3:want [59] s1 with
     | inr v=>
      obtain ⟨e,x⟩:=v
      rw [hr3] at hw
      obtain ⟨a3,h6,h7⟩:=hw
      rw [h6]
      exact ⟨a3,rfl,h7⟩
     | inl v=>
      obtain ⟨u,s3⟩:=v
      rw [hr3] at hw
      obtain ⟨a3,h6,h7⟩:=hw
      rw [h6]
      exact ⟨a3,rfl,h7⟩
  ·rw [if_neg h2,if_neg h2]
   have ht:=hd_ok e2 h.wf
   have h3:=p54_a hp hl (n:=s.n) (pl:=a.places) (td:=a.told) (l:=t2::ts2) 6 ht
   rw [h3]
   have h4:ADead p 6 (tokL t).at_ k ⟨p,t2::ts2,FF p 6 t.At,s.n,a.places,a.told⟩:=⟨rfl,by simp,rfl,by decide,hk,fun u hu=>(hs.wf.ok (tokL u) (by rw [e4]; exact List.mem_map_of_mem (f:=tokL) hu)).2.2,ht.1⟩
   refine ⟨_,j0_d h4.asleep,?_⟩
   rw [eh]
   exact h4.mono (Nat.le_succ _)
theorem plc_none:∀ {ps:List (List UInt8)} {x:List UInt8},plc ps x=none↔x∉ps
 | [],x=>by simp [plc]
 | y::r,x=>by
  unfold plc
  by_cases h:y=x
  ·simp [h]
  ·rw [if_neg h,Option.map_eq_none_iff,plc_none]
   simp [Ne.symm h]
end Go.Proofs.Ytloaoofdbilpeaa
/- The program's parser: all of a text. Own work. -/
namespace Go.Proofs.Ytloaoofdbilpeaa
open Go Go.Am
set_option linter.unusedVariables false
set_option linter.unusedSimpArgs false
/-- A net within bounds of lengths. -/
def NOk (n:TNet):Prop:=n.Places.length≤32∧n.Trans.length≤32∧∀ t,t∈n.Trans→t.In.length≤8∧t.Not.length≤8∧t.Out.length≤8
theorem placeS_n {s s':PS} {u:Unit} (h:placeS s=.inl (u,s')):∃ t:TPlace,s'.n=⟨s.n.Places++[t],s.n.Trans⟩∧s'.l.length≤s.l.length:=by
 unfold placeS at h
 obtain ⟨nm,s1,q1,h⟩:=bnd_inl h
 obtain ⟨d,s2,q2,h⟩:=bnd_inl h
 cases h
 have a1:=nameS_n q1
 have a2:=optS_n q2
 have l1:s1.l.length≤s.l.length:=by rw [a1.2]; exact nx_len _
 have en:s2.n=s.n:=by rw [a2.1,a1.1]
 exact ⟨⟨nm,d⟩,by simp only; rw [en],by simp only; omega⟩
theorem kw_k {t:Tok} {x:List UInt8} (h:kw t x=true):t.k=1:=by
 unfold kw at h
 simp only [Bool.and_eq_true,decide_eq_true_eq] at h
 exact h.1
theorem itemS_n {p:List Int} {ps:List (List UInt8)} {s s':PS} {u:Unit} (hw:WF p s.l) (hn:NOk s.n) (h:itemS ps s=.inl (u,s')):NOk s'.n∧s'.l.length < s.l.length:=by
 unfold itemS at h
 obtain ⟨_,s1,h1,h⟩:=bnd_inl h
 have e:=want_n h
 have l1:s'.l.length≤s1.l.length:=by rw [e]; exact nx_len _
 have n1:s'.n=s1.n:=by rw [e]; rfl
 obtain ⟨b1,b2,b3⟩:=hn
 unfold bodyS er at h1
 split at h1
 ·rename_i hk
  split at h1
  ·cases h1
  ·have hlt:=hw.shorter (by rw [kw_k hk]; decide)
   obtain ⟨t,q1,q2⟩:=placeS_n h1
   have q2:s1.l.length≤(nx s.l).length:=q2
   refine ⟨?_,by omega⟩
   rw [n1,q1]
   refine ⟨by simp [stp]; omega,b2,b3⟩
 ·split at h1
  ·rename_i hk
   split at h1
   ·cases h1
   ·have hlt:=hw.shorter (by rw [kw_k hk]; decide)
    obtain ⟨t,q1,q2,q3⟩:=transS_n h1
    have q2:s1.l.length≤(nx s.l).length:=q2
    refine ⟨?_,by omega⟩
    rw [n1,q1]
    refine ⟨b1,by simp [stp]; omega,fun x hx=>?_⟩
    rcases List.mem_append.1 hx with hx | hx
    ·exact b3 x hx
    ·rw [List.mem_singleton] at hx; subst hx; exact q3
  ·cases h1
theorem main_a {p:List Int} (hp:Bytes p) (hl:p.length≤1000000) {ps:List (List UInt8)}:∀ (k:Nat) (a:Tparser) (s:PS),AOk p ps a s→s.l.length≤k→NOk s.n→
  ∃ a',loopC p26_l1 (some a)=some (some a')∧match allS ps k s with
   | .inl n=>a'.f=Z4∧a'.n=n∧NOk n
   | .inr (e,x)=>ADead p e x 33 a':=by
 intro k
 induction k with
 | zero=>
  intro a s h hk
  have:s.l=[]:=List.eq_nil_of_length_eq_zero (by omega)
  exact absurd this h.wf.ne
 | succ k ih=>
  intro a s h hk hn
  rw [allS]
  obtain ⟨t,ts,e1,e2⟩:=h.open
  have eh:hd s.l=tokL t:=by rw [e2]; rfl
  have hbody:p26_l1 (some a)=p26_j2 a (!decide (t.Kind=0)):=by
   unfold p26_l1
   simp only [Option.bind_some]
   rw [if_pos h.err]
   have:a.l=t::ts:=by rw [e1]
   rw [this,idx0]; rfl
  by_cases h0:t.Kind=0
  ·rw [if_pos (by rw [eh]; exact h0)]
   refine ⟨a,loopC_end ?_,h.f,h.n,hn⟩
   rw [hbody]
   unfold p26_j2
   rw [if_neg (by simp [h0])]
  ·rw [if_neg (by rw [eh]; exact h0)]
   have hb2:p26_l1 (some a)=(p40 (some a)).bind fun u=>some (.inl u):=by
    rw [hbody]
    unfold p26_j2
    rw [if_pos (by simp [h0])]
   have hi:=item_a hp hl h (k:=32) ⟨hn.1,hn.2.1⟩ (by omega)
   cases hr:itemS ps s with
   | inl v=>
    obtain ⟨u,s'⟩:=v
    rw [hr] at hi
    obtain ⟨a1,q1,q2⟩:=hi
    obtain ⟨q3,q4⟩:=itemS_n h.wf hn hr
    obtain ⟨a2,q5,q6⟩:=ih a1 s' q2 (by omega) q3
    exact ⟨a2,loopC_go (by rw [hb2,q1]; rfl) q5,q6⟩
   | inr v=>
    obtain ⟨e,x⟩:=v
    rw [hr] at hi
    obtain ⟨a1,q1,q2⟩:=hi
    refine ⟨a1,loopC_go (by rw [hb2,q1]; rfl) (loopC_end ?_),q2⟩
    unfold p26_l1
    simp only [Option.bind_some]
    rw [if_neg q2.asleep.1]
    rfl
/-! ### a copy is the same -/
theorem p62_eq {l:List TArc} (h:l.length≤1000):p62 l=some l:=by
 unfold p62
 rw [app_ok (by simp; omega)]; rfl
theorem p41_eq {n:TNet} (h:NOk n):p41 n=some n:=by
 obtain ⟨h1,h2,h3⟩:=h
 unfold p41 p60 p61
 rw [app_ok (by simp; omega),app_ok (by simp; omega)]
 simp only [Option.bind_some,List.nil_append]
 have key:∃ r,loopC (p41_l0 n.Trans) ((0:Int),n.Trans)=some r∧r=n.Trans:=by
  refine loop_cnt n.Trans.length (fun k st=>st=((k:Int),n.Trans)) _ ?_ ?_ rfl
  ·rintro k _ hk rfl
   left
   refine ⟨_,?_,rfl⟩
   unfold p41_l0
   simp only
   have hm:=h3 _ (List.getElem_mem hk)
   rw [if_pos (by omega),idx_get hk]
   simp only [Option.bind_some]
   rw [p62_eq (by omega),p62_eq (by omega),p62_eq (by omega)]
   simp only [Option.bind_some,Int.toNat_natCast]
   rw [wrap64 (by omega) (by omega)]
   simp
   exact List.set_getElem_self hk
  ·rintro _ rfl
   refine ⟨_,?_,rfl⟩
   unfold p41_l0
   simp only
   rw [if_neg (by omega)]
 obtain ⟨r,k1,rfl⟩:=key
 rw [k1]
 rfl
/-! ### names of places, ahead -/
theorem plc_app:∀ (ps:List (List UInt8)) (y x:List UInt8),plc (ps++[y]) x=match plc ps x with
  | some k=>some k
  | none=>if y=x then some ps.length else none
 | [],y,x=>by simp [plc]
 | z::r,y,x=>by
  simp only [List.cons_append,plc,plc_app r y x]
  by_cases h:z=x
  ·simp [h]
  ·simp only [if_neg h]
   cases plc r x with
   | some k=>rfl
   | none=>
    by_cases h2:y=x<;>simp [h2]
def PlR (m:List (List UInt8×Int)) (ps:List (List UInt8)):Prop:=(∀ x,mget keS m x=(plc ps x).map (fun k:Nat=>(k:Int)))∧m.length=ps.length
theorem PlR.put {m:List (List UInt8×Int)} {ps:List (List UInt8)} (h:PlR m ps) {y:List UInt8} (hy:y∉ps):PlR (mput keS m y (m.length:Int)) (ps++[y]):=by
 have hn:mget keS m y=none:=by rw [h.1,plc_none.2 hy]; rfl
 refine ⟨fun x=>?_,by rw [mput_new keS y _ m hn]; simp [h.2]⟩
 rw [plc_app]
 by_cases hx:x=y
 ·subst hx
  rw [mget_put_same,plc_none.2 hy]
  simp [h.2]
 ·rw [mget_put_ne _ hx,h.1 x]
  cases hp:plc ps x with
  | some k=>rfl
  | none=>simp [Ne.symm hx]
theorem names_a {L:List TTokenlex} (hL:L≠[]) (hl:L.length≤10000000) (f:TFault):∃ m,loopC (p26_l0 (L,f) (L.take (L.length - 1))) ((0:Int),[])=some m∧PlR m (placesOf (L.map tokL) []):=by
 have hlen:0 < L.length:=List.length_pos_iff.2 hL
 refine loop_cnt (L.length - 1) (fun i st=>∃ m acc,st=((i:Int),m)∧PlR m acc∧placesOf (L.map tokL) []=placesOf ((L.map tokL).drop i) acc) _ ?_ ?_ ⟨[],[],rfl,⟨fun _=>rfl,rfl⟩,rfl⟩
 ·rintro i _ hi ⟨m,acc,rfl,h1,h2⟩
  left
  have hi1:i < L.length:=by omega
  have hi2:i+1 < L.length:=by omega
  have hd1:(L.map tokL).drop i=tokL L[i]::tokL L[i+1]::(L.map tokL).drop (i+2):=by
   rw [List.drop_eq_getElem_cons (by simpa using hi1),List.drop_eq_getElem_cons (by simpa using hi2)]
   simp
  have hd2:(L.map tokL).drop (i+1)=tokL L[i+1]::(L.map tokL).drop (i+2):=by
   rw [List.drop_eq_getElem_cons (by simpa using hi2)]
   simp
  rw [hd1,placesOf,← hd2] at h2
  refine ⟨(((i+1:Nat):Int),(if kw (tokL L[i]) [112,108,97,99,101]=true∧(tokL L[i+1]).k=1∧(tokL L[i+1]).s∉acc then mput keS m L[i+1].Text (m.length:Int) else m)),?_,_,_,rfl,?_,h2⟩
  ·unfold p26_l0
   simp only
   rw [if_pos (by simp; omega),idx_ok (show (L.take (L.length - 1))[i]? = some L[i] by rw [List.getElem?_take_of_lt hi,List.getElem?_eq_getElem hi1])]
   simp only [Option.bind_some]
   rw [p39_eq]
   simp only [Option.bind_some]
   have hw:IntKind.wrap .i64 ((i:Int)+1)=((i+1:Nat):Int):=by rw [wrap64 (by omega) (by omega)]; rfl
   rw [hw,idx_get hi2]
   simp only [Option.bind_some]
   have kwe:kw (tokL L[i]) [112,108,97,99,101]=(decide (L[i].Kind=1)&&(L[i].Text==[112,108,97,99,101])):=rfl
   rw [kwe]
   have hmem:(mget keS m L[i+1].Text).isSome=true↔L[i+1].Text∈acc:=by
    rw [h1.1]
    cases hp:plc acc L[i+1].Text with
    | none=>simp [plc_none.1 hp]
    | some k=>
     simp
     exact Classical.not_not.1 fun h=>by rw [plc_none.2 h] at hp; cases hp
   by_cases c1:(decide (L[i].Kind=1)&&(L[i].Text==[112,108,97,99,101]))=true
   ·rw [if_pos c1]
    unfold p26_j1
    by_cases c2:L[i+1].Kind=1
    ·rw [if_pos (by simp [c2]),hw,idx_get hi2]
     simp only [Option.bind_some]
     by_cases c3:L[i+1].Text∈acc
     ·rw [if_neg (by rw [hmem.2 c3]; simp),if_neg (fun h=>h.2.2 c3)]
      unfold p26_j0
      rw [hw]
     ·rw [if_pos (by
       have:(mget keS m L[i+1].Text).isSome=false:=Bool.eq_false_iff.2 fun h=>c3 (hmem.1 h)
       rw [this]; rfl),if_pos ⟨c1,c2,c3⟩]
      unfold p26_j0
      rw [hw]
    ·rw [if_neg (by simp [c2]),if_neg (fun h=>c2 h.2.1)]
     unfold p26_j0
     rw [hw]
   ·rw [if_neg c1,if_neg (fun h=>c1 h.1)]
    unfold p26_j1 p26_j0
    rw [hw]; rfl
  ·split
   ·rename_i hc; exact h1.put hc.2.2
   ·exact h1
 ·rintro _ ⟨m,acc,rfl,h1,h2⟩
  refine ⟨m,?_,?_⟩
  ·unfold p26_l0
   simp only
   rw [if_neg (by simp)]
  ·rw [h2]
   have:(L.map tokL).drop (L.length - 1)=[tokL L[L.length - 1]]:=by
    rw [List.drop_eq_getElem_cons (by simp; omega),List.drop_eq_nil_of_le (by simp; omega)]
    simp
   rw [this]
   exact h1
/-- The program's parser. -/
theorem p26_eq {p:List Int} (hp:Bytes p) (hl:p.length≤1000000):∃ L e a,LexR p 0 [] (L,e,a)∧
  ((e=0∧WF p L∧match parseS L with
   | .inl n=>NOk n∧p26 p=some (n,Z4)
   | .inr (e,x)=>e≠0∧(∃ i:Nat,i≤p.length∧x=(i:Int))∧p26 p=some (⟨[],[]⟩,FF p e x))∨
   (e≠0∧(∃ i:Nat,i≤p.length∧a=(i:Int))∧p26 p=some (⟨[],[]⟩,FF p e a))):=by
 obtain ⟨r,h1,L,e,a,h2,h3⟩:=p18_eq hp hl
 refine ⟨L,e,a,h2,?_⟩
 unfold p26
 rw [h1]
 simp only [Option.bind_some]
 rcases h3 with ⟨rfl,h4,h5⟩ | ⟨h4,i,h5,rfl,rfl⟩
 ·left
  have hw:=lex_wf hp hl h2
  refine ⟨rfl,hw,?_⟩
  rw [h4]
  rw [if_neg (by simp)]
  have hne:r.1≠[]:=fun h=>by rw [h] at h5; exact hw.ne h5.symm
  have hlen:0 < r.1.length:=List.length_pos_iff.2 hne
  have hlen2:r.1.length≤10000000:=by
   have:=lexR_count h2 (Nat.zero_le _) (Nat.le_refl _)
   simp only at this
   rw [← h5,List.length_map] at this
   omega
  have hwr:IntKind.wrap .i64 ((r.1.length:Int) - 1)=((r.1.length - 1:Nat):Int):=by rw [wrap64 (by omega) (by omega)]; omega
  have hs:slc r.1 0 (IntKind.wrap .i64 ((r.1.length:Int) - 1))=some (r.1.take (r.1.length - 1)):=by
   rw [hwr]
   have:=slc_ok (l:=r.1) (i:=0) (j:=r.1.length - 1) (by omega) (by omega)
   simpa using this
  rw [hs]
  simp only [Option.bind_some]
  obtain ⟨m,q1,q2⟩:=names_a hne hlen2 r.2
  rw [q1]
  simp only [Option.bind_some]
  have h0:AOk p (placesOf L []) ⟨p,r.1,Z4,⟨[],[]⟩,m,[]⟩ ⟨L,⟨[],[]⟩,[]⟩:=by
   refine ⟨rfl,h5,rfl,rfl,?_,fun x=>?_,hw⟩
   ·rw [← h5]; exact q2.1
   ·simp [mget]
  obtain ⟨a',g1,g2⟩:=main_a hp hl L.length _ _ h0 (Nat.le_refl _) ⟨by simp,by simp,fun t ht=>by cases ht⟩
  rw [g1]
  simp only [Option.bind_some]
  unfold parseS
  cases hr:allS (placesOf L []) L.length ⟨L,⟨[],[]⟩,[]⟩ with
  | inl n=>
   rw [hr] at g2
   obtain ⟨g2,rfl,g3⟩:=g2
   refine ⟨g3,?_⟩
   rw [g2,if_neg (by simp),p41_eq g3]
   rfl
  | inr v=>
   obtain ⟨e,x⟩:=v
   rw [hr] at g2
   have g2:ADead p e x 33 a':=g2
   refine ⟨g2.e,g2.xa,?_⟩
   rw [if_pos (by simpa using g2.asleep.1),g2.f]
 ·right
  refine ⟨h4,⟨i,h5,rfl⟩,?_⟩
  rw [if_pos (by simpa using h4)]
  simp [FF]
end Go.Proofs.Ytloaoofdbilpeaa
/- Texts that are given whole: what the program's parser makes of them, by reckoning. Own work. -/
namespace Go.Proofs.Ytloaoofdbilpeaa
open Go Go.Am
set_option linter.unusedVariables false
set_option linter.unusedSimpArgs false
def lexF (p:List Int):Nat→Nat→List Tok→Option (List Tok×Int×Int)
 | 0,_,_=>none
 | k+1,i,l=>if i < p.length then (match stepS p i with
   | .inl (j,t)=>lexF p k j (l++t)
   | .inr e=>some ([],e,(i:Int)))
  else if i=p.length then some (l++[⟨0,[],0,(p.length:Int)⟩],0,0) else none
theorem lexF_ok {p:List Int}:∀ {k i:Nat} {l:List Tok} {r:List Tok×Int×Int},lexF p k i l=some r→LexR p i l r
 | 0,i,l,r,h=>by cases h
 | k+1,i,l,r,h=>by
  rw [lexF] at h
  split at h
  ·rename_i hi
   split at h
   ·rename_i j t hs
    exact .go hi hs (lexF_ok h)
   ·rename_i e hs
    cases h
    exact .err hi hs
  ·split at h
   ·rename_i hi
    cases h
    exact .done hi
   ·cases h
def parseF (p:List Int):TNet⊕(Int×Int):=match lexF p (p.length+1) 0 [] with
 | some (L,e,a)=>if e=0 then parseS L else .inr (e,a)
 | none=>.inr (0,0)
theorem p26_ok {p:List Int} (hp:Bytes p) (hl:p.length≤1000000) {n:TNet} (h:parseF p=.inl n):p26 p=some (n,Z4)∧NOk n:=by
 unfold parseF at h
 split at h
 ·rename_i L e a hL
  split at h
  ·rename_i he
   subst he
   obtain ⟨L',e',a',h1,h2⟩:=p26_eq hp hl
   have hd:=LexR.det (lexF_ok hL) h1
   simp only [Prod.mk.injEq] at hd
   obtain ⟨rfl,rfl,rfl⟩:=hd
   rcases h2 with ⟨_,_,h3⟩ | ⟨h3,_⟩
   ·rw [h] at h3; exact ⟨h3.2,h3.1⟩
   ·exact absurd rfl h3
  ·cases h
 ·cases h
theorem p26_no {p:List Int} (hp:Bytes p) (hl:p.length≤1000000) {e x:Int} (h:parseF p=.inr (e,x)) (he:e≠0):p26 p=some (⟨[],[]⟩,FF p e x):=by
 unfold parseF at h
 split at h
 ·rename_i L e0 a hL
  obtain ⟨L',e',a',h1,h2⟩:=p26_eq hp hl
  have hd:=LexR.det (lexF_ok hL) h1
  simp only [Prod.mk.injEq] at hd
  obtain ⟨rfl,rfl,rfl⟩:=hd
  split at h
  ·rename_i he
   subst he
   rcases h2 with ⟨_,_,h3⟩ | ⟨h3,_⟩
   ·rw [h] at h3; exact h3.2.2
   ·exact absurd rfl h3
  ·rename_i he0
   cases h
   rcases h2 with ⟨h3,_⟩ | ⟨_,_,h3⟩
   ·exact absurd h3 he0
   ·exact h3
 ·cases h; exact absurd rfl he
theorem bytes_str (s:List UInt8):Bytes (strI s):=by
 intro c hc
 unfold strI at hc
 obtain ⟨b,_,rfl⟩:=List.mem_map.1 hc
 have:=b.toNat_lt
 omega
theorem bytesI_ok {s:List UInt8} (h:s.length≤1000000000):bytesI s=some (strI s):=by
 unfold bytesI roomCells
 rw [if_pos (by omega)]; rfl
/-! ### the example -/
def ex0:List UInt8:=[112,108,97,99,101,32,112,32,61,32,49,59,32,116,114,97,110,115,32,116,32,64,50,58,32,112,32,45,62,32,112,59]
theorem p25_eq:p25=some true:=by
 have h:p26 (strI ex0)=some (⟨[⟨[112],1⟩],[⟨[116],2,0,[⟨0,1⟩],[],[⟨0,1⟩]⟩]⟩,Z4):=(p26_ok (bytes_str ex0) (by decide) (by kernel_rfl)).1
 unfold p25
 have e:strI ex0=[(112:Int),(108:Int),(97:Int),(99:Int),(101:Int),(32:Int),(112:Int),(32:Int),(61:Int),(32:Int),(49:Int),(59:Int),(32:Int),(116:Int),(114:Int),(97:Int),(110:Int),(115:Int),(32:Int),(116:Int),(32:Int),(64:Int),(50:Int),(58:Int),(32:Int),(112:Int),(32:Int),(45:Int),(62:Int),(32:Int),(112:Int),(59:Int)]:=rfl
 rw [← e,h]
 rfl
end Go.Proofs.Ytloaoofdbilpeaa
/- The law ParseBounds, plainly: texts at the bounds, and one beyond. Own work. -/
namespace Go.Proofs.Ytloaoofdbilpeaa
open Go Go.Am
set_option linter.unusedVariables false
set_option linter.unusedSimpArgs false
def pErr (r:TNet⊕(Int×Int)):Int:=match r with
 | .inl _=>0
 | .inr (e,_)=>e
def pOk (r:TNet⊕(Int×Int)):Bool:=match r with
 | .inl _=>true
 | .inr _=>false
theorem bd_more {t:List UInt8} (h:pErr (parseF (strI t))=5) (hl:t.length≤1000):p11_j2 true t=some true:=by
 unfold p11_j2
 rw [bytesI_ok (by omega)]
 simp only [Option.bind_some,if_true]
 cases hp:parseF (strI t) with
 | inl n=>rw [hp] at h; cases h
 | inr q=>
  obtain ⟨e,x⟩:=q
  rw [hp] at h
  obtain rfl:e=5:=h
  rw [p26_no (bytes_str t) (by unfold strI; rw [List.length_map]; omega) hp (by decide),p25_eq]
  simp only [Option.bind_some,if_true]
  rfl
theorem bd_fine {t:List UInt8} (h:pOk (parseF (strI t))=true) (hl:t.length≤1000):p11_j2 false t=some true:=by
 unfold p11_j2
 rw [bytesI_ok (by omega)]
 simp only [Option.bind_some]
 cases hp:parseF (strI t) with
 | inr n=>rw [hp] at h; cases h
 | inl n=>
  rw [(p26_ok (bytes_str t) (by unfold strI; rw [List.length_map]; omega) hp).1,p25_eq]
  rfl
noncomputable def bt0 (y:Int):List UInt8:=(iter (p11_l0 y) 40 ([],0)).getD []
noncomputable def bt1 (y:Int):List UInt8:=(iter (p11_l1 y) 40 ([],0)).getD []
noncomputable def bt2 (y:Int):List UInt8×List UInt8:=(iter (p11_l2 y) 40 ([],[116,114,97,110,115,32,116,58,32,45,62,32],0)).getD ([],[])
noncomputable def bt3 (y:Int):List UInt8:=(bt2 y).1++((bt2 y).2++[59])
theorem bd_loop {σ ρ:Type} {f:σ→Option (σ⊕ρ)} {s:σ} {d:ρ} {n:Nat} (h:(iter f n s).isSome=true):loopC f s=some ((iter f n s).getD d):=by
 cases e:iter f n s with
 | none=>rw [e] at h; cases h
 | some r=>exact loopC_iff.2 ⟨n,e⟩
theorem bd_a (x:Bool):p11_j2 x (bt0 (if x then 1 else 0))=some true:=by
 cases x
 ·exact bd_fine (by kernel_rfl) (Nat.le_of_ble_eq_true (by kernel_rfl))
 ·exact bd_more (by kernel_rfl) (Nat.le_of_ble_eq_true (by kernel_rfl))
theorem bd_b (x:Bool):p11_j2 x (bt1 (if x then 1 else 0))=some true:=by
 cases x
 ·exact bd_fine (by kernel_rfl) (Nat.le_of_ble_eq_true (by kernel_rfl))
 ·exact bd_more (by kernel_rfl) (Nat.le_of_ble_eq_true (by kernel_rfl))
theorem bd_c (x:Bool):p11_j2 x (bt3 (if x then 1 else 0))=some true:=by
 cases x
 ·exact bd_fine (by kernel_rfl) (Nat.le_of_ble_eq_true (by kernel_rfl))
 ·exact bd_more (by kernel_rfl) (Nat.le_of_ble_eq_true (by kernel_rfl))
theorem p11_j4_true (x0:Int) (x:Bool):p11_j4 x0 x (if x then 1 else 0)=some true:=by
 unfold p11_j4
 by_cases h0:Int.tmod x0 3=0
 ·rw [if_pos h0]
  have e:loopC (p11_l0 (if x then 1 else 0)) ([],0)=some (bt0 (if x then 1 else 0)):=bd_loop (d:=[]) (n:=40) (by cases x<;>kernel_rfl)
  rw [e]
  exact bd_a x
 ·rw [if_neg h0]
  by_cases h1:Int.tmod x0 3=1
  ·rw [if_pos h1]
   have e:loopC (p11_l1 (if x then 1 else 0)) ([],0)=some (bt1 (if x then 1 else 0)):=bd_loop (d:=[]) (n:=40) (by cases x<;>kernel_rfl)
   rw [e]
   exact bd_b x
  ·rw [if_neg h1]
   have e:loopC (p11_l2 (if x then 1 else 0)) ([],[116,114,97,110,115,32,116,58,32,45,62,32],0)=some (bt2 (if x then 1 else 0)):=bd_loop (d:=([],[])) (n:=40) (by cases x<;>kernel_rfl)
   rw [e]
   have e2:catS (bt2 (if x then 1 else 0)).2 [59]=some ((bt2 (if x then 1 else 0)).2++[59]):=by cases x<;>kernel_rfl
   have e3:catS (bt2 (if x then 1 else 0)).1 ((bt2 (if x then 1 else 0)).2++[59])=some (bt3 (if x then 1 else 0)):=by cases x<;>kernel_rfl
   show ((catS (bt2 (if x then 1 else 0)).2 [59]).bind fun s45=>(catS (bt2 (if x then 1 else 0)).1 s45).bind fun s46=>p11_j2 x s46)=some true
   rw [e2,Option.bind_some,e3,Option.bind_some]
   exact bd_c x
theorem p11_true (x0:Int) (x:Bool):p11 x0 x=some true:=by
 have h:=p11_j4_true x0 x
 unfold p11
 cases x
 ·exact h
 ·exact h
end Go.Proofs.Ytloaoofdbilpeaa
/- The law ParseBounds of the machine: whatever it is called with, it answers true. Own work. -/
namespace Go.Proofs.Ytloaoofdbilpeaa
open Go Go.Am
set_option linter.unusedVariables false
set_option linter.unusedSimpArgs false
theorem law_parseBounds:∀ h xs,TyAs [(.int .u8),.bool] h xs→ACalls F 11 xs h fun v _=>v=.bool true:=by
 intro h xs ht
 obtain ⟨a,b,rfl,⟨n1,e1,w1⟩,h4⟩:=ht
 obtain ⟨a2,b2,rfl,⟨x,e2⟩,h5⟩:=h4
 simp only [TyAs] at h5
 subst h5
 cases e1
 cases e2
 exact (r11 (p11_true _ _)).val fun v h' hq=>hq.1
end Go.Proofs.Ytloaoofdbilpeaa
