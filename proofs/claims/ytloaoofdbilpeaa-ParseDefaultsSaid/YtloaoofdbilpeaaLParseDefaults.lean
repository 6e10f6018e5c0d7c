/- The law ParseDefaults: its pure function answers true, whatever it is called with; so does the machine's function. No condition. Own work. -/
import Derived.Test.YtloaoofdbilpeaaPbParseDefaults
import Derived.Test.YtloaoofdbilpeaaPm2ParseDefaults
import Derived.Laws.RangeAny
import Derived.Laws.RangeString
import Derived.KernelRfl
/- Lexing, plainly: what the tokens of bytes are. Own work. -/
namespace Go.Proofs.Ytloaoofdbilpeaa
open Go Go.Am
set_option linter.unusedVariables false
set_option linter.unusedSimpArgs false
/-- A loop that is told how many rounds are left. -/
theorem loop_cnt {τ ρ:Type} {f:τ→Option (τ⊕ρ)} (n:Nat) (I:Nat→τ→Prop) (Q:ρ→Prop)
  (step:∀ k s,k < n→I k s→(∃ s',f s=some (.inl s')∧I (k+1) s')∨∃ r,f s=some (.inr r)∧Q r)
  (done:∀ s,I n s→∃ r,f s=some (.inr r)∧Q r) {s:τ} (h0:I 0 s):∃ r,loopC f s=some r∧Q r:=by
 suffices key:∀ d k s,k+d=n→I k s→∃ r,iter f (d+1) s=some r∧Q r by
  obtain ⟨r,h1,h2⟩:=key n 0 s (by omega) h0
  exact ⟨r,loopC_iff.2 ⟨_,h1⟩,h2⟩
 intro d
 induction d with
 | zero=>
  intro k s hk hI
  obtain rfl:k=n:=by omega
  obtain ⟨r,h1,h2⟩:=done s hI
  exact ⟨r,by simp only [iter,h1],h2⟩
 | succ d ih=>
  intro k s hk hI
  rcases step k s (by omega) hI with ⟨s',h1,h2⟩ | ⟨r,h1,h2⟩
  ·obtain ⟨r,h3,h4⟩:=ih (k+1) s' (by omega) h2
   exact ⟨r,by rw [iter]; simp only [h1]; exact h3,h4⟩
  ·exact ⟨r,by rw [iter]; simp only [h1],h2⟩
/-- All are bytes. -/
def Bytes (p:List Int):Prop:=∀ c,c∈p→0≤c∧c≤255
theorem Bytes.get {p:List Int} (h:Bytes p) {i:Nat} (hi:i < p.length):0≤p[i]∧p[i]≤255:=h _ (List.getElem_mem hi)
def isSm (c:Int):Bool:=decide (97≤c)&&decide (c≤122)
def isDg (c:Int):Bool:=decide (48≤c)&&decide (c≤57)
def isWd (c:Int):Bool:=isSm c||(isDg c||decide (c=46))
def isBl (c:Int):Bool:=decide (c=32)||(decide (c=9)||(decide (c=10)||decide (c=13)))
def isSg (c:Int):Bool:=decide (c=59)||(decide (c=58)||(decide (c=44)||(decide (c=42)||(decide (c=33)||(decide (c=126)||(decide (c=64)||decide (c=61)))))))
def nnl (c:Int):Bool:=!decide (c=10)
/-- Where a run of such ends. -/
def run (P:Int→Bool) (p:List Int) (i:Nat):Nat:=i+((p.drop i).takeWhile P).length
theorem run_step {P:Int→Bool} {p:List Int} {i:Nat} (hi:i < p.length):run P p i=if P p[i]=true then run P p (i+1) else i:=by
 unfold run
 rw [List.drop_eq_getElem_cons hi,List.takeWhile_cons]
 split
 ·simp; omega
 ·simp
theorem run_end {P:Int→Bool} {p:List Int} {i:Nat} (hi:p.length≤i):run P p i=i:=by
 unfold run
 rw [List.drop_eq_nil_of_le hi]; rfl
theorem run_ge (P:Int→Bool) (p:List Int) (i:Nat):i≤run P p i:=by unfold run; omega
theorem run_le {P:Int→Bool} {p:List Int} {i:Nat} (hi:i≤p.length):run P p i≤p.length:=by
 unfold run
 have:=List.Sublist.length_le (List.takeWhile_sublist P (l:=p.drop i))
 rw [List.length_drop] at this
 omega
/-- A number's value, as long as it is not too great. -/
def numv:List Int→Int→Option Int
 | [],n=>some n
 | d::l,n=>if 1125899906842624 < 10 * n+(d - 48) then none else numv l (10 * n+(d - 48))
def num (p:List Int) (i:Nat) (n:Int):Option Int:=numv ((p.drop i).takeWhile isDg) n
theorem num_step {p:List Int} {i:Nat} (hi:i < p.length) (n:Int):num p i n=if isDg p[i]=true then (if 1125899906842624 < 10 * n+(p[i] - 48) then none else num p (i+1) (10 * n+(p[i] - 48))) else some n:=by
 unfold num
 rw [List.drop_eq_getElem_cons hi,List.takeWhile_cons]
 split
 ·rfl
 ·rfl
theorem num_end {p:List Int} {i:Nat} (hi:p.length≤i) (n:Int):num p i n=some n:=by
 unfold num
 rw [List.drop_eq_nil_of_le hi]; rfl
/-- A token: kind, text, number, place. -/
structure Tok where
 k:Int
 s:List UInt8
 n:Int
 at_:Int
def textOf (p:List Int) (i j:Nat):List UInt8:=((p.take j).drop i).map u8
/-- One token: kind, end, number; or the error. -/
def oneS (p:List Int) (i:Nat):(Int×Nat×Int)⊕Int:=
 let c:=p.getD i 0
 if isSm c=true then .inl (1,run isWd p (i+1),0)
 else if isDg c=true then match num p i 0 with
  | some n=>.inl (2,run isDg p (i+1),n)
  | none=>.inr 3
 else if c=45∧p[i+1]? = some 62 then .inl (3,i+2,0)
 else if isSg c=true then .inl (3,i+1,0)
 else .inr 6
/-- One step: to where, with which token; or the error. -/
def stepS (p:List Int) (i:Nat):(Nat×List Tok)⊕Int:=
 let c:=p.getD i 0
 if isBl c=true then .inl (i+1,[])
 else if c=35 then .inl (run nnl p i,[])
 else match oneS p i with
  | .inl (k,e,n)=>.inl (e,[⟨k,textOf p i e,n,(i:Int)⟩])
  | .inr e=>.inr e
/-- From a place on, behind some tokens: all tokens; or the error, and where. -/
inductive LexR (p:List Int):Nat→List Tok→(List Tok×Int×Int)→Prop where
 | done {i:Nat} {l:List Tok}:i=p.length→LexR p i l (l++[⟨0,[],0,(p.length:Int)⟩],0,0)
 | go {i j:Nat} {l t:List Tok} {r:List Tok×Int×Int}:i < p.length→stepS p i=.inl (j,t)→LexR p j (l++t) r→LexR p i l r
 | err {i:Nat} {l:List Tok} {e:Int}:i < p.length→stepS p i=.inr e→LexR p i l ([],e,(i:Int))
theorem LexR.det {p:List Int} {i:Nat} {l:List Tok} {r r':List Tok×Int×Int} (h:LexR p i l r) (h':LexR p i l r'):r=r':=by
 induction h with
 | done e=>
  cases h' with
  | done _=>rfl
  | go h1 _ _=>omega
  | err h1 _=>omega
 | go h1 h2 _ ih=>
  cases h' with
  | done e=>omega
  | go _ k2 k3=>rw [h2] at k2; cases k2; exact ih k3
  | err _ k2=>rw [h2] at k2; cases k2
 | err h1 h2=>
  cases h' with
  | done e=>omega
  | go _ k2 _=>rw [h2] at k2; cases k2
  | err _ k2=>rw [h2] at k2; cases k2; rfl
theorem isDg_lt {c:Int} (h:isDg c=true):48≤c∧c≤57:=by
 simpa [isDg] using h
theorem oneS_gt {p:List Int} {i j:Nat} {k n:Int} (hi:i < p.length) (h:oneS p i=.inl (k,j,n)):i < j∧j≤p.length:=by
 unfold oneS at h
 simp only at h
 split at h
 ·cases h; exact ⟨Nat.lt_of_lt_of_le (Nat.lt_succ_self i) (run_ge _ _ _),run_le (by omega)⟩
 ·split at h
  ·split at h
   ·cases h; exact ⟨Nat.lt_of_lt_of_le (Nat.lt_succ_self i) (run_ge _ _ _),run_le (by omega)⟩
   ·cases h
  ·split at h
   ·rename_i h1
    cases h
    have:=(List.getElem?_eq_some_iff.1 h1.2).1
    omega
   ·split at h
    ·cases h; omega
    ·cases h
theorem getD_of {p:List Int} {i:Nat} (hi:i < p.length):p.getD i 0=p[i]:=by
 rw [List.getD_eq_getElem?_getD,List.getElem?_eq_getElem hi]; rfl
theorem stepS_gt {p:List Int} {i j:Nat} {t:List Tok} (hi:i < p.length) (h:stepS p i=.inl (j,t)):i < j∧j≤p.length∧t.length≤1:=by
 unfold stepS at h
 simp only at h
 split at h
 ·cases h; simp; omega
 ·split at h
  ·rename_i h1
   cases h
   rw [getD_of hi] at h1
   have:run nnl p i=run nnl p (i+1):=by rw [run_step hi,if_pos (by rw [h1]; decide)]
   rw [this]
   exact ⟨Nat.lt_of_lt_of_le (Nat.lt_succ_self i) (run_ge _ _ _),run_le (by omega),by simp⟩
  ·split at h
   ·rename_i h1
    cases h
    obtain ⟨g1,g2⟩:=oneS_gt hi h1
    exact ⟨g1,g2,by simp⟩
   ·cases h
/-! ### the program's small functions -/
theorem p37_eq (c:Int):p37 c=some (isSm c):=by
 unfold p37 p37_j0 isSm
 split<;>rename_i h<;>simp [h]
theorem p38_eq (c:Int):p38 c=some (isDg c):=by
 unfold p38 p38_j0 isDg
 split<;>rename_i h<;>simp [h]
theorem p48_eq (s:List UInt8) (c:Int):p48 s c=some (idxB s c):=rfl
theorem indexByte_eq (c:UInt8):∀ s:List UInt8,Go.Lib.indexByte s c=if c∈s then ((s.takeWhile (fun b=>b != c)).length:Int) else -1
 | []=>rfl
 | b::s=>by
  unfold Go.Lib.indexByte
  rw [indexByte_eq c s]
  by_cases h:b=c
  ·subst h; simp
  ·have h1:(b==c)=false:=by simpa using h
   have h2:(b != c)=true:=by simpa using h
   rw [h1,List.takeWhile_cons,h2]
   simp only [Bool.false_eq_true,if_false,if_true,List.length_cons]
   by_cases hm:c∈s
   ·rw [if_pos hm,if_pos (List.mem_cons_of_mem _ hm)]
    have:((((s.takeWhile (fun b=>b != c)).length:Nat):Int)==-1)=false:=by
     rw [beq_eq_false_iff_ne]; omega
    rw [this]; simp
   ·have hm':¬ c∈b::s:=by
     intro hh
     rcases List.mem_cons.1 hh with e | hh
     ·exact h e.symm
     ·exact hm hh
    rw [if_neg hm,if_neg hm']; rfl
theorem u8_inj {a b:Int} (ha:0≤a∧a≤255) (hb:0≤b∧b≤255):a.toNat.toUInt8=b.toNat.toUInt8↔a=b:=by
 constructor
 ·intro h
  have:=congrArg UInt8.toNat h
  simp only [Nat.toUInt8,UInt8.toNat_ofNat'] at this
  omega
 ·rintro rfl; rfl
theorem mem_u8 {s:List Int} (hs:Bytes s) {c:Int} (hc:0≤c∧c≤255):c.toNat.toUInt8∈s.map (fun x=>x.toNat.toUInt8)↔c∈s:=by
 rw [List.mem_map]
 constructor
 ·rintro ⟨a,h1,h2⟩
  rw [(u8_inj (hs a h1) hc).1 h2] at h1
  exact h1
 ·intro h; exact ⟨c,h,rfl⟩
theorem idxB_ge {s:List UInt8} {c:Int}:0≤idxB s c↔c.toNat.toUInt8∈s:=by
 unfold idxB
 rw [indexByte_eq]
 split
 ·rename_i h; simp [h]
 ·rename_i h; simp [h]
theorem p48_bl {c:Int} (hc:0≤c∧c≤255):0≤idxB ([32,9,13,10]:List UInt8) c↔isBl c=true:=by
 rw [idxB_ge,show ([32,9,13,10]:List UInt8)=([32,9,13,10]:List Int).map (fun x=>x.toNat.toUInt8) from rfl,mem_u8 (by intro x hx; simp at hx; omega) hc]
 simp [isBl]
 omega
theorem p48_sg {c:Int} (hc:0≤c∧c≤255):0≤idxB ([59,58,44,42,33,126,64,61]:List UInt8) c↔isSg c=true:=by
 rw [idxB_ge,show ([59,58,44,42,33,126,64,61]:List UInt8)=([59,58,44,42,33,126,64,61]:List Int).map (fun x=>x.toNat.toUInt8) from rfl,mem_u8 (by intro x hx; simp at hx; omega) hc]
 simp [isSg]
end Go.Proofs.Ytloaoofdbilpeaa
/- The program's lexer, plainly. Own work. -/
namespace Go.Proofs.Ytloaoofdbilpeaa
open Go Go.Am
set_option linter.unusedVariables false
set_option linter.unusedSimpArgs false
theorem slc_ok {α:Type} {l:List α} {i j:Nat} (h:i≤j) (hj:j≤l.length):slc l (i:Int) (j:Int)=some ((l.take j).drop i):=by
 unfold slc
 rw [if_pos (by omega)]
 simp
theorem take_nl {p:List Int} (hp:Bytes p) (i:Nat):((p.drop i).map (fun x=>x.toNat.toUInt8)).takeWhile (fun b=>b != (10:Int).toNat.toUInt8)=((p.drop i).takeWhile nnl).map (fun x=>x.toNat.toUInt8):=by
 have:∀ q:List Int,Bytes q→(q.map (fun x=>x.toNat.toUInt8)).takeWhile (fun b=>b != (10:Int).toNat.toUInt8)=(q.takeWhile nnl).map (fun x=>x.toNat.toUInt8):=by
  intro q hq
  induction q with
  | nil=>rfl
  | cons c q ih=>
   have hc:=hq c (by simp)
   have ih:=ih (fun x hx=>hq x (by simp [hx]))
   rw [List.map_cons,List.takeWhile_cons,List.takeWhile_cons]
   by_cases h:c=10
   ·subst h; rfl
   ·have h1:(c.toNat.toUInt8 != (10:Int).toNat.toUInt8)=true:=by
     rw [bne_iff_ne]
     intro e
     exact h ((u8_inj hc (by omega)).1 e)
    have h2:nnl c=true:=by simp [nnl,h]
    rw [h1,h2]
    simp only [if_true,List.map_cons,ih]
 exact this _ (fun c hc=>hp c (List.mem_of_mem_drop hc))
theorem u8_eq:(fun x:Int=>x.toNat.toUInt8)=u8:=by
 funext x; rfl
/-- A line's end from a place on: none; or where. -/
theorem nl_idx {p:List Int} (hp:Bytes p) {i:Nat} (hi:i≤p.length):(idxB ((p.drop i).map u8) 10 < 0∧run nnl p i=p.length)∨(idxB ((p.drop i).map u8) 10=((run nnl p i - i:Nat):Int)∧∃ h:run nnl p i < p.length,p[run nnl p i]=10):=by
 unfold idxB
 have hmu:=mem_u8 (s:=p.drop i) (c:=10) (fun c hc=>hp c (List.mem_of_mem_drop hc)) (by omega)
 rw [indexByte_eq,← u8_eq,take_nl hp,List.length_map]
 by_cases hm:(10:Int)∈p.drop i
 ·rw [if_pos (hmu.2 hm)]
  right
  refine ⟨by unfold run; rw [Nat.add_sub_cancel_left],?_⟩
  have key:∀ q:List Int,(10:Int)∈q→∃ h:(q.takeWhile nnl).length < q.length,q[(q.takeWhile nnl).length]=10:=by
   intro q hq
   induction q with
   | nil=>cases hq
   | cons c q ih=>
    rw [List.takeWhile_cons]
    by_cases h:c=10
    ·subst h; exact ⟨by simp [nnl],by simp [nnl]⟩
    ·have h2:nnl c=true:=by simp [nnl,h]
     obtain ⟨g1,g2⟩:=ih (by rcases List.mem_cons.1 hq with e | e; exact absurd e.symm h; exact e)
     simp only [h2,if_true,List.length_cons,List.getElem_cons_succ]
     exact ⟨by omega,g2⟩
  obtain ⟨g1,g2⟩:=key _ hm
  rw [List.length_drop] at g1
  refine ⟨by unfold run; omega,?_⟩
  rw [List.getElem_drop] at g2
  exact g2
 ·rw [if_neg (fun h=>hm (hmu.1 h))]
  left
  refine ⟨by omega,?_⟩
  have key:∀ q:List Int,¬ (10:Int)∈q→q.takeWhile nnl=q:=by
   intro q hq
   induction q with
   | nil=>rfl
   | cons c q ih=>
    have h2:nnl c=true:=by
     simp only [nnl,Bool.not_eq_true',decide_eq_false_iff_not]
     rintro rfl
     exact hq (by simp)
    rw [List.takeWhile_cons,h2]
    simp only [if_true]
    rw [ih (fun h=>hq (by simp [h]))]
  unfold run
  rw [key _ hm,List.length_drop]; omega
/-- The blanks. -/
theorem p31_eq {p:List Int} (hp:Bytes p) (hl:p.length≤1000000) {i:Nat} (hi:i≤p.length) :
  ∃ j:Nat,p31 p (i:Int)=some (j:Int)∧i≤j∧j≤p.length∧(∀ l r,LexR p j l r→LexR p i l r)∧(∀ h:j < p.length,isBl p[j]=false∧p[j]≠35):=by
 have key:∃ r,loopC (p31_l0 p) (i:Int)=some r∧∃ j:Nat,(r=.inl (j:Int)∨r=.inr (j:Int))∧i≤j∧j≤p.length∧(∀ l r,LexR p j l r→LexR p i l r)∧(∀ h:j < p.length,isBl p[j]=false∧p[j]≠35):=by
  refine loop_cnt (p.length - i) (fun k s=>∃ j:Nat,s=(j:Int)∧i+k≤j∧j≤p.length∧∀ l r,LexR p j l r→LexR p i l r) _ ?_ ?_ ⟨i,rfl,by omega,hi,fun _ _ h=>h⟩
  ·rintro k _ hk ⟨j,rfl,h1,h2,h3⟩
   unfold p31_l0
   by_cases hj:j < p.length
   ·have hb:=hp.get hj
    rw [if_pos (by omega),idx_get hj]
    simp only [Option.bind_some,p48_eq]
    by_cases hbl:isBl p[j]=true
    ·rw [if_pos ((p48_bl hb).2 hbl)]
     refine .inl ⟨_,rfl,j+1,by rw [wrap64 (by omega) (by omega)]; rfl,by omega,by omega,fun l r h=>h3 l r (.go hj (t:=[]) (j:=j+1) ?_ (by simpa using h))⟩
     unfold stepS
     simp only [getD_of hj]
     rw [if_pos hbl]
    ·rw [if_neg (fun h=>hbl ((p48_bl hb).1 h))]
     by_cases hc:p[j]=35
     ·rw [if_pos hc,slc_ok (Nat.le_of_lt hj) (Nat.le_refl _),List.take_length]
      simp only [Option.bind_some]
      have hst:stepS p j=.inl (run nnl p j,[]):=by
       unfold stepS
       simp only [getD_of hj]
       rw [if_neg hbl,if_pos hc]
      obtain ⟨hg1,hg2,_⟩:=stepS_gt hj hst
      rcases nl_idx hp (Nat.le_of_lt hj) with ⟨g1,g2⟩ | ⟨g1,g2,g3⟩
      ·rw [if_pos g1]
       refine .inr ⟨_,rfl,p.length,.inl rfl,by omega,Nat.le_refl _,fun l r h=>h3 l r (.go hj hst (by rw [g2]; simpa using h)),fun h=>absurd h (by omega)⟩
      ·rw [g1,if_neg (by omega)]
       refine .inl ⟨_,rfl,run nnl p j,by rw [wrap64 (by omega) (by omega)]; omega,by omega,hg2,fun l r h=>h3 l r (.go hj hst (by simpa using h))⟩
     ·rw [if_neg hc]
      exact .inr ⟨_,rfl,j,.inl rfl,by omega,h2,h3,fun _=>⟨by simpa using hbl,hc⟩⟩
   ·rw [if_neg (by omega)]
    exact .inr ⟨_,rfl,j,.inr rfl,by omega,h2,h3,fun h=>absurd h hj⟩
  ·rintro _ ⟨j,rfl,h1,h2,h3⟩
   unfold p31_l0
   rw [if_neg (by omega)]
   exact ⟨_,rfl,j,.inr rfl,by omega,h2,h3,fun h=>absurd h (by omega)⟩
 obtain ⟨r,h1,j,h2,h3⟩:=key
 refine ⟨j,?_,h3⟩
 unfold p31
 rw [h1]
 rcases h2 with rfl | rfl<;>rfl
/-- A run of a word's bytes. -/
theorem p32_word {p:List Int} (hl:p.length≤1000000) {i:Nat} (hi:i≤p.length):loopC (p32_l0 p) (i:Int)=some ((run isWd p i:Nat):Int):=by
 obtain ⟨r,h1,h2⟩:∃ r,loopC (p32_l0 p) (i:Int)=some r∧r=((run isWd p i:Nat):Int):=by
  refine loop_cnt (p.length - i) (fun k s=>s=((i+k:Nat):Int)∧run isWd p i=run isWd p (i+k)) _ ?_ ?_ ⟨rfl,rfl⟩
  ·rintro k _ hk ⟨rfl,h⟩
   have hj:i+k < p.length:=by omega
   rw [run_step hj] at h
   unfold p32_l0
   rw [if_pos (by omega),idx_get hj]
   simp only [Option.bind_some,p37_eq,p38_eq]
   have fin:∀ b:Bool,b=isWd p[i+k]→(∃ s',p32_j1 ((i+k:Nat):Int) b=some (.inl s')∧s'=((i+(k+1):Nat):Int)∧run isWd p i=run isWd p (i+(k+1)))∨∃ r,p32_j1 ((i+k:Nat):Int) b=some (.inr r)∧r=((run isWd p i:Nat):Int):=by
    rintro b rfl
    unfold p32_j1
    cases hw:isWd p[i+k] with
    | true=>
     rw [if_pos rfl]
     rw [hw,if_pos rfl] at h
     exact .inl ⟨_,rfl,by rw [wrap64 (by omega) (by omega)]; omega,h⟩
    | false=>
     rw [if_neg (by simp)]
     rw [hw,if_neg (by simp)] at h
     exact .inr ⟨_,rfl,by rw [h]⟩
   unfold p32_j3 p32_j2
   cases hs:isSm p[i+k] with
   | true=>
    rw [if_pos rfl,if_pos rfl]
    exact fin _ (by simp [isWd,hs])
   | false=>
    rw [if_neg (by simp)]
    cases hd:isDg p[i+k] with
    | true=>
     rw [if_pos rfl]
     exact fin _ (by simp [isWd,hs,hd])
    | false=>
     rw [if_neg (by simp),idx_get hj]
     exact fin _ (by simp [isWd,hs,hd])
  ·rintro _ ⟨rfl,h⟩
   rw [run_end (i:=i+(p.length - i)) (by omega)] at h
   unfold p32_l0 p32_j1
   rw [if_neg (by omega),if_neg (by simp)]
   exact ⟨_,rfl,by rw [h]⟩
 rw [h1,h2]
/-- A run of digits, and their number. -/
theorem p32_num {p:List Int} (hl:p.length≤1000000) {i:Nat} (hi:i≤p.length) {n:Int} (h0:0≤n) (h1:n≤1125899906842624) :
  ∃ r,loopC (p32_l1 p) ((i:Int),n)=some r∧(match num p i n with | some m=>r=.inr ((run isDg p i:Nat),m) | none=>∃ u,r=.inl u):=by
 refine loop_cnt (p.length - i) (fun k s=>∃ m:Int,s=(((i+k:Nat):Int),m)∧0≤m∧m≤1125899906842624∧run isDg p i=run isDg p (i+k)∧num p i n=num p (i+k) m) _ ?_ ?_ ⟨n,rfl,h0,h1,rfl,rfl⟩
 ·rintro k _ hk ⟨m,rfl,g0,g1,g2,g3⟩
  have hj:i+k < p.length:=by omega
  rw [run_step hj] at g2
  rw [num_step hj] at g3
  unfold p32_l1
  simp only
  rw [if_pos (by omega),idx_get hj]
  simp only [Option.bind_some,p38_eq]
  unfold p32_j4
  cases hd:isDg p[i+k] with
  | true=>
   have hb:=isDg_lt hd
   rw [if_pos rfl,idx_get hj]
   simp only [Option.bind_some]
   have e1:IntKind.wrap .u8 (p[i+k] - 48)=p[i+k] - 48:=IntWalk.u8_in _ (by omega)
   rw [e1,wrap64 (n:=10 * m) (by omega) (by omega),wrap64 (n:=p[i+k] - 48) (by omega) (by omega),wrap64 (by omega) (by omega)]
   rw [hd,if_pos rfl] at g2 g3
   by_cases hc:1125899906842624 < 10 * m+(p[i+k] - 48)
   ·rw [if_pos hc] at g3 ⊢
    refine .inr ⟨_,rfl,?_⟩
    rw [g3]
    exact ⟨_,rfl⟩
   ·rw [if_neg hc] at g3 ⊢
    exact .inl ⟨_,rfl,10 * m+(p[i+k] - 48),by rw [wrap64 (by omega) (by omega)]; rfl,by omega,by omega,g2,g3⟩
  | false=>
   rw [if_neg (by simp)]
   rw [hd,if_neg (by simp)] at g2 g3
   refine .inr ⟨_,rfl,?_⟩
   rw [g3,g2]
 ·rintro _ ⟨m,rfl,g0,g1,g2,g3⟩
  rw [run_end (i:=i+(p.length - i)) (by omega)] at g2
  rw [num_end (i:=i+(p.length - i)) (by omega)] at g3
  unfold p32_l1 p32_j4
  simp only
  rw [if_neg (by omega),if_neg (by simp)]
  refine ⟨_,rfl,?_⟩
  rw [g3,g2]
end Go.Proofs.Ytloaoofdbilpeaa
/- Lines and columns, plainly. Own work. -/
namespace Go.Proofs.Ytloaoofdbilpeaa
open Go Go.Am
set_option linter.unusedVariables false
set_option linter.unusedSimpArgs false
/-- Where the last line's end ahead of a place stands. -/
def lastN (p:List Int):Nat→Int
 | 0=>-1
 | i+1=>if p[i]? = some 10 then (i:Int) else lastN p i
/-- How many lines' ends stand ahead of a place. -/
def cntN (p:List Int):Nat→Nat
 | 0=>0
 | i+1=>cntN p i+if p[i]? = some 10 then 1 else 0
theorem lastN_succ (p:List Int) (i:Nat):lastN p (i+1)=if p[i]? = some 10 then (i:Int) else lastN p i:=rfl
theorem cntN_succ (p:List Int) (i:Nat):cntN p (i+1)=cntN p i+if p[i]? = some 10 then 1 else 0:=rfl
theorem lastN_lt (p:List Int):∀ i:Nat,-1≤lastN p i∧lastN p i < (i:Int)
 | 0=>⟨Int.le_refl _,by show (-1:Int) < 0; omega⟩
 | i+1=>by
  have:=lastN_lt p i
  unfold lastN
  split<;>omega
theorem cntN_le (p:List Int):∀ i:Nat,cntN p i≤i
 | 0=>Nat.le_refl _
 | i+1=>by
  have:=cntN_le p i
  unfold cntN
  split<;>omega
theorem u8_nat {c:Int} (hc:0≤c∧c≤255):((u8 c).toNat:Int)=c:=by
 unfold u8
 simp only [UInt8.toNat_ofNat']
 omega
theorem p52_eq {p:List Int} (hp:Bytes p) (hl:p.length≤1000000) {i:Nat} (hi:i≤p.length):p52 ((p.take i).map u8) 10=some (lastN p i):=by
 have hlen:((p.take i).map u8).length=i:=by simp; omega
 unfold p52
 rw [hlen,wrap64 (by omega) (by omega)]
 obtain ⟨r,h1,h2⟩:∃ r,loopC (p52_l0 ((p.take i).map u8) 10) ((i:Int) - 1)=some r∧(r=.inl (lastN p i)∨(r=.inr ()∧lastN p i = -1)):=by
  refine loop_cnt i (fun d (st:Int)=>st=(i:Int) - d - 1∧lastN p i=lastN p (i - d)) _ ?_ ?_ ⟨by omega,rfl⟩
  ·rintro d _ hd ⟨rfl,h⟩
   obtain ⟨j,hj⟩:∃ j,i - d=j+1:=⟨i - d - 1,by omega⟩
   have e1:(i:Int) - d - 1=(j:Int):=by omega
   have hjp:j < p.length:=by omega
   rw [hj] at h
   rw [lastN_succ,List.getElem?_eq_getElem hjp] at h
   unfold p52_l0
   rw [e1,if_pos (by omega)]
   have hix:idxS ((p.take i).map u8) (j:Int)=some p[j]:=by
    unfold idxS
    rw [if_pos (by omega),Int.toNat_natCast,List.getElem?_map,List.getElem?_take,if_pos (by omega),List.getElem?_eq_getElem hjp]
    simp only [Option.map_some]
    rw [u8_nat (hp.get hjp)]
   rw [hix]
   simp only [Option.bind_some]
   by_cases hc:p[j]=10
   ·rw [if_pos hc]
    rw [if_pos (by rw [hc])] at h
    exact .inr ⟨_,rfl,.inl (by rw [h])⟩
   ·rw [if_neg hc]
    rw [if_neg (fun e=>hc (Option.some.inj e))] at h
    refine .inl ⟨_,rfl,?_,?_⟩
    ·rw [wrap64 (by omega) (by omega)]; omega
    ·rw [h,show i - (d+1)=j by omega]
  ·rintro _ ⟨rfl,h⟩
   rw [Nat.sub_self] at h
   unfold p52_l0
   rw [if_neg (by omega)]
   exact ⟨_,rfl,.inr ⟨rfl,h⟩⟩
 rw [h1]
 rcases h2 with rfl | ⟨rfl,h⟩
 ·rfl
 ·rw [h]; rfl
theorem cntB_eq {p:List Int} (hp:Bytes p):∀ {i:Nat},i≤p.length→cntB ((p.take i).map u8) 10=(cntN p i:Int)
 | 0,_=>rfl
 | i+1,hi=>by
  have ih:=cntB_eq hp (i:=i) (by omega)
  have hj:i < p.length:=by omega
  unfold cntB Go.Lib.countByte at ih ⊢
  rw [List.take_succ_eq_append_getElem hj,List.map_append,List.count_append]
  rw [cntN_succ,List.getElem?_eq_getElem hj]
  have:([p[i]].map u8).count (10:Int).toNat.toUInt8=if some p[i]=some 10 then 1 else 0:=by
   rw [List.map_singleton,List.count_singleton]
   by_cases hc:p[i]=10
   ·rw [hc]; rfl
   ·have h1:¬ (u8 p[i]=(10:Int).toNat.toUInt8):=fun e=>hc ((u8_inj (hp.get hj) (by omega)).1 e)
    rw [if_neg (by simpa using h1),if_neg (fun e=>hc (Option.some.inj e))]
  rw [this]
  omega
theorem p21_eq {p:List Int} (hp:Bytes p) (hl:p.length≤1000000) (a:Int) {i:Nat} (hi:i≤p.length) (ha:(if (p.length:Int) < (if a < (0:Int) then (0:Int) else a) then (p.length:Int) else (if a < (0:Int) then (0:Int) else a))=(i:Int)) :
  p21 p a=some (1+(cntN p i:Int),(i:Int) - lastN p i):=by
 have b1:=lastN_lt p i
 have b2:=cntN_le p i
 unfold p21
 rw [ha,show (0:Int)=((0:Nat):Int) from rfl,slc_ok (Nat.zero_le i) hi,List.drop_zero]
 simp only [Option.bind_some]
 have h35:p35 ((p.take i).map u8) [10]=some (cntN p i:Int):=by
  unfold p35
  rw [if_neg (by simp),if_pos (by simp),show idxS ([10]:List UInt8) 0=some 10 from rfl]
  simp only [Option.bind_some]
  rw [cntB_eq hp hi]
 rw [h35]
 simp only [Option.bind_some]
 unfold p36
 rw [p52_eq hp hl hi]
 simp only [Option.bind_some]
 rw [wrap64 (by omega) (by omega),wrap64 (by omega) (by omega)]
 congr 2
 omega
theorem p22_eq {p:List Int} (hp:Bytes p) (hl:p.length≤1000000) (e:Int) {i:Nat} (hi:i≤p.length):p22 p e (i:Int)=some ⟨e,(i:Int),1+(cntN p i:Int),(i:Int) - lastN p i⟩:=by
 unfold p22
 rw [p21_eq hp hl (i:Int) hi (by rw [if_neg (show ¬ (i:Int) < 0 by omega),if_neg (by omega)])]
 rfl
end Go.Proofs.Ytloaoofdbilpeaa
/- The program's tokens are the document's, plainly. Own work. -/
namespace Go.Proofs.Ytloaoofdbilpeaa
open Go Go.Am
set_option linter.unusedVariables false
set_option linter.unusedSimpArgs false
/-- One token by the program. -/
theorem p32_eq {p:List Int} (hp:Bytes p) (hl:p.length≤1000000) {i:Nat} (hi:i < p.length):p32 p (i:Int)=match oneS p i with
  | .inl (k,j,n)=>some (⟨k,textOf p i j,n,(i:Int)⟩,0)
  | .inr e=>some (⟨0,[],0,0⟩,e):=by
 have hb:=hp.get hi
 have put:∀ (j:Nat) (k n:Int),i≤j→j≤p.length→p32_j0 p (i:Int) (j:Int) k n=some (⟨k,textOf p i j,n,(i:Int)⟩,0):=by
  intro j k n h1 h2
  unfold p32_j0
  rw [slc_ok h1 h2]; rfl
 have hw1:IntKind.wrap .i64 ((i:Int)+1)=((i+1:Nat):Int):=by rw [wrap64 (by omega) (by omega)]; rfl
 have hw2:IntKind.wrap .i64 (((i+1:Nat):Int)+1)=((i+2:Nat):Int):=by rw [wrap64 (by omega) (by omega)]; rfl
 unfold p32 oneS
 simp only [getD_of hi]
 rw [idx_get hi]
 simp only [Option.bind_some,p37_eq,p38_eq]
 rw [hw1]
 by_cases hs:isSm p[i]=true
 ·rw [if_pos hs,if_pos hs,p32_word hl (by omega)]
  simp only [Option.bind_some]
  exact put _ _ _ (Nat.le_trans (Nat.le_succ i) (run_ge _ _ _)) (run_le (by omega))
 rw [if_neg hs,if_neg hs]
 by_cases hd:isDg p[i]=true
 ·rw [if_pos hd,if_pos hd]
  have hb2:=isDg_lt hd
  have e1:IntKind.wrap .u8 (p[i] - 48)=p[i] - 48:=IntWalk.u8_in _ (by omega)
  rw [e1,wrap64 (n:=p[i] - 48) (by omega) (by omega)]
  obtain ⟨r,h1,h2⟩:=p32_num hl (i:=i+1) (by omega) (n:=p[i] - 48) (by omega) (by omega)
  have hn:=num_step hi 0
  rw [if_pos hd,if_neg (by omega),show (10:Int) * 0+(p[i] - 48)=p[i] - 48 by omega] at hn
  rw [h1,hn]
  simp only [Option.bind_some]
  cases hv:num p (i+1) (p[i] - 48) with
  | none=>
   rw [hv] at h2
   obtain ⟨u,rfl⟩:=h2
   rfl
  | some m=>
   rw [hv] at h2
   subst h2
   exact put _ _ _ (Nat.le_trans (Nat.le_succ i) (run_ge _ _ _)) (run_le (by omega))
 rw [if_neg hd,if_neg hd]
 have last:∀ b:Bool,b=decide (p[i]=45∧p[i+1]? = some 62)→p32_j5 p (i:Int) p[i] b=match (if p[i]=45∧p[i+1]? = some 62 then Sum.inl (3,i+2,0) else if isSg p[i]=true then Sum.inl (3,i+1,0) else Sum.inr 6:(Int×Nat×Int)⊕Int) with
  | .inl (k,j,n)=>some (⟨k,textOf p i j,n,(i:Int)⟩,0)
  | .inr e=>some (⟨0,[],0,0⟩,e):=by
  rintro b rfl
  unfold p32_j5
  rw [hw1,hw2]
  by_cases h:p[i]=45∧p[i+1]? = some 62
  ·have:=(List.getElem?_eq_some_iff.1 h.2).1
   rw [if_pos (by simpa using h),if_pos h]
   exact put _ _ _ (by omega) (by omega)
  ·rw [if_neg (by simpa using h),if_neg h]
   simp only [p48_eq,Option.bind_some]
   by_cases hg:isSg p[i]=true
   ·rw [if_pos ((p48_sg hb).2 hg),if_pos hg]
    exact put _ _ _ (by omega) (by omega)
   ·rw [if_neg (fun h=>hg ((p48_sg hb).1 h)),if_neg hg]
 by_cases hm:p[i]=45
 ·rw [if_pos hm]
  unfold p32_j6
  by_cases hj:i+1 < p.length
  ·rw [if_pos (by simp; omega),hw1,idx_get hj]
   simp only [Option.bind_some]
   exact last _ (by simp [hm,List.getElem?_eq_getElem hj])
  ·rw [if_neg (by simp; omega)]
   exact last _ (by simp [List.getElem?_eq_none (Nat.le_of_not_lt hj)])
 ·rw [if_neg hm]
  unfold p32_j6
  rw [if_neg (by simp)]
  exact last _ (by simp [hm])
def tokL (t:TTokenlex):Tok:=⟨t.Kind,t.Text,t.N,t.At⟩
def tokR (t:TToken):Tok:=⟨t.Kind,t.Text,t.N,t.At⟩
theorem oneS_err {p:List Int} {i:Nat} {e:Int} (h:oneS p i=.inr e):e=3∨e=6:=by
 unfold oneS at h
 simp only at h
 repeat' split at h
 all_goals first | (cases h; done) | (cases h; simp)
theorem stepS_err {p:List Int} {i:Nat} {e:Int} (h:stepS p i=.inr e):e=3∨e=6:=by
 unfold stepS at h
 simp only at h
 split at h
 ·cases h
 ·split at h
  ·cases h
  ·split at h
   ·cases h
   ·rename_i h1; cases h; exact oneS_err h1
theorem stepS_one {p:List Int} {i:Nat} (hi:i < p.length) (h1:isBl p[i]=false) (h2:p[i]≠35):stepS p i=match oneS p i with
  | .inl (k,e,n)=>.inl (e,[⟨k,textOf p i e,n,(i:Int)⟩])
  | .inr e=>.inr e:=by
 unfold stepS
 simp only [getD_of hi]
 rw [if_neg (by simp [h1]),if_neg h2]
 all_goals (cases oneS p i<;>rfl)
theorem text_len {p:List Int} {i j:Nat} (h:i≤j) (hj:j≤p.length):(textOf p i j).length=j - i:=by
 unfold textOf
 simp; omega
/-- The program's lexer: the tokens, or a fault where the first one is. -/
theorem p18_eq {p:List Int} (hp:Bytes p) (hl:p.length≤1000000):∃ r,p18 p=some r∧∃ L e a,LexR p 0 [] (L,e,a)∧
  ((e=0∧r.2=⟨0,0,0,0⟩∧r.1.map tokL=L)∨(e≠0∧∃ i:Nat,i≤p.length∧a=(i:Int)∧r=([],⟨e,(i:Int),1+(cntN p i:Int),(i:Int) - lastN p i⟩))):=by
 have key:∃ r,loopC (p18_l0 p) ((0:Int),[])=some r∧∃ L e a,LexR p 0 [] (L,e,a)∧
   ((e=0∧r.2=(0,0,0,0)∧r.1.map tokL=L)∨(e≠0∧∃ i:Nat,i≤p.length∧a=(i:Int)∧r=([],e,(i:Int),1+(cntN p i:Int),(i:Int) - lastN p i))):=by
  have round:∀ (i:Nat) (l:List TTokenlex),i≤p.length→l.length≤i→(∀ r,LexR p i (l.map tokL) r→LexR p 0 [] r)→
    (∃ (j:Nat) (l':List TTokenlex),p18_l0 p ((i:Int),l)=some (.inl ((j:Int),l'))∧i < j∧j≤p.length∧l'.length≤j∧∀ r,LexR p j (l'.map tokL) r→LexR p 0 [] r)∨
    ∃ r,p18_l0 p ((i:Int),l)=some (.inr r)∧∃ L e a,LexR p 0 [] (L,e,a)∧
     ((e=0∧r.2=(0,0,0,0)∧r.1.map tokL=L)∨(e≠0∧∃ i:Nat,i≤p.length∧a=(i:Int)∧r=([],e,(i:Int),1+(cntN p i:Int),(i:Int) - lastN p i))):=by
   intro i l hi hll hr
   obtain ⟨j,h1,h2,h3,h4,h5⟩:=p31_eq hp hl hi
   unfold p18_l0
   simp only
   rw [h1]
   simp only [Option.bind_some]
   by_cases hj:j=p.length
   ·subst hj
    rw [if_pos rfl,app_ok (by simp; omega)]
    refine .inr ⟨_,rfl,_,0,0,hr _ (h4 _ _ (.done rfl)),.inl ⟨rfl,rfl,?_⟩⟩
    simp [tokL]
   ·have hj':j < p.length:=by omega
    obtain ⟨g1,g2⟩:=h5 hj'
    have hst:=stepS_one hj' g1 g2
    rw [if_neg (by omega),p32_eq hp hl hj']
    cases ho:oneS p j with
    | inr e=>
     rw [ho] at hst
     simp only [Option.bind_some]
     have he:=oneS_err ho
     rw [if_pos (by simp; omega),p22_eq hp hl e (Nat.le_of_lt hj')]
     exact .inr ⟨_,rfl,[],e,_,hr _ (h4 _ _ (.err hj' hst)),.inr ⟨by omega,j,Nat.le_of_lt hj',rfl,rfl⟩⟩
    | inl q=>
     obtain ⟨k,e,n⟩:=q
     rw [ho] at hst
     obtain ⟨g3,g4⟩:=oneS_gt hj' ho
     simp only [Option.bind_some]
     rw [if_neg (by simp),app_ok (by simp; omega)]
     simp only [Option.bind_some]
     have hlen:=text_len (p:=p) (Nat.le_of_lt g3) g4
     refine .inl ⟨e,l++[⟨k,textOf p j e,n,(j:Int)⟩],?_,by omega,g4,by simp; omega,fun r h=>hr _ (h4 _ _ (.go hj' hst ?_))⟩
     ·rw [hlen,wrap64 (by omega) (by omega),show (j:Int)+((e - j:Nat):Int)=(e:Int) by omega]
     ·simpa [tokL] using h
  refine loop_cnt p.length (fun k st=>∃ (i:Nat) (l:List TTokenlex),st=((i:Int),l)∧k≤i∧i≤p.length∧l.length≤i∧∀ r,LexR p i (l.map tokL) r→LexR p 0 [] r) _ ?_ ?_ ⟨0,[],rfl,Nat.le_refl _,Nat.zero_le _,Nat.le_refl _,fun _ h=>h⟩
  ·rintro k _ hk ⟨i,l,rfl,h1,h2,h3,h4⟩
   rcases round i l h2 h3 h4 with ⟨j,l',g1,g2,g3,g4,g5⟩ | h
   ·exact .inl ⟨_,g1,j,l',rfl,by omega,g3,g4,g5⟩
   ·exact .inr h
  ·rintro _ ⟨i,l,rfl,h1,h2,h3,h4⟩
   rcases round i l h2 h3 h4 with ⟨j,l',g1,g2,g3,g4,g5⟩ | h
   ·omega
   ·exact h
 obtain ⟨r,h1,L,e,a,h2,h3⟩:=key
 unfold p18
 rw [h1]
 obtain ⟨y,c1,c2,c3,c4⟩:=r
 refine ⟨_,rfl,L,e,a,h2,?_⟩
 rcases h3 with ⟨g1,g2,g3⟩ | ⟨g1,i,g2,g3,g4⟩
 ·simp only [Prod.mk.injEq] at g2
  obtain ⟨rfl,rfl,rfl,rfl⟩:=g2
  exact .inl ⟨g1,rfl,g3⟩
 ·simp only [Prod.mk.injEq] at g4
  obtain ⟨rfl,rfl,rfl,rfl,rfl⟩:=g4
  exact .inr ⟨g1,i,g2,g3,rfl⟩
end Go.Proofs.Ytloaoofdbilpeaa
/- The document's tokens, plainly. Own work. -/
namespace Go.Proofs.Ytloaoofdbilpeaa
open Go Go.Am
set_option linter.unusedVariables false
set_option linter.unusedSimpArgs false
def sg8:List Int:=[59,58,44,42,33,126,64,61]
def nextR (a b:Int) (c l:List TToken) (i:Nat):(Nat×List TToken)⊕Int→Option ((Int×Int×Int×List TToken×List TToken)⊕((Int×Int)⊕List TToken))
 | .inl (j,t)=>some (.inl (a,b,(j:Int),c,l++t))
 | .inr e=>some (.inr (.inl (e,(i:Int))))
def unTok (t:Tok):TToken:=⟨t.k,t.s,t.n,t.at_⟩
end Go.Proofs.Ytloaoofdbilpeaa
/- LexNames, plainly. Own work. -/
namespace Go.Proofs.Ytloaoofdbilpeaa
open Go Go.Am
set_option linter.unusedVariables false
set_option linter.unusedSimpArgs false
/-- A byte that may stand there in a name. -/
def okAt (p:List Int) (i:Nat):Bool:=if i=0 then isSm (p.getD i 0) else isWd (p.getD i 0)
theorem rune_of {s:List UInt8} {i:Nat} (hi:i < s.length):((s[i].toNat < 128∧runeAt s i=(s[i].toNat:Int)∧nextAt s i=i+1)∨(128≤s[i].toNat∧128≤runeAt s i)):=by
 have hsz:i < (⟨s.toArray⟩:ByteArray).size:=by simpa [ByteArray.size] using hi
 have hg:(⟨s.toArray⟩:ByteArray)[i]'hsz=s[i]:=by
  show s.toArray[i]=s[i]
  simp
 unfold runeAt nextAt
 rcases Nat.lt_or_ge s[i].toNat 128 with h | h
 ·have:=decode_ascii ⟨s.toArray⟩ i hsz (by rw [hg]; exact h)
  rw [this,hg]
  exact .inl ⟨h,rfl,rfl⟩
 ·have:=decode_high ⟨s.toArray⟩ i hsz (by rw [hg]; exact h)
  exact .inr ⟨h,by omega⟩
theorem strI_get {s:List UInt8} {i:Nat} (hi:i < s.length):(strI s).getD i 0=(s[i].toNat:Int):=by
 unfold strI
 rw [List.getD_eq_getElem?_getD,List.getElem?_map,List.getElem?_eq_getElem hi]; rfl
/-- A name by the program. -/
theorem p23_eq {s:List UInt8} (hl:s.length≤1000000):p23 s=some (decide ((∀ i,i < s.length→okAt (strI s) i=true)∧s≠[]∧s.length≤12)):=by
 have key:∃ r,loopC (p23_l0 s) 0=some r∧((r=.inr ()∧∀ i,i < s.length→okAt (strI s) i=true)∨(r=.inl ()∧∃ i,i < s.length∧okAt (strI s) i=false)):=by
  refine loop_cnt s.length (fun k (st:Nat)=>st=k∧∀ i,i < k→okAt (strI s) i=true) _ ?_ ?_ ⟨rfl,fun i hi=>by omega⟩
  ·rintro m k hk ⟨rfl,h⟩
   have hgd:=strI_get hk
   have fin:∀ b:Bool,b = !okAt (strI s) k→nextAt s k=k+1→(∃ s',p23_j0 s k b=some (.inl s')∧s'=k+1∧∀ i,i < k+1→okAt (strI s) i=true)∨∃ r,p23_j0 s k b=some (.inr r)∧((r=.inr ()∧∀ i,i < s.length→okAt (strI s) i=true)∨(r=.inl ()∧∃ i,i < s.length∧okAt (strI s) i=false)):=by
    rintro b rfl hn
    unfold p23_j0
    cases ho:okAt (strI s) k with
    | true=>
     rw [if_neg (by simp),hn]
     refine .inl ⟨_,rfl,rfl,fun i hi=>?_⟩
     rcases Nat.lt_or_ge i k with hh | hh
     ·exact h i hh
     ·obtain rfl:i=k:=by omega
      exact ho
    | false=>
     rw [if_pos (by simp)]
     exact .inr ⟨_,rfl,.inr ⟨rfl,k,hk,ho⟩⟩
   unfold p23_l0
   rw [if_pos hk]
   rcases rune_of hk with ⟨g1,g2,g3⟩ | ⟨g1,g2⟩
   ·rw [g2]
    have hb:0≤(s[k].toNat:Int)∧(s[k].toNat:Int)≤255:=by omega
    rw [IntWalk.u8_in _ hb]
    simp only [p37_eq,p38_eq,Option.bind_some]
    by_cases hz:(122:Int) < (s[k].toNat:Int)
    ·rw [if_pos hz]
     refine fin _ ?_ g3
     unfold okAt
     rw [hgd]
     split<;>simp [isWd,isSm,isDg]<;>omega
    ·rw [if_neg hz]
     cases hs:isSm (s[k].toNat:Int) with
     | true=>
      rw [if_neg (by simp)]
      unfold p23_j1
      refine fin _ ?_ g3
      unfold okAt
      rw [hgd]
      split<;>simp [isWd,hs]
     | false=>
      rw [if_pos (by simp)]
      unfold p23_j3 p23_j2 p23_j1
      by_cases h0:k=0
      ·subst h0
       rw [if_pos (by simp)]
       refine fin _ ?_ g3
       unfold okAt
       rw [hgd,if_pos rfl,hs]; rfl
      ·rw [if_neg (by omega)]
       cases hd:isDg (s[k].toNat:Int) with
       | true=>
        rw [if_neg (by simp)]
        refine fin _ ?_ g3
        unfold okAt
        rw [hgd,if_neg h0]
        simp [isWd,hd]
       | false=>
        rw [if_pos (by simp)]
        refine fin _ ?_ g3
        unfold okAt
        rw [hgd,if_neg h0]
        simp [isWd,hd,hs]
   ·rw [if_pos (by omega)]
    have ho:okAt (strI s) k=false:=by
     unfold okAt
     rw [hgd]
     split<;>simp [isWd,isSm,isDg]<;>omega
    unfold p23_j0
    rw [if_pos rfl]
    exact .inr ⟨_,rfl,.inr ⟨rfl,k,hk,ho⟩⟩
  ·rintro _ ⟨rfl,h⟩
   unfold p23_l0
   rw [if_neg (by omega)]
   exact ⟨_,rfl,.inl ⟨rfl,h⟩⟩
 obtain ⟨r,h1,h2⟩:=key
 unfold p23
 rw [h1]
 simp only [Option.bind_some]
 rcases h2 with ⟨rfl,h⟩ | ⟨rfl,i,hi,h⟩
 ·simp only
  unfold p23_j4
  by_cases hn:s=[]
  ·rw [if_neg (by simp [hn])]
   simp [hn]
  ·rw [if_pos (by simpa using hn)]
   congr 1
   rw [decide_eq_decide]
   exact ⟨fun h'=>⟨h,hn,by omega⟩,fun h'=>by omega⟩
 ·simp only
  congr 1
  symm
  rw [decide_eq_false_iff_not]
  rintro ⟨h',_⟩
  rw [h' i hi] at h
  cases h
theorem one_word {p:List Int} {e:Nat} {n:Int} {a:Nat} (ha:a < p.length) (h:oneS p a=.inl (1,e,n)):isSm p[a]=true∧e=run isWd p (a+1):=by
 unfold oneS at h
 simp only [getD_of ha] at h
 split at h
 ·rename_i hs; cases h; exact ⟨hs,rfl⟩
 ·split at h
  ·split at h<;>cases h
  ·split at h
   ·cases h
   ·split at h<;>cases h
end Go.Proofs.Ytloaoofdbilpeaa
/- What a net's text says, by tokens: the document's parser as plain functions; and which tokens there are. Own work. -/
namespace Go.Proofs.Ytloaoofdbilpeaa
open Go Go.Am
set_option linter.unusedVariables false
set_option linter.unusedSimpArgs false
/-- Where a parser stands: tokens, the net as far as it is read, names that were told. -/
structure PS where
 l:List Tok
 n:TNet
 told:List (List UInt8)
abbrev Res (α:Type):=(α×PS)⊕(Int×Int)
def hd (l:List Tok):Tok:=l.headD ⟨0,[],0,0⟩
def nx {α:Type}:List α→List α
 | _::b::r=>b::r
 | l=>l
def stp (s:PS):PS:=⟨nx s.l,s.n,s.told⟩
def isS (s:PS) (x:List UInt8):Bool:=decide ((hd s.l).k=3)&&((hd s.l).s==x)
def er {α:Type} (s:PS) (e:Int):Res α:=.inr (e,(hd s.l).at_)
def bnd {α β:Type} (r:Res α) (f:α→PS→Res β):Res β:=match r with
 | .inl (a,s)=>f a s
 | .inr e=>.inr e
def want (x:List UInt8) (s:PS):Res Unit:=if isS s x=true then .inl ((),stp s) else er s 6
def numS (least:Int) (s:PS):Res Int:=
 if (hd s.l).k=2 then (if (hd s.l).n < least∨1000000 < (hd s.l).n then er s 3 else .inl ((hd s.l).n,stp s)) else er s 6
def nameS (s:PS):Res (List UInt8):=
 if (hd s.l).k=1 then (if (hd s.l).s.length≤12∧(hd s.l).s∉s.told then .inl ((hd s.l).s,⟨nx s.l,s.n,s.told++[(hd s.l).s]⟩) else er s 7) else er s 6
def optS (x:List UInt8) (s:PS):Res Int:=if isS s x=true then numS 0 (stp s) else .inl (0,s)
/-- The number of a name. -/
def plc:List (List UInt8)→List UInt8→Option Nat
 | [],_=>none
 | y::r,x=>if y=x then some 0 else (plc r x).map (·+1)
def arcS (ps:List (List UInt8)) (l:List TArc) (s:PS):Res (List TArc):=
 if (hd s.l).k=1 then match plc ps (hd s.l).s with
  | none=>er s 7
  | some k=>if l.any (fun a=>decide (a.Place=(k:Int)))=true then er s 7
   else if l.length=8 then er s 5
   else if isS (stp s) [42]=true then bnd (numS 1 (stp (stp s))) fun n s=>.inl (l++[⟨(k:Int),n⟩],s)
   else .inl (l++[⟨(k:Int),1⟩],stp s)
 else er s 6
def sepS (first:Bool) (s:PS):Res Unit:=if first=true then .inl ((),s) else want [44] s
def inS (ps:List (List UInt8)):Nat→Bool→List TArc→List TArc→PS→Res (List TArc×List TArc)
 | 0,_,_,_,s=>er s 0
 | k+1,first,ins,nots,s=>if isS s [45,62]=true then .inl ((ins,nots),stp s) else
  bnd (sepS first s) fun _ s=>
   if isS s [126]=true then bnd (arcS ps nots (stp s)) fun nots s=>inS ps k false ins nots s
   else bnd (arcS ps ins s) fun ins s=>inS ps k false ins nots s
def outS (ps:List (List UInt8)):Nat→Bool→List TArc→PS→Res (List TArc)
 | 0,_,_,s=>er s 0
 | k+1,first,outs,s=>if isS s [59]=true then .inl (outs,s) else
  bnd (sepS first s) fun _ s=>bnd (arcS ps outs s) fun outs s=>outS ps k false outs s
def transS (ps:List (List UInt8)) (s:PS):Res Unit:=
 bnd (nameS s) fun nm s=>bnd (optS [64] s) fun d s=>bnd (optS [33] s) fun pr s=>bnd (want [58] s) fun _ s=>
 bnd (inS ps s.l.length true [] [] s) fun io s=>bnd (outS ps s.l.length true [] s) fun o s=>.inl ((),⟨s.l,⟨s.n.Places,s.n.Trans++[⟨nm,d,pr,io.1,io.2,o⟩]⟩,s.told⟩)
def placeS (s:PS):Res Unit:=
 bnd (nameS s) fun nm s=>bnd (optS [61] s) fun t s=>.inl ((),⟨s.l,⟨s.n.Places++[⟨nm,t⟩],s.n.Trans⟩,s.told⟩)
def kw (t:Tok) (x:List UInt8):Bool:=decide (t.k=1)&&(t.s==x)
def bodyS (ps:List (List UInt8)) (s:PS):Res Unit:=
 if kw (hd s.l) [112,108,97,99,101]=true then (if s.n.Places.length=32 then er (stp s) 5 else placeS (stp s))
 else if kw (hd s.l) [116,114,97,110,115]=true then (if s.n.Trans.length=32 then er (stp s) 5 else transS ps (stp s))
 else er s 6
def itemS (ps:List (List UInt8)) (s:PS):Res Unit:=bnd (bodyS ps s) fun _ s=>want [59] s
def allS (ps:List (List UInt8)):Nat→PS→TNet⊕(Int×Int)
 | 0,_=>.inr (0,0)
 | k+1,s=>if (hd s.l).k=0 then .inl s.n else match itemS ps s with
  | .inl (_,s)=>allS ps k s
  | .inr e=>.inr e
def placesOf:List Tok→List (List UInt8)→List (List UInt8)
 | a::b::r,acc=>placesOf (b::r) (if kw a [112,108,97,99,101]=true∧b.k=1∧b.s∉acc then acc++[b.s] else acc)
 | _,acc=>acc
def parseS (L:List Tok):TNet⊕(Int×Int):=allS (placesOf L []) L.length ⟨L,⟨[],[]⟩,[]⟩
/-! ### tokens -/
/-- A token of a text: its place is one; a word is one. -/
def TokOk (p:List Int) (t:Tok):Prop:=(∃ i:Nat,i≤p.length∧t.at_=(i:Int))∧(t.k=1→(∀ i,i < t.s.length→okAt (strI t.s) i=true)∧t.s≠[])∧t.s.length≤1000000
/-- Tokens of a text: the last one is the end. -/
structure WF (p:List Int) (l:List Tok):Prop where
 ne:l≠[]
 last:∀ t,l.getLast? = some t→t.k=0
 ok:∀ t,t∈l→TokOk p t
theorem nx_map {α β:Type} (f:α→β):∀ l:List α,(nx l).map f=nx (l.map f)
 | []=>rfl
 | [_]=>rfl
 | _::_::_=>rfl
theorem nx_mem {α:Type}:∀ {l:List α} {x:α},x∈nx l→x∈l
 | [],x,h=>h
 | [_],x,h=>h
 | _::_::_,x,h=>List.mem_cons_of_mem _ h
theorem WF.nx {p:List Int}:∀ {l:List Tok},WF p l→WF p (nx l)
 | [],h=>h
 | [_],h=>h
 | a::b::r,h=>⟨by simp [Proofs.Ytloaoofdbilpeaa.nx],fun t ht=>h.last t (by simpa [Proofs.Ytloaoofdbilpeaa.nx] using ht),fun t ht=>h.ok t (nx_mem ht)⟩
theorem WF.hd_ok {p:List Int} {l:List Tok} (h:WF p l):TokOk p (hd l):=by
 cases l with
 | nil=>exact absurd rfl h.ne
 | cons a r=>exact h.ok a (List.mem_cons_self ..)
/-- Behind a token that isn't the end there are fewer. -/
theorem WF.shorter {p:List Int} {l:List Tok} (h:WF p l) (hk:(hd l).k≠0):(Proofs.Ytloaoofdbilpeaa.nx l).length < l.length:=by
 cases l with
 | nil=>exact absurd rfl h.ne
 | cons a r=>
  cases r with
  | nil=>exact absurd (h.last a rfl) hk
  | cons b r=>simp [Proofs.Ytloaoofdbilpeaa.nx]
theorem lexR_last {p:List Int} {i:Nat} {l:List Tok} {r:List Tok×Int×Int} (h:LexR p i l r):r.2.1=0→∃ q,r.1=q++[⟨0,[],0,(p.length:Int)⟩]:=by
 induction h with
 | done e=>intro _; exact ⟨_,rfl⟩
 | go _ _ _ ih=>exact ih
 | err h1 h2=>
  intro h3
  have:=stepS_err h2
  simp only at h3
  omega
theorem lexR_all {p:List Int} {Q:Tok→Prop} (hend:Q ⟨0,[],0,(p.length:Int)⟩) (hst:∀ i k e n,i < p.length→oneS p i=.inl (k,e,n)→Q ⟨k,textOf p i e,n,(i:Int)⟩) {i:Nat} {l:List Tok} {r:List Tok×Int×Int} (h:LexR p i l r):(∀ t,t∈l→Q t)→∀ t,t∈r.1→Q t:=by
 induction h with
 | done e=>
  intro h t ht
  rcases List.mem_append.1 ht with ht | ht
  ·exact h t ht
  ·rw [List.mem_singleton] at ht; subst ht; exact hend
 | err h1 h2=>intro _ t ht; cases ht
 | @go i j l ts r h1 h2 _ ih=>
  intro h
  refine ih fun t ht=>?_
  rcases List.mem_append.1 ht with ht | ht
  ·exact h t ht
  ·unfold stepS at h2
   simp only at h2
   split at h2
   ·cases h2; cases ht
   ·split at h2
    ·cases h2; cases ht
    ·split at h2
     ·rename_i ho
      cases h2
      rw [List.mem_singleton] at ht
      subst ht
      exact hst _ _ _ _ h1 ho
     ·cases h2
theorem lexR_count {p:List Int} {i:Nat} {l:List Tok} {r:List Tok×Int×Int} (h:LexR p i l r):i≤p.length→l.length≤i→r.1.length≤p.length+1:=by
 induction h with
 | done e=>intro h1 h2; simp; omega
 | err h1 h2=>intro _ _; simp
 | @go i j l ts r h1 h2 _ ih=>
  intro h3 h4
  obtain ⟨g1,g2,g3⟩:=stepS_gt h1 h2
  exact ih g2 (by simp; omega)
theorem text_get {p:List Int} {i j:Nat} (hj:j≤p.length) {k:Nat} (hk:i+k < j):(strI (textOf p i j))[k]? = some ((u8 (p.getD (i+k) 0)).toNat:Int):=by
 unfold strI textOf
 rw [List.map_map,List.getElem?_map,List.getElem?_drop,List.getElem?_take_of_lt hk,List.getElem?_eq_getElem (by omega),getD_of (by omega)]
 rfl
theorem run_wd {p:List Int}:∀ (d:Nat) {i:Nat},d=run isWd p i - i→∀ j,i≤j→j < run isWd p i→isWd (p.getD j 0)=true:=by
 intro d
 induction d with
 | zero=>intro i hd j h1 h2; have:=run_ge isWd p i; omega
 | succ d ih=>
  intro i hd j h1 h2
  have hi:i < p.length:=by
   rcases Nat.lt_or_ge i p.length with h | h
   ·exact h
   ·rw [run_end h] at h2; omega
  have hst:=run_step (P:=isWd) hi
  by_cases hw:isWd p[i]=true
  ·rw [if_pos hw] at hst
   rcases Nat.lt_or_ge i j with h | h
   ·exact ih (i:=i+1) (by rw [← hst]; omega) j h (by rw [← hst]; exact h2)
   ·obtain rfl:i=j:=by omega
    rw [getD_of hi]; exact hw
  ·rw [if_neg hw] at hst; omega
theorem word_ok {p:List Int} (hp:Bytes p) (hl:p.length≤1000000) {a e:Nat} {n:Int} (ha:a < p.length) (h:oneS p a=.inl (1,e,n)):(∀ i,i < (textOf p a e).length→okAt (strI (textOf p a e)) i=true)∧textOf p a e≠[]:=by
 obtain ⟨h1,h2⟩:=one_word ha h
 have hgt:=oneS_gt ha h
 have hlen:=text_len (p:=p) (Nat.le_of_lt hgt.1) hgt.2
 refine ⟨fun i hi=>?_,fun h0=>by rw [h0] at hlen; simp at hlen; omega⟩
 have hg:=text_get (p:=p) (i:=a) hgt.2 (k:=i) (by omega)
 have hb:0≤p.getD (a+i) 0∧p.getD (a+i) 0≤255:=by rw [getD_of (by omega)]; exact hp.get _
 have hg':(strI (textOf p a e)).getD i 0=p.getD (a+i) 0:=by
  rw [List.getD_eq_getElem?_getD,hg,Option.getD_some,u8_nat hb]
 unfold okAt
 rw [hg']
 by_cases h0:i=0
 ·subst h0
  rw [if_pos rfl,Nat.add_zero,getD_of ha]; exact h1
 ·rw [if_neg h0]
  exact run_wd _ (i:=a+1) rfl (a+i) (by omega) (by rw [← h2]; omega)
/-- The tokens of a text are well formed. -/
theorem lex_wf {p:List Int} (hp:Bytes p) (hl:p.length≤1000000) {L:List Tok} {a:Int} (h:LexR p 0 [] (L,0,a)):WF p L:=by
 obtain ⟨q,hq⟩:=lexR_last h rfl
 simp only at hq
 refine ⟨by rw [hq]; simp,fun t ht=>by rw [hq,List.getLast?_concat] at ht; cases ht; rfl,fun t ht=>lexR_all (Q:=TokOk p) ⟨⟨_,Nat.le_refl _,rfl⟩,(fun h=>by simp at h),by simp⟩ (fun i k e n hi ho=>?_) h (fun t ht=>by cases ht) t ht⟩
 have hgt:=oneS_gt hi ho
 refine ⟨⟨i,by omega,rfl⟩,fun hk=>?_,?_⟩
 ·simp only at hk
  subst hk
  exact word_ok hp hl hi ho
 ·simp only [text_len (Nat.le_of_lt hgt.1) hgt.2]; omega
end Go.Proofs.Ytloaoofdbilpeaa
/- The program's parser does what the document's says: function by function. Own work. -/
namespace Go.Proofs.Ytloaoofdbilpeaa
open Go Go.Am
set_option linter.unusedVariables false
set_option linter.unusedSimpArgs false
abbrev Z4:TFault:=⟨0,0,0,0⟩
def FF (p:List Int) (e a:Int):TFault:=⟨e,a,1+(cntN p a.toNat:Int),a - lastN p a.toNat⟩
/-- The parser's state, awake. -/
structure AOk (p:List Int) (ps:List (List UInt8)) (a:Tparser) (s:PS):Prop where
 pp:a.p=p
 l:a.l.map tokL=s.l
 f:a.f=Z4
 n:a.n=s.n
 pl:∀ x,mget keS a.places x=(plc ps x).map (fun k:Nat=>(k:Int))
 td:∀ x,(mget keS a.told x).getD false=decide (x∈s.told)
 wf:WF p s.l
/-- The parser's state behind a fault. -/
structure ADead (p:List Int) (e at_:Int) (k:Nat) (a:Tparser):Prop where
 pp:a.p=p
 l:a.l≠[]
 f:a.f=FF p e at_
 e:e≠0
 n:a.n.Places.length≤k∧a.n.Trans.length≤k
 tl:∀ t,t∈a.l→t.Text.length≤1000000
 xa:∃ i:Nat,i≤p.length∧at_=(i:Int)
/-- What stays, asleep. -/
structure Sm (a a':Tparser):Prop where
 pp:a'.p=a.p
 l:a'.l=a.l
 f:a'.f=a.f
 n:a'.n=a.n
theorem Sm.rfl' (a:Tparser):Sm a a:=⟨rfl,rfl,rfl,rfl⟩
theorem ADead.sm {p:List Int} {e at_:Int} {k:Nat} {a a':Tparser} (h:ADead p e at_ k a) (s:Sm a a'):ADead p e at_ k a':=⟨by rw [s.pp]; exact h.pp,by rw [s.l]; exact h.l,by rw [s.f]; exact h.f,h.e,by rw [s.n]; exact h.n,by rw [s.l]; exact h.tl,h.xa⟩
theorem Sm.trans {a b c:Tparser} (x:Sm a b) (y:Sm b c):Sm a c:=⟨by rw [y.pp,x.pp],by rw [y.l,x.l],by rw [y.f,x.f],by rw [y.n,x.n]⟩
def Asleep (a:Tparser):Prop:=a.f.Err≠0∧a.l≠[]∧∀ t,t∈a.l→t.Text.length≤1000000
theorem Asleep.sm {a a':Tparser} (h:Asleep a) (s:Sm a a'):Asleep a':=⟨by rw [s.f]; exact h.1,by rw [s.l]; exact h.2.1,by rw [s.l]; exact h.2.2⟩
theorem ADead.asleep {p:List Int} {e at_:Int} {k:Nat} {a:Tparser} (h:ADead p e at_ k a):Asleep a:=⟨by rw [h.f]; exact h.e,h.l,h.tl⟩
/-- What a function with a value answers. -/
def SimA {α:Type} (p:List Int) (ps:List (List UInt8)) (k:Nat) (r:Option (α×Option Tparser)):Res α→Prop
 | .inl (v,s')=>∃ a',r=some (v,some a')∧AOk p ps a' s'
 | .inr (e,x)=>∃ v a',r=some (v,some a')∧ADead p e x k a'
def SimU (p:List Int) (ps:List (List UInt8)) (k:Nat) (r:Option (Option Tparser)):Res Unit→Prop
 | .inl (_,s')=>∃ a',r=some (some a')∧AOk p ps a' s'
 | .inr (e,x)=>∃ a',r=some (some a')∧ADead p e x k a'
theorem idx0 {α:Type} (t:α) (ts:List α):idx (t::ts) (0:Int)=some t:=rfl
theorem slc1 {α:Type} (t:α) (ts:List α):slc (t::ts) (1:Int) (((t::ts).length:Nat):Int)=some ts:=by
 have:=slc_ok (l:=t::ts) (i:=1) (j:=(t::ts).length) (by simp) (Nat.le_refl _)
 simpa using this
theorem AOk.open {p:List Int} {ps:List (List UInt8)} {a:Tparser} {s:PS} (h:AOk p ps a s):∃ t ts,a=⟨p,t::ts,Z4,s.n,a.places,a.told⟩∧s.l=tokL t::ts.map tokL:=by
 obtain ⟨ap,al,af,an,apl,atd⟩:=a
 obtain ⟨h1,h2,h3,h4,h5,h6,h7⟩:=h
 simp only at h1 h2 h3 h4 h5 h6
 subst h1 h3 h4
 cases al with
 | nil=>exact absurd h2.symm h7.ne
 | cons t ts=>exact ⟨t,ts,rfl,h2.symm⟩
theorem p53_a {p:List Int} {n:TNet} {pl:List (List UInt8×Int)} {td:List (List UInt8×Bool)} (t:TTokenlex) (ts:List TTokenlex):p53 (some ⟨p,t::ts,Z4,n,pl,td⟩)=some (t,some ⟨p,nx (t::ts),Z4,n,pl,td⟩):=by
 unfold p53
 simp only [Option.bind_some,idx0,if_pos]
 unfold p53_j1
 cases ts with
 | nil=>simp [p53_j0,nx]
 | cons b ts=>
  rw [slc1]
  simp [p53_j0,nx]
  omega
theorem p53_d {a:Tparser} (h:Asleep a):∃ t,a.l.head? = some t∧p53 (some a)=some (t,some a):=by
 obtain ⟨ap,al,af,an,apl,atd⟩:=a
 obtain ⟨h1,h2,_⟩:=h
 cases al with
 | nil=>exact absurd rfl h2
 | cons t ts=>
  refine ⟨t,rfl,?_⟩
  unfold p53
  simp only [Option.bind_some,idx0]
  rw [if_neg h1]
  rfl
theorem p54_d {a:Tparser} (h:Asleep a) (e:Int) (t:TTokenlex):p54 (some a) e t=some (some a):=by
 unfold p54
 simp only [Option.bind_some]
 rw [if_neg h.1]
theorem p54_a {p:List Int} (hp:Bytes p) (hl:p.length≤1000000) {n:TNet} {pl:List (List UInt8×Int)} {td:List (List UInt8×Bool)} {l:List TTokenlex} (e:Int) {t:TTokenlex} (ht:TokOk p (tokL t)) :
  p54 (some ⟨p,l,Z4,n,pl,td⟩) e t=some (some ⟨p,l,FF p e t.At,n,pl,td⟩):=by
 obtain ⟨⟨i,hi,ha⟩,_⟩:=ht
 have ha:t.At=(i:Int):=ha
 unfold p54
 simp only [Option.bind_some,if_pos]
 rw [ha,p22_eq hp hl e hi]
 simp [FF]
def isA (t:TTokenlex) (x:List UInt8):Bool:=decide (t.Kind=3)&&(t.Text==x)
theorem p56_a {p:List Int} {n:TNet} {pl:List (List UInt8×Int)} {td:List (List UInt8×Bool)} (t:TTokenlex) (ts:List TTokenlex) (x:List UInt8) :
  p56 (some ⟨p,t::ts,Z4,n,pl,td⟩) x=some (isA t x,some ⟨p,if isA t x=true then nx (t::ts) else t::ts,Z4,n,pl,td⟩):=by
 unfold p56
 simp only [Option.bind_some,idx0,decide_true,Bool.not_true,Bool.false_eq_true,if_false]
 unfold p56_j1 isA
 by_cases h1:t.Kind=3
 ·by_cases h2:(t.Text==x)=true
  ·simp only [h1,h2,decide_true,Bool.not_true,Bool.and_self,if_true,idx0,Option.bind_some,Bool.false_eq_true,if_false]
   unfold p56_j0
   rw [p53_a]
   rfl
  ·have h2:(t.Text==x)=false:=by simpa using h2
   simp only [h1,h2,decide_true,Bool.not_true,Bool.and_false,idx0,Option.bind_some,Bool.false_eq_true,if_false]
   rfl
 ·simp only [h1,decide_false,Bool.not_false,Bool.false_and,if_true,Bool.false_eq_true,if_false]
  rfl
theorem p56_d {a:Tparser} (h:Asleep a) (x:List UInt8):p56 (some a) x=some (false,some a):=by
 unfold p56
 simp only [Option.bind_some]
 rw [if_pos (by simpa using h.1)]
 rfl
theorem isS_a {t:TTokenlex} {ts:List Tok} {s:PS} (h:s.l=tokL t::ts) (x:List UInt8):isS s x=isA t x:=by
 unfold isS isA
 rw [h]; rfl
theorem stp_ok {p:List Int} {ps:List (List UInt8)} {t:TTokenlex} {ts:List TTokenlex} {s:PS} {pl:List (List UInt8×Int)} {td:List (List UInt8×Bool)} (h:AOk p ps ⟨p,t::ts,Z4,s.n,pl,td⟩ s) :
  AOk p ps ⟨p,nx (t::ts),Z4,s.n,pl,td⟩ (stp s):=by
 refine ⟨rfl,?_,rfl,rfl,h.pl,h.td,h.wf.nx⟩
 rw [nx_map]; exact congrArg nx h.l
/-- sign -/
theorem sign_a {p:List Int} {ps:List (List UInt8)} {a:Tparser} {s:PS} (h:AOk p ps a s) (x:List UInt8):∃ a',p56 (some a) x=some (isS s x,some a')∧AOk p ps a' (if isS s x=true then stp s else s):=by
 obtain ⟨t,ts,e1,e2⟩:=h.open
 rw [e1] at h ⊢
 rw [p56_a,isS_a e2]
 refine ⟨_,rfl,?_⟩
 split
 ·exact stp_ok h
 ·exact h
theorem hd_ok {p:List Int} {t:TTokenlex} {ts:List Tok} {s:PS} (e:s.l=tokL t::ts) (h:WF p s.l):TokOk p (tokL t):=by
 have:=h.hd_ok
 rw [e] at this
 exact this
theorem fail_a {p:List Int} (hp:Bytes p) (hl:p.length≤1000000) {ps:List (List UInt8)} {t:TTokenlex} {ts:List TTokenlex} {s:PS} {pl:List (List UInt8×Int)} {td:List (List UInt8×Bool)} (h:AOk p ps ⟨p,t::ts,Z4,s.n,pl,td⟩ s) (e2:s.l=tokL t::ts.map tokL) {e:Int} (he:e≠0) {k:Nat} (hk:s.n.Places.length≤k∧s.n.Trans.length≤k) :
  ∃ a',p54 (some ⟨p,t::ts,Z4,s.n,pl,td⟩) e t=some (some a')∧ADead p e (hd s.l).at_ k a':=by
 rw [p54_a hp hl e (hd_ok e2 h.wf)]
 refine ⟨_,rfl,rfl,by simp,?_,he,hk,fun u hu=>?_,h.wf.hd_ok.1⟩
 ·rw [e2]; rfl
 ·exact (h.wf.ok (tokL u) (by rw [e2]; exact List.mem_map_of_mem (f:=tokL) hu)).2.2
/-- want -/
theorem want_a {p:List Int} (hp:Bytes p) (hl:p.length≤1000000) {ps:List (List UInt8)} {a:Tparser} {s:PS} (h:AOk p ps a s) (x:List UInt8) {k:Nat} (hk:s.n.Places.length≤k∧s.n.Trans.length≤k):SimU p ps k (p59 (some a) x) (want x s):=by
 obtain ⟨a',h1,h2⟩:=sign_a h x
 unfold p59 want
 rw [h1]
 simp only [Option.bind_some]
 by_cases hs:isS s x=true
 ·rw [if_pos hs] at h2
  rw [if_neg (by rw [hs]; simp),if_pos hs]
  exact ⟨a',rfl,h2⟩
 ·rw [if_neg hs] at h2
  rw [if_pos (by simpa using hs),if_neg hs]
  obtain ⟨t,ts,e1,e2⟩:=h2.open
  rw [e1] at h2 ⊢
  simp only [Option.bind_some,idx0]
  obtain ⟨b,h3,h4⟩:=fail_a hp hl h2 e2 (e:=6) (by decide) hk
  rw [h3]
  exact ⟨b,rfl,h4⟩
theorem want_d {a:Tparser} (h:Asleep a) (x:List UInt8):p59 (some a) x=some (some a):=by
 obtain ⟨t,h1,h2⟩:=p53_d h
 unfold p59
 rw [p56_d h]
 simp only [Option.bind_some,Bool.not_false,if_true]
 obtain ⟨ap,al,af,an,apl,atd⟩:=a
 cases al with
 | nil=>exact absurd rfl h.2.1
 | cons t ts=>
  rw [idx0]
  simp only [Option.bind_some]
  rw [p54_d h]; rfl
/-- number -/
theorem num_a {p:List Int} (hp:Bytes p) (hl:p.length≤1000000) {ps:List (List UInt8)} {a:Tparser} {s:PS} (h:AOk p ps a s) (least:Int) {k:Nat} (hk:s.n.Places.length≤k∧s.n.Trans.length≤k):SimA p ps k (p57 (some a) least) (numS least s):=by
 obtain ⟨t,ts,e1,e2⟩:=h.open
 rw [e1] at h ⊢
 have eh:hd s.l=tokL t:=by rw [e2]; rfl
 unfold p57 numS
 rw [eh]
 simp only [Option.bind_some,idx0]
 by_cases h1:t.Kind=2
 ·rw [if_neg (by simpa using h1),if_pos (show (tokL t).k=2 from h1)]
  have hj:∀ b:Bool,(b=true↔(t.N < least∨1000000 < t.N))→SimA p ps k (p57_j0 ⟨p,t::ts,Z4,s.n,a.places,a.told⟩ t b) (if (tokL t).n < least∨1000000 < (tokL t).n then er s 3 else .inl ((tokL t).n,stp s)):=by
   intro b hb
   unfold p57_j0
   by_cases h2:t.N < least∨1000000 < t.N
   ·rw [if_pos (hb.2 h2),if_pos (show (tokL t).n < least∨1000000 < (tokL t).n from h2)]
    obtain ⟨b,h3,h4⟩:=fail_a hp hl h e2 (e:=3) (by decide) hk
    rw [h3]
    exact ⟨0,b,rfl,h4⟩
   ·rw [if_neg (fun hh=>h2 (hb.1 hh)),if_neg (show ¬ ((tokL t).n < least∨1000000 < (tokL t).n) from h2),p53_a]
    exact ⟨_,rfl,stp_ok h⟩
  split
  ·rename_i h2; exact hj true (by simp [h2])
  ·rename_i h2; exact hj _ (by simp [h2])
 ·rw [if_pos (by simpa using h1),if_neg (show ¬ (tokL t).k=2 from h1)]
  obtain ⟨b,h3,h4⟩:=fail_a hp hl h e2 (e:=6) (by decide) hk
  rw [h3]
  exact ⟨0,b,rfl,h4⟩
end Go.Proofs.Ytloaoofdbilpeaa
/- The program's parser: names, arcs, lists of arcs, transitions, places. Own work. -/
namespace Go.Proofs.Ytloaoofdbilpeaa
open Go Go.Am
set_option linter.unusedVariables false
set_option linter.unusedSimpArgs false
theorem nx_len {α:Type}:∀ l:List α,(nx l).length≤l.length
 | []=>Nat.le_refl _
 | [_]=>Nat.le_refl _
 | _::_::_=>Nat.le_succ _
theorem want_n {x:List UInt8} {s s':PS} {u:Unit} (h:want x s=.inl (u,s')):s'=stp s:=by
 unfold want er at h
 split at h<;>cases h; rfl
theorem numS_n {m v:Int} {s s':PS} (h:numS m s=.inl (v,s')):s'=stp s:=by
 unfold numS er at h
 split at h
 ·split at h<;>cases h; rfl
 ·cases h
theorem nameS_n {v:List UInt8} {s s':PS} (h:nameS s=.inl (v,s')):s'.n=s.n∧s'.l=nx s.l:=by
 unfold nameS er at h
 split at h
 ·split at h<;>cases h; exact ⟨rfl,rfl⟩
 ·cases h
theorem optS_n {x:List UInt8} {v:Int} {s s':PS} (h:optS x s=.inl (v,s')):s'.n=s.n∧s'.l.length≤s.l.length:=by
 unfold optS at h
 split at h
 ·have:=numS_n h
  subst this
  exact ⟨rfl,Nat.le_trans (nx_len _) (nx_len _)⟩
 ·cases h; exact ⟨rfl,Nat.le_refl _⟩
theorem sepS_n {b:Bool} {s s':PS} {u:Unit} (h:sepS b s=.inl (u,s')):s'.n=s.n∧s'.l.length≤s.l.length:=by
 unfold sepS at h
 split at h
 ·cases h; exact ⟨rfl,Nat.le_refl _⟩
 ·have:=want_n h
  subst this
  exact ⟨rfl,nx_len _⟩
theorem bnd_inl {α β:Type} {r:Res α} {f:α→PS→Res β} {v:β} {s':PS} (h:bnd r f=.inl (v,s')):∃ a s,r=.inl (a,s)∧f a s=.inl (v,s'):=by
 unfold bnd at h
 split at h
 ·exact ⟨_,_,rfl,h⟩
 ·cases h
theorem arcS_n {ps:List (List UInt8)} {l v:List TArc} {s s':PS} (h:arcS ps l s=.inl (v,s')):s'.n=s.n∧s'.l.length≤(nx s.l).length∧(hd s.l).k=1∧v.length=l.length+1∧l.length≠8:=by
 unfold arcS er at h
 split at h
 ·rename_i hk
  split at h
  ·cases h
  ·split at h
   ·cases h
   ·split at h
    ·cases h
    ·rename_i h8
     split at h
     ·obtain ⟨n,s1,h1,h2⟩:=bnd_inl h
      cases h2
      have:=numS_n h1
      subst this
      exact ⟨rfl,Nat.le_trans (nx_len _) (nx_len _),hk,by simp,h8⟩
     ·cases h
      exact ⟨rfl,Nat.le_refl _,hk,by simp,h8⟩
 ·cases h
/-- name -/
theorem name_a {p:List Int} (hp:Bytes p) (hl:p.length≤1000000) {ps:List (List UInt8)} {a:Tparser} {s:PS} (h:AOk p ps a s) {k:Nat} (hk:s.n.Places.length≤k∧s.n.Trans.length≤k):SimA p ps k (p55 (some a)) (nameS s):=by
 obtain ⟨t,ts,e1,e2⟩:=h.open
 rw [e1] at h ⊢
 have eh:hd s.l=tokL t:=by rw [e2]; rfl
 have hto:=hd_ok e2 h.wf
 unfold p55 nameS
 rw [eh]
 simp only [Option.bind_some,idx0]
 by_cases h1:t.Kind=1
 ·rw [if_neg (by simpa using h1),if_pos (show (tokL t).k=1 from h1)]
  obtain ⟨w1,w2⟩:(∀ i,i < t.Text.length→okAt (strI t.Text) i=true)∧t.Text≠[]:=hto.2.1 h1
  rw [p23_eq (s:=t.Text) hto.2.2]
  simp only [Option.bind_some]
  have hj:∀ b:Bool,(b=true↔¬ (t.Text.length≤12∧t.Text∉s.told))→SimA p ps k (p55_j0 ⟨p,t::ts,Z4,s.n,a.places,a.told⟩ t b) (if (tokL t).s.length≤12∧(tokL t).s∉s.told then .inl ((tokL t).s,⟨nx s.l,s.n,s.told++[(tokL t).s]⟩) else er s 7):=by
   intro b hb
   unfold p55_j0
   by_cases h2:t.Text.length≤12∧t.Text∉s.told
   ·rw [if_neg (fun hh=>(hb.1 hh) h2),if_pos (show (tokL t).s.length≤12∧(tokL t).s∉s.told from h2),p53_a]
    refine ⟨_,rfl,rfl,?_,rfl,rfl,h.pl,fun x=>?_,h.wf.nx⟩
    ·rw [nx_map]; exact congrArg nx h.l
    ·show (mget keS (mput keS a.told t.Text true) x).getD false=decide (x∈s.told++[t.Text])
     by_cases hx:x=t.Text
     ·subst hx
      rw [mget_put_same]; simp
     ·rw [mget_put_ne _ hx,h.td x]
      simp [hx]
   ·rw [if_pos (hb.2 h2),if_neg (show ¬ ((tokL t).s.length≤12∧(tokL t).s∉s.told) from h2)]
    obtain ⟨b,h3,h4⟩:=fail_a hp hl h e2 (e:=7) (by decide) hk
    rw [h3]
    exact ⟨[],b,rfl,h4⟩
  have htd:=h.td t.Text
  simp only at htd
  split
  ·rename_i h2
   refine hj true ⟨fun _ h3=>?_,fun _=>rfl⟩
   have:(!decide ((∀ i,i < t.Text.length→okAt (strI t.Text) i=true)∧t.Text≠[]∧t.Text.length≤12))=true:=h2
   rw [decide_eq_true (p:=_∧_∧_) ⟨w1,w2,h3.1⟩] at this
   cases this
  ·rename_i h2
   have h2:¬ (!decide ((∀ i,i < t.Text.length→okAt (strI t.Text) i=true)∧t.Text≠[]∧t.Text.length≤12))=true:=h2
   simp only [Bool.not_eq_true',decide_eq_false_iff_not,Classical.not_not] at h2
   refine hj _ ?_
   rw [htd]
   have:=h2.2.2
   simp [this]
 ·rw [if_pos (by simpa using h1),if_neg (show ¬ (tokL t).k=1 from h1)]
  obtain ⟨b,h3,h4⟩:=fail_a hp hl h e2 (e:=6) (by decide) hk
  rw [h3]
  exact ⟨[],b,rfl,h4⟩
theorem name_d {a:Tparser} (h:Asleep a):∃ v a',p55 (some a)=some (v,some a')∧Sm a a':=by
 obtain ⟨ap,al,af,an,apl,atd⟩:=a
 cases al with
 | nil=>exact absurd rfl h.2.1
 | cons t ts=>
  unfold p55
  simp only [Option.bind_some,idx0]
  have hj:∀ b:Bool,∃ v a',p55_j0 ⟨ap,t::ts,af,an,apl,atd⟩ t b=some (v,some a')∧Sm ⟨ap,t::ts,af,an,apl,atd⟩ a':=by
   intro b
   unfold p55_j0
   split
   ·rw [p54_d h]; exact ⟨_,_,rfl,Sm.rfl' _⟩
   ·have h':Asleep ⟨ap,t::ts,af,an,apl,mput keS atd t.Text true⟩:=h
    obtain ⟨u,h1,h2⟩:=p53_d h'
    rw [h2]; exact ⟨_,_,rfl,rfl,rfl,rfl,rfl⟩
  split
  ·rw [p54_d h]; exact ⟨_,_,rfl,Sm.rfl' _⟩
  ·rw [p23_eq (h.2.2 t (List.mem_cons_self ..))]
   simp only [Option.bind_some]
   split
   ·exact hj _
   ·exact hj _
/-- Is a place among a list's arcs? -/
theorem p76_loop {x1:List TArc} (hx:x1.length≤1000) (b:Tparser) (e:TTokenlex) (ok:Bool) :
  loopC (p76_l0 x1 b e) (ok,(0:Int))=some (ok&&!x1.any fun a=>decide (a.Place=(mget keS b.places e.Text).getD 0)):=by
 have key:∃ r,loopC (p76_l0 x1 b e) (ok,(0:Int))=some r∧r=(ok&&!x1.any fun a=>decide (a.Place=(mget keS b.places e.Text).getD 0)):=by
  refine loop_cnt x1.length (fun k st=>st=(ok&&!(x1.take k).any (fun a=>decide (a.Place=(mget keS b.places e.Text).getD 0)),(k:Int))) _ ?_ ?_ (by simp)
  ·rintro k _ hk rfl
   left
   refine ⟨_,?_,rfl⟩
   unfold p76_l0
   simp only
   rw [if_pos (by omega),idx_get hk]
   simp only [Option.bind_some,p76_j0]
   rw [wrap64 (by omega) (by omega)]
   rw [List.take_succ_eq_append_getElem hk,List.any_append]
   split
   ·rename_i h2
    simp only [List.any_cons,List.any_nil,Bool.or_false]
    cases hh:(List.any (List.take k x1) fun a=>decide (a.Place=(mget keS b.places e.Text).getD 0))<;>simp_all
   ·rename_i h2
    have h2:=Bool.eq_false_iff.2 h2
    generalize (List.any (List.take k x1) fun a=>decide (a.Place=(mget keS b.places e.Text).getD 0))=A at h2 ⊢
    cases ok<;>cases A<;>simp_all
  ·rintro _ rfl
   refine ⟨_,?_,rfl⟩
   unfold p76_l0
   simp only
   rw [if_neg (by omega)]
   simp
 obtain ⟨r,h1,h2⟩:=key
 rw [h1,h2]
/-- arc -/
theorem arc_end {p:List Int} (hp:Bytes p) (hl:p.length≤1000000) {ps:List (List UInt8)} {b:Tparser} {e:TTokenlex} {x1:List TArc} (hx:x1.length≤1000) {t:TTokenlex} {ts:List TTokenlex} {s:PS} {pl:List (List UInt8×Int)} {td:List (List UInt8×Bool)} (h:AOk p ps ⟨p,t::ts,Z4,s.n,pl,td⟩ s)
  {q:Nat} (hq:(mget keS b.places e.Text).getD 0=(q:Int)) {k:Nat} (hk:s.n.Places.length≤k∧s.n.Trans.length≤k) :
  SimA p ps k (p76_j2 x1 b e (some ⟨p,t::ts,Z4,s.n,pl,td⟩)) (if isS (stp s) [42]=true then bnd (numS 1 (stp (stp s))) fun n s=>.inl (x1++[⟨(q:Int),n⟩],s) else .inl (x1++[⟨(q:Int),1⟩],stp s)):=by
 have hs:=stp_ok h
 obtain ⟨a',g1,g2⟩:=sign_a hs [42]
 unfold p76_j2
 rw [p53_a]
 simp only [Option.bind_some]
 rw [g1]
 simp only [Option.bind_some]
 have hj:∀ (y:Int) (a:Tparser),p76_j1 x1 b e y (some a)=some (x1++[⟨(q:Int),y⟩],some a):=by
  intro y a
  unfold p76_j1
  rw [hq,app_ok (by simp; omega)]; rfl
 by_cases h1:isS (stp s) [42]=true
 ·rw [if_pos h1] at g2
  rw [if_pos h1,if_pos h1]
  have hn:=num_a hp hl g2 1 (k:=k) hk
  cases hr:numS 1 (stp (stp s)) with
  | inl v=>
   obtain ⟨v,s1⟩:=v
   rw [hr] at hn
   obtain ⟨a1,h2,h3⟩:=hn
   rw [h2]
   simp only [Option.bind_some,hj,bnd]
   exact ⟨a1,rfl,h3⟩
  | inr v=>
   obtain ⟨v,x⟩:=v
   rw [hr] at hn
   obtain ⟨w,a1,h2,h3⟩:=hn
   rw [h2]
   simp only [Option.bind_some,hj,bnd]
   exact ⟨_,a1,rfl,h3⟩
 ·rw [if_neg h1] at g2
  rw [if_neg h1,if_neg h1,hj]
  exact ⟨a',rfl,g2⟩
theorem arc_end_d {x1:List TArc} (hx:x1.length≤1000) {a:Tparser} (h:Asleep a) (b:Tparser) (e:TTokenlex):∃ v,p76_j2 x1 b e (some a)=some (v,some a):=by
 obtain ⟨t,_,h1⟩:=p53_d h
 unfold p76_j2
 rw [h1]
 simp only [Option.bind_some]
 rw [p56_d h]
 simp only [Option.bind_some,Bool.false_eq_true,if_false]
 unfold p76_j1
 rw [app_ok (by simp; omega)]
 exact ⟨_,rfl⟩
theorem arc_a {p:List Int} (hp:Bytes p) (hl:p.length≤1000000) {ps:List (List UInt8)} {a:Tparser} {s:PS} (h:AOk p ps a s) {x1:List TArc} (hx:x1.length≤1000) {k:Nat} (hk:s.n.Places.length≤k∧s.n.Trans.length≤k):SimA p ps k (p76 (some a) x1) (arcS ps x1 s):=by
 obtain ⟨t,ts,e1,e2⟩:=h.open
 rw [e1] at h ⊢
 have eh:hd s.l=tokL t:=by rw [e2]; rfl
 unfold p76 arcS
 rw [eh]
 simp only [Option.bind_some,idx0]
 by_cases h1:t.Kind=1
 ·rw [if_neg (by simpa using h1),if_pos (show (tokL t).k=1 from h1),p76_loop hx]
  simp only [Option.bind_some]
  have hpl:=h.pl t.Text
  simp only at hpl
  rw [hpl]
  have seven:∀ r:Res (List TArc),r=er s 7→SimA p ps k (Option.bind (p54 (some ⟨p,t::ts,Z4,s.n,a.places,a.told⟩) 7 t) fun u=>p76_j2 x1 ⟨p,t::ts,Z4,s.n,a.places,a.told⟩ t u) r:=by
   rintro _ rfl
   obtain ⟨b,h3,h4⟩:=fail_a hp hl h e2 (e:=7) (by decide) hk
   rw [h3]
   obtain ⟨v,h5⟩:=arc_end_d hx h4.asleep ⟨p,t::ts,Z4,s.n,a.places,a.told⟩ t
   simp only [Option.bind_some]
   exact ⟨v,b,h5,h4⟩
  cases hq:plc ps (tokL t).s with
  | none=>
   have hq:plc ps t.Text=none:=hq
   rw [hq]
   simp only [Option.map_none,Option.isSome_none,Bool.false_and,Bool.not_false,if_true]
   exact seven _ rfl
  | some q=>
   have hq:plc ps t.Text=some q:=hq
   rw [hq]
   simp only [Option.map_some,Option.isSome_some,Bool.true_and,Option.getD_some,Bool.not_not]
   by_cases h2:x1.any (fun a=>decide (a.Place=(q:Int)))=true
   ·rw [if_pos h2,if_pos h2]; exact seven _ rfl
   ·rw [if_neg h2,if_neg h2]
    by_cases h8:x1.length=8
    ·rw [if_pos (by omega),if_pos h8]
     obtain ⟨b,h3,h4⟩:=fail_a hp hl h e2 (e:=5) (by decide) hk
     rw [h3]
     obtain ⟨v,h5⟩:=arc_end_d hx h4.asleep ⟨p,t::ts,Z4,s.n,a.places,a.told⟩ t
     simp only [Option.bind_some]
     exact ⟨v,b,h5,h4⟩
    ·rw [if_neg (by omega),if_neg h8]
     exact arc_end hp hl hx h (q:=q) (by simp only; rw [hpl,hq]; rfl) hk
 ·rw [if_pos (by simpa using h1),if_neg (show ¬ (tokL t).k=1 from h1)]
  obtain ⟨b,h3,h4⟩:=fail_a hp hl h e2 (e:=6) (by decide) hk
  rw [h3]
  exact ⟨_,b,rfl,h4⟩
theorem arc_d {a:Tparser} (h:Asleep a) {x1:List TArc} (hx:x1.length≤1000):∃ v,p76 (some a) x1=some (v,some a):=by
 obtain ⟨ap,al,af,an,apl,atd⟩:=a
 cases al with
 | nil=>exact absurd rfl h.2.1
 | cons t ts=>
  unfold p76
  simp only [Option.bind_some,idx0]
  split
  ·rw [p54_d h]; exact ⟨_,rfl⟩
  ·rw [p76_loop hx]
   simp only [Option.bind_some]
   split
   ·rw [p54_d h]; exact arc_end_d hx h _ _
   ·split
    ·rw [p54_d h]; exact arc_end_d hx h _ _
    ·exact arc_end_d hx h _ _
end Go.Proofs.Ytloaoofdbilpeaa
/- The program's parser: lists of arcs, transitions, places, items. Own work. -/
namespace Go.Proofs.Ytloaoofdbilpeaa
open Go Go.Am
set_option linter.unusedVariables false
set_option linter.unusedSimpArgs false
theorem loopC_go {σ ρ:Type} {f:σ→Option (σ⊕ρ)} {s s':σ} {r:ρ} (h:f s=some (.inl s')) (k:loopC f s'=some r):loopC f s=some r:=by
 obtain ⟨n,hn⟩:=loopC_iff.1 k
 exact loopC_iff.2 ⟨n+1,by rw [iter]; simp only [h]; exact hn⟩
theorem loopC_end {σ ρ:Type} {f:σ→Option (σ⊕ρ)} {s:σ} {r:ρ} (h:f s=some (.inr r)):loopC f s=some r:=
 loopC_iff.2 ⟨1,by rw [iter]; simp only [h]⟩
theorem AOk.err {p:List Int} {ps:List (List UInt8)} {a:Tparser} {s:PS} (h:AOk p ps a s):a.f.Err=0:=by rw [h.f]
/-- The same state of tokens, sized. -/
def Sz (k:Nat) (s:PS):Prop:=s.n.Places.length≤k∧s.n.Trans.length≤k
/-- One more arc among two lists. -/
def one2 (ps:List (List UInt8)) (ins nots:List TArc) (s:PS):Res (List TArc×List TArc):=
 if isS s [126]=true then bnd (arcS ps nots (stp s)) fun nots s=>.inl ((ins,nots),s)
 else bnd (arcS ps ins s) fun ins s=>.inl ((ins,nots),s)
theorem inS_succ (ps:List (List UInt8)) (k:Nat) (first:Bool) (ins nots:List TArc) (s:PS):inS ps (k+1) first ins nots s=if isS s [45,62]=true then .inl ((ins,nots),stp s) else
  bnd (sepS first s) fun _ s=>bnd (one2 ps ins nots s) fun q s=>inS ps k false q.1 q.2 s:=by
 rw [inS]
 congr 1
 cases hs:sepS first s with
 | inr v=>rfl
 | inl v=>
  obtain ⟨u,s1⟩:=v
  simp only [bnd,one2]
  split
  ·cases arcS ps nots (stp s1)<;>rfl
  ·cases arcS ps ins s1<;>rfl
theorem in_j0 {p:List Int} (hp:Bytes p) (hl:p.length≤1000000) {ps:List (List UInt8)} {a:Tparser} {s:PS} (h:AOk p ps a s) {ins nots:List TArc} (hi:ins.length≤8) (hn:nots.length≤8) {k:Nat} (hk:Sz k s) :
  ∃ a' i o,p58_j0 ins nots (some a)=some (.inl (false,some a',i,o))∧match one2 ps ins nots s with
   | .inl (q,s')=>q=(i,o)∧AOk p ps a' s'∧s'.n=s.n∧s'.l.length < s.l.length∧i.length≤8∧o.length≤8
   | .inr (e,x)=>ADead p e x k a':=by
 obtain ⟨a1,h1,h2⟩:=sign_a h [126]
 unfold p58_j0 one2
 rw [h1]
 simp only [Option.bind_some]
 by_cases hs:isS s [126]=true
 ·rw [if_pos hs] at h2
  rw [if_pos hs,if_pos hs]
  have ha:=arc_a hp hl h2 (x1:=nots) (by omega) (k:=k) hk
  cases hr:arcS ps nots (stp s) with
  | inl v=>
   obtain ⟨v,s'⟩:=v
   rw [hr] at ha
   obtain ⟨a',g1,g2⟩:=ha
   obtain ⟨e1,e2,e3,e4,e5⟩:=arcS_n hr
   rw [g1]
   have hlt:=h2.wf.shorter (by rw [e3]; decide)
   have:=nx_len s.l
   refine ⟨a',ins,v,rfl,rfl,g2,e1,?_,hi,by omega⟩
   have:(stp s).l.length≤s.l.length:=nx_len _
   omega
  | inr v=>
   obtain ⟨e,x⟩:=v
   rw [hr] at ha
   obtain ⟨v,a',g1,g2⟩:=ha
   rw [g1]
   exact ⟨a',ins,v,rfl,g2⟩
 ·rw [if_neg hs] at h2
  rw [if_neg hs,if_neg hs]
  have ha:=arc_a hp hl h2 (x1:=ins) (by omega) (k:=k) hk
  cases hr:arcS ps ins s with
  | inl v=>
   obtain ⟨v,s'⟩:=v
   rw [hr] at ha
   obtain ⟨a',g1,g2⟩:=ha
   obtain ⟨e1,e2,e3,e4,e5⟩:=arcS_n hr
   rw [g1]
   have hlt:=h2.wf.shorter (by rw [e3]; decide)
   exact ⟨a',v,nots,rfl,rfl,g2,e1,by omega,by omega,hn⟩
  | inr v=>
   obtain ⟨e,x⟩:=v
   rw [hr] at ha
   obtain ⟨v,a',g1,g2⟩:=ha
   rw [g1]
   exact ⟨a',v,nots,rfl,g2⟩
theorem in_j0d {a:Tparser} (h:Asleep a) {ins nots:List TArc} (hi:ins.length≤8):∃ i,p58_j0 ins nots (some a)=some (.inl (false,some a,i,nots)):=by
 obtain ⟨v,h1⟩:=arc_d h (x1:=ins) (by omega)
 unfold p58_j0
 rw [p56_d h]
 simp only [Option.bind_some,Bool.false_eq_true,if_false]
 rw [h1]
 exact ⟨v,rfl⟩
theorem in_exit {a:Tparser} (h:Asleep a) (b:Bool) (ins nots:List TArc):loopC p58_l0 (b,some a,ins,nots)=some (some a,ins,nots):=by
 refine loopC_end ?_
 unfold p58_l0
 simp only [Option.bind_some]
 rw [if_neg h.1]
 rfl
theorem sep_a {p:List Int} (hp:Bytes p) (hl:p.length≤1000000) {ps:List (List UInt8)} {a:Tparser} {s:PS} (h:AOk p ps a s) {k:Nat} (hk:Sz k s) (first:Bool) :
  (first=true∧sepS first s=.inl ((),s))∨(first=false∧SimU p ps k (p59 (some a) [44]) (sepS first s)):=by
 cases first with
 | true=>exact .inl ⟨rfl,rfl⟩
 | false=>exact .inr ⟨rfl,want_a hp hl h [44] hk⟩
theorem in_a {p:List Int} (hp:Bytes p) (hl:p.length≤1000000) {ps:List (List UInt8)} {K:Nat}:∀ (k:Nat) (first:Bool) (ins nots:List TArc) (a:Tparser) (s:PS),AOk p ps a s→s.l.length≤k→ins.length≤8→nots.length≤8→Sz K s→
  ∃ a' i o,loopC p58_l0 (first,some a,ins,nots)=some (some a',i,o)∧match inS ps k first ins nots s with
   | .inl (q,s')=>q=(i,o)∧AOk p ps a' s'∧s'.n=s.n∧s'.l.length≤s.l.length
   | .inr (e,x)=>ADead p e x K a':=by
 intro k
 induction k with
 | zero=>
  intro first ins nots a s h hk
  have:s.l=[]:=List.eq_nil_of_length_eq_zero (by omega)
  exact absurd this h.wf.ne
 | succ k ih=>
  intro first ins nots a s h hk hi hn hK
  rw [inS_succ]
  obtain ⟨a1,h1,h2⟩:=sign_a h [45,62]
  have hbody:p58_l0 (first,some a,ins,nots)=p58_j1 first ins nots (!isS s [45,62]) (some a1):=by
   unfold p58_l0
   simp only [Option.bind_some]
   rw [if_pos h.err,h1]
   rfl
  by_cases hs:isS s [45,62]=true
  ·rw [if_pos hs] at h2
   rw [if_pos hs]
   refine ⟨a1,ins,nots,loopC_end ?_,rfl,h2,rfl,nx_len _⟩
   rw [hbody,hs]
   rfl
  ·rw [if_neg hs] at h2
   rw [if_neg hs]
   have hs':isS s [45,62]=false:=by simpa using hs
   rw [hs'] at hbody
      -- behind the comma
   have rest:∀ (a2:Tparser) (s2:PS),AOk p ps a2 s2→s2.n=s.n→s2.l.length≤s.l.length→p58_l0 (first,some a,ins,nots)=p58_j0 ins nots (some a2)→
     ∃ a' i o,loopC p58_l0 (first,some a,ins,nots)=some (some a',i,o)∧match bnd (one2 ps ins nots s2) fun q s=>inS ps k false q.1 q.2 s with
      | .inl (q,s')=>q=(i,o)∧AOk p ps a' s'∧s'.n=s.n∧s'.l.length≤s.l.length
      | .inr (e,x)=>ADead p e x K a':=by
    intro a2 s2 g1 g2 g3 g4
    obtain ⟨a3,i,o,q1,q2⟩:=in_j0 hp hl g1 hi hn (k:=K) (by unfold Sz at *; rw [g2]; exact hK)
    cases hr:one2 ps ins nots s2 with
    | inl v=>
     obtain ⟨q,s'⟩:=v
     rw [hr] at q2
     obtain ⟨rfl,q2,q3,q4,q5,q6⟩:=q2
     obtain ⟨a4,i',o',u1,u2⟩:=ih false i o a3 s' q2 (by omega) q5 q6 (by unfold Sz at *; rw [q3,g2]; exact hK)
     refine ⟨a4,i',o',loopC_go (by rw [g4]; exact q1) u1,?_⟩
     simp only [bnd]
     cases hr2:inS ps k false i o s' with
     | inl v=>
      obtain ⟨q,s''⟩:=v
      rw [hr2] at u2
      exact ⟨u2.1,u2.2.1,by rw [u2.2.2.1,q3,g2],by omega⟩
     | inr v=>obtain ⟨e,x⟩:=v; rw [hr2] at u2; exact u2
    | inr v=>
     obtain ⟨e,x⟩:=v
     rw [hr] at q2
     exact ⟨a3,i,o,loopC_go (by rw [g4]; exact q1) (in_exit (ADead.asleep q2) _ _ _),q2⟩
   rcases sep_a hp hl h2 hK first with ⟨rfl,e1⟩ | ⟨rfl,e1⟩
   ·rw [e1]
    exact rest a1 s h2 rfl (Nat.le_refl _) (by rw [hbody]; rfl)
   ·cases hr:sepS false s with
    | inl v=>
     obtain ⟨u,s2⟩:=v
     rw [hr] at e1
     obtain ⟨a2,q1,q2⟩:=e1
     have hn':=sepS_n hr
     refine rest a2 s2 q2 hn'.1 hn'.2 ?_
     rw [hbody]
     unfold p58_j1
     simp only [Bool.not_false,if_true]
     rw [q1]; rfl
    | inr v=>
     obtain ⟨e,x⟩:=v
     rw [hr] at e1
     obtain ⟨a2,q1,q2⟩:=e1
     obtain ⟨i,q3⟩:=in_j0d q2.asleep (ins:=ins) (nots:=nots) hi
     refine ⟨a2,i,nots,loopC_go ?_ (in_exit q2.asleep false _ _),q2⟩
     rw [hbody]
     unfold p58_j1
     simp only [Bool.not_false,if_true]
     rw [q1]
     exact q3
/-- The list of what comes out. -/
theorem out_exit {a:Tparser} (h:Asleep a) (b:Bool) (outs:List TArc):loopC p58_l1 (b,some a,outs)=some (some a,outs):=by
 refine loopC_end ?_
 unfold p58_l1
 simp only [Option.bind_some]
 rw [if_neg h.1]
 rfl
theorem out_a {p:List Int} (hp:Bytes p) (hl:p.length≤1000000) {ps:List (List UInt8)} {K:Nat}:∀ (k:Nat) (first:Bool) (outs:List TArc) (a:Tparser) (s:PS),AOk p ps a s→s.l.length≤k→outs.length≤8→Sz K s→
  ∃ a' o,loopC p58_l1 (first,some a,outs)=some (some a',o)∧match outS ps k first outs s with
   | .inl (q,s')=>q=o∧AOk p ps a' s'∧s'.n=s.n∧s'.l.length≤s.l.length
   | .inr (e,x)=>ADead p e x K a':=by
 intro k
 induction k with
 | zero=>
  intro first outs a s h hk
  have:s.l=[]:=List.eq_nil_of_length_eq_zero (by omega)
  exact absurd this h.wf.ne
 | succ k ih=>
  intro first outs a s h hk hi hK
  rw [outS]
  obtain ⟨t,ts,e1,e2⟩:=h.open
  have hbody:p58_l1 (first,some a,outs)=p58_j3 first outs a (!isS s [59]):=by
   unfold p58_l1
   simp only [Option.bind_some]
   rw [if_pos h.err,isS_a e2]
   have:a.l=t::ts:=by rw [e1]
   rw [this,idx0]
   simp only [Option.bind_some]
   unfold isA p58_j4
   by_cases hk3:t.Kind=3
   ·simp [hk3]
   ·simp [hk3]
  by_cases hs:isS s [59]=true
  ·rw [if_pos hs]
   refine ⟨a,outs,loopC_end ?_,rfl,h,rfl,Nat.le_refl _⟩
   rw [hbody,hs]
   rfl
  ·rw [if_neg hs]
   have hs':isS s [59]=false:=by simpa using hs
   rw [hs'] at hbody
   have rest:∀ (a2:Tparser) (s2:PS),AOk p ps a2 s2→s2.n=s.n→s2.l.length≤s.l.length→p58_l1 (first,some a,outs)=p58_j2 outs (some a2)→
     ∃ a' o,loopC p58_l1 (first,some a,outs)=some (some a',o)∧match bnd (arcS ps outs s2) fun outs s=>outS ps k false outs s with
      | .inl (q,s')=>q=o∧AOk p ps a' s'∧s'.n=s.n∧s'.l.length≤s.l.length
      | .inr (e,x)=>ADead p e x K a':=by
    intro a2 s2 g1 g2 g3 g4
    have ha:=arc_a hp hl g1 (x1:=outs) (by omega) (k:=K) (by unfold Sz at *; rw [g2]; exact hK)
    unfold p58_j2 at g4
    cases hr:arcS ps outs s2 with
    | inl v=>
     obtain ⟨v,s'⟩:=v
     rw [hr] at ha
     obtain ⟨a3,q1,q2⟩:=ha
     obtain ⟨f1,f2,f3,f4,f5⟩:=arcS_n hr
     have hlt:=g1.wf.shorter (by rw [f3]; decide)
     rw [q1] at g4
     obtain ⟨a4,o',u1,u2⟩:=ih false v a3 s' q2 (by omega) (by omega) (by unfold Sz at *; rw [f1,g2]; exact hK)
     refine ⟨a4,o',loopC_go (by rw [g4]; rfl) u1,?_⟩
     simp only [bnd]
     cases hr2:outS ps k false v s' with
     | inl v=>
      obtain ⟨q,s''⟩:=v
      rw [hr2] at u2
      exact ⟨u2.1,u2.2.1,by rw [u2.2.2.1,f1,g2],by omega⟩
     | inr v=>obtain ⟨e,x⟩:=v; rw [hr2] at u2; exact u2
    | inr v=>
     obtain ⟨e,x⟩:=v
     rw [hr] at ha
     obtain ⟨v,a3,q1,q2⟩:=ha
     rw [q1] at g4
     exact ⟨a3,v,loopC_go (by rw [g4]; rfl) (out_exit q2.asleep _ _),q2⟩
   rcases sep_a hp hl h hK first with ⟨rfl,e1⟩ | ⟨rfl,e1⟩
   ·rw [e1]
    exact rest a s h rfl (Nat.le_refl _) (by rw [hbody]; rfl)
   ·cases hr:sepS false s with
    | inl v=>
     obtain ⟨u,s2⟩:=v
     rw [hr] at e1
     obtain ⟨a2,q1,q2⟩:=e1
     have hn':=sepS_n hr
     refine rest a2 s2 q2 hn'.1 hn'.2 ?_
     rw [hbody]
     unfold p58_j3
     simp only [Bool.not_false,if_true]
     rw [q1]; rfl
    | inr v=>
     obtain ⟨e,x⟩:=v
     rw [hr] at e1
     obtain ⟨a2,q1,q2⟩:=e1
     obtain ⟨o,q3⟩:=arc_d q2.asleep (x1:=outs) (by omega)
     refine ⟨a2,o,loopC_go ?_ (out_exit q2.asleep false _),q2⟩
     rw [hbody]
     unfold p58_j3
     simp only [Bool.not_false,if_true]
     rw [q1]
     simp only [Option.bind_some]
     unfold p58_j2
     rw [q3]; rfl
end Go.Proofs.Ytloaoofdbilpeaa
/- The program's parser: transitions, places, items, all of a text. Own work. -/
namespace Go.Proofs.Ytloaoofdbilpeaa
open Go Go.Am
set_option linter.unusedVariables false
set_option linter.unusedSimpArgs false
/-- A number that may be there. -/
noncomputable def optA (x:List UInt8) (l:Option Tparser):Option (Int×Option Tparser):=(p56 l x).bind fun u=>if u.1=true then (p57 u.2 0).bind fun w=>some (w.1,w.2) else some (0,u.2)
theorem optA_bind {β:Type} (x:List UInt8) (l:Option Tparser) (f:Int→Option Tparser→Option β):((p56 l x).bind fun u=>if u.1=true then ((p57 u.2 0).bind fun w=>f w.1 w.2) else f 0 u.2)=(optA x l).bind fun w=>f w.1 w.2:=by
 unfold optA
 cases p56 l x with
 | none=>rfl
 | some u=>
  simp only [Option.bind_some]
  split
  ·cases p57 u.2 0<;>rfl
  ·rfl
theorem opt_a {p:List Int} (hp:Bytes p) (hl:p.length≤1000000) {ps:List (List UInt8)} {a:Tparser} {s:PS} (h:AOk p ps a s) (x:List UInt8) {k:Nat} (hk:Sz k s):SimA p ps k (optA x (some a)) (optS x s):=by
 obtain ⟨a1,h1,h2⟩:=sign_a h x
 unfold optA optS
 rw [h1]
 simp only [Option.bind_some]
 by_cases hs:isS s x=true
 ·rw [if_pos hs] at h2
  rw [if_pos hs,if_pos hs]
  have hn:=num_a hp hl h2 0 (k:=k) hk
  cases hr:numS 0 (stp s) with
  | inl v=>
   obtain ⟨v,s1⟩:=v
   rw [hr] at hn
   obtain ⟨a1,h2,h3⟩:=hn
   rw [h2]
   exact ⟨a1,rfl,h3⟩
  | inr v=>
   obtain ⟨v,x⟩:=v
   rw [hr] at hn
   obtain ⟨w,a1,h2,h3⟩:=hn
   rw [h2]
   exact ⟨w,a1,rfl,h3⟩
 ·rw [if_neg hs] at h2
  rw [if_neg hs,if_neg hs]
  exact ⟨a1,rfl,h2⟩
theorem opt_d {a:Tparser} (h:Asleep a) (x:List UInt8):optA x (some a)=some (0,some a):=by
 unfold optA
 rw [p56_d h]; rfl
/-- Asleep, a list grows by one at most. -/
structure Sl (a a':Tparser):Prop where
 pp:a'.p=a.p
 l:a'.l=a.l
 f:a'.f=a.f
 n:a'.n.Places.length≤a.n.Places.length+1∧a'.n.Trans.length≤a.n.Trans.length+1
theorem Sl.dead {p:List Int} {e x:Int} {k:Nat} {a a':Tparser} (s:Sl a a') (h:ADead p e x k a):ADead p e x (k+1) a':=by
 have h1:=h.n
 have h2:=s.n
 exact ⟨by rw [s.pp]; exact h.pp,by rw [s.l]; exact h.l,by rw [s.f]; exact h.f,h.e,by omega,by rw [s.l]; exact h.tl,h.xa⟩
theorem ADead.mono {p:List Int} {e x:Int} {k k':Nat} {a:Tparser} (h:ADead p e x k a) (hk:k≤k'):ADead p e x k' a:=⟨h.pp,h.l,h.f,h.e,by have:=h.n; omega,h.tl,h.xa⟩
theorem j5_d {a:Tparser} (h:Asleep a) (hn:a.n.Trans.length≤1000) (u:List UInt8×Option Tparser) (c d:Int):∃ a',p58_j5 u c (some a) d=some (some a')∧Sl a a':=by
 unfold p58_j5
 rw [want_d h]
 simp only [Option.bind_some]
 rw [in_exit h]
 simp only [Option.bind_some]
 rw [out_exit h]
 simp only [Option.bind_some]
 rw [app_ok (by simp; omega)]
 simp only [Option.bind_some]
 exact ⟨_,rfl,rfl,rfl,rfl,by simp,by simp⟩
theorem j6_d {a:Tparser} (h:Asleep a) (hn:a.n.Trans.length≤1000) (u:List UInt8×Option Tparser) (c:Int):∃ a',p58_j6 u (some a) c=some (some a')∧Sl a a':=by
 unfold p58_j6
 rw [optA_bind [33] (some a) (fun d l=>p58_j5 u c l d),opt_d h]
 exact j5_d h hn u c 0
theorem one2_n {ps:List (List UInt8)} {ins nots:List TArc} {s s':PS} {q:List TArc×List TArc} (h:one2 ps ins nots s=.inl (q,s')) (hi:ins.length≤8) (hn:nots.length≤8):s'.n=s.n∧s'.l.length≤s.l.length∧q.1.length≤8∧q.2.length≤8:=by
 unfold one2 at h
 split at h
 ·obtain ⟨v,s1,h1,h2⟩:=bnd_inl h
  cases h2
  obtain ⟨a,b,c,d,e⟩:=arcS_n h1
  have:=nx_len (stp s).l
  have h3:(stp s).l.length≤s.l.length:=nx_len _
  exact ⟨a,by omega,hi,by simp only; omega⟩
 ·obtain ⟨v,s1,h1,h2⟩:=bnd_inl h
  cases h2
  obtain ⟨a,b,c,d,e⟩:=arcS_n h1
  have:=nx_len s.l
  exact ⟨a,by omega,by simp only; omega,hn⟩
theorem inS_n {ps:List (List UInt8)}:∀ {k:Nat} {b:Bool} {ins nots:List TArc} {s s':PS} {q:List TArc×List TArc},inS ps k b ins nots s=.inl (q,s')→ins.length≤8→nots.length≤8→s'.n=s.n∧s'.l.length≤s.l.length∧q.1.length≤8∧q.2.length≤8
 | 0,b,ins,nots,s,s',q,h,_,_=>by unfold inS er at h; cases h
 | k+1,b,ins,nots,s,s',q,h,hi,hn=>by
  rw [inS_succ] at h
  split at h
  ·cases h
   exact ⟨rfl,nx_len _,hi,hn⟩
  ·obtain ⟨_,s1,h1,h⟩:=bnd_inl h
   obtain ⟨v,s2,h2,h⟩:=bnd_inl h
   have a1:=sepS_n h1
   have a2:=one2_n h2 hi hn
   have a3:=inS_n h a2.2.2.1 a2.2.2.2
   exact ⟨by rw [a3.1,a2.1,a1.1],by omega,a3.2.2⟩
theorem outS_n {ps:List (List UInt8)}:∀ {k:Nat} {b:Bool} {outs:List TArc} {s s':PS} {q:List TArc},outS ps k b outs s=.inl (q,s')→outs.length≤8→s'.n=s.n∧s'.l.length≤s.l.length∧q.length≤8
 | 0,b,outs,s,s',q,h,_=>by unfold outS er at h; cases h
 | k+1,b,outs,s,s',q,h,hi=>by
  rw [outS] at h
  split at h
  ·cases h
   exact ⟨rfl,Nat.le_refl _,hi⟩
  ·obtain ⟨_,s1,h1,h⟩:=bnd_inl h
   obtain ⟨v,s2,h2,h⟩:=bnd_inl h
   have a1:=sepS_n h1
   obtain ⟨c1,c2,c3,c4,c5⟩:=arcS_n h2
   have a3:=outS_n h (by omega)
   have:=nx_len s1.l
   exact ⟨by rw [a3.1,c1,a1.1],by omega,a3.2.2⟩
theorem transS_n {ps:List (List UInt8)} {s s':PS} {u:Unit} (h:transS ps s=.inl (u,s')):∃ t:TTrans,s'.n=⟨s.n.Places,s.n.Trans++[t]⟩∧s'.l.length≤s.l.length∧t.In.length≤8∧t.Not.length≤8∧t.Out.length≤8:=by
 unfold transS at h
 obtain ⟨nm,s1,q1,h⟩:=bnd_inl h
 obtain ⟨d,s2,q2,h⟩:=bnd_inl h
 obtain ⟨c,s3,q3,h⟩:=bnd_inl h
 obtain ⟨_,s4,q4,h⟩:=bnd_inl h
 obtain ⟨io,s5,q5,h⟩:=bnd_inl h
 obtain ⟨o,s6,q6,h⟩:=bnd_inl h
 cases h
 have a1:=nameS_n q1
 have a2:=optS_n q2
 have a3:=optS_n q3
 have a4:=want_n q4
 have a5:=inS_n q5 (by simp) (by simp)
 have a6:=outS_n q6 (by simp)
 have l1:s1.l.length≤s.l.length:=by rw [a1.2]; exact nx_len _
 have n4:s4.n=s3.n:=by rw [a4]; rfl
 have l4:s4.l.length≤s3.l.length:=by rw [a4]; exact nx_len _
 have en:s6.n=s.n:=by rw [a6.1,a5.1,n4,a3.1,a2.1,a1.1]
 refine ⟨⟨nm,d,c,io.1,io.2,o⟩,by simp only; rw [en],by simp only; omega,a5.2.2.1,a5.2.2.2,a6.2.2⟩
theorem trans_a {p:List Int} (hp:Bytes p) (hl:p.length≤1000000) {ps:List (List UInt8)} {a:Tparser} {s:PS} (h:AOk p ps a s) {k:Nat} (hk:Sz k s) (hk2:k≤100):SimU p ps (k+1) (p58 (some a)) (transS ps s):=by
 unfold p58 transS
 have hn:=name_a hp hl h (k:=k) hk
 cases hr:nameS s with
 | inr v=>
  obtain ⟨e,x⟩:=v
  rw [hr] at hn
  obtain ⟨v,a1,h1,h2⟩:=hn
  rw [h1]
  simp only [Option.bind_some,bnd]
  rw [optA_bind [64] (some a1) (fun d l=>p58_j6 (v,some a1) l d),opt_d h2.asleep]
  obtain ⟨a2,h3,h4⟩:=j6_d h2.asleep (by have:=h2.n; omega) (v,some a1) 0
  exact ⟨a2,h3,h4.dead h2⟩
 | inl v=>
  obtain ⟨nm,s1⟩:=v
  rw [hr] at hn
  obtain ⟨a1,h1,h2⟩:=hn
  obtain ⟨n1,_⟩:=nameS_n hr
  rw [h1]
  simp only [Option.bind_some,bnd]
  rw [optA_bind [64] (some a1) (fun d l=>p58_j6 (nm,some a1) l d)]
  have hk1:Sz k s1:=by unfold Sz at *; rw [n1]; exact hk
  have ho:=opt_a hp hl h2 [64] hk1
  cases hr2:optS [64] s1 with
  | inr v=>
   obtain ⟨e,x⟩:=v
   rw [hr2] at ho
   obtain ⟨d,a2,h3,h4⟩:=ho
   rw [h3]
   obtain ⟨a3,h5,h6⟩:=j6_d h4.asleep (by have:=h4.n; omega) (nm,some a1) d
   exact ⟨a3,h5,h6.dead h4⟩
  | inl v=>
   obtain ⟨d,s2⟩:=v
   rw [hr2] at ho
   obtain ⟨a2,h3,h4⟩:=ho
   obtain ⟨n2,_⟩:=optS_n hr2
   rw [h3]
   simp only [Option.bind_some,bnd]
   unfold p58_j6
   rw [optA_bind [33] (some a2) (fun c l=>p58_j5 (nm,some a1) d l c)]
   have hk2':Sz k s2:=by unfold Sz at *; rw [n2]; exact hk1
   have ho:=opt_a hp hl h4 [33] hk2'
   cases hr3:optS [33] s2 with
   | inr v=>
    obtain ⟨e,x⟩:=v
    rw [hr3] at ho
    obtain ⟨c,a3,h5,h6⟩:=ho
    rw [h5]
    obtain ⟨a4,h7,h8⟩:=j5_d h6.asleep (by have:=h6.n; omega) (nm,some a1) d c
    exact ⟨a4,h7,h8.dead h6⟩
   | inl v=>
    obtain ⟨c,s3⟩:=v
    rw [hr3] at ho
    obtain ⟨a3,h5,h6⟩:=ho
    obtain ⟨n3,_⟩:=optS_n hr3
    rw [h5]
    simp only [Option.bind_some,bnd]
    unfold p58_j5
    have hk3:Sz k s3:=by unfold Sz at *; rw [n3]; exact hk2'
    have hw:=want_a hp hl h6 [58] (k:=k) hk3
    cases hr4:want [58] s3 with
    | inr v=>
     obtain ⟨e,x⟩:=v
     rw [hr4] at hw
     obtain ⟨a4,h7,h8⟩:=hw
     rw [h7]
     simp only [Option.bind_some]
     rw [in_exit h8.asleep]
     simp only [Option.bind_some]
     rw [out_exit h8.asleep]
     simp only [Option.bind_some]
     rw [app_ok (by have:=h8.n; simp; omega)]
     simp only [Option.bind_some]
     exact ⟨_,rfl,Sl.dead (a:=a4) ⟨rfl,rfl,rfl,by simp,by simp⟩ h8⟩
    | inl v=>
     obtain ⟨u,s4⟩:=v
     rw [hr4] at hw
     obtain ⟨a4,h7,h8⟩:=hw
     have n4:=want_n hr4
     subst n4
     rw [h7]
     simp only [Option.bind_some]
     obtain ⟨a5,i,o,h9,h10⟩:=in_a hp hl (stp s3).l.length true [] [] a4 (stp s3) h8 (Nat.le_refl _) (by simp) (by simp) (K:=k) hk3
     rw [h9]
     simp only [Option.bind_some]
     cases hr5:inS ps (stp s3).l.length true [] [] (stp s3) with
     | inr v=>
      obtain ⟨e,x⟩:=v
      rw [hr5] at h10
      have h10:ADead p e x k a5:=h10
      rw [out_exit h10.asleep]
      simp only [Option.bind_some]
      rw [app_ok (by have:=h10.n; simp; omega)]
      simp only [Option.bind_some]
      exact ⟨_,rfl,Sl.dead (a:=a5) ⟨rfl,rfl,rfl,by simp,by simp⟩ h10⟩
     | inl v=>
      obtain ⟨io,s5⟩:=v
      rw [hr5] at h10
      obtain ⟨rfl,h11,n5,_⟩:=h10
      have hk5:Sz k s5:=by unfold Sz at *; rw [n5]; exact hk3
      obtain ⟨a6,q,h12,h13⟩:=out_a hp hl s5.l.length true [] a5 s5 h11 (Nat.le_refl _) (by simp) (K:=k) hk5
      rw [h12]
      simp only [Option.bind_some]
      cases hr6:outS ps s5.l.length true [] s5 with
      | inr v=>
       obtain ⟨e,x⟩:=v
       rw [hr6] at h13
       have h13:ADead p e x k a6:=h13
       rw [app_ok (by have:=h13.n; simp; omega)]
       simp only [Option.bind_some]
       exact ⟨_,rfl,Sl.dead (a:=a6) ⟨rfl,rfl,rfl,by simp,by simp⟩ h13⟩
      | inl v=>
       obtain ⟨oo,s6⟩:=v
       rw [hr6] at h13
       obtain ⟨rfl,h14,n6,_⟩:=h13
       have hk6:Sz k s6:=by unfold Sz at *; rw [n6]; exact hk5
       have hlen:a6.n.Trans.length≤100:=by rw [h14.n]; unfold Sz at hk6; omega
       rw [app_ok (by simp; omega)]
       simp only [Option.bind_some]
       exact ⟨_,rfl,h14.pp,h14.l,h14.f,by simp only; rw [h14.n],h14.pl,h14.td,h14.wf⟩
theorem j1_d {a:Tparser} (h:Asleep a) (hn:a.n.Places.length≤1000) (u:List UInt8×Option Tparser) (c:Int):∃ a',p40_j1 u (some a) c=some (some a')∧Sl a a':=by
 unfold p40_j1
 simp only [Option.bind_some]
 rw [app_ok (by simp; omega)]
 simp only [Option.bind_some]
 unfold p40_j0
 rw [want_d (a:=⟨a.p,a.l,a.f,⟨a.n.Places++[TPlace.mk u.1 c],a.n.Trans⟩,a.places,a.told⟩) h]
 exact ⟨_,rfl,rfl,rfl,rfl,by simp,by simp⟩
/-- A place, and the semicolon. -/
theorem place_a {p:List Int} (hp:Bytes p) (hl:p.length≤1000000) {ps:List (List UInt8)} {a:Tparser} {s:PS} (h:AOk p ps a s) {k:Nat} (hk:Sz k s) (hk2:k≤100):SimU p ps (k+1) (p40_j2 (some a)) (bnd (placeS s) fun _ s=>want [59] s):=by
 unfold p40_j2 placeS
 have hn:=name_a hp hl h (k:=k) hk
 cases hr:nameS s with
 | inr v=>
  obtain ⟨e,x⟩:=v
  rw [hr] at hn
  obtain ⟨v,a1,h1,h2⟩:=hn
  rw [h1]
  simp only [Option.bind_some,bnd]
  rw [optA_bind [61] (some a1) (fun d l=>p40_j1 (v,some a1) l d),opt_d h2.asleep]
  obtain ⟨a2,h3,h4⟩:=j1_d h2.asleep (by have:=h2.n; omega) (v,some a1) 0
  exact ⟨a2,h3,h4.dead h2⟩
 | inl v=>
  obtain ⟨nm,s1⟩:=v
  rw [hr] at hn
  obtain ⟨a1,h1,h2⟩:=hn
  obtain ⟨n1,_⟩:=nameS_n hr
  rw [h1]
  simp only [Option.bind_some,bnd]
  rw [optA_bind [61] (some a1) (fun d l=>p40_j1 (nm,some a1) l d)]
  have hk1:Sz k s1:=by unfold Sz at *; rw [n1]; exact hk
  have ho:=opt_a hp hl h2 [61] hk1
  cases hr2:optS [61] s1 with
  | inr v=>
   obtain ⟨e,x⟩:=v
   rw [hr2] at ho
   obtain ⟨d,a2,h3,h4⟩:=ho
   rw [h3]
   obtain ⟨a3,h5,h6⟩:=j1_d h4.asleep (by have:=h4.n; omega) (nm,some a1) d
   exact ⟨a3,h5,h6.dead h4⟩
  | inl v=>
   obtain ⟨d,s2⟩:=v
   rw [hr2] at ho
   obtain ⟨a2,h3,h4⟩:=ho
   obtain ⟨n2,_⟩:=optS_n hr2
   rw [h3]
   simp only [Option.bind_some,bnd]
   unfold p40_j1
   simp only [Option.bind_some]
   have hk2':Sz k s2:=by unfold Sz at *; rw [n2]; exact hk1
   have hlen:a2.n.Places.length≤100:=by rw [h4.n]; unfold Sz at hk2'; omega
   rw [app_ok (by simp; omega)]
   simp only [Option.bind_some]
   unfold p40_j0
   have h5:AOk p ps ⟨a2.p,a2.l,a2.f,⟨a2.n.Places++[⟨nm,d⟩],a2.n.Trans⟩,a2.places,a2.told⟩ ⟨s2.l,⟨s2.n.Places++[⟨nm,d⟩],s2.n.Trans⟩,s2.told⟩:=
    ⟨h4.pp,h4.l,h4.f,by simp only; rw [h4.n],h4.pl,h4.td,h4.wf⟩
   have hw:=want_a hp hl h5 [59] (k:=k+1) (by unfold Sz at hk2'; simp; omega)
   cases hr3:want [59] ⟨s2.l,⟨s2.n.Places++[⟨nm,d⟩],s2.n.Trans⟩,s2.told⟩ with
   | inr v=>
    obtain ⟨e,x⟩:=v
    rw [hr3] at hw
    obtain ⟨a3,h6,h7⟩:=hw
    rw [h6]
    exact ⟨a3,rfl,h7⟩
   | inl v=>
    obtain ⟨u,s3⟩:=v
    rw [hr3] at hw
    obtain ⟨a3,h6,h7⟩:=hw
    rw [h6]
    exact ⟨a3,rfl,h7⟩
theorem p39_eq (t:TTokenlex) (x:List UInt8):p39 t x=some (decide (t.Kind=1)&&(t.Text==x)):=by
 unfold p39 p39_j0
 by_cases h:t.Kind=1<;>simp [h]
theorem j0_d {a:Tparser} (h:Asleep a):p40_j0 (some a)=some (some a):=by
 unfold p40_j0
 rw [want_d h]; rfl
theorem j2_d {a:Tparser} (h:Asleep a) (hn:a.n.Places.length≤1000):∃ a',p40_j2 (some a)=some (some a')∧Sl a a':=by
 unfold p40_j2
 obtain ⟨v,a1,h1,h2⟩:=name_d h
 rw [h1]
 simp only [Option.bind_some]
 have h':=h.sm h2
 rw [optA_bind [61] (some a1) (fun d l=>p40_j1 (v,some a1) l d),opt_d h']
 obtain ⟨a2,h3,h4⟩:=j1_d h' (by rw [h2.n]; exact hn) (v,some a1) 0
 exact ⟨a2,h3,by rw [h4.pp,h2.pp],by rw [h4.l,h2.l],by rw [h4.f,h2.f],by have:=h4.n; rw [h2.n] at this; exact this⟩
theorem j3_d {a:Tparser} (h:Asleep a) (hn:a.n.Trans.length≤1000):∃ a',p40_j3 (some a)=some (some a')∧Sl a a':=by
 unfold p40_j3 p58
 obtain ⟨v,a1,h1,h2⟩:=name_d h
 rw [h1]
 simp only [Option.bind_some]
 have h':=h.sm h2
 rw [optA_bind [64] (some a1) (fun d l=>p58_j6 (v,some a1) l d),opt_d h']
 obtain ⟨a2,h3,h4⟩:=j6_d h' (by rw [h2.n]; exact hn) (v,some a1) 0
 simp only [Option.bind_some]
 rw [h3]
 simp only [Option.bind_some]
 have ha2:Asleep a2:=⟨by rw [h4.f]; exact h'.1,by rw [h4.l]; exact h'.2.1,by rw [h4.l]; exact h'.2.2⟩
 rw [j0_d ha2]
 exact ⟨a2,rfl,by rw [h4.pp,h2.pp],by rw [h4.l,h2.l],by rw [h4.f,h2.f],by have:=h4.n; rw [h2.n] at this; exact this⟩
theorem item_a {p:List Int} (hp:Bytes p) (hl:p.length≤1000000) {ps:List (List UInt8)} {a:Tparser} {s:PS} (h:AOk p ps a s) {k:Nat} (hk:Sz k s) (hk2:k≤100):SimU p ps (k+1) (p40 (some a)) (itemS ps s):=by
 obtain ⟨t,ts,e1,e2⟩:=h.open
 rw [e1] at h ⊢
 have eh:hd s.l=tokL t:=by rw [e2]; rfl
 have hs:=stp_ok h
 obtain ⟨t2,ts2,e3,e4⟩:=hs.open
 have hks:Sz k (stp s):=hk
 unfold p40 itemS bodyS
 rw [p53_a,eh]
 simp only [Option.bind_some]
 have hnx:nx (t::ts)=t2::ts2:=by
  have:=congrArg Tparser.l e3
  exact this
 rw [hnx] at hs ⊢
 rw [idx0]
 simp only [Option.bind_some]
 rw [p39_eq]
 simp only [Option.bind_some]
 have kwe:∀ x,kw (tokL t) x=(decide (t.Kind=1)&&(t.Text==x)):=fun x=>rfl
 rw [kwe]
 by_cases h1:(decide (t.Kind=1)&&(t.Text==[112,108,97,99,101]))=true
 ·rw [if_pos h1,if_pos h1]
  by_cases h32:s.n.Places.length=32
  ·rw [if_pos (by omega),if_pos h32]
   obtain ⟨b,h3,h4⟩:=fail_a hp hl (s:=stp s) hs e4 (e:=5) (by decide) hks
   have h3:p54 (some ⟨p,t2::ts2,Z4,s.n,a.places,a.told⟩) 5 t2=some (some b):=h3
   rw [h3]
   obtain ⟨b2,h5,h6⟩:=j2_d h4.asleep (by have:=h4.n; omega)
   exact ⟨b2,h5,h6.dead h4⟩
  ·rw [if_neg (by omega),if_neg h32]
   exact place_a hp hl hs hks hk2
 ·rw [if_neg h1,if_neg h1,p39_eq,kwe]
  simp only [Option.bind_some]
  by_cases h2:(decide (t.Kind=1)&&(t.Text==[116,114,97,110,115]))=true
  ·rw [if_pos h2,if_pos h2]
   by_cases h32:s.n.Trans.length=32
   ·rw [if_pos (by omega),if_pos h32]
    obtain ⟨b,h3,h4⟩:=fail_a hp hl (s:=stp s) hs e4 (e:=5) (by decide) hks
    have h3:p54 (some ⟨p,t2::ts2,Z4,s.n,a.places,a.told⟩) 5 t2=some (some b):=h3
    rw [h3]
    obtain ⟨b2,h5,h6⟩:=j3_d h4.asleep (by have:=h4.n; omega)
    exact ⟨b2,h5,h6.dead h4⟩
   ·rw [if_neg (by omega),if_neg h32]
    have ht:=trans_a hp hl hs hks hk2
    unfold p40_j3
    cases hr:transS ps (stp s) with
    | inr v=>
     obtain ⟨e,x⟩:=v
     rw [hr] at ht
     obtain ⟨b,h3,h4⟩:=ht
     have h3:p58 (some ⟨p,t2::ts2,Z4,s.n,a.places,a.told⟩)=some (some b):=h3
     rw [h3]
     exact ⟨b,j0_d h4.asleep,h4⟩
    | inl v=>
     obtain ⟨u,s1⟩:=v
     rw [hr] at ht
     obtain ⟨b,h3,h4⟩:=ht
     have h3:p58 (some ⟨p,t2::ts2,Z4,s.n,a.places,a.told⟩)=some (some b):=h3
     rw [h3]
     have hn1:Sz (k+1) s1:=by
      obtain ⟨t,q1,_⟩:=transS_n hr
      unfold Sz at *
      rw [q1]
      simp
      omega
     have hw:=want_a hp hl h4 [59] (k:=k+1) hn1
     simp only [Option.bind_some,bnd]
     unfold p40_j0
     cases hr3:want [59] s1 with
     | inr v=>
      obtain ⟨e,x⟩:=v
      rw [hr3] at hw
      obtain ⟨a3,h6,h7⟩:=hw
      rw [h6]
      exact ⟨a3,rfl,h7⟩
     | inl v=>
      obtain ⟨u,s3⟩:=v
      rw [hr3] at hw
      obtain ⟨a3,h6,h7⟩:=hw
      rw [h6]
      exact ⟨a3,rfl,h7⟩
  ·rw [if_neg h2,if_neg h2]
   have ht:=hd_ok e2 h.wf
   have h3:=p54_a hp hl (n:=s.n) (pl:=a.places) (td:=a.told) (l:=t2::ts2) 6 ht
   rw [h3]
   have h4:ADead p 6 (tokL t).at_ k ⟨p,t2::ts2,FF p 6 t.At,s.n,a.places,a.told⟩:=⟨rfl,by simp,rfl,by decide,hk,fun u hu=>(hs.wf.ok (tokL u) (by rw [e4]; exact List.mem_map_of_mem (f:=tokL) hu)).2.2,ht.1⟩
   refine ⟨_,j0_d h4.asleep,?_⟩
   rw [eh]
   exact h4.mono (Nat.le_succ _)
theorem plc_none:∀ {ps:List (List UInt8)} {x:List UInt8},plc ps x=none↔x∉ps
 | [],x=>by simp [plc]
 | y::r,x=>by
  unfold plc
  by_cases h:y=x
  ·simp [h]
  ·rw [if_neg h,Option.map_eq_none_iff,plc_none]
   simp [Ne.symm h]
end Go.Proofs.Ytloaoofdbilpeaa
/- The program's parser: all of a text. Own work. -/
namespace Go.Proofs.Ytloaoofdbilpeaa
open Go Go.Am
set_option linter.unusedVariables false
set_option linter.unusedSimpArgs false
/-- A net within bounds of lengths. -/
def NOk (n:TNet):Prop:=n.Places.length≤32∧n.Trans.length≤32∧∀ t,t∈n.Trans→t.In.length≤8∧t.Not.length≤8∧t.Out.length≤8
theorem placeS_n {s s':PS} {u:Unit} (h:placeS s=.inl (u,s')):∃ t:TPlace,s'.n=⟨s.n.Places++[t],s.n.Trans⟩∧s'.l.length≤s.l.length:=by
 unfold placeS at h
 obtain ⟨nm,s1,q1,h⟩:=bnd_inl h
 obtain ⟨d,s2,q2,h⟩:=bnd_inl h
 cases h
 have a1:=nameS_n q1
 have a2:=optS_n q2
 have l1:s1.l.length≤s.l.length:=by rw [a1.2]; exact nx_len _
 have en:s2.n=s.n:=by rw [a2.1,a1.1]
 exact ⟨⟨nm,d⟩,by simp only; rw [en],by simp only; omega⟩
theorem kw_k {t:Tok} {x:List UInt8} (h:kw t x=true):t.k=1:=by
 unfold kw at h
 simp only [Bool.and_eq_true,decide_eq_true_eq] at h
 exact h.1
theorem itemS_n {p:List Int} {ps:List (List UInt8)} {s s':PS} {u:Unit} (hw:WF p s.l) (hn:NOk s.n) (h:itemS ps s=.inl (u,s')):NOk s'.n∧s'.l.length < s.l.length:=by
 unfold itemS at h
 obtain ⟨_,s1,h1,h⟩:=bnd_inl h
 have e:=want_n h
 have l1:s'.l.length≤s1.l.length:=by rw [e]; exact nx_len _
 have n1:s'.n=s1.n:=by rw [e]; rfl
 obtain ⟨b1,b2,b3⟩:=hn
 unfold bodyS er at h1
 split at h1
 ·rename_i hk
  split at h1
  ·cases h1
  ·have hlt:=hw.shorter (by rw [kw_k hk]; decide)
   obtain ⟨t,q1,q2⟩:=placeS_n h1
   have q2:s1.l.length≤(nx s.l).length:=q2
   refine ⟨?_,by omega⟩
   rw [n1,q1]
   refine ⟨by simp [stp]; omega,b2,b3⟩
 ·split at h1
  ·rename_i hk
   split at h1
   ·cases h1
   ·have hlt:=hw.shorter (by rw [kw_k hk]; decide)
    obtain ⟨t,q1,q2,q3⟩:=transS_n h1
    have q2:s1.l.length≤(nx s.l).length:=q2
    refine ⟨?_,by omega⟩
    rw [n1,q1]
    refine ⟨b1,by simp [stp]; omega,fun x hx=>?_⟩
    rcases List.mem_append.1 hx with hx | hx
    ·exact b3 x hx
    ·rw [List.mem_singleton] at hx; subst hx; exact q3
  ·cases h1
theorem main_a {p:List Int} (hp:Bytes p) (hl:p.length≤1000000) {ps:List (List UInt8)}:∀ (k:Nat) (a:Tparser) (s:PS),AOk p ps a s→s.l.length≤k→NOk s.n→
  ∃ a',loopC p26_l1 (some a)=some (some a')∧match allS ps k s with
   | .inl n=>a'.f=Z4∧a'.n=n∧NOk n
   | .inr (e,x)=>ADead p e x 33 a':=by
 intro k
 induction k with
 | zero=>
  intro a s h hk
  have:s.l=[]:=List.eq_nil_of_length_eq_zero (by omega)
  exact absurd this h.wf.ne
 | succ k ih=>
  intro a s h hk hn
  rw [allS]
  obtain ⟨t,ts,e1,e2⟩:=h.open
  have eh:hd s.l=tokL t:=by rw [e2]; rfl
  have hbody:p26_l1 (some a)=p26_j2 a (!decide (t.Kind=0)):=by
   unfold p26_l1
   simp only [Option.bind_some]
   rw [if_pos h.err]
   have:a.l=t::ts:=by rw [e1]
   rw [this,idx0]; rfl
  by_cases h0:t.Kind=0
  ·rw [if_pos (by rw [eh]; exact h0)]
   refine ⟨a,loopC_end ?_,h.f,h.n,hn⟩
   rw [hbody]
   unfold p26_j2
   rw [if_neg (by simp [h0])]
  ·rw [if_neg (by rw [eh]; exact h0)]
   have hb2:p26_l1 (some a)=(p40 (some a)).bind fun u=>some (.inl u):=by
    rw [hbody]
    unfold p26_j2
    rw [if_pos (by simp [h0])]
   have hi:=item_a hp hl h (k:=32) ⟨hn.1,hn.2.1⟩ (by omega)
   cases hr:itemS ps s with
   | inl v=>
    obtain ⟨u,s'⟩:=v
    rw [hr] at hi
    obtain ⟨a1,q1,q2⟩:=hi
    obtain ⟨q3,q4⟩:=itemS_n h.wf hn hr
    obtain ⟨a2,q5,q6⟩:=ih a1 s' q2 (by omega) q3
    exact ⟨a2,loopC_go (by rw [hb2,q1]; rfl) q5,q6⟩
   | inr v=>
    obtain ⟨e,x⟩:=v
    rw [hr] at hi
    obtain ⟨a1,q1,q2⟩:=hi
    refine ⟨a1,loopC_go (by rw [hb2,q1]; rfl) (loopC_end ?_),q2⟩
    unfold p26_l1
    simp only [Option.bind_some]
    rw [if_neg q2.asleep.1]
    rfl
/-! ### a copy is the same -/
theorem p62_eq {l:List TArc} (h:l.length≤1000):p62 l=some l:=by
 unfold p62
 rw [app_ok (by simp; omega)]; rfl
theorem p41_eq {n:TNet} (h:NOk n):p41 n=some n:=by
 obtain ⟨h1,h2,h3⟩:=h
 unfold p41 p60 p61
 rw [app_ok (by simp; omega),app_ok (by simp; omega)]
 simp only [Option.bind_some,List.nil_append]
 have key:∃ r,loopC (p41_l0 n.Trans) ((0:Int),n.Trans)=some r∧r=n.Trans:=by
  refine loop_cnt n.Trans.length (fun k st=>st=((k:Int),n.Trans)) _ ?_ ?_ rfl
  ·rintro k _ hk rfl
   left
   refine ⟨_,?_,rfl⟩
   unfold p41_l0
   simp only
   have hm:=h3 _ (List.getElem_mem hk)
   rw [if_pos (by omega),idx_get hk]
   simp only [Option.bind_some]
   rw [p62_eq (by omega),p62_eq (by omega),p62_eq (by omega)]
   simp only [Option.bind_some,Int.toNat_natCast]
   rw [wrap64 (by omega) (by omega)]
   simp
   exact List.set_getElem_self hk
  ·rintro _ rfl
   refine ⟨_,?_,rfl⟩
   unfold p41_l0
   simp only
   rw [if_neg (by omega)]
 obtain ⟨r,k1,rfl⟩:=key
 rw [k1]
 rfl
/-! ### names of places, ahead -/
theorem plc_app:∀ (ps:List (List UInt8)) (y x:List UInt8),plc (ps++[y]) x=match plc ps x with
  | some k=>some k
  | none=>if y=x then some ps.length else none
 | [],y,x=>by simp [plc]
 | z::r,y,x=>by
  simp only [List.cons_append,plc,plc_app r y x]
  by_cases h:z=x
  ·simp [h]
  ·simp only [if_neg h]
   cases plc r x with
   | some k=>rfl
   | none=>
    by_cases h2:y=x<;>simp [h2]
def PlR (m:List (List UInt8×Int)) (ps:List (List UInt8)):Prop:=(∀ x,mget keS m x=(plc ps x).map (fun k:Nat=>(k:Int)))∧m.length=ps.length
theorem PlR.put {m:List (List UInt8×Int)} {ps:List (List UInt8)} (h:PlR m ps) {y:List UInt8} (hy:y∉ps):PlR (mput keS m y (m.length:Int)) (ps++[y]):=by
 have hn:mget keS m y=none:=by rw [h.1,plc_none.2 hy]; rfl
 refine ⟨fun x=>?_,by rw [mput_new keS y _ m hn]; simp [h.2]⟩
 rw [plc_app]
 by_cases hx:x=y
 ·subst hx
  rw [mget_put_same,plc_none.2 hy]
  simp [h.2]
 ·rw [mget_put_ne _ hx,h.1 x]
  cases hp:plc ps x with
  | some k=>rfl
  | none=>simp [Ne.symm hx]
theorem names_a {L:List TTokenlex} (hL:L≠[]) (hl:L.length≤10000000) (f:TFault):∃ m,loopC (p26_l0 (L,f) (L.take (L.length - 1))) ((0:Int),[])=some m∧PlR m (placesOf (L.map tokL) []):=by
 have hlen:0 < L.length:=List.length_pos_iff.2 hL
 refine loop_cnt (L.length - 1) (fun i st=>∃ m acc,st=((i:Int),m)∧PlR m acc∧placesOf (L.map tokL) []=placesOf ((L.map tokL).drop i) acc) _ ?_ ?_ ⟨[],[],rfl,⟨fun _=>rfl,rfl⟩,rfl⟩
 ·rintro i _ hi ⟨m,acc,rfl,h1,h2⟩
  left
  have hi1:i < L.length:=by omega
  have hi2:i+1 < L.length:=by omega
  have hd1:(L.map tokL).drop i=tokL L[i]::tokL L[i+1]::(L.map tokL).drop (i+2):=by
   rw [List.drop_eq_getElem_cons (by simpa using hi1),List.drop_eq_getElem_cons (by simpa using hi2)]
   simp
  have hd2:(L.map tokL).drop (i+1)=tokL L[i+1]::(L.map tokL).drop (i+2):=by
   rw [List.drop_eq_getElem_cons (by simpa using hi2)]
   simp
  rw [hd1,placesOf,← hd2] at h2
  refine ⟨(((i+1:Nat):Int),(if kw (tokL L[i]) [112,108,97,99,101]=true∧(tokL L[i+1]).k=1∧(tokL L[i+1]).s∉acc then mput keS m L[i+1].Text (m.length:Int) else m)),?_,_,_,rfl,?_,h2⟩
  ·unfold p26_l0
   simp only
   rw [if_pos (by simp; omega),idx_ok (show (L.take (L.length - 1))[i]? = some L[i] by rw [List.getElem?_take_of_lt hi,List.getElem?_eq_getElem hi1])]
   simp only [Option.bind_some]
   rw [p39_eq]
   simp only [Option.bind_some]
   have hw:IntKind.wrap .i64 ((i:Int)+1)=((i+1:Nat):Int):=by rw [wrap64 (by omega) (by omega)]; rfl
   rw [hw,idx_get hi2]
   simp only [Option.bind_some]
   have kwe:kw (tokL L[i]) [112,108,97,99,101]=(decide (L[i].Kind=1)&&(L[i].Text==[112,108,97,99,101])):=rfl
   rw [kwe]
   have hmem:(mget keS m L[i+1].Text).isSome=true↔L[i+1].Text∈acc:=by
    rw [h1.1]
    cases hp:plc acc L[i+1].Text with
    | none=>simp [plc_none.1 hp]
    | some k=>
     simp
     exact Classical.not_not.1 fun h=>by rw [plc_none.2 h] at hp; cases hp
   by_cases c1:(decide (L[i].Kind=1)&&(L[i].Text==[112,108,97,99,101]))=true
   ·rw [if_pos c1]
    unfold p26_j1
    by_cases c2:L[i+1].Kind=1
    ·rw [if_pos (by simp [c2]),hw,idx_get hi2]
     simp only [Option.bind_some]
     by_cases c3:L[i+1].Text∈acc
     ·rw [if_neg (by rw [hmem.2 c3]; simp),if_neg (fun h=>h.2.2 c3)]
      unfold p26_j0
      rw [hw]
     ·rw [if_pos (by
       have:(mget keS m L[i+1].Text).isSome=false:=Bool.eq_false_iff.2 fun h=>c3 (hmem.1 h)
       rw [this]; rfl),if_pos ⟨c1,c2,c3⟩]
      unfold p26_j0
      rw [hw]
    ·rw [if_neg (by simp [c2]),if_neg (fun h=>c2 h.2.1)]
     unfold p26_j0
     rw [hw]
   ·rw [if_neg c1,if_neg (fun h=>c1 h.1)]
    unfold p26_j1 p26_j0
    rw [hw]; rfl
  ·split
   ·rename_i hc; exact h1.put hc.2.2
   ·exact h1
 ·rintro _ ⟨m,acc,rfl,h1,h2⟩
  refine ⟨m,?_,?_⟩
  ·unfold p26_l0
   simp only
   rw [if_neg (by simp)]
  ·rw [h2]
   have:(L.map tokL).drop (L.length - 1)=[tokL L[L.length - 1]]:=by
    rw [List.drop_eq_getElem_cons (by simp; omega),List.drop_eq_nil_of_le (by simp; omega)]
    simp
   rw [this]
   exact h1
/-- The program's parser. -/
theorem p26_eq {p:List Int} (hp:Bytes p) (hl:p.length≤1000000):∃ L e a,LexR p 0 [] (L,e,a)∧
  ((e=0∧WF p L∧match parseS L with
   | .inl n=>NOk n∧p26 p=some (n,Z4)
   | .inr (e,x)=>e≠0∧(∃ i:Nat,i≤p.length∧x=(i:Int))∧p26 p=some (⟨[],[]⟩,FF p e x))∨
   (e≠0∧(∃ i:Nat,i≤p.length∧a=(i:Int))∧p26 p=some (⟨[],[]⟩,FF p e a))):=by
 obtain ⟨r,h1,L,e,a,h2,h3⟩:=p18_eq hp hl
 refine ⟨L,e,a,h2,?_⟩
 unfold p26
 rw [h1]
 simp only [Option.bind_some]
 rcases h3 with ⟨rfl,h4,h5⟩ | ⟨h4,i,h5,rfl,rfl⟩
 ·left
  have hw:=lex_wf hp hl h2
  refine ⟨rfl,hw,?_⟩
  rw [h4]
  rw [if_neg (by simp)]
  have hne:r.1≠[]:=fun h=>by rw [h] at h5; exact hw.ne h5.symm
  have hlen:0 < r.1.length:=List.length_pos_iff.2 hne
  have hlen2:r.1.length≤10000000:=by
   have:=lexR_count h2 (Nat.zero_le _) (Nat.le_refl _)
   simp only at this
   rw [← h5,List.length_map] at this
   omega
  have hwr:IntKind.wrap .i64 ((r.1.length:Int) - 1)=((r.1.length - 1:Nat):Int):=by rw [wrap64 (by omega) (by omega)]; omega
  have hs:slc r.1 0 (IntKind.wrap .i64 ((r.1.length:Int) - 1))=some (r.1.take (r.1.length - 1)):=by
   rw [hwr]
   have:=slc_ok (l:=r.1) (i:=0) (j:=r.1.length - 1) (by omega) (by omega)
   simpa using this
  rw [hs]
  simp only [Option.bind_some]
  obtain ⟨m,q1,q2⟩:=names_a hne hlen2 r.2
  rw [q1]
  simp only [Option.bind_some]
  have h0:AOk p (placesOf L []) ⟨p,r.1,Z4,⟨[],[]⟩,m,[]⟩ ⟨L,⟨[],[]⟩,[]⟩:=by
   refine ⟨rfl,h5,rfl,rfl,?_,fun x=>?_,hw⟩
   ·rw [← h5]; exact q2.1
   ·simp [mget]
  obtain ⟨a',g1,g2⟩:=main_a hp hl L.length _ _ h0 (Nat.le_refl _) ⟨by simp,by simp,fun t ht=>by cases ht⟩
  rw [g1]
  simp only [Option.bind_some]
  unfold parseS
  cases hr:allS (placesOf L []) L.length ⟨L,⟨[],[]⟩,[]⟩ with
  | inl n=>
   rw [hr] at g2
   obtain ⟨g2,rfl,g3⟩:=g2
   refine ⟨g3,?_⟩
   rw [g2,if_neg (by simp),p41_eq g3]
   rfl
  | inr v=>
   obtain ⟨e,x⟩:=v
   rw [hr] at g2
   have g2:ADead p e x 33 a':=g2
   refine ⟨g2.e,g2.xa,?_⟩
   rw [if_pos (by simpa using g2.asleep.1),g2.f]
 ·right
  refine ⟨h4,⟨i,h5,rfl⟩,?_⟩
  rw [if_pos (by simpa using h4)]
  simp [FF]
end Go.Proofs.Ytloaoofdbilpeaa
/- Texts that are given whole: what the program's parser makes of them, by reckoning. Own work. -/
namespace Go.Proofs.Ytloaoofdbilpeaa
open Go Go.Am
set_option linter.unusedVariables false
set_option linter.unusedSimpArgs false
def lexF (p:List Int):Nat→Nat→List Tok→Option (List Tok×Int×Int)
 | 0,_,_=>none
 | k+1,i,l=>if i < p.length then (match stepS p i with
   | .inl (j,t)=>lexF p k j (l++t)
   | .inr e=>some ([],e,(i:Int)))
  else if i=p.length then some (l++[⟨0,[],0,(p.length:Int)⟩],0,0) else none
theorem lexF_ok {p:List Int}:∀ {k i:Nat} {l:List Tok} {r:List Tok×Int×Int},lexF p k i l=some r→LexR p i l r
 | 0,i,l,r,h=>by cases h
 | k+1,i,l,r,h=>by
  rw [lexF] at h
  split at h
  ·rename_i hi
   split at h
   ·rename_i j t hs
    exact .go hi hs (lexF_ok h)
   ·rename_i e hs
    cases h
    exact .err hi hs
  ·split at h
   ·rename_i hi
    cases h
    exact .done hi
   ·cases h
def parseF (p:List Int):TNet⊕(Int×Int):=match lexF p (p.length+1) 0 [] with
 | some (L,e,a)=>if e=0 then parseS L else .inr (e,a)
 | none=>.inr (0,0)
theorem p26_ok {p:List Int} (hp:Bytes p) (hl:p.length≤1000000) {n:TNet} (h:parseF p=.inl n):p26 p=some (n,Z4)∧NOk n:=by
 unfold parseF at h
 split at h
 ·rename_i L e a hL
  split at h
  ·rename_i he
   subst he
   obtain ⟨L',e',a',h1,h2⟩:=p26_eq hp hl
   have hd:=LexR.det (lexF_ok hL) h1
   simp only [Prod.mk.injEq] at hd
   obtain ⟨rfl,rfl,rfl⟩:=hd
   rcases h2 with ⟨_,_,h3⟩ | ⟨h3,_⟩
   ·rw [h] at h3; exact ⟨h3.2,h3.1⟩
   ·exact absurd rfl h3
  ·cases h
 ·cases h
theorem bytes_str (s:List UInt8):Bytes (strI s):=by
 intro c hc
 unfold strI at hc
 obtain ⟨b,_,rfl⟩:=List.mem_map.1 hc
 have:=b.toNat_lt
 omega
theorem bytesI_ok {s:List UInt8} (h:s.length≤1000000000):bytesI s=some (strI s):=by
 unfold bytesI roomCells
 rw [if_pos (by omega)]; rfl
/-! ### the example -/
def ex0:List UInt8:=[112,108,97,99,101,32,112,32,61,32,49,59,32,116,114,97,110,115,32,116,32,64,50,58,32,112,32,45,62,32,112,59]
theorem p25_eq:p25=some true:=by
 have h:p26 (strI ex0)=some (⟨[⟨[112],1⟩],[⟨[116],2,0,[⟨0,1⟩],[],[⟨0,1⟩]⟩]⟩,Z4):=(p26_ok (bytes_str ex0) (by decide) (by kernel_rfl)).1
 unfold p25
 have e:strI ex0=[(112:Int),(108:Int),(97:Int),(99:Int),(101:Int),(32:Int),(112:Int),(32:Int),(61:Int),(32:Int),(49:Int),(59:Int),(32:Int),(116:Int),(114:Int),(97:Int),(110:Int),(115:Int),(32:Int),(116:Int),(32:Int),(64:Int),(50:Int),(58:Int),(32:Int),(112:Int),(32:Int),(45:Int),(62:Int),(32:Int),(112:Int),(59:Int)]:=rfl
 rw [← e,h]
 rfl
end Go.Proofs.Ytloaoofdbilpeaa
/- Two nets alike. Own work. -/
namespace Go.Proofs.Ytloaoofdbilpeaa
open Go Go.Am
set_option linter.unusedVariables false
set_option linter.unusedSimpArgs false
/-! ### nets alike -/
theorem p45_eq {a b:List TArc} (ha:a.length≤1000000):∃ r,p45 a b=some r∧(r=true↔a=b):=by
 unfold p45
 by_cases hl:a.length=b.length
 ·rw [if_neg (by simp [hl])]
  have key:∃ r,loopC (p45_l0 a b) (0:Int)=some r∧(r=.inr ()↔a=b):=by
   refine loop_cnt a.length (fun k st=>st=(k:Int)∧a.take k=b.take k) _ ?_ ?_ ⟨rfl,rfl⟩
   ·rintro k _ hk ⟨rfl,he⟩
    have hkb:k < b.length:=by omega
    unfold p45_l0
    rw [if_pos (by omega),idx_get hk,idx_get hkb]
    simp only [Option.bind_some]
    by_cases h:a[k]=b[k]
    ·left
     rw [if_neg (by simp [h])]
     refine ⟨_,rfl,by rw [wrap64 (by omega) (by omega)]; rfl,?_⟩
     rw [List.take_succ_eq_append_getElem hk,List.take_succ_eq_append_getElem hkb,he,h]
    ·right
     rw [if_pos (by
      have:¬ (a[k].Place=b[k].Place∧a[k].N=b[k].N):=fun hh=>h (by
       cases h1:a[k]; cases h2:b[k]; rw [h1,h2] at hh; simp only at hh; rw [hh.1,hh.2])
      simp only [Bool.and_true,Bool.not_eq_true',Bool.and_eq_false_iff,decide_eq_false_iff_not]
      by_cases h3:a[k].Place=b[k].Place
      ·exact .inr fun h4=>this ⟨h3,h4⟩
      ·exact .inl h3)]
     refine ⟨_,rfl,by simp,fun hh=>?_⟩
     subst hh; exact absurd rfl h
   ·rintro _ ⟨rfl,he⟩
    unfold p45_l0
    rw [if_neg (by omega)]
    refine ⟨_,rfl,fun _=>?_,fun _=>rfl⟩
    rw [List.take_length,hl,List.take_length] at he
    exact he
  obtain ⟨r,h1,h2⟩:=key
  rw [h1]
  simp only [Option.bind_some]
  cases r with
  | inl u=>exact ⟨false,rfl,by simp at h2 ⊢; exact h2⟩
  | inr u=>exact ⟨true,rfl,by simp at h2 ⊢; exact h2⟩
 ·rw [if_pos (by simp; omega)]
  exact ⟨false,rfl,by simp; intro h; exact hl (by rw [h])⟩
theorem trans_alike {x y:TTrans} (hx:x.In.length≤1000000∧x.Not.length≤1000000∧x.Out.length≤1000000) (k:Int) :
  (x=y∧(if (!(x.Name==y.Name))=true then p29_j4 k x y true else p29_j4 k x y (!decide (x.Delay=y.Delay)))=some (.inl (IntKind.wrap .i64 (k+1))))∨
  (x≠y∧(if (!(x.Name==y.Name))=true then p29_j4 k x y true else p29_j4 k x y (!decide (x.Delay=y.Delay)))=some (.inr (.inl ()))):=by
 have hT:∀ b,b=true→p29_j0 k b=some (.inr (.inl ())):=fun b h=>by unfold p29_j0; rw [if_pos h]
 have h1T:p29_j1 k x y true=some (.inr (.inl ())):=by unfold p29_j1; rw [if_pos rfl]; exact hT _ rfl
 have h2T:p29_j2 k x y true=some (.inr (.inl ())):=by unfold p29_j2; rw [if_pos rfl]; exact h1T
 have h3T:p29_j3 k x y true=some (.inr (.inl ())):=by unfold p29_j3; rw [if_pos rfl]; exact h2T
 have h4T:p29_j4 k x y true=some (.inr (.inl ())):=by unfold p29_j4; rw [if_pos rfl]; exact h3T
 obtain ⟨b1,e1,q1⟩:=p45_eq (b:=y.In) hx.1
 obtain ⟨b2,e2,q2⟩:=p45_eq (b:=y.Not) hx.2.1
 obtain ⟨b3,e3,q3⟩:=p45_eq (b:=y.Out) hx.2.2
 by_cases n1:x.Name=y.Name
 ·rw [if_neg (by simp [n1])]
  by_cases n2:x.Delay=y.Delay
  ·rw [show (!decide (x.Delay=y.Delay))=false by simp [n2]]
   unfold p29_j4
   rw [if_neg (by simp)]
   by_cases n3:x.Prio=y.Prio
   ·rw [show (!decide (x.Prio=y.Prio))=false by simp [n3]]
    unfold p29_j3
    rw [if_neg (by simp),e1]
    simp only [Option.bind_some]
    cases b1 with
    | false=>exact .inr ⟨fun h=>Bool.noConfusion (q1.2 (by rw [h])),h2T⟩
    | true=>
     simp only [Bool.not_true]
     unfold p29_j2
     rw [if_neg (by simp),e2]
     simp only [Option.bind_some]
     cases b2 with
     | false=>exact .inr ⟨fun h=>Bool.noConfusion (q2.2 (by rw [h])),h1T⟩
     | true=>
      simp only [Bool.not_true]
      unfold p29_j1
      rw [if_neg (by simp),e3]
      simp only [Option.bind_some]
      cases b3 with
      | false=>exact .inr ⟨fun h=>Bool.noConfusion (q3.2 (by rw [h])),hT _ rfl⟩
      | true=>
       refine .inl ⟨?_,rfl⟩
       have i1:=q1.1 rfl
       have i2:=q2.1 rfl
       have i3:=q3.1 rfl
       cases x; cases y
       simp only at n1 n2 n3 i1 i2 i3
       rw [n1,n2,n3,i1,i2,i3]
   ·rw [show (!decide (x.Prio=y.Prio))=true by simp [n3]]
    exact .inr ⟨fun h=>n3 (by rw [h]),h3T⟩
  ·rw [show (!decide (x.Delay=y.Delay))=true by simp [n2]]
   exact .inr ⟨fun h=>n2 (by rw [h]),h4T⟩
 ·rw [if_pos (by simp [n1])]
  exact .inr ⟨fun h=>n1 (by rw [h]),h4T⟩
/-- Lists that may be gone through. -/
def NLen (n:TNet):Prop:=n.Places.length≤1000000∧n.Trans.length≤1000000∧∀ t,t∈n.Trans→t.In.length≤1000000∧t.Not.length≤1000000∧t.Out.length≤1000000
theorem NOk.len {n:TNet} (h:NOk n):NLen n:=⟨by have:=h.1; omega,by have:=h.2.1; omega,fun t ht=>by have:=h.2.2 t ht; omega⟩
theorem p29_eq {x y:TNet} (hx:NLen x):∃ r,p29 x y=some r∧(r=true↔x=y):=by
 obtain ⟨l1,l2,l3⟩:=hx
 unfold p29
 have hF:x≠y→∃ r,p29_j5 x y true=some r∧(r=true↔x=y):=fun h=>⟨false,by unfold p29_j5; rw [if_pos rfl],by simp [h]⟩
 by_cases c1:x.Places.length=y.Places.length
 ·rw [if_neg (by simp [c1])]
  by_cases c2:x.Trans.length=y.Trans.length
  ·rw [show (!decide ((x.Trans.length:Int)=(y.Trans.length:Int)))=false by simp [c2]]
   unfold p29_j5
   rw [if_neg (by simp)]
   have k1:∃ r,loopC (p29_l0 x y) (false,(0:Int))=some r∧(r=.inr false∧x.Places=y.Places∨r=.inl ()∧x.Places≠y.Places):=by
    refine loop_cnt x.Places.length (fun k st=>st=(false,(k:Int))∧x.Places.take k=y.Places.take k) _ ?_ ?_ ⟨rfl,rfl⟩
    ·rintro k _ hk ⟨rfl,he⟩
     have hkb:k < y.Places.length:=by omega
     unfold p29_l0
     simp only
     rw [if_pos (by omega),idx_get hk,idx_get hkb]
     simp only [Option.bind_some]
     by_cases h:x.Places[k]=y.Places[k]
     ·left
      rw [if_neg (by simp [h])]
      refine ⟨_,rfl,by rw [wrap64 (by omega) (by omega)]; rfl,?_⟩
      rw [List.take_succ_eq_append_getElem hk,List.take_succ_eq_append_getElem hkb,he,h]
     ·right
      rw [if_pos (by
       have:¬ (x.Places[k].Name=y.Places[k].Name∧x.Places[k].Tokens=y.Places[k].Tokens):=fun hh=>h (by
        cases h1:x.Places[k]; cases h2:y.Places[k]; rw [h1,h2] at hh; simp only at hh; rw [hh.1,hh.2])
       by_cases h3:x.Places[k].Name=y.Places[k].Name
       ·have h4:¬ x.Places[k].Tokens=y.Places[k].Tokens:=fun h4=>this ⟨h3,h4⟩
        simp [h4]
       ·simp [h3])]
      exact ⟨_,rfl,.inr ⟨rfl,fun hh=>h (by simp only [hh])⟩⟩
    ·rintro _ ⟨rfl,he⟩
     unfold p29_l0
     simp only
     rw [if_neg (by omega)]
     refine ⟨_,rfl,.inl ⟨rfl,?_⟩⟩
     rw [List.take_length,c1,List.take_length] at he
     exact he
   obtain ⟨r,h1,h2⟩:=k1
   rw [h1]
   simp only [Option.bind_some]
   rcases h2 with ⟨rfl,h2⟩ | ⟨rfl,h2⟩
   ·simp only
    have k2:∃ r,loopC (p29_l1 x y) (0:Int)=some r∧(r=.inr ()∧x.Trans=y.Trans∨r=.inl ()∧x.Trans≠y.Trans):=by
     refine loop_cnt x.Trans.length (fun k st=>st=(k:Int)∧x.Trans.take k=y.Trans.take k) _ ?_ ?_ ⟨rfl,rfl⟩
     ·rintro k _ hk ⟨rfl,he⟩
      have hkb:k < y.Trans.length:=by omega
      unfold p29_l1
      rw [if_pos (by omega),idx_get hk,idx_get hkb]
      simp only [Option.bind_some]
      rcases trans_alike (y:=y.Trans[k]) (l3 _ (List.getElem_mem hk)) (k:Int) with ⟨h,e⟩ | ⟨h,e⟩
      ·left
       refine ⟨_,e,by rw [wrap64 (by omega) (by omega)]; rfl,?_⟩
       rw [List.take_succ_eq_append_getElem hk,List.take_succ_eq_append_getElem hkb,he,h]
      ·right
       exact ⟨_,e,.inr ⟨rfl,fun hh=>h (by simp only [hh])⟩⟩
     ·rintro _ ⟨rfl,he⟩
      unfold p29_l1
      rw [if_neg (by omega)]
      refine ⟨_,rfl,.inl ⟨rfl,?_⟩⟩
      rw [List.take_length,c2,List.take_length] at he
      exact he
    obtain ⟨r,h3,h4⟩:=k2
    rw [h3]
    simp only [Option.bind_some]
    rcases h4 with ⟨rfl,h4⟩ | ⟨rfl,h4⟩
    ·exact ⟨true,rfl,fun _=>by cases x; cases y; simp only at h2 h4; rw [h2,h4],fun _=>rfl⟩
    ·exact ⟨false,rfl,by simp; intro h; exact h4 (by rw [h])⟩
   ·exact ⟨false,rfl,by simp; intro h; exact h2 (by rw [h])⟩
  ·rw [show (!decide ((x.Trans.length:Int)=(y.Trans.length:Int)))=true by simp; omega]
   exact hF fun h=>c2 (by rw [h])
 ·rw [if_pos (by simp; omega)]
  exact hF fun h=>c1 (by rw [h])
theorem p29_same {x:TNet} (hx:NLen x):p29 x x=some true:=by
 obtain ⟨r,h1,h2⟩:=p29_eq (y:=x) hx
 rw [h1,h2.2 rfl]
end Go.Proofs.Ytloaoofdbilpeaa
/- What is parsed is a net that may be: names, numbers, arcs, and that the places named ahead are the net's. Own work. -/
namespace Go.Proofs.Ytloaoofdbilpeaa
open Go Go.Am
set_option linter.unusedVariables false
set_option linter.unusedSimpArgs false
def ArcsOk (m:Nat) (l:List TArc):Prop:=(∀ a,a∈l→1≤a.N∧a.N≤1000000∧0≤a.Place∧a.Place < (m:Int))∧l.Pairwise fun a b=>a.Place≠b.Place
def NameOk (x:List UInt8):Prop:=(∀ i,i < x.length→okAt (strI x) i=true)∧x≠[]∧x.length≤12
def TrOk (m:Nat) (t:TTrans):Prop:=(0≤t.Delay∧t.Delay≤1000000)∧(0≤t.Prio∧t.Prio≤1000000)∧ArcsOk m t.In∧ArcsOk m t.Not∧ArcsOk m t.Out
def nms (n:TNet):List (List UInt8):=n.Places.map TPlace.Name++n.Trans.map TTrans.Name
structure NGood (m:Nat) (n:TNet):Prop where
 nd:(nms n).Nodup
 nm:∀ x,x∈nms n→NameOk x
 tk:∀ p,p∈n.Places→0≤p.Tokens∧p.Tokens≤1000000
 tr:∀ t,t∈n.Trans→TrOk m t
/-! ### the places that are named ahead -/
def E (l:List Tok):Prop:=∀ t,t∈l.dropLast→t.k≠0
/-- A step past tokens that tell no place. -/
structure Pres (s s':PS):Prop where
 po:∀ acc,placesOf s.l acc=placesOf s'.l acc
 e:E s.l→E s'.l
theorem Pres.rfl' (s:PS):Pres s s:=⟨fun _=>rfl,id⟩
theorem Pres.trans {a b c:PS} (x:Pres a b) (y:Pres b c):Pres a c:=⟨fun acc=>(x.po acc).trans (y.po acc),fun h=>y.e (x.e h)⟩
theorem E.nx:∀ {l:List Tok},E l→E (nx l)
 | [],h=>h
 | [_],h=>h
 | a::b::r,h=>fun t ht=>h t (by rw [List.dropLast_cons_of_ne_nil (by simp)]; exact List.mem_cons_of_mem _ ht)
theorem skip_po:∀ {l:List Tok} (acc:List (List UInt8)),(kw (hd l) [112,108,97,99,101]=false∨(hd (nx l)).k≠1)→placesOf l acc=placesOf (nx l) acc
 | [],acc,_=>rfl
 | [_],acc,_=>rfl
 | a::b::r,acc,h=>by
  rw [placesOf]
  have:¬ (kw a [112,108,97,99,101]=true∧b.k=1∧b.s∉acc):=by
   rintro ⟨h1,h2,_⟩
   rcases h with h | h
   ·have h:kw a [112,108,97,99,101]=false:=h
    rw [h] at h1; cases h1
   ·exact h h2
  rw [if_neg this]; rfl
theorem kw_not {t:Tok} (x:List UInt8) (h:t.k≠1):kw t x=false:=by
 unfold kw; simp [h]
theorem Pres.stp {s:PS} (h:(hd s.l).k≠1∨(hd (Proofs.Ytloaoofdbilpeaa.nx s.l)).k≠1):Pres s (stp s):=
 ⟨fun acc=>skip_po acc (h.imp (fun h=>kw_not _ h) id),E.nx⟩
/-! ### items -/
/-- What holds at each item's start. -/
structure It (p:List Int) (ps:List (List UInt8)) (s:PS):Prop where
 wf:WF p s.l
 e:E s.l
 len:NOk s.n
 perm:(nms s.n).Perm s.told
 nd:s.told.Nodup
 nm:∀ x,x∈s.told→NameOk x
 tk:∀ q,q∈s.n.Places→0≤q.Tokens∧q.Tokens≤1000000
 tr:∀ t,t∈s.n.Trans→TrOk ps.length t
 po:placesOf s.l (s.n.Places.map TPlace.Name)=ps
end Go.Proofs.Ytloaoofdbilpeaa
/- A net's text: what the document prints. Own work. -/
namespace Go.Proofs.Ytloaoofdbilpeaa
open Go Go.Am
set_option linter.unusedVariables false
set_option linter.unusedSimpArgs false
def dg:Nat→Nat→List UInt8
 | 0,n=>[u8 (48+(n:Int))]
 | f+1,n=>if n < 10 then [u8 (48+(n:Int))] else dg f (n / 10)++[u8 (48+((n % 10:Nat):Int))]
def dgs (n:Int):List UInt8:=dg 7 n.toNat
theorem dg_len:∀ f n,(dg f n).length≤f+1
 | 0,n=>by simp [dg]
 | f+1,n=>by
  have:=dg_len f (n / 10)
  unfold dg
  split
  ·simp
  ·simp; omega
theorem dgs_len (n:Int):(dgs n).length≤8:=dg_len 7 _
theorem wrap_dig {n:Nat} (h:n < 10):IntKind.wrap .u8 (IntKind.wrap .i64 ((48:Int)+(n:Int)))=48+(n:Int):=by
 rw [wrap64 (by omega) (by omega),IntWalk.u8_in _ (by omega)]
theorem q42_dg:∀ (f k n:Nat),f < k→f≤7→n < 10 ^ (f+1)→n≤100000000→q42 k (n:Int)=some (dg f n)
 | _,0,n,h,_,_,_=>by omega
 | 0,k+1,n,h,_,hn,_=>by
  have hn:n < 10:=by simpa using hn
  show b42 (q42 k) (n:Int)=_
  unfold b42
  rw [if_neg (by omega),if_pos (by omega)]
  simp only [List.map_cons,List.map_nil,wrap_dig hn,dg]
 | f+1,k+1,n,h,hf,hn,hb=>by
  show b42 (q42 k) (n:Int)=_
  unfold b42 dg
  rw [if_neg (by omega)]
  by_cases h10:n < 10
  ·rw [if_pos (by omega),if_pos h10]
   simp only [List.map_cons,List.map_nil,wrap_dig h10]
  ·rw [if_neg (by omega),if_neg h10]
   have e1:Int.tdiv (n:Int) (10:Int)=((n / 10:Nat):Int):=by rw [Int.tdiv_eq_ediv_of_nonneg (by omega)]; omega
   have e2:Int.tmod (n:Int) (10:Int)=((n % 10:Nat):Int):=by rw [Int.tmod_eq_emod_of_nonneg (by omega)]; omega
   have hp:10 ^ (f+1+1)=10 ^ (f+1) * 10:=Nat.pow_succ ..
   have hlt:n / 10 < 10 ^ (f+1):=by rw [Nat.div_lt_iff_lt_mul (by omega)]; omega
   rw [e1,e2,wrap64 (by omega) (by omega),q42_dg f k (n / 10) (by omega) (by omega) hlt (by omega)]
   simp only [Option.bind_some,List.map_cons,List.map_nil,wrap_dig (Nat.mod_lt n (show 0 < 10 by omega))]
   rw [catS_ok (by have:=dg_len f (n / 10); simp; omega)]
   rfl
theorem p42_eq {n:Int} (h0:0≤n) (h1:n≤1000000):p42 n=some (dgs n):=by
 unfold p42 dgs
 have:=q42_dg 7 64 n.toNat (by omega) (by omega) (by omega) (by omega)
 rwa [Int.toNat_of_nonneg h0] at this
/-- A net that the document prints as it is read. -/
structure PNet (n:TNet):Prop where
 good:NGood n.Places.length n
 lp:n.Places.length≤32
 lt:n.Trans.length≤32
 la:∀ t,t∈n.Trans→t.In.length≤8∧t.Not.length≤8∧t.Out.length≤8
def nmOf (n:TNet) (i:Int):List UInt8:=((n.Places[i.toNat]?).map TPlace.Name).getD []
def arcT (n:TNet) (a:TArc):List UInt8:=nmOf n a.Place++if a.N=1 then [] else 42::dgs a.N
def tilT (n:TNet) (a:TArc):List UInt8:=126::arcT n a
def sp (f:Bool) (l:List TArc):List UInt8:=if f=true∧l=[] then [32] else [44,32]
def jn (g:TArc→List UInt8):Bool→List TArc→List UInt8
 | _,[]=>[]
 | f,a::l=>sp f []++(g a++jn g false l)
def nT (pre:List UInt8) (n:Int):List UInt8:=if n=0 then [] else pre++dgs n
def trT (n:TNet) (t:TTrans):List UInt8:=[116,114,97,110,115,32]++(t.Name++(nT [32,64] t.Delay++(nT [32,33] t.Prio++([58]++(jn (arcT n) true t.In++(jn (tilT n) t.In.isEmpty t.Not++([32,45,62]++(jn (arcT n) true t.Out++[59,10]))))))))
def plT (p:TPlace):List UInt8:=[112,108,97,99,101,32]++(p.Name++(nT [32,61,32] p.Tokens++[59,10]))
def netT (n:TNet):List UInt8:=(n.Places.map plT).flatten++(n.Trans.map (trT n)).flatten
theorem sp_len (f:Bool) (l:List TArc):(sp f l).length≤2:=by unfold sp; split<;>simp
theorem nT_len {pre:List UInt8} (h:pre.length≤3) (n:Int):(nT pre n).length≤11:=by
 have:=dgs_len n
 unfold nT; split
 ·simp
 ·simp; omega
theorem jn_len {g:TArc→List UInt8}:∀ {f:Bool} {l:List TArc},(∀ a,a∈l→(g a).length≤22)→(jn g f l).length≤24 * l.length
 | _,[],_=>Nat.zero_le _
 | f,a::l,h=>by
  have h1:=jn_len (f:=false) (l:=l) fun x hx=>h x (List.mem_cons_of_mem _ hx)
  have h2:=h a (List.mem_cons_self ..)
  have h3:=sp_len f []
  unfold jn
  simp only [List.length_append,List.length_cons]
  omega
theorem jn_snoc (g:TArc→List UInt8):∀ (f:Bool) (l:List TArc) (a:TArc),jn g f (l++[a])=jn g f l++(sp f l++g a)
 | f,[],a=>by simp [jn]
 | f,b::l,a=>by
  have h:=jn_snoc g false l a
  have e:sp false l=sp f (b::l):=by unfold sp; simp
  simp only [List.cons_append,jn,h,e,List.append_assoc]
theorem sp_snoc (f:Bool) (l:List TArc) (a:TArc):sp f (l++[a])=[44,32]:=by unfold sp; simp
theorem jl {ρ:Type} {F:List UInt8×List UInt8×Int→Option ((List UInt8×List UInt8×Int)⊕ρ)} {l:List TArc} {g:TArc→List UInt8} {out:List UInt8→List UInt8→ρ} (hg:∀ a,a∈l→(g a).length≤22) (hl:l.length≤8)
  (hs:∀ acc sep k (h:k < l.length),acc.length≤200000→sep.length≤2→F (acc,sep,(k:Int))=some (.inl (acc++(sep++g l[k]),[44,32],(k:Int)+1)))
  (hd:∀ acc sep,F (acc,sep,(l.length:Int))=some (.inr (out acc sep))) {acc:List UInt8} {f:Bool} (hacc:acc.length≤100000):loopC F (acc,sp f [],0)=some (out (acc++jn g f l) (sp f l)):=by
 obtain ⟨r,h1,h2⟩:∃ r,loopC F (acc,sp f [],0)=some r∧r=out (acc++jn g f l) (sp f l):=by
  refine loop_cnt l.length (fun k (st:List UInt8×List UInt8×Int)=>st=(acc++jn g f (l.take k),sp f (l.take k),(k:Int))) _ ?_ ?_ (by simp [jn])
  ·rintro k _ hk rfl
   have hj:=jn_len (g:=g) (f:=f) (l:=l.take k) fun a ha=>hg a (List.mem_of_mem_take ha)
   have hm:(l.take k).length≤l.length:=by simp; omega
   refine .inl ⟨_,hs _ _ k hk (by simp; simp at hj; omega) (sp_len _ _),?_⟩
   rw [List.take_succ_eq_append_getElem hk,jn_snoc,sp_snoc,List.append_assoc]
   rfl
  ·rintro _ rfl
   rw [List.take_length]
   exact ⟨_,hd _ _,rfl⟩
 rw [h1,h2]
theorem fl {α:Type} {F:List UInt8×Int→Option ((List UInt8×Int)⊕List UInt8)} {l:List α} {g:α→List UInt8} (hg:∀ a,a∈l→(g a).length≤1000) (hl:l.length≤32)
  (hs:∀ acc k (h:k < l.length),acc.length≤90000→F (acc,(k:Int))=some (.inl (acc++g l[k],(k:Int)+1)))
  (hd:∀ acc,F (acc,(l.length:Int))=some (.inr acc)) {acc:List UInt8} (hacc:acc.length≤40000):loopC F (acc,0)=some (acc++(l.map g).flatten):=by
 have hlen:∀ m:List α,(∀ a,a∈m→(g a).length≤1000)→(m.map g).flatten.length≤1000 * m.length:=by
  intro m
  induction m with
  | nil=>intro _; simp
  | cons a m ih=>
   intro h
   have h1:=ih fun x hx=>h x (List.mem_cons_of_mem _ hx)
   have h2:=h a (List.mem_cons_self ..)
   simp only [List.map_cons,List.flatten_cons,List.length_append,List.length_cons]
   omega
 obtain ⟨r,h1,h2⟩:∃ r,loopC F (acc,0)=some r∧r=acc++(l.map g).flatten:=by
  refine loop_cnt l.length (fun k (st:List UInt8×Int)=>st=(acc++((l.take k).map g).flatten,(k:Int))) _ ?_ ?_ (by simp)
  ·rintro k _ hk rfl
   have hj:=hlen (l.take k) fun a ha=>hg a (List.mem_of_mem_take ha)
   rw [List.length_take] at hj
   refine .inl ⟨_,hs _ k hk (by rw [List.length_append]; omega),?_⟩
   rw [List.take_succ_eq_append_getElem hk,List.map_append,List.flatten_append]
   simp
  ·rintro _ rfl
   rw [List.take_length]
   exact ⟨_,hd _,rfl⟩
 rw [h1,h2]
theorem flat_len {α:Type} {g:α→List UInt8}:∀ {m:List α},(∀ a,a∈m→(g a).length≤1000)→(m.map g).flatten.length≤1000 * m.length
 | [],_=>by simp
 | a::m,h=>by
  have h1:=flat_len (m:=m) fun x hx=>h x (List.mem_cons_of_mem _ hx)
  have h2:=h a (List.mem_cons_self ..)
  simp only [List.map_cons,List.flatten_cons,List.length_append,List.length_cons]
  omega
theorem nmOf_mem {n:TNet} {i:Int} (h0:0≤i) (h1:i < (n.Places.length:Int)):∃ h:i.toNat < n.Places.length,nmOf n i=n.Places[i.toNat].Name∧idx n.Places i=some n.Places[i.toNat]:=by
 have h:i.toNat < n.Places.length:=by omega
 refine ⟨h,?_,?_⟩
 ·unfold nmOf; rw [List.getElem?_eq_getElem h]; rfl
 ·unfold idx; rw [if_pos h0,List.getElem?_eq_getElem h]
section
variable {n:TNet} (P:PNet n)
include P
theorem PNet.nlen {x:List UInt8} (h:x∈nms n):x.length≤12:=(P.good.nm x h).2.2
theorem arc_len {a:TArc} (h0:0≤a.Place) (h1:a.Place < (n.Places.length:Int)):(arcT n a).length≤21:=by
 obtain ⟨h,e1,e2⟩:=nmOf_mem h0 h1
 have h2:=P.nlen (x:=n.Places[a.Place.toNat].Name) (by unfold nms; exact List.mem_append_left _ (List.mem_map_of_mem (List.getElem_mem h)))
 have h3:=dgs_len a.N
 unfold arcT
 rw [e1,List.length_append]
 split
 ·simp; omega
 ·simp; omega
theorem p43_eq {a:TArc} (h0:0≤a.Place) (h1:a.Place < (n.Places.length:Int)) (h2:1≤a.N) (h3:a.N≤1000000):p43 n a=some (arcT n a):=by
 obtain ⟨h,e1,e2⟩:=nmOf_mem h0 h1
 have h4:=P.nlen (x:=n.Places[a.Place.toNat].Name) (by unfold nms; exact List.mem_append_left _ (List.mem_map_of_mem (List.getElem_mem h)))
 have h5:=dgs_len a.N
 unfold p43 arcT p43_j0
 rw [e1,e2]
 simp only [Option.bind_some]
 by_cases hn:a.N=1
 ·rw [if_neg (by simp [hn]),if_pos hn,List.append_nil]
 ·rw [if_pos (by simp [hn]),if_neg hn,p42_eq (by omega) h3]
  simp only [Option.bind_some]
  rw [catS_ok (by simp; omega)]
  simp only [Option.bind_some]
  rw [catS_ok (by simp; omega)]
  rfl
theorem l1_eq {t:TTrans} (ha:ArcsOk n.Places.length t.In) (hl:t.In.length≤8) {acc:List UInt8} (hacc:acc.length≤100000):loopC (p27_l1 n t) (acc,[32],0)=some (acc++jn (arcT n) true t.In,sp true t.In):=by
 refine jl (F:=p27_l1 n t) (l:=t.In) (g:=arcT n) (out:=fun a b=>(a,b)) (f:=true) (fun a h=>?_) hl (fun acc sep k h h1 h2=>?_) (fun acc sep=>?_) hacc
 ·obtain ⟨_,_,q1,q2⟩:=ha.1 a h
  have:=arc_len P q1 q2
  omega
 ·obtain ⟨q1,q2,q3,q4⟩:=ha.1 _ (List.getElem_mem h)
  have:=arc_len P q3 q4
  unfold p27_l1
  simp only
  rw [if_pos (by omega),idx_get h]
  simp only [Option.bind_some]
  rw [p43_eq P q3 q4 q1 q2]
  simp only [Option.bind_some]
  rw [catS_ok (by omega)]
  simp only [Option.bind_some]
  rw [catS_ok (by simp; omega),wrap64 (by omega) (by omega)]
  rfl
 ·unfold p27_l1
  simp only
  rw [if_neg (by omega)]
theorem l2_eq {t:TTrans} (ha:ArcsOk n.Places.length t.Not) (hl:t.Not.length≤8) {f:Bool} {acc:List UInt8} (hacc:acc.length≤100000):loopC (p27_l2 n t) (acc,sp f [],0)=some (acc++jn (tilT n) f t.Not):=by
 refine jl (F:=p27_l2 n t) (l:=t.Not) (g:=tilT n) (out:=fun a b=>a) (f:=f) (fun a h=>?_) hl (fun acc sep k h h1 h2=>?_) (fun acc sep=>?_) hacc
 ·obtain ⟨_,_,q1,q2⟩:=ha.1 a h
  have:=arc_len P q1 q2
  unfold tilT
  simp
  omega
 ·obtain ⟨q1,q2,q3,q4⟩:=ha.1 _ (List.getElem_mem h)
  have:=arc_len P q3 q4
  unfold p27_l2
  simp only
  rw [if_pos (by omega),catS_ok (by simp; omega)]
  simp only [Option.bind_some]
  rw [idx_get h]
  simp only [Option.bind_some]
  rw [p43_eq P q3 q4 q1 q2]
  simp only [Option.bind_some]
  rw [catS_ok (by simp; omega)]
  simp only [Option.bind_some]
  rw [catS_ok (by simp; omega),wrap64 (by omega) (by omega)]
  simp only [Option.bind_some,tilT,List.append_assoc,List.singleton_append]
 ·unfold p27_l2
  simp only
  rw [if_neg (by omega)]
theorem l3_eq {t:TTrans} (ha:ArcsOk n.Places.length t.Out) (hl:t.Out.length≤8) {acc:List UInt8} (hacc:acc.length≤100000):loopC (p27_l3 n t) (acc,[32],0)=some (acc++jn (arcT n) true t.Out):=by
 refine jl (F:=p27_l3 n t) (l:=t.Out) (g:=arcT n) (out:=fun a b=>a) (f:=true) (fun a h=>?_) hl (fun acc sep k h h1 h2=>?_) (fun acc sep=>?_) hacc
 ·obtain ⟨_,_,q1,q2⟩:=ha.1 a h
  have:=arc_len P q1 q2
  omega
 ·obtain ⟨q1,q2,q3,q4⟩:=ha.1 _ (List.getElem_mem h)
  have:=arc_len P q3 q4
  unfold p27_l3
  simp only
  rw [if_pos (by omega),idx_get h]
  simp only [Option.bind_some]
  rw [p43_eq P q3 q4 q1 q2]
  simp only [Option.bind_some]
  rw [catS_ok (by omega)]
  simp only [Option.bind_some]
  rw [catS_ok (by simp; omega),wrap64 (by omega) (by omega)]
  rfl
 ·unfold p27_l3
  simp only
  rw [if_neg (by omega)]
theorem jlens {t:TTrans} (ht:t∈n.Trans):(jn (arcT n) true t.In).length≤192∧(jn (tilT n) t.In.isEmpty t.Not).length≤192∧(jn (arcT n) true t.Out).length≤192∧t.Name.length≤12:=by
 obtain ⟨_,_,a1,a2,a3⟩:=P.good.tr t ht
 obtain ⟨b1,b2,b3⟩:=P.la t ht
 have c1:=jn_len (g:=arcT n) (f:=true) (l:=t.In) fun a h=>by have:=arc_len P (a1.1 a h).2.2.1 (a1.1 a h).2.2.2; omega
 have c2:=jn_len (g:=tilT n) (f:=t.In.isEmpty) (l:=t.Not) fun a h=>by have:=arc_len P (a2.1 a h).2.2.1 (a2.1 a h).2.2.2; unfold tilT; simp; omega
 have c3:=jn_len (g:=arcT n) (f:=true) (l:=t.Out) fun a h=>by have:=arc_len P (a3.1 a h).2.2.1 (a3.1 a h).2.2.2; omega
 have c4:=P.nlen (x:=t.Name) (by unfold nms; exact List.mem_append_right _ (List.mem_map_of_mem ht))
 omega
theorem trT_len {t:TTrans} (ht:t∈n.Trans):(trT n t).length≤1000:=by
 obtain ⟨h1,h2,h3,h4⟩:=jlens P ht
 have h5:=nT_len (pre:=[32,64]) (by simp) t.Delay
 have h6:=nT_len (pre:=[32,33]) (by simp) t.Prio
 unfold trT
 simp only [List.length_append,List.length_cons,List.length_nil]
 omega
theorem plT_len {p:TPlace} (hp:p∈n.Places):(plT p).length≤1000:=by
 have h1:=P.nlen (x:=p.Name) (by unfold nms; exact List.mem_append_left _ (List.mem_map_of_mem hp))
 have h5:=nT_len (pre:=[32,61,32]) (by simp) p.Tokens
 unfold plT
 simp only [List.length_append,List.length_cons,List.length_nil]
 omega
theorem netT_len:(netT n).length≤64000:=by
 have h1:=flat_len (m:=n.Places) (g:=plT) fun a h=>plT_len P h
 have h2:=flat_len (m:=n.Trans) (g:=trT n) fun a h=>trT_len P h
 have:=P.lp
 have:=P.lt
 unfold netT
 rw [List.length_append]
 omega
theorem j1_eq {t:TTrans} (ht:t∈n.Trans) (k:Int) {acc:List UInt8} (hacc:acc.length≤91000):p27_j1 n k t acc=some (.inl (acc++([58]++(jn (arcT n) true t.In++(jn (tilT n) t.In.isEmpty t.Not++([32,45,62]++(jn (arcT n) true t.Out++[59,10]))))),IntKind.wrap .i64 (k+1))):=by
 obtain ⟨_,_,a1,a2,a3⟩:=P.good.tr t ht
 obtain ⟨b1,b2,b3⟩:=P.la t ht
 obtain ⟨h1,h2,h3,h4⟩:=jlens P ht
 unfold p27_j1
 rw [catS_ok (by simp; omega)]
 simp only [Option.bind_some]
 rw [l1_eq P a1 b1 (by simp; omega)]
 simp only [Option.bind_some]
 have e:sp true t.In=sp t.In.isEmpty []:=by unfold sp; simp
 rw [e,l2_eq P a2 b2 (by simp; omega)]
 simp only [Option.bind_some]
 rw [catS_ok (by simp; omega)]
 simp only [Option.bind_some]
 rw [l3_eq P a3 b3 (by simp; omega)]
 simp only [Option.bind_some]
 rw [catS_ok (by simp; omega)]
 simp only [Option.bind_some,List.append_assoc]
theorem j2_eq {t:TTrans} (ht:t∈n.Trans) (k:Int) {acc:List UInt8} (hacc:acc.length≤90500):p27_j2 n k t acc=some (.inl (acc++(nT [32,33] t.Prio++([58]++(jn (arcT n) true t.In++(jn (tilT n) t.In.isEmpty t.Not++([32,45,62]++(jn (arcT n) true t.Out++[59,10])))))),IntKind.wrap .i64 (k+1))):=by
 obtain ⟨_,a0,_⟩:=P.good.tr t ht
 have h5:=dgs_len t.Prio
 unfold p27_j2 nT
 by_cases hz:t.Prio=0
 ·rw [if_neg (by simp [hz]),if_pos hz,j1_eq P ht k (by omega)]
  rfl
 ·rw [if_pos (by simp [hz]),if_neg hz,p42_eq a0.1 a0.2]
  simp only [Option.bind_some]
  rw [catS_ok (by simp; omega)]
  simp only [Option.bind_some]
  rw [catS_ok (by simp; omega)]
  simp only [Option.bind_some]
  rw [j1_eq P ht k (by simp; omega)]
  simp only [List.append_assoc]
theorem l4_eq {acc:List UInt8} (hacc:acc.length≤40000):loopC (p27_l4 n) (acc,0)=some (acc++(n.Trans.map (trT n)).flatten):=by
 refine fl (fun a h=>trT_len P h) P.lt (fun acc k h h1=>?_) (fun acc=>?_) hacc
 ·have ht:=List.getElem_mem h
  have hk:=P.lt
  obtain ⟨a0,_⟩:=P.good.tr _ ht
  obtain ⟨_,_,_,h4⟩:=jlens P ht
  have h5:=dgs_len n.Trans[k].Delay
  unfold p27_l4
  simp only
  rw [if_pos (by omega),idx_get h]
  simp only [Option.bind_some]
  rw [catS_ok (by simp; omega)]
  simp only [Option.bind_some]
  rw [catS_ok (by simp; omega)]
  simp only [Option.bind_some]
  have hw:IntKind.wrap .i64 ((k:Int)+1)=(k:Int)+1:=wrap64 (by omega) (by omega)
  by_cases hz:n.Trans[k].Delay=0
  ·rw [if_neg (by simp [hz]),j2_eq P ht k (by simp; omega),hw]
   unfold trT
   rw [show nT [32,64] n.Trans[k].Delay=[] from if_pos hz]
   simp only [List.append_assoc,List.nil_append]
  ·rw [if_pos (by simp [hz]),p42_eq a0.1 a0.2]
   simp only [Option.bind_some]
   rw [catS_ok (by simp; omega)]
   simp only [Option.bind_some]
   rw [catS_ok (by simp; omega)]
   simp only [Option.bind_some]
   rw [j2_eq P ht k (by simp; omega),hw]
   unfold trT
   rw [show nT [32,64] n.Trans[k].Delay=[32,64]++dgs n.Trans[k].Delay from if_neg hz]
   simp only [List.append_assoc]
 ·unfold p27_l4
  simp only
  rw [if_neg (by omega)]
theorem l0_eq:loopC (p27_l0 n) ([],0)=some ((n.Places.map plT).flatten):=by
 have:=fl (F:=p27_l0 n) (l:=n.Places) (g:=plT) (acc:=[]) (fun a h=>plT_len P h) P.lp (fun acc k h h1=>?_) (fun acc=>?_) (by simp)
 ·rwa [List.nil_append] at this
 ·have hp:=List.getElem_mem h
  have hk:=P.lp
  have a0:=P.good.tk _ hp
  have h4:=P.nlen (x:=n.Places[k].Name) (by unfold nms; exact List.mem_append_left _ (List.mem_map_of_mem hp))
  have h5:=dgs_len n.Places[k].Tokens
  have hw:IntKind.wrap .i64 ((k:Int)+1)=(k:Int)+1:=wrap64 (by omega) (by omega)
  unfold p27_l0 p27_j0
  simp only
  rw [if_pos (by omega),idx_get h]
  simp only [Option.bind_some]
  rw [catS_ok (by simp; omega)]
  simp only [Option.bind_some]
  rw [catS_ok (by simp; omega)]
  simp only [Option.bind_some]
  by_cases hz:n.Places[k].Tokens=0
  ·rw [if_neg (by simp [hz]),catS_ok (by simp; omega)]
   simp only [Option.bind_some]
   unfold plT
   rw [hw,show nT [32,61,32] n.Places[k].Tokens=[] from if_pos hz]
   simp only [List.append_assoc,List.nil_append]
  ·rw [if_pos (by simp [hz]),p42_eq a0.1 a0.2]
   simp only [Option.bind_some]
   rw [catS_ok (by simp; omega)]
   simp only [Option.bind_some]
   rw [catS_ok (by simp; omega)]
   simp only [Option.bind_some]
   rw [catS_ok (by simp; omega)]
   simp only [Option.bind_some]
   unfold plT
   rw [hw,show nT [32,61,32] n.Places[k].Tokens=[32,61,32]++dgs n.Places[k].Tokens from if_neg hz]
   simp only [List.append_assoc]
 ·unfold p27_l0
  simp only
  rw [if_neg (by omega)]
theorem p27_eq:p27 n=some (netT n):=by
 have h1:=flat_len (m:=n.Places) (g:=plT) fun a h=>plT_len P h
 have:=P.lp
 unfold p27
 rw [l0_eq P]
 simp only [Option.bind_some]
 rw [l4_eq P (by omega)]
 rfl
end
end Go.Proofs.Ytloaoofdbilpeaa
/- Pieces of a text, and their tokens. Own work. -/
namespace Go.Proofs.Ytloaoofdbilpeaa
open Go Go.Am
set_option linter.unusedVariables false
set_option linter.unusedSimpArgs false
inductive Pc where
 | b (c:UInt8)
 | w (x:List UInt8)
 | d (n:Int)
 | s (x:List UInt8)
def Pc.tx:Pc→List UInt8
 | .b c=>[c]
 | .w x=>x
 | .d n=>dgs n
 | .s x=>x
def txt:List Pc→List UInt8
 | []=>[]
 | a::r=>a.tx++txt r
def signs:List (List UInt8):=[[59],[58],[44],[42],[33],[126],[64],[61],[45,62]]
def soft:List Pc→Prop
 | .w _::_=>False
 | .d _::_=>False
 | _=>True
def okP:List Pc→Prop
 | []=>True
 | .b c::r=>(c=32∨c=10)∧okP r
 | .w x::r=>((∀ i,i < x.length→okAt (strI x) i=true)∧x≠[])∧soft r∧okP r
 | .d n::r=>(0≤n∧n≤1000000)∧soft r∧okP r
 | .s x::r=>x∈signs∧okP r
def toks:Nat→List Pc→List Tok
 | _,[]=>[]
 | i,.b _::r=>toks (i+1) r
 | i,.w x::r=>⟨1,x,0,(i:Int)⟩::toks (i+x.length) r
 | i,.d n::r=>⟨2,dgs n,n,(i:Int)⟩::toks (i+(dgs n).length) r
 | i,.s x::r=>⟨3,x,0,(i:Int)⟩::toks (i+x.length) r
/-! ### digits -/
theorem dg_ne:∀ f n,dg f n≠[]
 | 0,n=>by simp [dg]
 | f+1,n=>by unfold dg; split<;>simp
theorem strI_app (a b:List UInt8):strI (a++b)=strI a++strI b:=by unfold strI; rw [List.map_append]
theorem strI_len (a:List UInt8):(strI a).length=a.length:=by unfold strI; rw [List.length_map]
theorem strI_u8 (a:List UInt8):(strI a).map u8=a:=by
 unfold strI
 rw [List.map_map]
 have:(u8 ∘ fun b:UInt8=>(b.toNat:Int))=id:=by
  funext b
  simp [u8,UInt8.ofNat_toNat]
 rw [this,List.map_id]
theorem strI_dig {n:Nat} (h:n < 10):strI [u8 (48+(n:Int))]=[48+(n:Int)]:=by
 unfold strI
 rw [List.map_singleton,u8_nat (by omega)]
theorem dg_dig:∀ f n,n < 10 ^ (f+1)→∀ c,c∈strI (dg f n)→isDg c=true
 | 0,n,hn,c,hc=>by
  unfold dg at hc
  rw [strI_dig (by simpa using hn),List.mem_singleton] at hc
  subst hc
  have:n < 10:=by simpa using hn
  simp [isDg]; omega
 | f+1,n,hn,c,hc=>by
  unfold dg at hc
  split at hc
  ·rename_i h
   rw [strI_dig h,List.mem_singleton] at hc
   subst hc
   simp [isDg]; omega
  ·have hp:10 ^ (f+1+1)=10 ^ (f+1) * 10:=Nat.pow_succ ..
   have hlt:n / 10 < 10 ^ (f+1):=by rw [Nat.div_lt_iff_lt_mul (by omega)]; omega
   rw [strI_app,strI_dig (Nat.mod_lt n (by omega))] at hc
   rcases List.mem_append.1 hc with hc | hc
   ·exact dg_dig f _ hlt c hc
   ·rw [List.mem_singleton] at hc
    subst hc
    simp [isDg]; omega
theorem numv_app:∀ {l:List Int} {a m c:Int},numv l a=some m→¬ 1125899906842624 < 10 * m+(c - 48)→numv (l++[c]) a=some (10 * m+(c - 48))
 | [],a,m,c,h,hc=>by
  cases h
  show (if _ then _ else _)=_
  rw [if_neg hc]; rfl
 | d::l,a,m,c,h,hc=>by
  unfold numv at h
  split at h
  ·cases h
  ·rename_i h1
   show (if _ then _ else _)=_
   rw [if_neg h1]
   exact numv_app h hc
theorem numv_dg:∀ f n,n < 10 ^ (f+1)→n≤100000000→numv (strI (dg f n)) 0=some (n:Int)
 | 0,n,hn,hb=>by
  unfold dg
  rw [strI_dig (by simpa using hn)]
  show (if _ then _ else _)=_
  rw [if_neg (by omega)]
  show some _=_
  congr 1; omega
 | f+1,n,hn,hb=>by
  unfold dg
  split
  ·rename_i h
   rw [strI_dig h]
   show (if _ then _ else _)=_
   rw [if_neg (by omega)]
   show some _=_
   congr 1; omega
  ·have hp:10 ^ (f+1+1)=10 ^ (f+1) * 10:=Nat.pow_succ ..
   have hlt:n / 10 < 10 ^ (f+1):=by rw [Nat.div_lt_iff_lt_mul (by omega)]; omega
   rw [strI_app,strI_dig (Nat.mod_lt n (by omega)),numv_app (numv_dg f _ hlt (by omega)) (by omega)]
   congr 1; omega
theorem dgs_ok {n:Int} (h0:0≤n) (h1:n≤1000000):(∀ c,c∈strI (dgs n)→isDg c=true)∧numv (strI (dgs n)) 0=some n∧dgs n≠[]:=by
 refine ⟨dg_dig 7 _ (by omega),?_,dg_ne _ _⟩
 have:=numv_dg 7 n.toNat (by omega) (by omega)
 rwa [Int.toNat_of_nonneg h0] at this
/-! ### one piece -/
section
variable {p:List Int} {i:Nat} {A B:List Int} (h:p.drop i=A++B)
include h
theorem pi_hd {c:Int} {A':List Int} (e:A=c::A'):p.getD i 0=c:=by
 subst e
 have:(p.drop i)[0]? = some c:=by rw [h]; rfl
 rw [List.getElem?_drop,Nat.add_zero] at this
 rw [List.getD_eq_getElem?_getD,this]; rfl
theorem pi_tl {c:Int} {A':List Int} (e:A=c::A'):p.drop (i+1)=A'++B:=by
 subst e
 rw [← List.drop_drop,h]; rfl
theorem pi_txt:textOf p i (i+A.length)=A.map u8:=by
 unfold textOf
 rw [List.drop_take,h,Nat.add_sub_cancel_left,List.take_left']
 rfl
theorem pi_run {P:Int→Bool} (hA:∀ c,c∈A→P c=true) (hB:∀ c r,B=c::r→P c=false):(p.drop i).takeWhile P=A:=by
 rw [h,List.takeWhile_append_of_pos hA]
 cases B with
 | nil=>simp
 | cons c r=>rw [List.takeWhile_cons,hB c r rfl]; simp
end
theorem hdB {r:List Pc} (hs:soft r) (ho:okP r):∀ c q,strI (txt r)=c::q→isWd c=false:=by
 intro c q hq
 cases r with
 | nil=>cases hq
 | cons a r=>
  cases a with
  | w x=>exact hs.elim
  | d n=>exact hs.elim
  | b x=>
   have e:c=(x.toNat:Int):=by simpa [txt,Pc.tx,strI] using (congrArg List.head? hq).symm
   subst e
   rcases ho.1 with rfl | rfl<;>rfl
  | s x=>
   have hm:=ho.1
   simp only [signs,List.mem_cons,List.not_mem_nil,or_false] at hm
   rcases hm with rfl | rfl | rfl | rfl | rfl | rfl | rfl | rfl | rfl <;>
    ·have e:=(congrArg List.head? hq).symm
     simp [txt,Pc.tx,strI] at e
     subst e
     rfl
theorem wd_dg {c:Int} (h:isWd c=false):isDg c=false:=by
 unfold isWd at h
 simp only [Bool.or_eq_false_iff] at h
 exact h.2.1
theorem st_b {p:List Int} {i:Nat} {c:UInt8} {r:List Pc} (h:p.drop i=strI (Pc.b c).tx++strI (txt r)) (hc:c=32∨c=10):stepS p i=.inl (i+1,[]):=by
 have h1:=pi_hd h rfl
 unfold stepS
 simp only [h1]
 rw [if_pos (by rcases hc with rfl | rfl<;>rfl)]
theorem st_w {p:List Int} {i:Nat} {x:List UInt8} {r:List Pc} (h:p.drop i=strI (Pc.w x).tx++strI (txt r)) (hx:(∀ i,i < x.length→okAt (strI x) i=true)∧x≠[]) (hs:soft r) (ho:okP r):stepS p i=.inl (i+x.length,[⟨1,x,0,(i:Int)⟩]):=by
 obtain ⟨g1,g2⟩:=hx
 cases x with
 | nil=>exact absurd rfl g2
 | cons c x=>
  have e:strI (Pc.w (c::x)).tx=(c.toNat:Int)::strI x:=rfl
  have h1:=pi_hd h e
  have h2:=pi_tl h e
  have s1:isSm (c.toNat:Int)=true:=by
   have:=g1 0 (by simp)
   simpa [okAt,strI] using this
  have s2:∀ y,y∈strI x→isWd y=true:=by
   intro y hy
   obtain ⟨j,hj,rfl⟩:=List.getElem_of_mem hy
   have hj':j < x.length:=by rwa [strI_len] at hj
   have:=g1 (j+1) (by simp; omega)
   unfold okAt at this
   rw [if_neg (by omega)] at this
   have e2:(strI (c::x)).getD (j+1) 0=(strI x)[j]:=by
    rw [List.getD_eq_getElem?_getD]
    show ((strI x)[j]?).getD 0=_
    rw [List.getElem?_eq_getElem hj]; rfl
   rwa [e2] at this
  have h3:=pi_run h2 s2 (hdB hs ho)
  have h4:=pi_txt h
  have hb:97≤(c.toNat:Int)∧(c.toNat:Int)≤122:=by simpa [isSm] using s1
  have h5:oneS p i=.inl (1,i+(c::x).length,0):=by
   unfold oneS
   simp only [h1]
   rw [if_pos s1]
   unfold run
   rw [h3,strI_len]
   congr 2
   simp; omega
  unfold stepS
  simp only [h1]
  rw [if_neg (by simp [isBl]; omega),if_neg (by omega),h5]
  simp only
  have h6:textOf p i (i+(c::x).length)=c::x:=by
   have e7:(strI (Pc.w (c::x)).tx).length=(c::x).length:=strI_len _
   rw [← e7,h4]
   exact strI_u8 _
  rw [h6]
theorem st_d {p:List Int} {i:Nat} {n:Int} {r:List Pc} (h:p.drop i=strI (Pc.d n).tx++strI (txt r)) (hx:0≤n∧n≤1000000) (hs:soft r) (ho:okP r):stepS p i=.inl (i+(dgs n).length,[⟨2,dgs n,n,(i:Int)⟩]):=by
 obtain ⟨g1,g2,g3⟩:=dgs_ok hx.1 hx.2
 have h:p.drop i=strI (dgs n)++strI (txt r):=h
 have h3:=pi_run h g1 (fun c q hq=>wd_dg (hdB hs ho c q hq))
 have h4:=pi_txt h
 obtain ⟨c,A,hc⟩:∃ c A,strI (dgs n)=c::A:=by
  cases e:strI (dgs n) with
  | nil=>exact absurd (by unfold strI at e; simpa using e) g3
  | cons c A=>exact ⟨c,A,rfl⟩
 have h1:=pi_hd h hc
 have hd:=g1 c (by rw [hc]; exact List.mem_cons_self ..)
 have hb:=isDg_lt hd
 have hrun:run isDg p (i+1)=i+(dgs n).length:=by
  have h2:=pi_tl h hc
  have h5:=pi_run h2 (fun y hy=>g1 y (by rw [hc]; exact List.mem_cons_of_mem _ hy)) (fun c q hq=>wd_dg (hdB hs ho c q hq))
  unfold run
  rw [h5]
  have:=congrArg List.length hc
  rw [strI_len] at this
  rw [this]; simp; omega
 have h5:oneS p i=.inl (2,i+(dgs n).length,n):=by
  unfold oneS
  simp only [h1]
  have:num p i 0=some n:=by unfold num; rw [h3]; exact g2
  rw [if_neg (by simp [isSm]; omega),if_pos hd,this,hrun]
 unfold stepS
 simp only [h1]
 rw [if_neg (by simp [isBl]; omega),if_neg (by omega),h5]
 simp only
 rw [strI_len] at h4
 rw [h4,strI_u8]
theorem st_s {p:List Int} {i:Nat} {x:List UInt8} {r:List Pc} (h:p.drop i=strI (Pc.s x).tx++strI (txt r)) (hx:x∈signs):stepS p i=.inl (i+x.length,[⟨3,x,0,(i:Int)⟩]):=by
 have h:p.drop i=strI x++strI (txt r):=h
 have h4:=pi_txt h
 rw [strI_len,strI_u8] at h4
 have hm:=hx
 simp only [signs,List.mem_cons,List.not_mem_nil,or_false] at hm
 have one:∀ c:UInt8,x=[c]→isBl (c.toNat:Int)=false→(c.toNat:Int)≠35→isSm (c.toNat:Int)=false→isDg (c.toNat:Int)=false→(c.toNat:Int)≠45→isSg (c.toNat:Int)=true→stepS p i=.inl (i+x.length,[⟨3,x,0,(i:Int)⟩]):=by
  intro c e a1 a2 a3 a4 a5 a6
  have h1:=pi_hd h (c:=(c.toNat:Int)) (A':=[]) (by rw [e]; rfl)
  have h5:oneS p i=.inl (3,i+1,0):=by
   unfold oneS
   simp only [h1]
   rw [if_neg (by simp [a3]),if_neg (by simp [a4]),if_neg (fun h=>a5 h.1),if_pos a6]
  unfold stepS
  simp only [h1]
  rw [if_neg (by simp [a1]),if_neg a2,h5]
  have e1:i+1=i+x.length:=by rw [e]; rfl
  simp only [e1,h4]
 rcases hm with e | e | e | e | e | e | e | e | e
 ·exact one _ e rfl (by decide) rfl rfl (by decide) rfl
 ·exact one _ e rfl (by decide) rfl rfl (by decide) rfl
 ·exact one _ e rfl (by decide) rfl rfl (by decide) rfl
 ·exact one _ e rfl (by decide) rfl rfl (by decide) rfl
 ·exact one _ e rfl (by decide) rfl rfl (by decide) rfl
 ·exact one _ e rfl (by decide) rfl rfl (by decide) rfl
 ·exact one _ e rfl (by decide) rfl rfl (by decide) rfl
 ·exact one _ e rfl (by decide) rfl rfl (by decide) rfl
 ·have h1:=pi_hd h (c:=45) (A':=[62]) (by rw [e]; rfl)
  have h2:p[i+1]? = some 62:=by
   have:(p.drop i)[1]? = some 62:=by rw [h,e]; rfl
   rwa [List.getElem?_drop] at this
  have h5:oneS p i=.inl (3,i+2,0):=by
   unfold oneS
   simp only [h1]
   rw [if_neg (by decide),if_neg (by decide),if_pos ⟨trivial,h2⟩]
  unfold stepS
  simp only [h1]
  rw [if_neg (by decide),if_neg (by decide),h5]
  have e1:i+2=i+x.length:=by rw [e]; rfl
  simp only [e1,h4]
/-- What pieces are lexed to. -/
theorem lex_pc {p:List Int}:∀ {P:List Pc} {i:Nat} {l:List Tok},i≤p.length→p.drop i=strI (txt P)→okP P→LexR p i l (l++toks i P++[⟨0,[],0,(p.length:Int)⟩],0,0)
 | [],i,l,hi,h,ho=>by
  have:i=p.length:=by
   have:=congrArg List.length h
   rw [List.length_drop] at this
   simp [txt,strI] at this
   omega
  unfold toks
  rw [List.append_nil]
  exact .done this
 | a::P,i,l,hi,h,ho=>by
  have h:p.drop i=strI a.tx++strI (txt P):=by rw [h]; exact strI_app _ _
  have hl:=congrArg List.length h
  rw [List.length_drop,List.length_append,strI_len,strI_len] at hl
  have hn:p.drop (i+a.tx.length)=strI (txt P):=by
   rw [← List.drop_drop,h,List.drop_left']
   exact strI_len _
  cases a with
  | b c=>
   have hl:p.length - i=1+(txt P).length:=hl
   have:=lex_pc (l:=l++[]) (i:=i+1) (by omega) hn ho.2
   rw [List.append_nil] at this
   exact .go (by omega) (st_b h ho.1) (by rw [List.append_nil]; exact this)
  | w x=>
   have hx:0 < x.length:=List.length_pos_iff.2 ho.1.2
   have hl:p.length - i=x.length+(txt P).length:=hl
   refine .go (by omega) (st_w h ho.1 ho.2.1 ho.2.2) ?_
   have:=lex_pc (l:=l++[⟨1,x,0,(i:Int)⟩]) (i:=i+x.length) (by omega) hn ho.2.2
   unfold toks
   rw [← List.singleton_append (l:=toks _ _),← List.append_assoc]
   exact this
  | d n=>
   have hx:0 < (dgs n).length:=List.length_pos_iff.2 (dg_ne _ _)
   have hl:p.length - i=(dgs n).length+(txt P).length:=hl
   refine .go (by omega) (st_d h ho.1 ho.2.1 ho.2.2) ?_
   have:=lex_pc (l:=l++[⟨2,dgs n,n,(i:Int)⟩]) (i:=i+(dgs n).length) (by omega) hn ho.2.2
   unfold toks
   rw [← List.singleton_append (l:=toks _ _),← List.append_assoc]
   exact this
  | s x=>
   have hx:0 < x.length:=by
    have hm:=ho.1
    simp only [signs,List.mem_cons,List.not_mem_nil,or_false] at hm
    rcases hm with rfl | rfl | rfl | rfl | rfl | rfl | rfl | rfl | rfl<;>decide
   have hl:p.length - i=x.length+(txt P).length:=hl
   refine .go (by omega) (st_s h ho.1) ?_
   have:=lex_pc (l:=l++[⟨3,x,0,(i:Int)⟩]) (i:=i+x.length) (by omega) hn ho.2
   unfold toks
   rw [← List.singleton_append (l:=toks _ _),← List.append_assoc]
   exact this
end Go.Proofs.Ytloaoofdbilpeaa
/- A net's text is read as that net. Own work. -/
namespace Go.Proofs.Ytloaoofdbilpeaa
open Go Go.Am
set_option linter.unusedVariables false
set_option linter.unusedSimpArgs false
abbrev V:=Int×List UInt8×Int
def vw (t:Tok):V:=(t.k,t.s,t.n)
def vws:List Pc→List V
 | []=>[(0,[],0)]
 | .b _::r=>vws r
 | .w x::r=>(1,x,0)::vws r
 | .d n::r=>(2,dgs n,n)::vws r
 | .s x::r=>(3,x,0)::vws r
theorem vws_ne:∀ P,vws P≠[]
 | []=>by simp [vws]
 | .b _::r=>vws_ne r
 | .w _::r=>by simp [vws]
 | .d _::r=>by simp [vws]
 | .s _::r=>by simp [vws]
theorem toks_vw (q:Int):∀ (P:List Pc) (i:Nat),(toks i P++[(⟨0,[],0,q⟩:Tok)]).map vw=vws P
 | [],i=>rfl
 | .b _::r,i=>toks_vw q r _
 | .w _::r,i=>congrArg (_::·) (toks_vw q r _)
 | .d _::r,i=>congrArg (_::·) (toks_vw q r _)
 | .s _::r,i=>congrArg (_::·) (toks_vw q r _)
def hv (P:List Pc):V:=(vws P).headD (0,[],0)
structure At (s:PS) (P:List Pc) (n:TNet) (T:List (List UInt8)):Prop where
 l:s.l.map vw=vws P
 n:s.n=n
 t:s.told=T
def Ok {α:Type} (r:Res α) (a:α) (P:List Pc) (n:TNet) (T:List (List UInt8)):Prop:=∃ s',r=.inl (a,s')∧At s' P n T
def ns (x:List UInt8) (P:List Pc):Prop:=¬ ((hv P).1=3∧(hv P).2.1=x)
section
variable {s:PS} {P Q:List Pc} {n:TNet} {T:List (List UInt8)}
theorem At.b {c:UInt8} (h:At s (.b c::P) n T):At s P n T:=⟨h.l,h.n,h.t⟩
theorem At.hd (h:At s P n T):vw (Proofs.Ytloaoofdbilpeaa.hd s.l)=hv P:=by
 have:=h.l
 unfold hv
 rw [← this]
 cases e:s.l with
 | nil=>rw [e] at this; exact absurd this.symm (vws_ne P)
 | cons a r=>rfl
theorem At.stp {v:V} (h:At s P n T) (e:vws P=v::vws Q):At (Proofs.Ytloaoofdbilpeaa.stp s) Q n T:=by
 refine ⟨?_,h.n,h.t⟩
 have h1:=h.l
 rw [e] at h1
 show (nx s.l).map vw=_
 rw [nx_map,h1]
 cases e2:vws Q with
 | nil=>exact absurd e2 (vws_ne Q)
 | cons a r=>rfl
theorem At.yes {x:List UInt8} (h:At s (.s x::P) n T):isS s x=true:=by
 have:=h.hd
 unfold isS
 rw [show (Proofs.Ytloaoofdbilpeaa.hd s.l).k=3 from congrArg (·.1) this,show (Proofs.Ytloaoofdbilpeaa.hd s.l).s=x from congrArg (·.2.1) this]
 simp
theorem At.no {x:List UInt8} (h:At s P n T) (hx:ns x P):¬ isS s x=true:=by
 have:=h.hd
 unfold isS
 unfold ns at hx
 rw [show (Proofs.Ytloaoofdbilpeaa.hd s.l).k=(hv P).1 from congrArg (·.1) this,show (Proofs.Ytloaoofdbilpeaa.hd s.l).s=(hv P).2.1 from congrArg (·.2.1) this]
 simpa using hx
theorem At.len (h:At s P n T):s.l.length=(vws P).length:=by rw [← h.l,List.length_map]
theorem Ok.bnd {α β:Type} {r:Res α} {a:α} {f:α→PS→Res β} {b:β} {m:TNet} {U:List (List UInt8)} (h:Ok r a P n T) (hf:∀ s',At s' P n T→Ok (f a s') b Q m U):Ok (Proofs.Ytloaoofdbilpeaa.bnd r f) b Q m U:=by
 obtain ⟨s',rfl,h'⟩:=h
 exact hf s' h'
theorem want_ok {x:List UInt8} (h:At s (.s x::P) n T):Ok (want x s) () P n T:=by
 unfold want
 rw [if_pos h.yes]
 exact ⟨_,rfl,h.stp rfl⟩
theorem num_ok {m v:Int} (h:At s (.d v::P) n T) (h1:m≤v) (h2:v≤1000000):Ok (numS m s) v P n T:=by
 have hh:=h.hd
 unfold numS
 rw [show (hd s.l).k=2 from congrArg (·.1) hh,show (hd s.l).n=v from congrArg (·.2.2) hh,if_pos rfl,if_neg (by omega)]
 exact ⟨_,rfl,h.stp rfl⟩
theorem name_ok {x:List UInt8} (h:At s (.w x::P) n T) (h1:x.length≤12) (h2:x∉T):Ok (nameS s) x P n (T++[x]):=by
 have hh:=h.hd
 unfold nameS
 rw [show (hd s.l).k=1 from congrArg (·.1) hh,show (hd s.l).s=x from congrArg (·.2.1) hh,if_pos rfl,h.t,if_pos ⟨h1,h2⟩]
 have h3:=h.stp (Q:=P) rfl
 exact ⟨_,rfl,h3.l,h.n,rfl⟩
def opt (q:Bool) (c:UInt8) (v:Int) (P:List Pc):List Pc:=if v=0 then P else .b 32::.s [c]::(if q=true then .b 32::.d v::P else .d v::P)
theorem opt_ok {q:Bool} {c:UInt8} {v:Int} (h:At s (opt q c v P) n T) (h1:0≤v) (h2:v≤1000000) (hn:ns [c] P):Ok (optS [c] s) v P n T:=by
 unfold opt at h
 unfold optS
 split at h
 ·rename_i hz
  subst hz
  rw [if_neg (h.no hn)]
  exact ⟨_,rfl,h⟩
 ·have h:=h.b
  rw [if_pos h.yes]
  cases q with
  | true=>exact num_ok (h.stp (Q:=.d v::P) rfl) h1 h2
  | false=>exact num_ok (h.stp (Q:=.d v::P) rfl) h1 h2
end
/-! ### arcs -/
def pcA (nm:Int→List UInt8) (a:TArc) (P:List Pc):List Pc:=.w (nm a.Place)::if a.N=1 then P else .s [42]::.d a.N::P
def pcN (nm:Int→List UInt8) (a:TArc) (P:List Pc):List Pc:=.s [126]::pcA nm a P
def pcS (f:Bool) (P:List Pc):List Pc:=if f=true then .b 32::P else .s [44]::.b 32::P
def pcL (g:TArc→List Pc→List Pc):Bool→List TArc→List Pc→List Pc
 | _,[],Q=>Q
 | f,a::l,Q=>pcS f (g a (pcL g false l Q))
structure RcOk (ps:List (List UInt8)) (nm:Int→List UInt8) (a:TArc):Prop where
 pl:plc ps (nm a.Place)=some a.Place.toNat
 p0:0≤a.Place
 n1:1≤a.N
 n2:a.N≤1000000
theorem ns_pcL {g:TArc→List Pc→List Pc} {x:List UInt8} {l:List TArc} {Q:List Pc} (hq:ns x Q) (hx:x≠[44]):ns x (pcL g false l Q):=by
 cases l with
 | nil=>exact hq
 | cons a l=>
  rintro ⟨_,h⟩
  exact hx h.symm
section
variable {ps:List (List UInt8)} {nm:Int→List UInt8} {P Q:List Pc} {n:TNet} {T:List (List UInt8)}
theorem arc_ok {s:PS} {a:TArc} {l:List TArc} (ha:RcOk ps nm a) (hany:∀ x,x∈l→x.Place≠a.Place) (hl:l.length < 8) (h:At s (pcA nm a P) n T) (hn:ns [42] P):Ok (arcS ps l s) (l++[a]) P n T:=by
 obtain ⟨a1,a2,a3,a4⟩:=ha
 have hh:=h.hd
 have hk:((a.Place.toNat:Nat):Int)=a.Place:=Int.toNat_of_nonneg a2
 unfold arcS
 rw [show (hd s.l).k=1 from congrArg (·.1) hh,show (hd s.l).s=nm a.Place from congrArg (·.2.1) hh,if_pos rfl,a1]
 simp only
 rw [hk,if_neg (by simp only [List.any_eq_true,decide_eq_true_eq,not_exists,not_and]; exact hany),if_neg (by omega)]
 have h2:At (stp s) (if a.N=1 then P else .s [42]::.d a.N::P) n T:=h.stp (v:=(1,nm a.Place,0)) rfl
 split at h2
 ·rename_i h1
  rw [if_neg (h2.no hn)]
  exact ⟨_,by rw [← h1],h2⟩
 ·rw [if_pos h2.yes]
  exact Ok.bnd (num_ok (h2.stp (Q:=.d a.N::P) rfl) a3 a4) fun s' h'=>⟨_,rfl,h'⟩
theorem sep_ok {s:PS} {f:Bool} (h:At s (pcS f P) n T):Ok (sepS f s) () P n T:=by
 cases f with
 | true=>exact ⟨_,rfl,h.b⟩
 | false=>
  obtain ⟨s',e,h'⟩:=want_ok (x:=[44]) (P:=.b 32::P) h
  exact ⟨s',e,h'.b⟩
theorem pw_snoc {done:List TArc} {a:TArc} {l:List TArc} (h:(done++a::l).Pairwise fun a b=>a.Place≠b.Place):∀ x,x∈done→x.Place≠a.Place:=fun x hx=>(List.pairwise_append.1 h).2.2 x hx a (List.mem_cons_self ..)
theorem not_ok {ins:List TArc}:∀ (l:List TArc) (f:Bool) (done:List TArc) (k:Nat) (s:PS),l.length < k→At s (pcL (pcN nm) f l (.b 32::.s [45,62]::Q)) n T→(∀ a,a∈l→RcOk ps nm a)→(done++l).Pairwise (fun a b=>a.Place≠b.Place)→(done++l).length≤8→Ok (inS ps k f ins done s) (ins,done++l) Q n T
 | _,_,_,0,_,hk,_,_,_,_=>by omega
 | [],f,done,k+1,s,hk,h,ha,hp,hl=>by
  have h:=At.b h
  unfold inS
  rw [if_pos h.yes,List.append_nil]
  exact ⟨_,rfl,h.stp rfl⟩
 | a::l,f,done,k+1,s,hk,h,ha,hp,hl=>by
  unfold inS
  rw [if_neg (h.no (by cases f<;>(rintro ⟨_,q⟩; cases q)))]
  refine Ok.bnd (sep_ok h) fun s' h'=>?_
  rw [if_pos h'.yes]
  refine Ok.bnd (arc_ok (ha a (List.mem_cons_self ..)) (pw_snoc hp) (by simp at hl; omega) (h'.stp rfl) (ns_pcL (by rintro ⟨_,q⟩; cases q) (by decide))) fun s2 h2=>?_
  rw [show done++a::l=done++[a]++l by simp] at hp hl ⊢
  exact not_ok l false (done++[a]) k s2 (by simp at hk; omega) h2 (fun x hx=>ha x (List.mem_cons_of_mem _ hx)) hp hl
theorem in_ok {nots:List TArc} (hn:∀ a,a∈nots→RcOk ps nm a) (hnp:nots.Pairwise (fun a b=>a.Place≠b.Place)) (hnl:nots.length≤8):∀ (l:List TArc) (f:Bool) (done:List TArc) (k:Nat) (s:PS),l.length+nots.length < k→At s (pcL (pcA nm) f l (pcL (pcN nm) (f&&l.isEmpty) nots (.b 32::.s [45,62]::Q))) n T→(∀ a,a∈l→RcOk ps nm a)→(done++l).Pairwise (fun a b=>a.Place≠b.Place)→(done++l).length≤8→Ok (inS ps k f done [] s) (done++l,nots) Q n T
 | _,_,_,0,_,hk,_,_,_,_=>by omega
 | [],f,done,k+1,s,hk,h,ha,hp,hl=>by
  rw [show (f&&List.isEmpty ([]:List TArc))=f by simp] at h
  rw [List.append_nil]
  exact not_ok nots f [] (k+1) s (by simp at hk; omega) h hn hnp hnl
 | a::l,f,done,k+1,s,hk,h,ha,hp,hl=>by
  rw [show (f&&List.isEmpty (a::l))=false by simp] at h
  unfold inS
  rw [if_neg (h.no (by cases f<;>(rintro ⟨q,q2⟩; first | cases q2 | cases q)))]
  refine Ok.bnd (sep_ok h) fun s' h'=>?_
  rw [if_neg (h'.no (by rintro ⟨q,_⟩; cases q))]
  refine Ok.bnd (arc_ok (ha a (List.mem_cons_self ..)) (pw_snoc hp) (by simp at hl; omega) h' (ns_pcL (ns_pcL (by rintro ⟨_,q⟩; cases q) (by decide)) (by decide))) fun s2 h2=>?_
  rw [show done++a::l=done++[a]++l by simp] at hp hl ⊢
  exact in_ok hn hnp hnl l false (done++[a]) k s2 (by simp at hk; omega) h2 (fun x hx=>ha x (List.mem_cons_of_mem _ hx)) hp hl
theorem out_ok:∀ (l:List TArc) (f:Bool) (done:List TArc) (k:Nat) (s:PS),l.length < k→At s (pcL (pcA nm) f l (.s [59]::Q)) n T→(∀ a,a∈l→RcOk ps nm a)→(done++l).Pairwise (fun a b=>a.Place≠b.Place)→(done++l).length≤8→Ok (outS ps k f done s) (done++l) (.s [59]::Q) n T
 | _,_,_,0,_,hk,_,_,_,_=>by omega
 | [],f,done,k+1,s,hk,h,ha,hp,hl=>by
  unfold outS
  rw [if_pos (At.yes h),List.append_nil]
  exact ⟨_,rfl,h⟩
 | a::l,f,done,k+1,s,hk,h,ha,hp,hl=>by
  unfold outS
  rw [if_neg (h.no (by cases f<;>(rintro ⟨q,q2⟩; first | cases q2 | cases q)))]
  refine Ok.bnd (sep_ok h) fun s' h'=>?_
  refine Ok.bnd (arc_ok (ha a (List.mem_cons_self ..)) (pw_snoc hp) (by simp at hl; omega) h' (ns_pcL (by rintro ⟨_,q⟩; cases q) (by decide))) fun s2 h2=>?_
  rw [show done++a::l=done++[a]++l by simp] at hp hl ⊢
  exact out_ok l false (done++[a]) k s2 (by simp at hk; omega) h2 (fun x hx=>ha x (List.mem_cons_of_mem _ hx)) hp hl
theorem vl_pcL {g:TArc→List Pc→List Pc} (hg:∀ a P,(vws P).length+1≤(vws (g a P)).length):∀ (f:Bool) (l:List TArc) (Q:List Pc),(vws Q).length+l.length≤(vws (pcL g f l Q)).length
 | _,[],Q=>Nat.le_refl _
 | f,a::l,Q=>by
  have h1:=vl_pcL hg false l Q
  have h2:=hg a (pcL g false l Q)
  have h3:(vws (g a (pcL g false l Q))).length≤(vws (pcL g f (a::l) Q)).length:=by
   cases f
   ·exact Nat.le_succ _
   ·exact Nat.le_refl _
  simp only [List.length_cons]
  omega
theorem vl_A (a:TArc) (P:List Pc):(vws P).length+1≤(vws (pcA nm a P)).length:=by
 unfold pcA
 split
 ·exact Nat.le_refl _
 ·show _≤(vws P).length+1+1+1
  omega
theorem vl_N (a:TArc) (P:List Pc):(vws P).length+1≤(vws (pcN nm a P)).length:=by
 have:=vl_A (nm:=nm) a P
 show _≤(vws (pcA nm a P)).length+1
 omega
/-! ### items -/
def pcT (nm:Int→List UInt8) (t:TTrans) (K:List Pc):List Pc:=.w [116,114,97,110,115]::.b 32::.w t.Name::opt false 64 t.Delay (opt false 33 t.Prio (.s [58]::pcL (pcA nm) true t.In (pcL (pcN nm) t.In.isEmpty t.Not (.b 32::.s [45,62]::pcL (pcA nm) true t.Out (.s [59]::.b 10::K)))))
def pcP (p:TPlace) (K:List Pc):List Pc:=.w [112,108,97,99,101]::.b 32::.w p.Name::opt true 61 p.Tokens (.s [59]::.b 10::K)
def arcsOk (ps:List (List UInt8)) (nm:Int→List UInt8) (l:List TArc):Prop:=(∀ a,a∈l→RcOk ps nm a)∧l.Pairwise (fun a b=>a.Place≠b.Place)∧l.length≤8
structure TAOk (ps:List (List UInt8)) (nm:Int→List UInt8) (t:TTrans):Prop where
 d:0≤t.Delay∧t.Delay≤1000000
 p:0≤t.Prio∧t.Prio≤1000000
 i:arcsOk ps nm t.In
 n:arcsOk ps nm t.Not
 o:arcsOk ps nm t.Out
 l:t.Name.length≤12
theorem ns_opt {x:List UInt8} {q:Bool} {c:UInt8} {v:Int} (hx:x≠[c]) (h:ns x P):ns x (opt q c v P):=by
 unfold opt
 split
 ·exact h
 ·rintro ⟨_,q⟩; exact hx q.symm
theorem trans_ok {s:PS} {t:TTrans} {K:List Pc} {p:List TPlace} {ts:List TTrans} (ht:TAOk ps nm t) (hT:t.Name∉T) (h:At s (.b 32::.w t.Name::opt false 64 t.Delay (opt false 33 t.Prio (.s [58]::pcL (pcA nm) true t.In (pcL (pcN nm) t.In.isEmpty t.Not (.b 32::.s [45,62]::pcL (pcA nm) true t.Out (.s [59]::.b 10::K)))))) ⟨p,ts⟩ T) :
  Ok (transS ps s) () (.s [59]::.b 10::K) ⟨p,ts++[t]⟩ (T++[t.Name]):=by
 unfold transS
 refine Ok.bnd (name_ok h.b ht.l hT) fun s1 h1=>?_
 refine Ok.bnd (opt_ok h1 ht.d.1 ht.d.2 (ns_opt (by decide) (by rintro ⟨_,q⟩; cases q))) fun s2 h2=>?_
 refine Ok.bnd (opt_ok h2 ht.p.1 ht.p.2 (by rintro ⟨_,q⟩; cases q)) fun s3 h3=>?_
 refine Ok.bnd (want_ok h3) fun s4 h4=>?_
 refine Ok.bnd (in_ok ht.n.1 ht.n.2.1 ht.n.2.2 t.In true [] s4.l.length s4 ?_ h4 ht.i.1 ht.i.2.1 ht.i.2.2) fun s5 h5=>?_
 ·rw [h4.len]
  have:=vl_pcL (vl_A (nm:=nm)) true t.In (pcL (pcN nm) t.In.isEmpty t.Not (.b 32::.s [45,62]::pcL (pcA nm) true t.Out (.s [59]::.b 10::K)))
  have:=vl_pcL (vl_N (nm:=nm)) t.In.isEmpty t.Not (.b 32::.s [45,62]::pcL (pcA nm) true t.Out (.s [59]::.b 10::K))
  have:0 < (vws (.b 32::.s [45,62]::pcL (pcA nm) true t.Out (.s [59]::.b 10::K))).length:=Nat.succ_pos _
  omega
 refine Ok.bnd (out_ok t.Out true [] s5.l.length s5 ?_ h5 ht.o.1 ht.o.2.1 ht.o.2.2) fun s6 h6=>?_
 ·rw [h5.len]
  have:=vl_pcL (vl_A (nm:=nm)) true t.Out (.s [59]::.b 10::K)
  have:0 < (vws (.s [59]::.b 10::K)).length:=Nat.succ_pos _
  omega
 refine ⟨_,rfl,h6.l,?_,h6.t⟩
 show TNet.mk s6.n.Places _=_
 rw [h6.n]
 rfl
theorem place_ok {s:PS} {q:TPlace} {K:List Pc} {p:List TPlace} {ts:List TTrans} (h0:0≤q.Tokens∧q.Tokens≤1000000) (hl:q.Name.length≤12) (hT:q.Name∉T) (h:At s (.b 32::.w q.Name::opt true 61 q.Tokens (.s [59]::.b 10::K)) ⟨p,ts⟩ T) :
  Ok (placeS s) () (.s [59]::.b 10::K) ⟨p++[q],ts⟩ (T++[q.Name]):=by
 unfold placeS
 refine Ok.bnd (name_ok h.b hl hT) fun s1 h1=>?_
 refine Ok.bnd (opt_ok h1 h0.1 h0.2 (by rintro ⟨_,q⟩; cases q)) fun s2 h2=>?_
 refine ⟨_,rfl,h2.l,?_,h2.t⟩
 show TNet.mk (s2.n.Places++_) s2.n.Trans=_
 rw [h2.n]
theorem kw_at {s:PS} {x y:List UInt8} (h:At s (.w x::P) n T):kw (hd s.l) y=(x==y):=by
 have hh:=h.hd
 unfold kw
 rw [show (hd s.l).k=1 from congrArg (·.1) hh,show (hd s.l).s=x from congrArg (·.2.1) hh]
 simp
theorem itemT {s:PS} {t:TTrans} {K:List Pc} {p:List TPlace} {ts:List TTrans} (ht:TAOk ps nm t) (hT:t.Name∉T) (hl:ts.length < 32) (h:At s (pcT nm t K) ⟨p,ts⟩ T):Ok (itemS ps s) () K ⟨p,ts++[t]⟩ (T++[t.Name]):=by
 unfold itemS
 refine Ok.bnd (P:=.s [59]::.b 10::K) (n:=⟨p,ts++[t]⟩) (T:=T++[t.Name]) (a:=()) ?_ fun s' h'=>?_
 ·unfold bodyS
  rw [kw_at h,kw_at h,if_neg (by decide),if_pos (by decide),h.n,if_neg (by simp only; omega)]
  exact trans_ok ht hT (h.stp rfl)
 ·obtain ⟨s2,e2,h2⟩:=want_ok h'
  exact ⟨s2,e2,h2.b⟩
theorem itemP {s:PS} {q:TPlace} {K:List Pc} {p:List TPlace} {ts:List TTrans} (h0:0≤q.Tokens∧q.Tokens≤1000000) (hl:q.Name.length≤12) (hT:q.Name∉T) (hp:p.length < 32) (h:At s (pcP q K) ⟨p,ts⟩ T):Ok (itemS ps s) () K ⟨p++[q],ts⟩ (T++[q.Name]):=by
 unfold itemS
 refine Ok.bnd (P:=.s [59]::.b 10::K) (n:=⟨p++[q],ts⟩) (T:=T++[q.Name]) (a:=()) ?_ fun s' h'=>?_
 ·unfold bodyS
  rw [kw_at h,if_pos (by decide),h.n,if_neg (by simp only; omega)]
  exact place_ok h0 hl hT (h.stp rfl)
 ·obtain ⟨s2,e2,h2⟩:=want_ok h'
  exact ⟨s2,e2,h2.b⟩
def pcTs (nm:Int→List UInt8):List TTrans→List Pc
 | []=>[]
 | t::l=>pcT nm t (pcTs nm l)
def pcPs (K:List Pc):List TPlace→List Pc
 | []=>K
 | p::l=>pcP p (pcPs K l)
theorem nd_mid {α:Type} {T l:List α} {x:α} (h:(T++x::l).Nodup):x∉T:=by
 intro hx
 exact (List.pairwise_append.1 h).2.2 x hx x (List.mem_cons_self ..) rfl
theorem allT {p:List TPlace}:∀ (l:List TTrans) (k:Nat) (s:PS) (done:List TTrans) (T:List (List UInt8)),l.length < k→At s (pcTs nm l) ⟨p,done⟩ T→(∀ t,t∈l→TAOk ps nm t)→(T++l.map TTrans.Name).Nodup→done.length+l.length≤32→allS ps k s=.inl ⟨p,done++l⟩
 | _,0,_,_,_,hk,_,_,_,_=>by omega
 | [],k+1,s,done,T,hk,h,ha,hn,hl=>by
  have hh:=h.hd
  unfold allS
  rw [show (hd s.l).k=0 from congrArg (·.1) hh,if_pos rfl,h.n,List.append_nil]
 | t::l,k+1,s,done,T,hk,h,ha,hn,hl=>by
  have hh:=h.hd
  simp only [List.length_cons] at hk hl
  obtain ⟨s',e,h'⟩:=itemT (ha t (List.mem_cons_self ..)) (nd_mid hn) (by omega) h
  unfold allS
  rw [show (hd s.l).k=1 from congrArg (·.1) hh,if_neg (by decide),e]
  simp only
  rw [allT l k s' (done++[t]) (T++[t.Name]) (by omega) h' (fun x hx=>ha x (List.mem_cons_of_mem _ hx)) (by simpa using hn) (by simp; omega)]
  simp
theorem allP {tr:List TTrans} (ht:∀ t,t∈tr→TAOk ps nm t) (htl:tr.length≤32):∀ (l:List TPlace) (k:Nat) (s:PS) (done:List TPlace) (T:List (List UInt8)),l.length+tr.length < k→At s (pcPs (pcTs nm tr) l) ⟨done,[]⟩ T→(∀ p,p∈l→(0≤p.Tokens∧p.Tokens≤1000000)∧p.Name.length≤12)→(T++(l.map TPlace.Name++tr.map TTrans.Name)).Nodup→done.length+l.length≤32→allS ps k s=.inl ⟨done++l,tr⟩
 | _,0,_,_,_,hk,_,_,_,_=>by omega
 | [],k+1,s,done,T,hk,h,ha,hn,hl=>by
  rw [allT tr (k+1) s [] T (by simp at hk; omega) h ht (by simpa using hn) (by simpa using htl)]
  simp
 | q::l,k+1,s,done,T,hk,h,ha,hn,hl=>by
  have hh:=h.hd
  simp only [List.length_cons] at hk hl
  obtain ⟨a1,a2⟩:=ha q (List.mem_cons_self ..)
  obtain ⟨s',e,h'⟩:=itemP (ps:=ps) a1 a2 (nd_mid (by simpa using hn)) (by omega) h
  unfold allS
  rw [show (hd s.l).k=1 from congrArg (·.1) hh,if_neg (by decide),e]
  simp only
  rw [allP ht htl l k s' (done++[q]) (T++[q.Name]) (by omega) h' (fun x hx=>ha x (List.mem_cons_of_mem _ hx)) (by simpa using hn) (by simp; omega)]
  simp
end
end Go.Proofs.Ytloaoofdbilpeaa
/- A net's text is read as that net: joined. Own work. -/
namespace Go.Proofs.Ytloaoofdbilpeaa
open Go Go.Am
set_option linter.unusedVariables false
set_option linter.unusedSimpArgs false
abbrev kwP:List UInt8:=[112,108,97,99,101]
def isKw (v:V):Prop:=v.1=1∧v.2.1=kwP
instance (v:V):Decidable (isKw v):=by unfold isKw; infer_instance
def plcV:List V→List (List UInt8)→List (List UInt8)
 | a::b::r,acc=>plcV (b::r) (if isKw a∧b.1=1∧b.2.1∉acc then acc++[b.2.1] else acc)
 | _,acc=>acc
theorem placesOf_V:∀ (L:List Tok) (acc:List (List UInt8)),placesOf L acc=plcV (L.map vw) acc
 | [],_=>rfl
 | [_],_=>rfl
 | a::b::r,acc=>by
  show placesOf (b::r) _=plcV (vw b::r.map vw) _
  rw [placesOf_V (b::r)]
  have e:(kw a [112,108,97,99,101]=true)=isKw (vw a):=by
   unfold kw isKw vw
   simp
  simp only [e]
  rfl
theorem skipV {a:V} (h:¬ isKw a):∀ (X:List V) (acc:List (List UInt8)),plcV (a::X) acc=plcV X acc
 | [],_=>rfl
 | b::r,acc=>by
  unfold plcV
  rw [if_neg (fun q=>h q.1)]
  cases r<;>rfl
def NPl (l:List V):Prop:=∀ v,v∈l→¬ isKw v
theorem NPl.cons {v:V} {l:List V} (h:¬ isKw v) (hl:NPl l):NPl (v::l):=fun x hx=>by
 rcases List.mem_cons.1 hx with rfl | hx
 ·exact h
 ·exact hl x hx
theorem NPl.pl:∀ {l:List V} {acc:List (List UInt8)},NPl l→plcV l acc=acc
 | [],_,_=>rfl
 | v::l,acc,h=>by
  rw [skipV (h v (List.mem_cons_self ..))]
  exact NPl.pl fun x hx=>h x (List.mem_cons_of_mem _ hx)
theorem kw3 {x:List UInt8}:¬ isKw (3,x,0):=fun h=>by cases h.1
theorem kw2 {x:List UInt8} {n:Int}:¬ isKw (2,x,n):=fun h=>by cases h.1
theorem kw1 {x:List UInt8} (h:x≠kwP):¬ isKw (1,x,0):=fun q=>h q.2
theorem np_opt {q:Bool} {c:UInt8} {v:Int} {P:List Pc} (h:NPl (vws P)):NPl (vws (opt q c v P)):=by
 unfold opt
 split
 ·exact h
 ·cases q
  ·exact .cons kw3 (.cons kw2 h)
  ·exact .cons kw3 (.cons kw2 h)
section
variable {nm:Int→List UInt8} (hnm:∀ i,nm i≠kwP)
include hnm
theorem np_A {a:TArc} {P:List Pc} (h:NPl (vws P)):NPl (vws (pcA nm a P)):=by
 unfold pcA
 split
 ·exact .cons (kw1 (hnm _)) h
 ·exact .cons (kw1 (hnm _)) (.cons kw3 (.cons kw2 h))
theorem np_T {t:TTrans} (ht:t.Name≠kwP) {K:List Pc} (h:NPl (vws K)):NPl (vws (pcT nm t K)):=by
 have hL:∀ (g:TArc→List Pc→List Pc),(∀ a P,NPl (vws P)→NPl (vws (g a P)))→∀ (l:List TArc) (f:Bool) (Q:List Pc),NPl (vws Q)→NPl (vws (pcL g f l Q)):=by
  intro g hg l
  induction l with
  | nil=>intro f Q h; exact h
  | cons a l ih=>
   intro f Q h
   have:=hg a _ (ih false Q h)
   cases f
   ·exact .cons kw3 this
   ·exact this
 refine .cons (kw1 (by decide)) (.cons (kw1 ht) (np_opt (np_opt (.cons kw3 (hL _ (fun a P=>np_A hnm) _ _ _ (hL (pcN nm) (fun a P hp=>.cons kw3 (np_A hnm hp)) _ _ _ (.cons kw3 (hL _ (fun a P=>np_A hnm) _ _ _ (.cons kw3 h)))))))))
theorem np_Ts:∀ {l:List TTrans},(∀ t,t∈l→t.Name≠kwP)→NPl (vws (pcTs nm l))
 | [],_=>.cons (fun h=>by cases h.1) fun v hv=>nomatch hv
 | t::l,h=>np_T hnm (h t (List.mem_cons_self ..)) (np_Ts fun x hx=>h x (List.mem_cons_of_mem _ hx))
end
theorem pl_P {p:TPlace} {K:List Pc} {acc:List (List UInt8)} (h1:p.Name≠kwP) (h2:p.Name∉acc):plcV (vws (pcP p K)) acc=plcV (vws K) (acc++[p.Name]):=by
 show plcV ((1,p.Name,0)::vws (opt true 61 p.Tokens (.s [59]::.b 10::K))) (if _ then _ else _)=_
 rw [if_pos ⟨⟨rfl,rfl⟩,rfl,h2⟩,skipV (kw1 h1)]
 unfold opt
 split
 ·exact skipV kw3 _ _
 ·show plcV ((3,[61],0)::(2,dgs p.Tokens,p.Tokens)::(3,[59],0)::vws K) _=_
  rw [skipV kw3,skipV kw2,skipV kw3]
theorem pl_Ps {K:List Pc}:∀ {l:List TPlace} {acc:List (List UInt8)},(∀ p,p∈l→p.Name≠kwP)→(acc++l.map TPlace.Name).Nodup→plcV (vws (pcPs K l)) acc=plcV (vws K) (acc++l.map TPlace.Name)
 | [],acc,_,_=>by simp [pcPs]
 | p::l,acc,h,hn=>by
  show plcV (vws (pcP p (pcPs K l))) acc=_
  rw [pl_P (h p (List.mem_cons_self ..)) (nd_mid hn),pl_Ps (fun x hx=>h x (List.mem_cons_of_mem _ hx)) (by simpa using hn)]
  simp
/-! ### the pieces are fine -/
theorem soft_opt {q:Bool} {c:UInt8} {v:Int} {P:List Pc} (h:soft P):soft (opt q c v P):=by
 unfold opt; split
 ·exact h
 ·trivial
theorem ok_opt {q:Bool} {c:UInt8} {v:Int} {P:List Pc} (h:okP P) (hs:soft P) (hc:[c]∈signs) (h0:0≤v∧v≤1000000):okP (opt q c v P):=by
 unfold opt; split
 ·exact h
 ·cases q
  ·exact ⟨.inl rfl,hc,h0,hs,h⟩
  ·exact ⟨.inl rfl,hc,.inl rfl,h0,hs,h⟩
def wOk (x:List UInt8):Prop:=(∀ i,i < x.length→okAt (strI x) i=true)∧x≠[]
theorem soft_L {g:TArc→List Pc→List Pc} {f:Bool} {l:List TArc} {Q:List Pc} (h:soft Q):soft (pcL g f l Q):=by
 cases l with
 | nil=>exact h
 | cons a l=>cases f<;>trivial
theorem ok_L {g:TArc→List Pc→List Pc} {C:TArc→Prop} (hg:∀ a P,C a→okP P→soft P→okP (g a P)):∀ {l:List TArc} {f:Bool} {Q:List Pc},(∀ a,a∈l→C a)→okP Q→soft Q→okP (pcL g f l Q)
 | [],_,_,_,h,_=>h
 | a::l,f,Q,hc,h,hs=>by
  have h1:=hg a _ (hc a (List.mem_cons_self ..)) (ok_L hg (f:=false) (fun x hx=>hc x (List.mem_cons_of_mem _ hx)) h hs) (soft_L hs)
  cases f
  ·exact ⟨by decide,.inl rfl,h1⟩
  ·exact ⟨.inl rfl,h1⟩
section
variable {nm:Int→List UInt8}
def CA (nm:Int→List UInt8) (a:TArc):Prop:=wOk (nm a.Place)∧1≤a.N∧a.N≤1000000
theorem ok_A (a:TArc) (P:List Pc) (hc:CA nm a) (h:okP P) (hs:soft P):okP (pcA nm a P):=by
 unfold pcA
 split
 ·exact ⟨hc.1,hs,h⟩
 ·exact ⟨hc.1,trivial,by decide,⟨by have:=hc.2.1; omega,hc.2.2⟩,hs,h⟩
theorem ok_N (a:TArc) (P:List Pc) (hc:CA nm a) (h:okP P) (hs:soft P):okP (pcN nm a P):=⟨by decide,ok_A a P hc h hs⟩
theorem ok_T {t:TTrans} {K:List Pc} (hn:wOk t.Name) (hd:0≤t.Delay∧t.Delay≤1000000) (hp:0≤t.Prio∧t.Prio≤1000000) (hi:∀ a,a∈t.In→CA nm a) (hno:∀ a,a∈t.Not→CA nm a) (ho:∀ a,a∈t.Out→CA nm a) (h:okP K):okP (pcT nm t K):=by
 have h5:okP (.s [59]::.b 10::K):=⟨by decide,.inr rfl,h⟩
 have h4:=ok_L (g:=pcA nm) ok_A (f:=true) ho h5 trivial
 have h3:okP (.b 32::.s [45,62]::pcL (pcA nm) true t.Out (.s [59]::.b 10::K)):=⟨.inl rfl,by decide,h4⟩
 have h2:=ok_L (g:=pcN nm) ok_N (f:=t.In.isEmpty) hno h3 trivial
 have h1:=ok_L (g:=pcA nm) ok_A (f:=true) hi h2 (soft_L trivial)
 have h0:okP (.s [58]::pcL (pcA nm) true t.In (pcL (pcN nm) t.In.isEmpty t.Not (.b 32::.s [45,62]::pcL (pcA nm) true t.Out (.s [59]::.b 10::K)))):=⟨by decide,h1⟩
 have g1:=ok_opt (q:=false) (c:=33) h0 trivial (by decide) hp
 have g2:=ok_opt (q:=false) (c:=64) g1 (soft_opt trivial) (by decide) hd
 exact ⟨⟨by decide,by decide⟩,trivial,.inl rfl,hn,soft_opt (soft_opt trivial),g2⟩
theorem ok_P {p:TPlace} {K:List Pc} (hn:wOk p.Name) (hd:0≤p.Tokens∧p.Tokens≤1000000) (h:okP K):okP (pcP p K):=by
 have h5:okP (.s [59]::.b 10::K):=⟨by decide,.inr rfl,h⟩
 exact ⟨⟨by decide,by decide⟩,trivial,.inl rfl,hn,soft_opt trivial,ok_opt h5 trivial (by decide) hd⟩
end
/-! ### what the pieces say -/
theorem tx_opt {c:UInt8} {v:Int} {P:List Pc}:txt (opt false c v P)=nT [32,c] v++txt P:=by
 unfold opt nT; split
 ·rfl
 ·simp [txt,Pc.tx]
theorem tx_opt2 {c:UInt8} {v:Int} {P:List Pc}:txt (opt true c v P)=nT [32,c,32] v++txt P:=by
 unfold opt nT; split
 ·rfl
 ·simp [txt,Pc.tx]
theorem tx_L {g:TArc→List Pc→List Pc} {gT:TArc→List UInt8} (h:∀ a P,txt (g a P)=gT a++txt P):∀ {f:Bool} {l:List TArc} {Q:List Pc},txt (pcL g f l Q)=jn gT f l++txt Q
 | _,[],_=>rfl
 | f,a::l,Q=>by
  have ih:=tx_L h (f:=false) (l:=l) (Q:=Q)
  cases f
  ·show [44]++([32]++txt (g a _))=_
   rw [h,ih]
   simp [jn,sp]
  ·show [32]++txt (g a _)=_
   rw [h,ih]
   simp [jn,sp]
theorem tx_A (n:TNet) (a:TArc) (P:List Pc):txt (pcA (nmOf n) a P)=arcT n a++txt P:=by
 unfold pcA arcT
 show nmOf n a.Place++txt _=_
 split<;>simp [txt,Pc.tx]
theorem tx_N (n:TNet) (a:TArc) (P:List Pc):txt (pcN (nmOf n) a P)=tilT n a++txt P:=by
 show [126]++txt (pcA (nmOf n) a P)=_
 rw [tx_A]; rfl
theorem tx_T (n:TNet) (t:TTrans) (K:List Pc):txt (pcT (nmOf n) t K)=trT n t++txt K:=by
 show [116,114,97,110,115]++([32]++(t.Name++txt (opt _ _ _ _)))=_
 rw [tx_opt,tx_opt]
 show _++(_++(_++(_++(_++([58]++txt (pcL _ _ _ _))))))=_
 rw [tx_L (tx_A n),tx_L (tx_N n)]
 show _++(_++(_++(_++(_++([58]++(_++(_++([32]++([45,62]++txt (pcL _ _ _ _))))))))))=_
 rw [tx_L (tx_A n)]
 show _++(_++(_++(_++(_++([58]++(_++(_++([32]++([45,62]++(_++([59]++([10]++txt K))))))))))))=_
 unfold trT
 simp
theorem tx_P (p:TPlace) (K:List Pc):txt (pcP p K)=plT p++txt K:=by
 show [112,108,97,99,101]++([32]++(p.Name++txt (opt _ _ _ _)))=_
 rw [tx_opt2]
 show _++(_++(_++(_++([59]++([10]++txt K)))))=_
 unfold plT
 simp
theorem tx_Ts (n:TNet):∀ l:List TTrans,txt (pcTs (nmOf n) l)=(l.map (trT n)).flatten
 | []=>rfl
 | t::l=>by
  show txt (pcT (nmOf n) t (pcTs (nmOf n) l))=_
  rw [tx_T,tx_Ts n l]; rfl
theorem tx_Ps (K:List Pc):∀ l:List TPlace,txt (pcPs K l)=(l.map plT).flatten++txt K
 | []=>rfl
 | t::l=>by
  show txt (pcP t (pcPs K l))=_
  rw [tx_P,tx_Ps K l]; simp
/-! ### joined -/
theorem plc_at:∀ {l:List (List UInt8)} {i:Nat} (h:i < l.length),l.Nodup→plc l l[i]=some i
 | y::l,0,h,hn=>by
  show (if y=y then _ else _)=_
  rw [if_pos rfl]
 | y::l,i+1,h,hn=>by
  have h:i < l.length:=by simpa using h
  rw [List.nodup_cons] at hn
  show (if y=l[i] then some 0 else (plc l l[i]).map (·+1))=some (i+1)
  rw [if_neg (fun e=>hn.1 (by rw [e]; exact List.getElem_mem h)),plc_at h hn.2]
  rfl
def pcNet (n:TNet):List Pc:=pcPs (pcTs (nmOf n) n.Trans) n.Places
theorem vl_opt (q:Bool) (c:UInt8) (v:Int) (P:List Pc):(vws P).length≤(vws (opt q c v P)).length:=by
 unfold opt; split
 ·exact Nat.le_refl _
 ·cases q
  ·show _≤(vws P).length+1+1; omega
  ·show _≤(vws P).length+1+1; omega
theorem nm_at {n:TNet} (P:PNet n) {i:Int} (h0:0≤i) (h1:i < (n.Places.length:Int)):nmOf n i∈nms n∧plc (n.Places.map TPlace.Name) (nmOf n i)=some i.toNat:=by
 obtain ⟨h,e1,_⟩:=nmOf_mem h0 h1
 rw [e1]
 refine ⟨by unfold nms; exact List.mem_append_left _ (List.mem_map_of_mem (List.getElem_mem h)),?_⟩
 have hn:(n.Places.map TPlace.Name).Nodup:=(List.pairwise_append.1 P.good.nd).1
 have:=plc_at (l:=n.Places.map TPlace.Name) (i:=i.toNat) (by simpa using h) hn
 rwa [List.getElem_map] at this
section
variable {n:TNet} (P:PNet n) (hk:∀ x,x∈nms n→x≠kwP)
include P hk
theorem read_eq:p26 (strI (netT n))=some (n,Z4)∧NOk n:=by
 have hlen:=netT_len P
 have hb:=bytes_str (netT n)
 have hl:(strI (netT n)).length≤1000000:=by rw [strI_len]; omega
 have hw:∀ x,x∈nms n→wOk x:=fun x hx=>⟨(P.good.nm x hx).1,(P.good.nm x hx).2.1⟩
 have mp:∀ p,p∈n.Places→p.Name∈nms n:=fun p hp=>by unfold nms; exact List.mem_append_left _ (List.mem_map_of_mem hp)
 have mt:∀ t,t∈n.Trans→t.Name∈nms n:=fun p hp=>by unfold nms; exact List.mem_append_right _ (List.mem_map_of_mem hp)
 have hC:∀ l,ArcsOk n.Places.length l→∀ a,a∈l→CA (nmOf n) a:=fun l hl a ha=>by
  obtain ⟨q1,q2,q3,q4⟩:=hl.1 a ha
  exact ⟨hw _ (nm_at P q3 q4).1,q1,q2⟩
 have hA:∀ l,ArcsOk n.Places.length l→l.length≤8→arcsOk (n.Places.map TPlace.Name) (nmOf n) l:=fun l hl h8=>
  ⟨fun a ha=>by
   obtain ⟨q1,q2,q3,q4⟩:=hl.1 a ha
   exact ⟨(nm_at P q3 q4).2,q3,q1,q2⟩,hl.2,h8⟩
 have hT:∀ t,t∈n.Trans→TAOk (n.Places.map TPlace.Name) (nmOf n) t:=fun t ht=>by
  obtain ⟨a1,a2,a3,a4,a5⟩:=P.good.tr t ht
  obtain ⟨b1,b2,b3⟩:=P.la t ht
  exact ⟨a1,a2,hA _ a3 b1,hA _ a4 b2,hA _ a5 b3,(P.good.nm _ (mt t ht)).2.2⟩
 have okTs:∀ l:List TTrans,(∀ t,t∈l→t∈n.Trans)→okP (pcTs (nmOf n) l):=by
  intro l
  induction l with
  | nil=>intro _; trivial
  | cons t l ih=>
   intro h
   have ht:=h t (List.mem_cons_self ..)
   obtain ⟨a1,a2,a3,a4,a5⟩:=P.good.tr t ht
   exact ok_T (hw _ (mt t ht)) a1 a2 (hC _ a3) (hC _ a4) (hC _ a5) (ih fun x hx=>h x (List.mem_cons_of_mem _ hx))
 have okPs:∀ l:List TPlace,(∀ t,t∈l→t∈n.Places)→okP (pcPs (pcTs (nmOf n) n.Trans) l):=by
  intro l
  induction l with
  | nil=>intro _; exact okTs _ fun t h=>h
  | cons t l ih=>
   intro h
   have ht:=h t (List.mem_cons_self ..)
   exact ok_P (hw _ (mp t ht)) (P.good.tk t ht) (ih fun x hx=>h x (List.mem_cons_of_mem _ hx))
 have hok:okP (pcNet n):=okPs _ fun t h=>h
 have htx:txt (pcNet n)=netT n:=by unfold pcNet netT; rw [tx_Ps,tx_Ts]
 have hlex:=lex_pc (p:=strI (netT n)) (P:=pcNet n) (i:=0) (l:=[]) (Nat.zero_le _) (by rw [htx,List.drop_zero]) hok
 rw [List.nil_append] at hlex
 have hv:=toks_vw ((strI (netT n)).length:Int) (pcNet n) 0
 have hpl:placesOf (toks 0 (pcNet n)++[⟨0,[],0,((strI (netT n)).length:Int)⟩]) []=n.Places.map TPlace.Name:=by
  rw [placesOf_V,hv]
  unfold pcNet
  rw [pl_Ps (fun p hp=>hk _ (mp p hp)) (by rw [List.nil_append]; exact (List.pairwise_append.1 P.good.nd).1)]
  refine (NPl.pl (np_Ts (fun i=>?_) fun t ht=>hk _ (mt t ht))).trans (List.nil_append _)
  unfold nmOf
  cases e:n.Places[i.toNat]? with
  | none=>simp
  | some p=>exact hk _ (mp p (List.mem_of_getElem? e))
 have hvl:n.Places.length+n.Trans.length < (vws (pcNet n)).length:=by
  have v1:∀ l:List TTrans,l.length+1≤(vws (pcTs (nmOf n) l)).length:=by
   intro l
   induction l with
   | nil=>exact Nat.le_refl _
   | cons t l ih=>
    have h1:=vl_opt false 64 t.Delay (opt false 33 t.Prio (.s [58]::pcL (pcA (nmOf n)) true t.In (pcL (pcN (nmOf n)) t.In.isEmpty t.Not (.b 32::.s [45,62]::pcL (pcA (nmOf n)) true t.Out (.s [59]::.b 10::pcTs (nmOf n) l)))))
    have h2:=vl_opt false 33 t.Prio (.s [58]::pcL (pcA (nmOf n)) true t.In (pcL (pcN (nmOf n)) t.In.isEmpty t.Not (.b 32::.s [45,62]::pcL (pcA (nmOf n)) true t.Out (.s [59]::.b 10::pcTs (nmOf n) l))))
    have h3:=vl_pcL (vl_A (nm:=nmOf n)) true t.In (pcL (pcN (nmOf n)) t.In.isEmpty t.Not (.b 32::.s [45,62]::pcL (pcA (nmOf n)) true t.Out (.s [59]::.b 10::pcTs (nmOf n) l)))
    have h4:=vl_pcL (vl_N (nm:=nmOf n)) t.In.isEmpty t.Not (.b 32::.s [45,62]::pcL (pcA (nmOf n)) true t.Out (.s [59]::.b 10::pcTs (nmOf n) l))
    have h5:=vl_pcL (vl_A (nm:=nmOf n)) true t.Out (.s [59]::.b 10::pcTs (nmOf n) l)
    have h6:(vws (.s [59]::.b 10::pcTs (nmOf n) l)).length=(vws (pcTs (nmOf n) l)).length+1:=rfl
    have h7:(vws (.b 32::.s [45,62]::pcL (pcA (nmOf n)) true t.Out (.s [59]::.b 10::pcTs (nmOf n) l))).length=(vws (pcL (pcA (nmOf n)) true t.Out (.s [59]::.b 10::pcTs (nmOf n) l))).length+1:=rfl
    have h8:(vws (.s [58]::pcL (pcA (nmOf n)) true t.In (pcL (pcN (nmOf n)) t.In.isEmpty t.Not (.b 32::.s [45,62]::pcL (pcA (nmOf n)) true t.Out (.s [59]::.b 10::pcTs (nmOf n) l))))).length=(vws (pcL (pcA (nmOf n)) true t.In (pcL (pcN (nmOf n)) t.In.isEmpty t.Not (.b 32::.s [45,62]::pcL (pcA (nmOf n)) true t.Out (.s [59]::.b 10::pcTs (nmOf n) l))))).length+1:=rfl
    show l.length+1+1≤(vws (opt false 64 t.Delay (opt false 33 t.Prio (.s [58]::pcL (pcA (nmOf n)) true t.In (pcL (pcN (nmOf n)) t.In.isEmpty t.Not (.b 32::.s [45,62]::pcL (pcA (nmOf n)) true t.Out (.s [59]::.b 10::pcTs (nmOf n) l))))))).length+1+1
    omega
  have v2:∀ l:List TPlace,l.length+(vws (pcTs (nmOf n) n.Trans)).length≤(vws (pcPs (pcTs (nmOf n) n.Trans) l)).length:=by
   intro l
   induction l with
   | nil=>simp [pcPs]
   | cons t l ih=>
    have h1:=vl_opt true 61 t.Tokens (.s [59]::.b 10::pcPs (pcTs (nmOf n) n.Trans) l)
    have h6:(vws (.s [59]::.b 10::pcPs (pcTs (nmOf n) n.Trans) l)).length=(vws (pcPs (pcTs (nmOf n) n.Trans) l)).length+1:=rfl
    show l.length+1+_≤(vws (opt true 61 t.Tokens (.s [59]::.b 10::pcPs (pcTs (nmOf n) n.Trans) l))).length+1+1
    omega
  have:=v1 n.Trans
  have:=v2 n.Places
  unfold pcNet
  omega
 have hpa:parseS (toks 0 (pcNet n)++[⟨0,[],0,((strI (netT n)).length:Int)⟩])=.inl n:=by
  unfold parseS
  rw [hpl]
  have hlt:(toks 0 (pcNet n)++[(⟨0,[],0,((strI (netT n)).length:Int)⟩:Tok)]).length=(vws (pcNet n)).length:=by rw [← hv,List.length_map]
  rw [hlt]
  have:=allP (ps:=n.Places.map TPlace.Name) (nm:=nmOf n) (tr:=n.Trans) hT P.lt n.Places (vws (pcNet n)).length ⟨toks 0 (pcNet n)++[⟨0,[],0,((strI (netT n)).length:Int)⟩],⟨[],[]⟩,[]⟩ [] [] hvl ⟨hv,rfl,rfl⟩ (fun p hp=>⟨P.good.tk p hp,(P.good.nm _ (mp p hp)).2.2⟩) (by rw [List.nil_append]; exact P.good.nd) (by have:=P.lp; simpa using this)
  exact this
 obtain ⟨L',e',a',h1,h2⟩:=p26_eq hb hl
 have hd:=LexR.det hlex h1
 simp only [Prod.mk.injEq] at hd
 obtain ⟨rfl,rfl,rfl⟩:=hd
 rcases h2 with ⟨_,_,h3⟩ | ⟨h3,_⟩
 ·rw [hpa] at h3; exact ⟨h3.2,h3.1⟩
 ·exact absurd rfl h3
end
end Go.Proofs.Ytloaoofdbilpeaa
/- The law ParseDefaults, plainly. Own work. -/
namespace Go.Proofs.Ytloaoofdbilpeaa
open Go Go.Am
set_option linter.unusedVariables false
set_option linter.unusedSimpArgs false
def dN (x0 x1 x2 x3:Int):TNet:=⟨[⟨[112],x3⟩],[⟨[116],x0,x1,[⟨0,1+x2⟩],[],[]⟩]⟩
instance (x:List UInt8):Decidable (NameOk x):=by unfold NameOk; infer_instance
theorem dN_nms:([[112],[116]]:List (List UInt8)).Nodup∧∀ x,x∈([[112],[116]]:List (List UInt8))→NameOk x∧x≠kwP:=by decide
theorem dN_ok {x0 x1 x2 x3:Int} (h0:0≤x0∧x0≤65535) (h1:0≤x1∧x1≤65535) (h2:0≤x2∧x2≤65535) (h3:0≤x3∧x3≤65535):PNet (dN x0 x1 x2 x3):=by
 refine ⟨⟨dN_nms.1,fun x hx=>(dN_nms.2 x hx).1,fun p hp=>?_,fun t ht=>?_⟩,(show (1:Nat)≤32 by decide),(show (1:Nat)≤32 by decide),fun t ht=>?_⟩
 ·obtain rfl:=List.mem_singleton.1 hp
  simp only; omega
 ·obtain rfl:=List.mem_singleton.1 ht
  refine ⟨by simp only; omega,by simp only; omega,⟨fun a ha=>?_,List.pairwise_singleton ..⟩,⟨fun a ha=>(nomatch ha),.nil⟩,⟨fun a ha=>(nomatch ha),.nil⟩⟩
  obtain rfl:=List.mem_singleton.1 ha
  refine ⟨by simp only; omega,by simp only; omega,Int.le_refl _,(show (0:Int) < ((1:Nat):Int) by decide)⟩
 ·obtain rfl:=List.mem_singleton.1 ht
  simp
def dR:TNet:=⟨[⟨[112],0⟩],[⟨[116],0,0,[⟨0,1⟩],[],[]⟩]⟩
theorem j8_true {x0 x1 x2 x3:Int} {u:TNet×TFault} (hu:u.1=dN x0 x1 x2 x3∧u.2=Z4) (h29:p29 u.1 (TNet.mk [(TPlace.mk ([112]:List UInt8) (IntKind.wrap .i64 x3))] [(TTrans.mk ([116]:List UInt8) (IntKind.wrap .i64 x0) (IntKind.wrap .i64 x1) [(TArc.mk (0:Int) (IntKind.wrap .i64 ((1:Int)+(IntKind.wrap .i64 x2))))] [] [])])=some true) {a b:List UInt8} (hl:a.length≤100∧b.length≤100) (hp:parseF (strI (a++[59,32]++b++[58,32,112,42,49,32,45,62,32,59]))=.inl dR):p13_j8 x0 x1 x2 x3 u a b=some true:=by
 unfold p13_j8
 rw [catS_ok (by simp; omega),Option.bind_some,catS_ok (by simp; omega),Option.bind_some,catS_ok (by simp; omega),Option.bind_some,bytesI_ok (by simp; omega),Option.bind_some]
 rw [(p26_ok (bytes_str _) (by rw [strI_len]; simp; omega) hp).1,p25_eq]
 simp only [Option.bind_some]
 rw [if_pos trivial]
 have e:((decide (u.2.Err=(0:Int)))&&((decide (u.2.At=(0:Int)))&&((decide (u.2.Line=(0:Int)))&&((decide (u.2.Col=(0:Int)))&&true))))=true:=by rw [hu.2]; rfl
 rw [e]
 unfold p13_j7
 rw [if_pos rfl,h29]
 rfl
theorem p13_true {x0 x1 x2 x3:Int} (h0:0≤x0∧x0≤65535) (h1:0≤x1∧x1≤65535) (h2:0≤x2∧x2≤65535) (h3:0≤x3∧x3≤65535):p13 x0 x1 x2 x3=some true:=by
 have hP:=dN_ok h0 h1 h2 h3
 have hlen:=netT_len hP
 have w0:IntKind.wrap .i64 x0=x0:=wrap64 (by omega) (by omega)
 have w1:IntKind.wrap .i64 x1=x1:=wrap64 (by omega) (by omega)
 have w2:IntKind.wrap .i64 x2=x2:=wrap64 (by omega) (by omega)
 have w3:IntKind.wrap .i64 x3=x3:=wrap64 (by omega) (by omega)
 have w4:IntKind.wrap .i64 (1+x2)=1+x2:=wrap64 (by omega) (by omega)
 have eN:(TNet.mk [(TPlace.mk ([112]:List UInt8) (IntKind.wrap .i64 x3))] [(TTrans.mk ([116]:List UInt8) (IntKind.wrap .i64 x0) (IntKind.wrap .i64 x1) [(TArc.mk (0:Int) (IntKind.wrap .i64 ((1:Int)+(IntKind.wrap .i64 x2))))] [] [])])=dN x0 x1 x2 x3:=by rw [w0,w1,w2,w3,w4]; rfl
 obtain ⟨r1,r2⟩:=read_eq hP fun x hx=>(dN_nms.2 x hx).2
 unfold p13
 rw [eN,p27_eq hP]
 simp only [Option.bind_some]
 rw [bytesI_ok (by omega)]
 simp only [Option.bind_some]
 rw [r1]
 simp only [Option.bind_some]
 have h29:p29 (dN x0 x1 x2 x3) (TNet.mk [(TPlace.mk ([112]:List UInt8) (IntKind.wrap .i64 x3))] [(TTrans.mk ([116]:List UInt8) (IntKind.wrap .i64 x0) (IntKind.wrap .i64 x1) [(TArc.mk (0:Int) (IntKind.wrap .i64 ((1:Int)+(IntKind.wrap .i64 x2))))] [] [])])=some true:=by rw [eN]; exact p29_same r2.len
 have j8:∀ a b:List UInt8,a.length≤100∧b.length≤100→parseF (strI (a++[59,32]++b++[58,32,112,42,49,32,45,62,32,59]))=.inl dR→p13_j8 x0 x1 x2 x3 (dN x0 x1 x2 x3,Z4) a b=some true:=fun a b hl hp=>j8_true ⟨rfl,rfl⟩ h29 hl hp
 have j9:∀ a:List UInt8,a=[112,108,97,99,101,32,112,32,61,32,48]∨a=[112,108,97,99,101,32,112]→p13_j10 x0 x1 x2 x3 (dN x0 x1 x2 x3,Z4) a=some true:=by
  intro a ha
  unfold p13_j10 p13_j9
  rcases ha with rfl | rfl
  ·split
   ·rw [catS_ok (by simp)]
    simp only [Option.bind_some]
    split
    ·rw [catS_ok (by simp)]
     simp only [Option.bind_some]
     exact j8 _ _ (by decide) (by kernel_rfl)
    ·exact j8 _ _ (by decide) (by kernel_rfl)
   ·split
    ·rw [catS_ok (by simp)]
     simp only [Option.bind_some]
     exact j8 _ _ (by decide) (by kernel_rfl)
    ·exact j8 _ _ (by decide) (by kernel_rfl)
  ·split
   ·rw [catS_ok (by simp)]
    simp only [Option.bind_some]
    split
    ·rw [catS_ok (by simp)]
     simp only [Option.bind_some]
     exact j8 _ _ (by decide) (by kernel_rfl)
    ·exact j8 _ _ (by decide) (by kernel_rfl)
   ·split
    ·rw [catS_ok (by simp)]
     simp only [Option.bind_some]
     exact j8 _ _ (by decide) (by kernel_rfl)
    ·exact j8 _ _ (by decide) (by kernel_rfl)
 split
 ·rw [catS_ok (by simp)]
  simp only [Option.bind_some]
  exact j9 _ (.inl rfl)
 ·exact j9 _ (.inr rfl)
end Go.Proofs.Ytloaoofdbilpeaa
/- The law ParseDefaults of the machine: whatever it is called with, it answers true. Own work. -/
namespace Go.Proofs.Ytloaoofdbilpeaa
open Go Go.Am
set_option linter.unusedVariables false
set_option linter.unusedSimpArgs false
theorem wf16 {n:Int} (h:(Lit.int .u16 n).wf=true):0≤n∧n≤65535:=by
 simp only [Lit.wf,Bool.and_eq_true,decide_eq_true_eq] at h
 exact h
theorem law_parseDefaults:∀ h xs,TyAs [(.int .u16),(.int .u16),(.int .u16),(.int .u16)] h xs→ACalls F 13 xs h fun v _=>v=.bool true:=by
 intro h xs ht
 obtain ⟨a,b,rfl,⟨n1,e1,w1⟩,h4⟩:=ht
 obtain ⟨a2,b2,rfl,⟨n2,e2,w2⟩,h5⟩:=h4
 obtain ⟨a3,b3,rfl,⟨n3,e3,w3⟩,h6⟩:=h5
 obtain ⟨a4,b4,rfl,⟨n4,e4,w4⟩,h7⟩:=h6
 simp only [TyAs] at h7
 subst h7
 cases e1
 cases e2
 cases e3
 cases e4
 exact (r13 (p13_true (wf16 w1) (wf16 w2) (wf16 w3) (wf16 w4))).val fun v h' hq=>hq.1
end Go.Proofs.Ytloaoofdbilpeaa
