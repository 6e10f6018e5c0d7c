/- An abstract machine for the model's code, and that the model does what it does. No condition. Own work. -/
import Derived.Test.YtmchbhheoieepaaAm1ProcessErrs
import Derived.Laws.StructEq
import Derived.Laws.Build
import Derived.Laws.BytesString
import Derived.Laws.IdiomCopy
import Derived.MapKept
set_option linter.unusedSimpArgs false
set_option linter.unusedVariables false
namespace Go.Am
open Go
section
variable {P:Program} {K:KM} {w:World}
theorem bu {zero cs:List AV} {off:Nat} (h:off+cs.length≤zero.length):(splice zero off cs).length=zero.length:=by
 unfold splice; simp; omega
theorem gJ:∀ (vs:List Value) (off j0:Nat) (cells:Array Value),off+j0+vs.length≤cells.size→
  ((vs.zipIdx j0).foldl (fun cs x=>cs.setIfInBounds (off+x.2) x.1) cells).toList=cells.toList.take (off+j0)++(vs++cells.toList.drop (off+j0+vs.length))
 | [],off,j0,cells,_=>by simp
 | v::vs,off,j0,cells,h=>by
  simp only [List.zipIdx_cons,List.foldl_cons,List.length_cons] at h ⊢
  rw [gJ vs off (j0+1) _ (by simp; omega)]
  rw [Array.toList_setIfInBounds]
  have hl:off+j0 < cells.toList.length:=by simp; omega
  rw [List.take_set,List.drop_set_of_lt (by omega)]
  have e:off+(j0+1)=off+j0+1:=by omega
  rw [e,List.take_succ_eq_append_getElem hl]
  rw [List.set_append_right _ _ (by simp; omega)]
  have e2:off+j0 - (cells.toList.take (off+j0)).length=0:=by simp; omega
  rw [e2]
  simp only [List.set_cons_zero,List.append_assoc,List.cons_append,List.nil_append]
  have e3:off+j0+1+vs.length=off+j0+(vs.length+1):=by omega
  rw [e3]
theorem uY (vs:Array Value) (off:Nat) (cells:Array Value) (h:off+vs.size≤cells.size) :
  (vs.zipIdx.foldl (fun cs x=>cs.setIfInBounds (off+x.2) x.1) cells).toList=cells.toList.take off++(vs.toList++cells.toList.drop (off+vs.size)):=by
 have:=gJ vs.toList off 0 cells (by simpa using h)
 rw [← Array.foldl_toList,Array.toList_zipIdx]
 simpa using this
theorem VRs.splice {zero cs:List AV} {zs ds:List Value} {off:Nat} (hz:VRs K zero zs) (hc:VRs K cs ds):VRs K (splice zero off cs) (zs.take off++(ds++zs.drop (off+ds.length))):=by
 unfold Am.splice
 rw [hc.length]
 exact (hz.take off).append (hc.append (hz.drop _))
theorem dA {zero cs:List AV} {off:Nat} (hz:zero.all AV.flat=true) (hc:cs.all AV.flat=true):(splice zero off cs).all AV.flat=true:=by
 unfold splice
 rw [List.all_eq_true] at *
 intro x hx
 rcases List.mem_append.1 hx with h | h
 ·exact hz x (List.mem_of_mem_take h)
 rcases List.mem_append.1 h with h | h
 ·exact hc x h
 exact hz x (List.mem_of_mem_drop h)
theorem lA (pl:Nat→Option (Nat×Nat)):∀ (ps:List (Nat×Value)) (offs:List (Nat×Nat)) (vs:List AV) (zero:List AV) (cells:Array Value) (r:List AV),
  offs.length=ps.length→(∀ (j:Nat) (p:Nat×Value) (o:Nat×Nat),ps[j]? = some p→offs[j]? = some o→pl p.1=some o)→VRs K vs (ps.map (·.2))→VRs K zero cells.toList→zero.all AV.flat=true→
  fH zero offs vs=some r→∃ out,Instr.fill pl cells ps=some out∧VRs K r out.toList∧r.all AV.flat=true
 | [],[],vs,zero,cells,r,_,_,hv,hz,hf,h=>by
  simp only [List.map_nil,VRs] at hv
  cases vs with
  | nil=>cases h; exact ⟨cells,rfl,hz,hf⟩
  | cons v vs=>cases h
 | [],_::_,_,_,_,_,hl,_,_,_,_,_=>by simp at hl
 | _::_,[],_,_,_,_,hl,_,_,_,_,_=>by simp at hl
 | (i,v')::ps,(off,size)::offs,vs,zero,cells,r,hl,hp,hv,hz,hf,h=>by
  cases vs with
  | nil=>cases h
  | cons v vs=>
   obtain ⟨x,xs,e,hv1,hv2⟩:=hv.uncons
   simp only [List.map_cons,List.cons.injEq] at e
   obtain ⟨rfl,rfl⟩:=e
   simp only [fH] at h
   have hpl:=hp 0 _ _ rfl rfl
   simp only at hpl
   simp only [Instr.fill,hpl]
   have hzl:zero.length=cells.size:=by rw [hz.length]; simp
   cases hb:(Nat.beq v.cells.length size&&Nat.ble (off+size) zero.length&&!v.isTup) with
   | false=>rw [hb] at h; cases h
   | true=>
    rw [hb,cond_true] at h
    simp only [Bool.and_eq_true] at hb
    have h1:=Nat.eq_of_beq_eq_true hb.1.1
    have h2:=Nat.le_of_ble_eq_true hb.1.2
    obtain ⟨hc1,hc2⟩:=hv1.cells (by simpa using hb.2)
    have hsz:v.cells.length=v'.cells.size:=by rw [hc1.length]; simp
    have hcond:¬ ((decide (v'.cells.size≠size)||decide (off+v'.cells.size > cells.size))=true):=by
     simp; omega
    rw [if_neg hcond]
    refine lA pl ps offs vs _ _ r (by simpa using hl) (fun j p o h3 h4=>hp (j+1) p o (by simpa using h3) (by simpa using h4)) hv2 ?_ (dA hf hc2) h
    rw [uY _ _ _ (by omega)]
    have:=VRs.splice (off:=off) hz hc1
    simpa using this
theorem fM {α β:Type} (f:α→Sem β) (g:α→β):∀ (l:List α),(∀ x∈l,∀ w,(f x).run P w=.ok (g x) w)→∀ w,(l.mapM f).run P w=.ok (l.map g) w
 | [],_,w=>by simp
 | x::l,h,w=>by
  simp only [List.mapM_cons,Sem.run_bind,h x (by simp) w,Result.andThen_ok,fM f g l (fun y hy=>h y (by simp [hy])) w,Sem.run_pure,List.map_cons]
theorem jN {α β:Type} (f:α→Sem β) (g:α→β) (l:Array α) (h:∀ x∈l.toList,∀ w,(f x).run P w=.ok (g x) w) (w:World):(l.mapM f).run P w=.ok (l.map g) w:=by
 rw [Array.mapM_eq_mapM_toList]
 simp only [Sem.run_map,fM f g l.toList h w,Result.andThen_ok]
 congr 1
 apply Array.ext'
 simp
theorem fm {fs:Array Field}:∀ {ps:List (Nat×Operand)} {os:List (Nat×Nat)},dk P fs ps=some os→os.length=ps.length∧∀ (j:Nat) (p:Nat×Operand) (o:Nat×Nat),ps[j]? = some p→os[j]? = some o→
  ∃ f,fs[p.1]? = some f∧bh P f.type=some o.2∧f.offset=o.1
 | [],os,h=>by cases h; exact ⟨rfl,fun j p o hp _=>by simp at hp⟩
 | (i,x)::ps,os,h=>by
  simp only [dk] at h
  split at h
  ·cases h
  rename_i f hf
  split at h
  ·rename_i n os' hn hos
   cases h
   obtain ⟨h1,h2⟩:=fm hos
   refine ⟨by simp [h1],fun j p o hp ho=>?_⟩
   cases j with
   | zero=>simp at hp ho; subst hp; subst ho; exact ⟨f,hf,hn,rfl⟩
   | succ j=>exact h2 j p o (by simpa using hp) (by simpa using ho)
  cases h
theorem jE {t n:Nat} (h:bh P t=some n):P.cellsOf t=n:=by
 obtain ⟨i,h1,h2⟩:=km h
 simp [Program.cellsOf,h1,h2]
theorem vA {t:TypeId} {ps:List (Nat×Operand)} {a:Act} {z:List AV} {os:List (Nat×Nat)} {vs:List AV} {r:List AV} (hz:cF P t=some z)
  (hd:(∃ fs,P.underlying t=some (.struct fs)∧dk P fs ps=some os∧fs.toList.all (fun f=>bE (bh P f.type))=true)∨
   (∃ len e n,P.underlying t=some (.array len e)∧bh P e=some n∧os=ps.map fun p=>(p.1 * n,n)))
  (hv:VRs K vs (ps.map fun p=>a.eval p.2)) (h:fH z os vs=some r) :
  aM P (Instr.build t (ps.toArray.map fun x=>(x.1,a.eval x.2))) w K (.agg r):=by
 obtain ⟨v0,hv0,hz1,hz2⟩:=cn (K:=K) hz w
 rcases hd with ⟨fs,hd,hos,hall⟩ | ⟨len,e,n,hd,hn,rfl⟩
 ·obtain ⟨hl,hget⟩:=fm hos
  obtain ⟨out,ho1,ho2,ho3⟩:=lA (K:=K) (fun i=>(fs.map fun f=>(f.offset,P.cellsOf f.type))[i]?) (ps.map fun p=>(p.1,a.eval p.2)) os vs z v0.cells r (by simp [hl])
   (fun j p o hp ho=>by
    simp only [List.getElem?_map,Option.map_eq_some_iff] at hp
    obtain ⟨q,hq,rfl⟩:=hp
    obtain ⟨f,h1,h2,h3⟩:=hget j q o hq ho
    simp only [Array.getElem?_map,h1,Option.map_some,jE h2,h3])
   (by simpa [List.map_map,Function.comp_def] using hv) hz1 hz2 h
  refine ⟨.agg out,?_,by simp only [VR]; exact ⟨out,rfl,ho2,ho3⟩⟩
  unfold Instr.build
  simp only [Sem.run_bind,hv0,Result.andThen_ok,run_underlying hd]
  have hm:=jN (P:=P) (fun f:Field=>do pure (f.offset,← sizeOf f.type)) (fun f=>(f.offset,P.cellsOf f.type)) fs (fun f hf w=>by
   have:=List.all_eq_true.1 hall f hf
   unfold bE at this
   split at this
   ·rename_i n hn
    simp [aI hn,jE hn]
   cases this) w
  rw [hm]
  simp only [Result.andThen_ok]
  have e:(ps.toArray.map fun x=>(x.1,a.eval x.2)).toList=ps.map fun p=>(p.1,a.eval p.2):=by simp
  rw [e,ho1]; rfl
 obtain ⟨out,ho1,ho2,ho3⟩:=lA (K:=K) (fun i=>some (i * n,n)) (ps.map fun p=>(p.1,a.eval p.2)) (ps.map fun p=>(p.1 * n,n)) vs z v0.cells r (by simp)
  (fun j p o hp ho=>by
   simp only [List.getElem?_map,Option.map_eq_some_iff] at hp ho
   obtain ⟨q,hq,rfl⟩:=hp
   obtain ⟨q',hq',rfl⟩:=ho
   rw [hq] at hq'; cases hq'; rfl)
  (by simpa [List.map_map,Function.comp_def] using hv) hz1 hz2 h
 refine ⟨.agg out,?_,by simp only [VR]; exact ⟨out,rfl,ho2,ho3⟩⟩
 unfold Instr.build
 simp only [Sem.run_bind,hv0,Result.andThen_ok,run_underlying hd,aI hn]
 have e:(ps.toArray.map fun x=>(x.1,a.eval x.2)).toList=ps.map fun p=>(p.1,a.eval p.2):=by simp
 rw [e,ho1]; rfl
end
end Go.Am
namespace Go.Am
open Go
section
variable {P:Program} {K:KM} {w:World}
def fL (P:Program) (xs:Array Value) (off:Nat) (t:TypeId) (x':Value):Prop:=
 match P.underlying t with
 | some (.struct _)=>∃ xs',x'=.agg xs'∧∀ j,j < P.cellsOf t→xs'[j]? = xs[off+j]?
 | _=>xs[off]? = some x'
theorem eF {cs ds:List AV}:∀ {a b:List (Nat×Nat)} {r:Bool},bM cs ds (a++b)=some r→∃ r1 r2,bM cs ds a=some r1∧bM cs ds b=some r2∧r=(r1&&r2)
 | [],b,r,h=>⟨true,r,rfl,h,by simp⟩
 | (i,q)::a,b,r,h=>by
  simp only [List.cons_append,bM] at h
  split at h
  ·rename_i x y hx hy
   split at h
   ·cases h
   rename_i q hq
   split at h
   ·cases h
   rename_i c hc
   cases h
   obtain ⟨r1,r2,h1,h2,h3⟩:=eF hc
   exact ⟨q&&r1,r2,by simp only [bM,hx,hy,hq,h1],h2,by rw [h3,Bool.and_assoc]⟩
  cases h
theorem iY {cs ds:List AV} {i q:Nat} {r:Bool} (h:bM cs ds [(i,q)]=some r):∃ x y,cs[i]? = some x∧ds[i]? = some y∧jW q x y=some r:=by
 simp only [bM] at h
 split at h
 ·rename_i x y hx hy
  split at h
  ·cases h
  rename_i q hq; simp at h; subst h; exact ⟨x,y,hx,hy,hq⟩
 cases h
def mT:TypeDesc→Option Nat
 | .bool=>some 0
 | .int _=>some 1
 | .string=>some 2
 | _=>none
theorem rk {q:Nat} {x y:AV} {b:Bool} {x' y':Value} (h:jW q x y=some b) (hx:VR K x x') (hy:VR K y y') {n:Nat} {t:TypeId} (d:TypeDesc) (hd:P.underlying t=some d)
  (hs:mT d=some q):(Op.equalIn (n+1) t x' y').run P w=.ok b w:=by
 unfold jW at h
 split at h
 ·simp only [VR] at hx hy; subst hx; subst hy; cases h
  cases d<;>simp [mT] at hs
  exact run_equalIn_bool' w n t _ _ hd
 ·simp only [VR] at hx hy; subst hx; subst hy
  split at h
  ·rename_i hk; subst hk; cases h
   cases d<;>simp [mT] at hs
   rw [run_equalIn_int w n t _ _ _ _ hd]
   congr 1
  cases h
 ·simp only [VR] at hx hy; subst hx; subst hy; cases h
  cases d<;>simp [mT] at hs
  rw [run_equalIn_string w n t _ _ hd,ByteArray.toList_eq,ByteArray.toList_eq]
 cases h
theorem oJ (xs:Array Value) (a n j:Nat) (h:j < n):(xs.extract a (a+n))[j]? = xs[a+j]?:=by
 rw [Array.getElem?_extract]
 split
 ·rfl
 rename_i hh
 rw [Array.getElem?_eq_none]
 omega
theorem mQ:∀ (d:Nat) (t off:Nat) (idx:List (Nat×Nat)) (n:Nat),eE P d t off=some idx→d≤n→∀ (cs ds:List AV) (xs ys:Array Value) (x' y':Value) (b:Bool),VRs K cs xs.toList→VRs K ds ys.toList→
  fL P xs off t x'→fL P ys off t y'→bM cs ds idx=some b→(Op.equalIn n t x' y').run P w=.ok b w
 | 0,t,off,idx,n,h,_,_,_,_,_,_,_,_,_,_,_,_,_=>by cases h
 | d+1,t,off,idx,n,h,hn,cs,ds,xs,ys,x',y',b,hx,hy,px,py,he=>by
  obtain ⟨n,rfl⟩:∃ m,n=m+1:=⟨n - 1,by omega⟩
  have single:∀ (q:Nat) (dd:TypeDesc),P.underlying t=some dd→mT dd=some q→idx=[(off,q)]→(∀ fs,dd≠.struct fs)→(Op.equalIn (n+1) t x' y').run P w=.ok b w:=by
   intro q dd hd hk hidx hns
   subst hidx
   obtain ⟨x,y,h1,h2,h3⟩:=iY he
   have px':xs[off]? = some x':=by
    unfold fL at px; rw [hd] at px
    cases dd<;>first | exact px | exact absurd rfl (hns _)
   have py':ys[off]? = some y':=by
    unfold fL at py; rw [hd] at py
    cases dd<;>first | exact py | exact absurd rfl (hns _)
   obtain ⟨x2,e1,e2⟩:=hx.get off x h1
   obtain ⟨y2,f1,f2⟩:=hy.get off y h2
   rw [Array.getElem?_toList,px'] at e1
   rw [Array.getElem?_toList,py'] at f1
   cases e1; cases f1
   exact rk h3 e2 f2 dd hd hk
  unfold eE at h
  split at h
  ·rename_i hd; cases h; exact single 0 _ hd rfl rfl (fun _ h=>by cases h)
  ·rename_i k hd; cases h; exact single 1 _ hd rfl rfl (fun _ h=>by cases h)
  ·rename_i hd; cases h; exact single 2 _ hd rfl rfl (fun _ h=>by cases h)
  ·rename_i fs hd
   cases hst:P.stoodInHeld t with
   | true=>rw [hst] at h; cases h
   | false=>
    rw [hst,cond_false] at h
    unfold fL at px py
    rw [hd] at px py
    obtain ⟨xs',rfl,gx⟩:=px
    obtain ⟨ys',rfl,gy⟩:=py
    have hfo:P.fieldsOf t=fs:=by simp [Program.fieldsOf,hd]
    rw [run_equalIn_struct w n t xs' ys' (by rw [hfo]; exact hd) hst,hfo]
    have key : ∀ (l : List Field) (idx : List (Nat × Nat)) (b : Bool), l.foldr (fun f acc => if f.name = "_" ∨ ¬ (f.offset + P.cellsOf f.type ≤ P.cellsOf t ∧ 1 ≤ P.cellsOf f.type) then none else match eE P d f.type (off + f.offset), acc with
      | some a,some b=>some (a++b)
      | _,_=>none) (some [])=some idx→bM cs ds idx=some b→(Op.eqFields n xs' ys' l).run P w=.ok b w:=by
     intro l
     induction l with
     | nil=>intro idx b h he; cases h; cases he; rfl
     | cons f l ih=>
      intro idx b h he
      simp only [List.foldr_cons] at h
      split at h
      ·cases h
      rename_i hnm
      split at h
      ·rename_i a c ha hc
       cases h
       obtain ⟨r1,r2,h1,h2,rfl⟩:=eF he
       have hnm1 : f.name ≠ "_" := fun e => hnm (.inl e)
       have hnm2:f.offset+P.cellsOf f.type≤P.cellsOf t∧1≤P.cellsOf f.type:=Classical.not_not.1 fun e=>hnm (.inr e)
       have getp:∀ (cs:List AV) (xs xs':Array Value),VRs K cs xs.toList→(∀ j,j < P.cellsOf t→xs'[j]? = xs[off+j]?)→(∀ i q,eE P d f.type (off+f.offset)=some [(i,q)]→∃ x,cs[i]? = some x)→∃ u,(part f.type xs' f.offset).run P w=.ok u w∧fL P xs (off+f.offset) f.type u:=by
        intro cs xs xs' hx gx hsome
        unfold fL
        cases d with
        | zero=>cases ha
        | succ d=>
         have ha':=ha
         unfold eE at ha
         have scal:∀ q dd,P.underlying f.type=some dd→(∀ fs,dd≠.struct fs)→(∀ n e,dd≠.array n e)→eE P (d+1) f.type (off+f.offset)=some [(off+f.offset,q)]→
           ∃ u,(part f.type xs' f.offset).run P w=.ok u w∧xs[off+f.offset]? = some u:=by
          intro q dd hdd n1 n2 hp
          obtain ⟨x,hx1⟩:=hsome _ _ hp
          obtain ⟨u,hu1,hu2⟩:=hx.get _ _ hx1
          rw [Array.getElem?_toList] at hu1
          have hag:p6 P f.type=some false:=by
           unfold p6; rw [hdd]
           cases dd<;>first | rfl | exact absurd rfl (n1 _) | exact absurd rfl (n2 _ _)
          refine ⟨u,?_,hu1⟩
          unfold part
          simp only [Sem.run_bind,cN hag,Result.andThen_ok,Bool.false_eq_true,if_false]
          rw [gx f.offset (by omega),hu1]; rfl
         split at ha
         ·rename_i hdd; rw [hdd]; exact scal 0 _ hdd (fun _ h=>by cases h) (fun _ _ h=>by cases h) (by rw [ha']; exact ha.symm)
         ·rename_i k hdd; rw [hdd]; exact scal 1 _ hdd (fun _ h=>by cases h) (fun _ _ h=>by cases h) (by rw [ha']; exact ha.symm)
         ·rename_i hdd; rw [hdd]; exact scal 2 _ hdd (fun _ h=>by cases h) (fun _ _ h=>by cases h) (by rw [ha']; exact ha.symm)
         ·rename_i fs2 hdd
          rw [hdd]
          have hag:p6 P f.type=some true:=by unfold p6; rw [hdd]
          have hsz:∃ i,P.info? f.type=some i:=by
           unfold Program.cellsOf at hnm2
           cases hi:P.info? f.type with
           | none=>rw [hi] at hnm2; simp at hnm2
           | some i=>exact ⟨i,rfl⟩
          obtain ⟨i,hi⟩:=hsz
          have hsz':bh P f.type=some (P.cellsOf f.type):=by simp [bh,Program.cellsOf,hi]
          refine ⟨.agg (xs'.extract f.offset (f.offset+P.cellsOf f.type)),?_,_,rfl,fun j hj=>?_⟩
          ·unfold part; simp only [Sem.run_bind,cN hag,Result.andThen_ok,if_true,aI hsz']; rfl
          rw [oJ _ _ _ _ hj,gx _ (by omega),Nat.add_assoc]
         cases ha
       have some1:∀ i q,eE P d f.type (off+f.offset)=some [(i,q)]→(∃ x,cs[i]? = some x)∧(∃ x,ds[i]? = some x):=by
        intro i q hp
        rw [ha] at hp; cases hp
        obtain ⟨x,y,e1,e2,_⟩:=iY h1
        exact ⟨⟨x,e1⟩,⟨y,e2⟩⟩
       obtain ⟨u,hu1,hu2⟩:=getp cs xs xs' hx gx (fun i q hp=>(some1 i q hp).1)
       obtain ⟨v,hv1,hv2⟩:=getp ds ys ys' hy gy (fun i q hp=>(some1 i q hp).2)
       have:=mQ d f.type (off+f.offset) a n ha (by omega) cs ds xs ys u v r1 hx hy hu2 hv2 h1
       simp only [Op.eqFields,if_pos hnm1,Sem.run_bind,hu1,Result.andThen_ok,hv1,this]
       cases r1 with
       | false=>rfl
       | true=>simp only [Bool.not_true,Bool.false_eq_true,if_false,Bool.true_and]; exact ih c r2 hc h2
      cases h
    exact key _ _ _ h he
  cases h
end
end Go.Am
namespace Go.Am
open Go
section
variable {P:Program} {K:KM} {w:World}
theorem wO {k? : Option AK} {l:List Operand} {k:AK} {xs:List Opd} (h:ay k? l=some (k,xs)):k? = some k∧ez l=some xs:=by
 unfold ay at h
 split at h
 ·rename_i h1 h2; cases h; exact ⟨rfl,h2⟩
 cases h
theorem i9 {s:Sem Value} {v:Value} {w w':World} (h:s.run P w=.ok v w'):(do pure (Next.value (← s)):Sem Next).run P w=.ok (.value v) w':=by
 simp only [Sem.run_bind,h,Result.andThen_ok]; rfl
theorem aM.lift {s:Sem Value} {v:AV} (h:aM P s w K v):∃ v',(do pure (Next.value (← s)):Sem Next).run P w=.ok (.value v') w∧VR K v v':=
 let ⟨v',h1,h2⟩:=h; ⟨v',i9 h1,h2⟩
theorem fj {op:BinOp} {t:TypeId} {x y:Operand} {a b:Value} (h1:¬ (a=.nilIface∧b=.nilIface)) (h2:¬ ((∃ cs,a=.agg cs)∧∃ ds,b=.agg ds)):(eqGuard op t x y a b).run P w=.ok () w:=by
 have key:∀ op',op'=BinOp.eql∨op'=BinOp.neq→(eqGuard op' t x y a b).run P w=.ok () w:=by
  intro op' ho
  rcases ho with rfl | rfl
  all_goals
   unfold eqGuard
   simp only [Bool.not_true,Bool.false_eq_true,if_false]
   split
   ·exact absurd ⟨rfl,rfl⟩ h1
   ·exact absurd ⟨⟨_,rfl⟩,_,rfl⟩ h2
   rfl
 cases op<;>first | exact key _ (.inl rfl) | exact key _ (.inr rfl) | rfl
theorem nh {op:BinOp} {t:TypeId} {x y:Operand} {a b:Value} (h:(cu x||cu y)=true) (h2:¬ ((∃ cs,a=.agg cs)∧∃ ds,b=.agg ds)):(eqGuard op t x y a b).run P w=.ok () w:=by
 have key:∀ op',op'=BinOp.eql∨op'=BinOp.neq→(eqGuard op' t x y a b).run P w=.ok () w:=by
  intro op' ho
  rcases ho with rfl | rfl
  all_goals
   unfold eqGuard
   simp only [Bool.not_true,Bool.false_eq_true,if_false]
   split
   ·have:cu x=true∨cu y=true:=by simpa using h
    rcases this with hh | hh
    ·cases x<;>first | (cases hh; done) | rfl
    cases y<;>first | (cases hh; done) | simp
   ·exact absurd ⟨⟨_,rfl⟩,_,rfl⟩ h2
   rfl
 cases op<;>first | exact key _ (.inl rfl) | exact key _ (.inr rfl) | rfl
theorem nU {op:BinOp} {x y:AV} {v:AV} {x' y':Value} (h:e8 op x y=some v) (hx:VR K x x') (hy:VR K y y'):¬ (x'=.nilIface∧y'=.nilIface)∧¬ ((∃ cs,x'=.agg cs)∧∃ ds,y'=.agg ds):=by
 unfold e8 at h
 split at h
 ·simp only [VR] at hx; subst hx
  exact ⟨(fun h=>by cases h.1),(fun h=>by obtain ⟨⟨_,h⟩,_⟩:=h; cases h)⟩
 ·simp only [VR] at hx; subst hx
  exact ⟨(fun h=>by cases h.1),(fun h=>by obtain ⟨⟨_,h⟩,_⟩:=h; cases h)⟩
 cases h
theorem uT {op:BinOp} {t:TypeId} {x y:Operand} {a:Act} {u v:AV} {r:AV} (h:e8 op u v=some r) (hu:VR K u (a.eval x)) (hv:VR K v (a.eval y)) :
  aM P (do eqGuard op t x y (a.eval x) (a.eval y); binOp op t (a.eval x) (a.eval y)) w K r:=by
 obtain ⟨h1,h2⟩:=nU h hu hv
 obtain ⟨r',h3,h4⟩:=vb (P:=P) (w:=w) h hu hv t
 exact ⟨r',by simp only [Sem.run_bind,fj h1 h2,Result.andThen_ok,h3],h4⟩
theorem tH {op:BinOp} {t:TypeId} {x y:Value} {b:Bool} (ho:op=.eql∨op=.neq) (h:(Op.equal t x y).run P w=.ok b w)
  (hx:¬ ((∃ k n,x=.int k n)∧∃ k n,y=.int k n)) (hs:¬ ((∃ s,x=.string s)∧∃ s,y=.string s)) (hf:¬ ((∃ k n,x=.float k n)∧∃ k n,y=.float k n)) (hc:¬ ((∃ k n m,x=.complex k n m)∧∃ k n m,y=.complex k n m)) :
  (binOp op t x y).run P w=.ok (.bool (if op=.neq then !b else b)) w:=by
 rcases ho with rfl | rfl
 ·unfold binOp
  split<;>first | (exact absurd ⟨⟨_,_,rfl⟩,_,_,rfl⟩ hx) | (exact absurd ⟨⟨_,rfl⟩,_,rfl⟩ hs) | (exact absurd ⟨⟨_,_,rfl⟩,_,_,rfl⟩ hf) | (exact absurd ⟨⟨_,_,_,rfl⟩,_,_,_,rfl⟩ hc) | (simp only [Sem.run_bind,h,Result.andThen_ok]; rfl) | contradiction | (exact absurd rfl (by assumption:¬ (BinOp.eql=BinOp.eql)))
 unfold binOp
 split<;>first | (exact absurd ⟨⟨_,_,rfl⟩,_,_,rfl⟩ hx) | (exact absurd ⟨⟨_,rfl⟩,_,rfl⟩ hs) | (exact absurd ⟨⟨_,_,rfl⟩,_,_,rfl⟩ hf) | (exact absurd ⟨⟨_,_,_,rfl⟩,_,_,_,rfl⟩ hc) | (simp only [Sem.run_bind,h,Result.andThen_ok]; rfl) | contradiction | (exact absurd rfl (by assumption:¬ (BinOp.neq=BinOp.neq)))
theorem uD {q:Nat} {x y:AV} {b:Bool} {x' y':Value} (h:kE q x y=some b) (hx:VR K x x') (hy:VR K y y') :
  ¬ ((∃ k n,x'=.int k n)∧∃ k n,y'=.int k n)∧¬ ((∃ s,x'=.string s)∧∃ s,y'=.string s)∧¬ ((∃ k n,x'=.float k n)∧∃ k n,y'=.float k n)∧¬ ((∃ k n m,x'=.complex k n m)∧∃ k n m,y'=.complex k n m)∧
  ¬ ((∃ cs,x'=.agg cs)∧∃ ds,y'=.agg ds)∧(q≠5→¬ (x'=.nilIface∧y'=.nilIface)):=by
 unfold kE at h
 have fin:∀ z,(z=x'∨z=y')→(∀ k n,z≠.int k n)→(∀ s,z≠.string s)→(∀ k n,z≠.float k n)→(∀ k n m,z≠.complex k n m)→(∀ cs,z≠.agg cs)→(q≠5→z≠.nilIface)→
   ¬ ((∃ k n,x'=.int k n)∧∃ k n,y'=.int k n)∧¬ ((∃ s,x'=.string s)∧∃ s,y'=.string s)∧¬ ((∃ k n,x'=.float k n)∧∃ k n,y'=.float k n)∧¬ ((∃ k n m,x'=.complex k n m)∧∃ k n m,y'=.complex k n m)∧
   ¬ ((∃ cs,x'=.agg cs)∧∃ ds,y'=.agg ds)∧(q≠5→¬ (x'=.nilIface∧y'=.nilIface)):=by
  intro z hz h1 h2 h3 h4 h5 h6
  rcases hz with rfl | rfl
  ·exact ⟨(fun h=>let ⟨⟨_,_,e⟩,_⟩:=h; h1 _ _ e),(fun h=>let ⟨⟨_,e⟩,_⟩:=h; h2 _ e),(fun h=>let ⟨⟨_,_,e⟩,_⟩:=h; h3 _ _ e),(fun h=>let ⟨⟨_,_,_,e⟩,_⟩:=h; h4 _ _ _ e),(fun h=>let ⟨⟨_,e⟩,_⟩:=h; h5 _ e),fun hq h=>h6 hq h.1⟩
  exact ⟨(fun h=>let ⟨_,_,_,e⟩:=h; h1 _ _ e),(fun h=>let ⟨_,_,e⟩:=h; h2 _ e),(fun h=>let ⟨_,_,_,e⟩:=h; h3 _ _ e),(fun h=>let ⟨_,_,_,_,e⟩:=h; h4 _ _ _ e),(fun h=>let ⟨_,_,e⟩:=h; h5 _ e),fun hq h=>h6 hq h.2⟩
 split at h<;>first | (cases h; done) | skip
 all_goals simp only [VR] at hx hy
 all_goals first
  | (subst hx; exact fin _ (.inl rfl) (by simp) (by simp) (by simp) (by simp) (by simp) (by simp))
  | (subst hy; exact fin _ (.inr rfl) (by simp) (by simp) (by simp) (by simp) (by simp) (by simp))
theorem vd {neg:Bool} {q:Nat} {t:TypeId} {d:TypeDesc} {x y:Operand} {a:Act} {u v:AV} {b:Bool} (h:kE q u v=some b) (hu:VR K u (a.eval x)) (hv:VR K v (a.eval y)) (hd:P.underlying t=some d) (hk:pP d=some q)
  (hc:q=5→(cu x||cu y)=true) {op:BinOp} (ho:op=if neg then .neq else .eql) :
  aM P (do eqGuard op t x y (a.eval x) (a.eval y); binOp op t (a.eval x) (a.eval y)) w K (.bool (if neg=true then !b else b)):=by
 obtain ⟨h1,h2,h3,h4,h5,h6⟩:=uD h hu hv
 have hg:(eqGuard op t x y (a.eval x) (a.eval y)).run P w=.ok () w:=by
  by_cases e:q=5
  ·exact nh (hc e) h5
  exact fj (h6 e) h5
 have hb:=tH (P:=P) (w:=w) (op:=op) (by rw [ho]; cases neg<;>simp) (uN (P:=P) (w:=w) h hu hv hd hk) h1 h2 h3 h4
 refine ⟨.bool (if op=.neq then !b else b),by simp only [Sem.run_bind,hg,Result.andThen_ok,hb],?_⟩
 simp only [VR]
 subst ho
 cases neg<;>rfl
theorem vz {neg:Bool} {t:TypeId} {idx:List (Nat×Nat)} {x y:Operand} {a:Act} {us vs:List AV} {b:Bool} (h:bM us vs idx=some b) (hu:VR K (.agg us) (a.eval x)) (hv:VR K (.agg vs) (a.eval y))
  (hp:eE P 20 t 0=some idx) (hg:P.eqGuardType P.depth t=false) (hs:∃ fs,P.underlying t=some (.struct fs)) {op:BinOp} (ho:op=if neg then .neq else .eql) :
  aM P (do eqGuard op t x y (a.eval x) (a.eval y); binOp op t (a.eval x) (a.eval y)) w K (.bool (if neg=true then !b else b)):=by
 simp only [VR] at hu hv
 obtain ⟨xs,e1,hx,_⟩:=hu
 obtain ⟨ys,e2,hy,_⟩:=hv
 obtain ⟨fs,hd⟩:=hs
 have hpart:∀ xs:Array Value,fL P xs 0 t (.agg xs):=fun xs=>by
  unfold fL; rw [hd]; exact ⟨xs,rfl,fun j _=>by rw [Nat.zero_add]⟩
 have he:=mQ (P:=P) (K:=K) (w:=w) 20 t 0 idx 10000 hp (by decide) us vs xs ys (.agg xs) (.agg ys) b hx hy (hpart xs) (hpart ys) h
 have he':(Op.equal t (.agg xs) (.agg ys)).run P w=.ok b w:=he
 rw [e1,e2]
 have hb:=tH (P:=P) (w:=w) (op:=op) (by rw [ho]; cases neg<;>simp) he' (by simp) (by simp) (by simp) (by simp)
 refine ⟨.bool (if op=.neq then !b else b),by simp only [Sem.run_bind,run_eqGuard_agg w op t x y xs ys hg,Result.andThen_ok,hb],?_⟩
 simp only [VR]
 subst ho
 cases neg<;>rfl
end
end Go.Am
namespace Go.Am
open Go
section
variable {P:Program} {K:KM} {w:World}
def dL (x:Option Value) (d n:Nat):Prop:=(x=none∧n=d)∨∃ k i,x=some (.int k i)∧0≤i∧i.toNat=n
theorem gh {isSl:Bool} {len cap l h:Nat} {lo hi:Option Value} (hl:dL lo 0 l) (hh:dL hi len h) (h1:l≤h) (h2:h≤cap) :
  (Instr.sliceBounds isSl len cap lo hi none).run P w=.ok (l,h,cap) w:=by
 unfold Instr.sliceBounds
 have e:∀ k i y code,0≤i→i.toNat≤y→(Instr.sliceBound (.int k i) y code).run P w=.ok i.toNat w:=fun k i y code h0 hy=>by
  unfold Instr.sliceBound
  simp only [asIntOf,Sem.run_bind,Sem.run_pure,Result.andThen_ok,Sem.run_ite]
  rw [if_pos ⟨h0,by omega⟩]
 rcases hl with ⟨rfl,rfl⟩ | ⟨kl,il,rfl,hl0,rfl⟩<;>rcases hh with ⟨rfl,rfl⟩ | ⟨kh,ih,rfl,hh0,rfl⟩
 ·simp only [Sem.run_bind,Sem.run_pure,Result.andThen_ok]
 ·simp only [Sem.run_bind,Sem.run_pure,Result.andThen_ok,e _ _ _ _ hh0 h2]
 ·simp only [Sem.run_bind,Sem.run_pure,Result.andThen_ok,e _ _ _ _ hl0 h1]
 simp only [Sem.run_bind,Sem.run_pure,Result.andThen_ok,e _ _ _ _ hh0 h2,e _ _ _ _ hl0 h1]
theorem mn {lo hi:Option Operand} {vs vs':List AV} {a:Act} {l h d:Nat} (hv:VRs K vs ((eK lo (eK hi [])).map a.eval)) (hl:cq (bE lo) vs=some (l,vs')) (hh:ce d (bE hi) vs'=some h) :
  dL (lo.map a.eval) 0 l∧dL (hi.map a.eval) d h:=by
 have hi_ok:∀ vs',VRs K vs' ((eK hi []).map a.eval)→ce d (bE hi) vs'=some h→dL (hi.map a.eval) d h:=by
  intro vs' hv hh
  cases hi with
  | none=>
   simp only [eK,List.map_nil,VRs] at hv
   simp only [bE,ce] at hh
   cases vs' with
   | nil=>cases hh; exact .inl ⟨rfl,rfl⟩
   | cons _ _=>cases hh
  | some y=>
   simp only [bE] at hh
   simp only [eK,List.map_cons,List.map_nil] at hv
   unfold ce at hh
   split at hh
   ·rename_i he; cases he
   ·split at hh
    ·rename_i i hi0
     cases hh
     obtain ⟨x,e,h1⟩:=hv.one
     simp only [List.cons.injEq,and_true] at e
     simp only [VR] at h1
     exact .inr ⟨_,_,by rw [Option.map_some,e,h1],hi0,rfl⟩
    cases hh
   cases hh
 cases lo with
 | none=>
  simp only [bE,cq] at hl
  cases hl
  exact ⟨.inl ⟨rfl,rfl⟩,hi_ok _ hv hh⟩
 | some y=>
  simp only [bE] at hl
  simp only [eK,List.map_cons] at hv
  unfold cq at hl
  split at hl
  ·rename_i he; cases he
  ·split at hl
   ·rename_i i us hi0
    cases hl
    obtain ⟨x,xs,e,h1,h2⟩:=hv.uncons
    simp only [List.cons.injEq] at e
    obtain ⟨e1,e2⟩:=e
    subst e2
    simp only [VR] at h1
    exact ⟨.inr ⟨_,_,by rw [Option.map_some,e1,h1],hi0,rfl⟩,hi_ok _ h2 hh⟩
   cases hl
  cases hl
theorem jV (b off n:Nat):(Addr.add ⟨b,off,none⟩ n)=⟨b,off+n,none⟩:=by
 unfold Addr.add; split
 ·rename_i h; subst h; rfl
 rfl
theorem Dd {s:AV} {x:Value} {esz l h:Nat} (hs:VR K s x) (he:s.hasEsz esz=true) (h1:l≤h) (h2:h≤s.slen) {t e:TypeId} (hd:P.underlying t=some (.slice e)) (hz:bh P e=some esz) {lo hi:Option Value}
  (hl:dL lo 0 l) (hh:dL hi s.slen h):aM P (Instr.sliceAt t x lo hi none) w K (s.sub esz l h):=by
 cases s<;>simp only [AV.hasEsz,Bool.false_eq_true] at he
 case nilSlice=>
  simp only [VR] at hs; subst hs
  simp only [AV.slen] at h2 hh
  have e1:h=0:=by omega
  have e2:l=0:=by omega
  subst e1; subst e2
  refine ⟨.slice none 0 0,?_,by simp only [AV.sub,VR]⟩
  unfold Instr.sliceAt
  simp only [Sem.run_bind,run_underlying hd,Result.andThen_ok]
  unfold Instr.slice
  simp only [Sem.run_bind,run_underlying hd,Result.andThen_ok,gh hl hh h1 (Nat.le_refl _),aI hz]
  rfl
 case slice o v f n z=>
  have he':=Nat.eq_of_beq_eq_true he
  subst he'
  simp only [VR] at hs
  obtain ⟨a,c,i,rfl,hK,hn,hv,hg⟩:=hs
  simp only [AV.slen] at h2 hh
  refine ⟨.slice (some (if c=l then a else a.add (l * z))) (h - l) (c - l),?_,?_⟩
  ·unfold Instr.sliceAt
   simp only [Sem.run_bind,run_underlying hd,Result.andThen_ok]
   unfold Instr.slice
   simp only [Sem.run_bind,run_underlying hd,Result.andThen_ok,gh hl hh h1 (Nat.le_trans h2 hn),aI hz]
   by_cases hc:c=l
   ·simp only [if_pos hc]; rfl
   simp only [if_neg hc]; rfl
  simp only [AV.sub,VR]
  refine ⟨_,_,i,rfl,hK,by omega,hv,fun e=>?_⟩
  obtain ⟨g1,g2⟩:=hg e
  refine ⟨?_,fun hc=>?_⟩
  ·have:l * z+(c - l) * z=c * z:=by rw [← Nat.add_mul]; congr 1; omega
   omega
  rw [if_neg (by omega),g2 (by omega),jV,Nat.add_assoc]
theorem Fe {s:AV} {x:Value} {esz:Nat} {i:Int} {k:IntKind} (hs:VR K s x) (h:s.isSlice=true∧0≤i∧i < s.slen) {t e:TypeId} (hd:P.underlying t=some (.slice e)) (hz:bh P e=some esz) :
  aM P (Instr.indexAt t x (.int k i)) w K (s.at (i.toNat * esz)):=by
 obtain ⟨h1,h2,h3⟩:=h
 cases s<;>simp only [AV.isSlice,Bool.false_eq_true] at h1
 case nilSlice=>simp only [AV.slen] at h3; omega
 case slice o v f n z=>
  simp only [VR] at hs
  obtain ⟨a,c,inf,rfl,hK,hn,hv,hg⟩:=hs
  simp only [AV.slen] at h3
  refine ⟨.pointer (some (a.add (i.toNat * esz))),?_,?_⟩
  ·unfold Instr.indexAt
   simp only [asIntOf,Sem.run_bind,Sem.run_pure,Result.andThen_ok,run_underlying hd]
   rw [if_pos ⟨h2,h3⟩]
   simp only [Sem.run_bind,aI hz,Result.andThen_ok,Sem.run_pure]
  simp only [AV.at,VR]
  refine ⟨_,inf,rfl,hK,hv,fun e=>?_⟩
  obtain ⟨g1,g2⟩:=hg e
  rw [g2 (by omega),jV,Nat.add_assoc]
theorem vR {o v f len esz:Nat} {x:Value} {i:Int} {k:IntKind} (hs:VR K (.ptr o v f) x) (h:0≤i∧i < len) {t e:TypeId} (hd:P.underlying t=some (.array len e)) (hz:bh P e=some esz) :
  aM P (Instr.indexAt t x (.int k i)) w K (.ptr o v (f+i.toNat * esz)):=by
 simp only [VR] at hs
 obtain ⟨a,inf,rfl,hK,hv,hg⟩:=hs
 refine ⟨.pointer (some (a.add (i.toNat * esz))),?_,?_⟩
 ·unfold Instr.indexAt
  simp only [asIntOf,Sem.run_bind,Sem.run_pure,Result.andThen_ok,run_underlying hd,Instr.sureAddr]
  rw [if_pos h]
  simp only [Sem.run_bind,aI hz,Result.andThen_ok,Sem.run_pure]
 simp only [VR]
 exact ⟨_,inf,rfl,hK,hv,fun e=>by rw [hg e,jV,Nat.add_assoc]⟩
theorem vN {o v f:Nat} {x:Value} (hs:VR K (.ptr o v f) x) {t j n:Nat} {fs:Array Field} {fd:Field} (hd:P.underlying t=some (.struct fs)) (hf:fs[j]? = some fd) (hz:bh P fd.type=some n) (hp:jU n=true) :
  aM P (Instr.fieldAt t x j) w K (.ptr o v (f+fd.offset)):=by
 simp only [VR] at hs
 obtain ⟨a,inf,rfl,hK,hv,hg⟩:=hs
 have hn:¬ (n=0):=by have:=Nat.le_of_ble_eq_true hp; omega
 refine ⟨.pointer (some (a.add fd.offset)),?_,?_⟩
 ·unfold Instr.fieldAt
  simp only [Sem.run_bind,run_underlying hd,Result.andThen_ok,hf,Instr.sureAddr,Sem.run_pure,fieldPlace,aI hz,if_neg hn]
 simp only [VR]
 exact ⟨_,inf,rfl,hK,hv,fun e=>by rw [hg e,jV,Nat.add_assoc]⟩
theorem qe {cs:List AV} {xs:Array Value} {off t:Nat} {v:AV} (hx:VRs K cs xs.toList) (h:cs[off]? = some v) (ha:p6 P t=some false):aM P (part t xs off) w K v:=by
 obtain ⟨u,h1,h2⟩:=hx.get off v h
 rw [Array.getElem?_toList] at h1
 exact ⟨u,by unfold part; simp only [Sem.run_bind,cN ha,Result.andThen_ok,Bool.false_eq_true,if_false,h1]; rfl,h2⟩
theorem fP {cs:List AV} (h:cs.all AV.flat=true) (a n:Nat):((cs.drop a).take n).all AV.flat=true:=by
 rw [List.all_eq_true] at *
 exact fun x hx=>h x (List.mem_of_mem_drop (List.mem_of_mem_take hx))
theorem pL {cs:List AV} {xs:Array Value} {off t n:Nat} (hx:VRs K cs xs.toList) (hf:cs.all AV.flat=true) (ha:p6 P t=some true) (hz:bh P t=some n) :
  aM P (part t xs off) w K (.agg ((cs.drop off).take n)):=by
 refine ⟨.agg (xs.extract off (off+n)),by unfold part; simp only [Sem.run_bind,cN ha,Result.andThen_ok,if_true,aI hz]; rfl,?_⟩
 simp only [VR]
 refine ⟨_,rfl,?_,fP hf _ _⟩
 have e:(xs.extract off (off+n)).toList=(xs.toList.drop off).take n:=by
  rw [Array.toList_extract,List.extract_eq_take_drop]; congr 1; omega
 rw [e]
 exact (hx.drop off).take n
end
end Go.Am
namespace Go.Am
open Go
section
variable {P:Program} {K:KM} {w:World}
theorem vH {f k:Nat} {as:List AV} {v:AV} {ys:List Value} (h:zB P f=some k) (hv:EE k as=some v) (ha:VRs K as ys):∃ v',(callFunc f ys.toArray).run P w=.ok (.value v') w∧VR K v v':=by
 unfold zB at h
 split at h
 ·rename_i fn hf
  cases hb : fn.body.isNone && fn.origin == "" with
  | false=>rw [hb] at h; cases h
  | true=>
   rw [hb] at h
   simp only [cond_true] at h
   obtain ⟨hb1,hb2⟩:=Bool.and_eq_true_iff.1 hb
   have ho : fn.origin = "" := by simpa using hb2
   have key : ∀ {e : Array Value → Sem Value} {nm : String} {s : List UInt8} {c : Int} {r : Int}, fn.name = nm → (nm == "runtime.NumGoroutine") = false → Extern.findNext fn = none → Extern.find fn = some e → as = [.str s, .int .u8 c] → v = .int .i64 r →
     (e #[.string ⟨s.toArray⟩,.int .u8 c]).run P w=.ok (.int .i64 r) w→∃ v',(callFunc f ys.toArray).run P w=.ok (.value v') w∧VR K v v':=by
    rintro e nm s c r hn h1 h2 h3 rfl rfl h4
    obtain ⟨y1,y2,rfl,g1,g2⟩:=ha.two
    simp only [VR] at g1 g2
    subst g1 g2
    refine ⟨.int .i64 r,?_,by simp only [VR]⟩
    rw [run_callFunc_extern hf (by rw [hn]; exact h1) hb1 h2 h3,h4]
    rfl
   cases h1 : fn.name == "internal/bytealg.IndexByteString" with
   | true=>
    rw [h1] at h
    cases h
    have hn : fn.name = "internal/bytealg.IndexByteString" := by simpa using h1
    simp only [EE] at hv
    unfold GV at hv
    split at hv
    ·rename_i s c
     cases hv
     refine key hn (by kernel_rfl) (by unfold Extern.findNext; rw [hn,ho]; kernel_rfl) (e:=Extern.BytealgIndexByte.indexByte) (by unfold Extern.find; rw [hn,ho]; kernel_rfl) rfl rfl ?_
     exact Go.Lib.run_indexByteString _ _ _
    cases hv
   | false=>
    rw [h1] at h
    simp only [cond_false] at h
    cases h2 : fn.name == "internal/bytealg.CountString" with
    | false=>rw [h2] at h; cases h
    | true=>
     rw [h2] at h
     cases h
     have hn : fn.name = "internal/bytealg.CountString" := by simpa using h2
     simp only [EE] at hv
     unfold Gr at hv
     split at hv
     ·rename_i s c
      cases hv
      refine key hn (by kernel_rfl) (by unfold Extern.findNext; rw [hn,ho]; kernel_rfl) (e:=Extern.BytealgCount.count) (by unfold Extern.find; rw [hn,ho]; kernel_rfl) rfl rfl ?_
      exact Go.Lib.run_countString _ _ _
     cases hv
 cases h
theorem Fr {op:UnOp} {x v:AV} {x':Value} (h:EW op x=some v) (hx:VR K x x'):aM P (Op.unary op x') w K v:=by
 unfold EW at h
 split at h
 ·simp only [VR] at hx; subst hx
  split at h
  ·cases h; exact ⟨_,rfl,by simp only [VR]⟩
  ·cases h; exact ⟨_,rfl,by simp only [VR]⟩
  cases h
 ·simp only [VR] at hx; subst hx
  split at h
  ·cases h; exact ⟨_,rfl,by simp only [VR]⟩
  cases h
 cases h
theorem t9 {s:List UInt8} {i:Int} {k:IntKind} {b:UInt8} (h0:0≤i) (h:s[i.toNat]? = some b) {t:TypeId} (hd:P.underlying t=some .string) :
  aM P (Instr.index t (.string ⟨s.toArray⟩) (.int k i)) w K (.int .u8 b.toNat):=by
 have hlt:i.toNat < s.length:=by
  rcases Nat.lt_or_ge i.toNat s.length with h1 | h1
  ·exact h1
  rw [List.getElem?_eq_none h1] at h; cases h
 have e:(⟨s.toArray⟩:ByteArray)[i.toNat]? = some b:=by
  rw [ByteArray.getElem?_lt' _ _ (by simpa [ByteArray.size] using hlt)]
  rw [List.getElem?_eq_getElem hlt] at h
  cases h
  rfl
 refine ⟨.int .u8 b.toNat,?_,by simp only [VR]⟩
 unfold Instr.index
 simp only [asIntOf,Sem.run_bind,Sem.run_pure,Result.andThen_ok,run_underlying hd,if_pos h0,e]
theorem nT {s:List UInt8} {l h:Nat} {lo hi:Option Value} (hl:dL lo 0 l) (hh:dL hi s.length h) (h1:l≤h) (h2:h≤s.length) {t:TypeId} (hd:P.underlying t=some .string) :
  aM P (Instr.sliceAt t (.string ⟨s.toArray⟩) lo hi none) w K (.str ((s.take h).drop l)):=by
 refine ⟨.string ((⟨s.toArray⟩:ByteArray).extract l h),?_,?_⟩
 ·unfold Instr.sliceAt
  simp only [Sem.run_bind,run_underlying hd,Result.andThen_ok]
  unfold Instr.slice
  simp only [Sem.run_bind,run_underlying hd,Result.andThen_ok]
  have hb:=gh (P:=P) (w:=w) (isSl:=false) (cap:=s.length) (len:=s.length) hl hh h1 h2
  simp only [Option.isSome_none,Bool.false_eq_true,if_false,Sem.run_bind,Sem.run_pure,Result.andThen_ok]
  have e:(⟨s.toArray⟩:ByteArray).size=s.length:=by simp [ByteArray.size]
  rw [e,hb]; rfl
 simp only [VR,Value.string.injEq]
 apply WideShapes.bytes_inj
 simp [ByteArray.data_extract,List.extract_eq_take_drop,List.drop_take]
def kS (P:Program) (a:Act) (o:Oper) (w:World) (K:KM) (v:AV):Prop:=∃ v',(execOp a.eval o).run P w=.ok (.value v') w∧VR K v v'
theorem yC {k:IntKind} {a b:Int} {as:Array TypeId} {t:TypeId}:(Builtin.min_ as t #[.int k a,.int k b]).run P w=.ok (.int k (if b < a then b else a)) w:=rfl
theorem yL {k:IntKind} {a b:Int} {as:Array TypeId} {t:TypeId}:(Builtin.max_ as t #[.int k a,.int k b]).run P w=.ok (.int k (if b > a then b else a)) w:=rfl
theorem vg {P:Program} {K:KM} {w:World} {x:AV} {x':Value} {q:POp} {ts:List TypeId} (h:au P .len ts=some (.p q)) {v:AV} (hv:q.ev [x]=some v) (hx:VR K x x') (ty:TypeId) :
  aM P (Builtin.len_ ts.toArray ty #[x']) w K v:=by
 match ts,h with
 | [t],h=>
  simp only [au] at h
  split at h
  ·rename_i hd; cases h
   cases x<;>first | (simp only [POp.ev] at hv; cases hv; done) | skip
   simp only [POp.ev] at hv
   cases hv
   simp only [VR] at hx; subst hx
   refine ⟨_,by unfold Builtin.len_; simp [run_underlying hd]; rfl,?_⟩
   simp [VR,goInt,ByteArray.size]
  ·rename_i e hd; cases h
   simp only [POp.ev] at hv
   split at hv
   ·rename_i hs
    cases hv
    cases x<;>simp only [AV.isSlice,Bool.false_eq_true] at hs
    ·simp only [VR] at hx; subst hx
     exact ⟨_,by unfold Builtin.len_; simp [run_underlying hd]; rfl,by simp [VR,goInt,AV.slen]⟩
    simp only [VR] at hx
    obtain ⟨a,c,i,rfl,_⟩:=hx
    exact ⟨_,by unfold Builtin.len_; simp [run_underlying hd]; rfl,by simp [VR,goInt,AV.slen]⟩
   cases hv
  ·rename_i n e hd; cases h
   simp only [POp.ev] at hv
   cases hv
   exact ⟨_,by unfold Builtin.len_; simp [run_underlying hd]; rfl,by simp [VR,goInt]⟩
  ·cases h
  cases h
theorem lx {op op':BinOp} {t:TypeId} {x y:Operand} {a:Act} {vs:List AV} {v:AV} (hop:op'=op) (hv:(POp.bin op').ev vs=some v) (hvs:VRs K vs [a.eval x,a.eval y]) :
  aM P (do eqGuard op t x y (a.eval x) (a.eval y); binOp op t (a.eval x) (a.eval y)) w K v:=by
 subst hop
 rcases vs with _ | ⟨u,_ | ⟨u',_ | ⟨u'',r⟩⟩⟩<;>simp only [POp.ev] at hv<;>first | (cases hv; done) | skip
 obtain ⟨x',y',e,h1,h2⟩:=hvs.two
 simp only [List.cons.injEq,and_true] at e
 obtain ⟨rfl,rfl⟩:=e
 exact uT hv h1 h2
theorem gP {op:BinOp} {neg:Bool} (ho:op=if neg then .neq else .eql) {t:TypeId} {x y:Operand} {a:Act} {q:POp} (h:bK P t neg op x y=some (.p q)) {vs:List AV} {v:AV} (hv:q.ev vs=some v) (hvs:VRs K vs [a.eval x,a.eval y]) :
  aM P (do eqGuard op t x y (a.eval x) (a.eval y); binOp op t (a.eval x) (a.eval y)) w K v:=by
 have eql_case:∀ (d:TypeDesc) (n:Nat),P.underlying t=some d→pP d=some n→q=.eql neg n→(n=5→(cu x||cu y)=true)→
   aM P (do eqGuard op t x y (a.eval x) (a.eval y); binOp op t (a.eval x) (a.eval y)) w K v:=by
  intro d n hd hk hq hc
  subst hq
  rcases vs with _ | ⟨u,_ | ⟨u',_ | ⟨u'',r⟩⟩⟩<;>simp only [POp.ev] at hv<;>first | (cases hv; done) | skip
  obtain ⟨x',y',e,h1,h2⟩:=hvs.two
  simp only [List.cons.injEq,and_true] at e
  obtain ⟨rfl,rfl⟩:=e
  split at hv
  ·rename_i b hb
   cases hv
   exact vd hb h1 h2 hd hk hc ho
  cases hv
 unfold bK at h
 split at h
 ·cases h; exact lx rfl hv hvs
 ·cases h; exact lx rfl hv hvs
 ·rename_i hd; cases h; exact eql_case _ 0 hd rfl rfl (by simp)
 ·rename_i hd; cases h; exact eql_case _ 1 hd rfl rfl (by simp)
 ·rename_i hd; cases h; exact eql_case _ 2 hd rfl rfl (by simp)
 ·rename_i hd; cases h; exact eql_case _ 3 hd rfl rfl (by simp)
 ·rename_i hd; cases h; exact eql_case _ 4 hd rfl rfl (by simp)
 ·rename_i hd
  split at h
  ·rename_i hc; cases h; exact eql_case _ 5 hd rfl rfl (fun _=>hc)
  cases h
 ·rename_i fs hd
  cases hg:P.eqGuardType P.depth t with
  | true=>rw [hg] at h; cases h
  | false=>
   rw [hg,cond_false] at h
   split at h
   ·rename_i idx hp
    cases h
    rcases vs with _ | ⟨u,_ | ⟨u',_ | ⟨u'',r⟩⟩⟩
    ·simp only [POp.ev] at hv; cases hv
    ·cases u<;>simp only [POp.ev] at hv<;>cases hv
    ·obtain ⟨x',y',e,h1,h2⟩:=hvs.two
     simp only [List.cons.injEq,and_true] at e
     obtain ⟨rfl,rfl⟩:=e
     cases u<;>first | (simp only [POp.ev] at hv; cases hv; done) | skip
     cases u'<;>first | (simp only [POp.ev] at hv; cases hv; done) | skip
     simp only [POp.ev] at hv
     split at hv
     ·rename_i b hb
      cases hv
      exact vz hb h1 h2 hp hg ⟨fs,hd⟩ ho
     cases hv
    cases u<;>(simp only [POp.ev] at hv; cases hv)
   cases h
 cases h
end
end Go.Am
namespace Go.Am
open Go
section
variable {P:Program} {K:KM} {w:World}
theorem CS {vs:List AV} {x:Value} {a:AV} (e:vs=[a]) (h:VRs K vs [x]):VR K a x:=by
 subst e
 obtain ⟨x',e,h⟩:=h.one
 simp only [List.cons.injEq,and_true] at e
 subst e; exact h
theorem mb {vs:List AV} {x:Value} (h:VRs K vs [x]):∃ u,vs=[u]∧VR K u x:=by
 have:=h.length
 rcases vs with _ | ⟨u,_ | ⟨u',r⟩⟩<;>simp at this
 exact ⟨u,rfl,CS rfl h⟩
theorem zq {vs:List AV} {x y:Value} (h:VRs K vs [x,y]):∃ u v,vs=[u,v]∧VR K u x∧VR K v y:=by
 have:=h.length
 rcases vs with _ | ⟨u,_ | ⟨u',_ | ⟨_,r⟩⟩⟩<;>simp at this
 obtain ⟨x',y',e,h1,h2⟩:=h.two
 simp only [List.cons.injEq,and_true] at e
 obtain ⟨rfl,rfl⟩:=e
 exact ⟨u,u',rfl,h1,h2⟩
theorem FT {vs:List AV} {x y z:Value} (h:VRs K vs [x,y,z]):∃ u v r,vs=[u,v,r]∧VR K u x∧VR K v y∧VR K r z:=by
 have:=h.length
 rcases vs with _ | ⟨u,_ | ⟨u',_ | ⟨u'',_ | ⟨_,r⟩⟩⟩⟩<;>simp at this
 obtain ⟨x',y',z',e,h1,h2,h3⟩:=h.three
 simp only [List.cons.injEq,and_true] at e
 obtain ⟨rfl,rfl,rfl⟩:=e
 exact ⟨u,u',u'',rfl,h1,h2,h3⟩
theorem xe {a:Act} {e:Env} (he:ER K e a.tmps) {o:Oper} {q:POp} {xs:List Opd} {vs:List AV} {v:AV} (h:bo P o.op=some (.p q,xs)) (hev:evs e xs=some vs) (hv:q.ev vs=some v):kS P a o w K v:=by
 unfold kS execOp
 generalize o.op=op at h
 cases op with
 | move x=>
  obtain ⟨h1,h2⟩:=wO h
  cases h1
  obtain ⟨u,rfl,hu⟩:=mb (aD he h2 hev)
  cases hv
  exact ⟨_,rfl,hu⟩
 | assign x=>
  obtain ⟨h1,h2⟩:=wO h
  cases h1
  obtain ⟨u,rfl,hu⟩:=mb (aD he h2 hev)
  cases hv
  exact ⟨_,rfl,hu⟩
 | pick c x y=>
  obtain ⟨h1,h2⟩:=wO h
  cases h1
  obtain ⟨u1,u2,u3,rfl,h3,h4,h5⟩:=FT (aD he h2 hev)
  cases u1<;>simp only [POp.ev] at hv<;>cases hv
  rename_i b
  simp only [VR] at h3
  simp only [h3,asBool,Sem.run_bind,Sem.run_pure,Result.andThen_ok]
  cases b
  ·exact ⟨_,rfl,h5⟩
  exact ⟨_,rfl,h4⟩
 | build t ps=>
  obtain ⟨h1,h2⟩:=wO h
  have hvs:=aD he h2 hev
  have key:∀ z os,cF P t=some z→q=.build z os→((∃ fs,P.underlying t=some (.struct fs)∧dk P fs ps.toList=some os∧fs.toList.all (fun f=>bE (bh P f.type))=true)∨
    (∃ len e n,P.underlying t=some (.array len e)∧bh P e=some n∧os=ps.toList.map fun p=>(p.1 * n,n)))→∃ v',(do pure (Next.value (← Instr.build t (ps.map fun x=>(x.1,a.eval x.2)))):Sem Next).run P w=.ok (.value v') w∧VR K v v':=by
   intro z os hz hq hd
   subst hq
   simp only [POp.ev] at hv
   split at hv
   ·rename_i cs hcs
    cases hv
    have:=(vA (P:=P) (w:=w) (ps:=ps.toList) (a:=a) hz hd (by simpa [List.map_map,Function.comp_def] using hvs) hcs).lift
    simpa using this
   cases hv
  split at h1
  ·rename_i z fs hz hd
   split at h1
   ·rename_i os hos
    split at h1
    ·rename_i hall
     cases h1
     exact key z os hz rfl (.inl ⟨fs,hd,hos,hall⟩)
    cases h1
   cases h1
  ·rename_i z len e' hz hd
   split at h1
   ·rename_i n hn
    cases h1
    exact key z _ hz rfl (.inr ⟨len,e',n,hd,hn,rfl⟩)
   cases h1
  cases h1
 | nilCheck x=>
  obtain ⟨h1,h2⟩:=wO h
  cases h1
  obtain ⟨u,rfl,hu⟩:=mb (aD he h2 hev)
  cases u<;>simp only [POp.ev] at hv<;>cases hv
  ·have hu':=hu
   simp only [VR] at hu
   obtain ⟨a',i,e',_⟩:=hu
   simp only [e']
   exact ⟨_,rfl,by rw [e'] at hu'; exact hu'⟩
  ·have hu':=hu
   simp only [VR] at hu
   obtain ⟨ys,e',_⟩:=hu
   simp only [e']
   exact ⟨_,rfl,by rw [e'] at hu'; exact hu'⟩
  have hu':=hu
  simp only [VR] at hu
  obtain ⟨ys,e',_⟩:=hu
  simp only [e']
  exact ⟨_,rfl,by rw [e'] at hu'; exact hu'⟩
 | binOp op t x y yt=>
  obtain ⟨h1,h2⟩:=wO h
  have hvs:=aD he h2 hev
  refine aM.lift ?_
  split at h1
  ·exact gP (neg:=false) rfl h1 hv hvs
  ·exact gP (neg:=true) rfl h1 hv hvs
  cases h1; exact lx rfl hv hvs
 | unOp op t x=>
  obtain ⟨h1,h2⟩:=wO h
  cases h1
  obtain ⟨u,rfl,hu⟩:=mb (aD he h2 hev)
  simp only [POp.ev] at hv
  exact (Fr hv hu).lift
 | convert s d x=>
  obtain ⟨h1,h2⟩:=wO h
  obtain ⟨u,rfl,hu⟩:=mb (aD he h2 hev)
  refine aM.lift ?_
  split at h1
  ·rename_i k k' hs hd
   cases h1
   cases u<;>simp only [POp.ev] at hv<;>cases hv
   simp only [VR] at hu
   exact ⟨_,by rw [hu]; unfold convert; simp only [Sem.run_bind,run_underlying hs,run_underlying hd,Result.andThen_ok,Conv.intToInt]; rfl,by simp only [VR]⟩
  ·rename_i hs hd
   cases h1
   cases u<;>simp only [POp.ev] at hv<;>cases hv
   simp only [VR] at hu
   exact ⟨_,by rw [hu]; unfold convert; simp only [Sem.run_bind,run_underlying hs,run_underlying hd,Result.andThen_ok]; rfl,by simp only [VR]⟩
  ·split at h1<;>cases h1
  ·split at h1<;>cases h1
  ·(repeat' split at h1)<;>cases h1
  cases h1
 | makeInterface t x=>
  obtain ⟨h1,h2⟩:=wO h
  obtain ⟨u,rfl,hu⟩:=mb (aD he h2 hev)
  refine aM.lift ?_
  split at h1
  ·cases h1
  ·rename_i d hn hd
   cases h1
   simp only [POp.ev] at hv
   cases hv
   have hc:P.concrete t=true:=by
    unfold Program.concrete; rw [hd]
    cases d<;>first | rfl | exact absurd rfl (hn _)
   exact ⟨_,run_makeInterface w t _ hc,by simp only [VR]; exact ⟨_,rfl,hu⟩⟩
  cases h1
 | makeFunc fn first caps=>
  obtain ⟨h1,h2⟩:=wO h
  have hvs:=aD he h2 hev
  refine aM.lift ?_
  split at h1
  ·rename_i f hf
   cases h1
   simp only [POp.ev] at hv
   cases hv
   have e0:first = #[]:=by apply Array.ext'; simpa using hf
   subst e0
   exact ⟨_,rfl,by simp only [VR]; exact ⟨caps.map a.eval,by simp,by simpa using hvs⟩⟩
  cases h1
 | slice t x lo hi mx=>
  cases mx with
  | some m=>cases h
  | none=>
   obtain ⟨h1,h2⟩:=wO h
   obtain ⟨u,us,rfl,hu,hus⟩:∃ u us,vs=u::us∧VR K u (a.eval x)∧VRs K us ((eK lo (eK hi [])).map a.eval):=by
    have:=aD he h2 hev
    cases vs with
    | nil=>simp only [VRs,List.map_cons] at this; cases this
    | cons u us=>
     obtain ⟨x',xs',e',k1,k2⟩:=this.uncons
     simp only [List.map_cons,List.cons.injEq] at e'
     obtain ⟨rfl,rfl⟩:=e'
     exact ⟨u,us,rfl,k1,k2⟩
   refine aM.lift ?_
   split at h1
   ·rename_i hd
    cases h1
    cases u<;>first | (simp only [POp.ev] at hv; cases hv; done) | skip
    simp only [POp.ev,cL] at hv
    split at hv
    ·cases hv
    rename_i l vs' hl
    split at hv
    ·cases hv
    rename_i h' hh
    split at hv
    ·rename_i hlh
     cases hv
     obtain ⟨b1,b2⟩:=mn hus hl hh
     simp only [VR] at hu
     rw [hu]
     exact nT b1 b2 hlh.1 hlh.2 hd
    cases hv
   ·rename_i e' hd
    split at h1
    ·rename_i n hn
     split at h1
     ·cases h1
      simp only [POp.ev,dw] at hv
      split at hv
      ·cases hv
      rename_i l vs' hl
      split at hv
      ·cases hv
      rename_i h' hh
      split at hv
      ·rename_i hlh
       cases hv
       obtain ⟨b1,b2⟩:=mn hus hl hh
       exact Dd hu hlh.1 hlh.2.1 hlh.2.2 hd hn b1 b2
      cases hv
     cases h1
    cases h1
   cases h1
 | fieldAddr t x f=>
  obtain ⟨h1,h2⟩:=wO h
  obtain ⟨u,rfl,hu⟩:=mb (aD he h2 hev)
  refine aM.lift ?_
  split at h1
  ·rename_i fs hd
   split at h1
   ·rename_i fd hf
    split at h1
    ·rename_i n hn
     split at h1
     ·rename_i hp
      cases h1
      cases u<;>simp only [POp.ev] at hv<;>cases hv
      exact vN hu hd hf hn hp
     cases h1
    cases h1
   cases h1
  cases h1
 | field t x f=>
  obtain ⟨h1,h2⟩:=wO h
  obtain ⟨u,rfl,hu⟩:=mb (aD he h2 hev)
  refine aM.lift ?_
  split at h1
  ·rename_i fs hd
   split at h1
   ·rename_i fd hf
    split at h1
    ·rename_i n ha hn
     cases h1
     cases u<;>first | (simp only [POp.ev] at hv; cases hv; done) | skip
     simp only [POp.ev] at hv
     split at hv
     ·cases hv
      simp only [VR] at hu
      obtain ⟨ys,e',h3,h4⟩:=hu
      obtain ⟨v',h5,h6⟩:=pL (P:=P) (w:=w) (off:=fd.offset) h3 h4 ha hn
      exact ⟨v',by rw [e']; unfold Instr.field; simp only [Sem.run_bind,run_underlying hd,Result.andThen_ok,hf,asAgg,Sem.run_pure,h5],h6⟩
     cases hv
    ·rename_i n ha hn
     cases h1
     cases u<;>first | (simp only [POp.ev] at hv; cases hv; done) | skip
     simp only [POp.ev] at hv
     simp only [VR] at hu
     obtain ⟨ys,e',h3,h4⟩:=hu
     obtain ⟨v',h5,h6⟩:=qe (P:=P) (w:=w) h3 hv ha
     exact ⟨v',by rw [e']; unfold Instr.field; simp only [Sem.run_bind,run_underlying hd,Result.andThen_ok,hf,asAgg,Sem.run_pure,h5],h6⟩
    cases h1
   cases h1
  cases h1
 | indexAddr t x i=>
  obtain ⟨h1,h2⟩:=wO h
  obtain ⟨u,u',rfl,hu,hu'⟩:=zq (aD he h2 hev)
  refine aM.lift ?_
  split at h1
  ·rename_i e' hd
   split at h1
   ·rename_i n hn
    split at h1
    ·cases h1
     cases u'<;>first | (simp only [POp.ev] at hv; cases hv; done) | skip
     simp only [POp.ev] at hv
     split at hv
     ·rename_i hc
      cases hv
      simp only [VR] at hu'
      rw [hu']
      exact Fe hu hc hd hn
     cases hv
    cases h1
   cases h1
  ·rename_i len e' hd
   split at h1
   ·rename_i n hn
    split at h1
    ·cases h1
     cases u<;>first | (simp only [POp.ev] at hv; cases hv; done) | skip
     cases u'<;>first | (simp only [POp.ev] at hv; cases hv; done) | skip
     simp only [POp.ev] at hv
     split at hv
     ·rename_i hc
      cases hv
      simp only [VR] at hu'
      rw [hu']
      exact vR hu hc hd hn
     cases hv
    cases h1
   cases h1
  cases h1
 | index t x i=>
  obtain ⟨h1,h2⟩:=wO h
  obtain ⟨u,u',rfl,hu,hu'⟩:=zq (aD he h2 hev)
  refine aM.lift ?_
  split at h1
  ·rename_i hd
   cases h1
   cases u<;>first | (simp only [POp.ev] at hv; cases hv; done) | skip
   cases u'<;>first | (simp only [POp.ev] at hv; cases hv; done) | skip
   simp only [POp.ev] at hv
   split at hv
   ·rename_i h0
    split at hv
    ·rename_i b hb
     cases hv
     simp only [VR] at hu hu'
     rw [hu,hu']
     exact t9 h0 hb hd
    cases hv
   cases hv
  ·rename_i len e' hd
   split at h1
   ·rename_i n ha hn
    cases h1
    cases u<;>first | (simp only [POp.ev] at hv; cases hv; done) | skip
    cases u'<;>first | (simp only [POp.ev] at hv; cases hv; done) | skip
    simp only [POp.ev] at hv
    split at hv
    ·rename_i hc
     cases hv
     simp only [VR] at hu hu'
     obtain ⟨ys,e1,h3,h4⟩:=hu
     rw [e1,hu']
     obtain ⟨v',h5,h6⟩:=pL (P:=P) (w:=w) h3 h4 ha hn
     exact ⟨v',by unfold Instr.index; simp only [asIntOf,Sem.run_bind,Sem.run_pure,run_underlying hd,Result.andThen_ok]; rw [if_pos ⟨hc.1,hc.2.1⟩]; simp only [Sem.run_bind,aI hn,Result.andThen_ok,h5],h6⟩
    cases hv
   ·rename_i ha hn
    cases h1
    cases u<;>first | (simp only [POp.ev] at hv; cases hv; done) | skip
    cases u'<;>first | (simp only [POp.ev] at hv; cases hv; done) | skip
    simp only [POp.ev] at hv
    split at hv
    ·rename_i hc
     simp only [VR] at hu hu'
     obtain ⟨ys,e1,h3,h4⟩:=hu
     rw [e1,hu']
     obtain ⟨v',h5,h6⟩:=qe (P:=P) (w:=w) h3 hv ha
     exact ⟨v',by unfold Instr.index; simp only [asIntOf,Sem.run_bind,Sem.run_pure,run_underlying hd,Result.andThen_ok]; rw [if_pos hc]; simp only [Sem.run_bind,aI hn,Result.andThen_ok,Nat.mul_one,h5],h6⟩
    cases hv
   cases h1
  cases h1
 | extract t i=>
  obtain ⟨h1,h2⟩:=wO h
  cases h1
  obtain ⟨u,rfl,hu⟩:=mb (aD he h2 hev)
  cases u<;>first | (simp only [POp.ev] at hv; cases hv; done) | skip
  simp only [POp.ev] at hv
  simp only [VR] at hu
  obtain ⟨ys,e',h3⟩:=hu
  obtain ⟨v',h4,h5⟩:=h3.get i v hv
  rw [Array.getElem?_toList] at h4
  refine aM.lift ⟨v',?_,h5⟩
  rw [e']; unfold Instr.extract; simp only [h4]; rfl
 | call c=>
  obtain ⟨callee,args,argTypes⟩:=c
  simp only [bo] at h
  have blt:∀ b,ay (au P b argTypes.toList) args.toList=some (.p q,xs)→callee=.builtin b→∃ v',(do let d ← resolve a.eval ⟨callee,args,argTypes⟩ o.type; invoke d.target d.args:Sem Next).run P w=.ok (.value v') w∧VR K v v':=by
   intro b hw hb
   subst hb
   obtain ⟨h1,h2⟩:=wO hw
   have hvs:=aD he h2 hev
   have hargs:args.map a.eval=(args.toList.map a.eval).toArray:=by apply Array.ext'; simp
   have hlen:vs.length=args.toList.length:=by rw [hvs.length]; simp
   simp only [resolve,Sem.run_bind,Sem.run_pure,Result.andThen_ok,invoke,hargs]
   clear h hw hargs
   have two:∀ u v',args.toList=[u,v']→∃ x y,vs=[x,y]∧VR K x (a.eval u)∧VR K y (a.eval v'):=fun u v' e'=>by rw [e'] at hvs; exact zq hvs
   cases b with
   | len=>
    match hts:argTypes.toList,h1 with
    | [t],h1=>
     have hq:∃ u,vs=[u]:=by
      have:q=.lenStr∨q=.lenSl∨∃ n,q=.lenArr n:=by
       simp only [au] at h1
       split at h1<;>cases h1<;>simp
      rcases vs with _ | ⟨u,_ | ⟨u',r⟩⟩
      ·rcases this with rfl | rfl | ⟨n,rfl⟩<;>(simp only [POp.ev] at hv; cases hv)
      ·exact ⟨u,rfl⟩
      rcases this with rfl | rfl | ⟨n,rfl⟩
      ·cases u<;>(simp only [POp.ev] at hv; cases hv)
      ·simp only [POp.ev] at hv; cases hv
      simp only [POp.ev] at hv; cases hv
     obtain ⟨u,rfl⟩:=hq
     obtain ⟨x,e',hx⟩:=hvs.one
     rw [e']
     have hat:argTypes=[t].toArray:=by apply Array.ext'; simpa using hts
     have:=(vg h1 hv hx o.type (w:=w)).lift
     rw [hat]
     exact this
   | min=>
    match hts:argTypes.toList,h1 with
    | [t,t'],h1=>
     cases h1
     simp only [POp.ev] at hv
     unfold xq at hv
     split at hv
     ·split at hv
      ·rename_i hk; subst hk; cases hv
       obtain ⟨x,y,e',hx,hy⟩:=hvs.two
       simp only [VR] at hx hy
       rw [e',hx,hy]
       exact ⟨_,i9 yC,by simp only [VR]⟩
      cases hv
     cases hv
   | max=>
    match hts:argTypes.toList,h1 with
    | [t,t'],h1=>
     cases h1
     simp only [POp.ev] at hv
     unfold xK at hv
     split at hv
     ·split at hv
      ·rename_i hk; subst hk; cases hv
       obtain ⟨x,y,e',hx,hy⟩:=hvs.two
       simp only [VR] at hx hy
       rw [e',hx,hy]
       exact ⟨_,i9 yL,by simp only [VR]⟩
      cases hv
     cases hv
   | append=>
    match hts:argTypes.toList,h1 with
    | [t,t'],h1=>
     simp only [au] at h1
     (repeat' split at h1)<;>cases h1
   | copy=>
    match hts:argTypes.toList,h1 with
    | [t,t'],h1=>
     simp only [au] at h1
     (repeat' split at h1)<;>cases h1
   | clear=>
    match hts:argTypes.toList,h1 with
    | [t],h1=>
     simp only [au] at h1
     (repeat' split at h1)<;>cases h1
   | _=>simp only [au] at h1; cases h1
  split at h
  ·rename_i hc
   split at h
   ·obtain ⟨h1,h2⟩:=wO h; cases h1
   exact blt _ h rfl
  ·exact blt _ h rfl
  ·rename_i f
   obtain ⟨h1,h2⟩:=wO h
   have hvs:=aD he h2 hev
   unfold nj at h1
   split at h1
   ·rename_i k hk
    cases h1
    have hargs:args.map a.eval=(args.toList.map a.eval).toArray:=by apply Array.ext'; simp
    obtain ⟨v',g1,g2⟩:=vH (w:=w) hk hv hvs
    refine ⟨v',?_,g2⟩
    simp only [resolve,Act.eval,Deferred.ofValue,Sem.run_bind,Sem.run_pure,Result.andThen_ok,invoke,hargs]
    simpa using g1
   cases h1
  ·obtain ⟨h1,h2⟩:=wO h; cases h1
  obtain ⟨h1,h2⟩:=wO h; cases h1
 | alloc t=>
  obtain ⟨h1,h2⟩:=wO h
  (repeat' split at h1)<;>cases h1
 | box t x=>obtain ⟨h1,h2⟩:=wO h; cases h1
 | buildSlice t len ps=>
  obtain ⟨h1,h2⟩:=wO h
  (repeat' split at h1)<;>cases h1
 | load t x=>
  obtain ⟨h1,h2⟩:=wO h
  (repeat' split at h1)<;>cases h1
 | store t x y=>
  obtain ⟨h1,h2⟩:=wO h
  (repeat' split at h1)<;>cases h1
 | makeMap t r=>
  cases r with
  | none=>simp only [bo] at h; obtain ⟨h1,h2⟩:=wO h; cases h1
  | some x=>cases h
 | makeSlice t l c=>
  obtain ⟨h1,h2⟩:=wO h
  (repeat' split at h1)<;>cases h1
 | lookup t x i ok=>
  obtain ⟨h1,h2⟩:=wO h
  (repeat' split at h1)<;>cases h1
 | mapUpdate t m k x=>
  obtain ⟨h1,h2⟩:=wO h
  (repeat' split at h1)<;>cases h1
 | insert t m k x=>
  obtain ⟨h1,h2⟩:=wO h
  (repeat' split at h1)<;>cases h1
 | range t x=>
  obtain ⟨h1,h2⟩:=wO h
  (repeat' split at h1)<;>cases h1
 | next it s=>
  cases s with
  | true=>obtain ⟨h1,h2⟩:=wO h; cases h1
  | false=>cases h
 | panic x=>obtain ⟨h1,h2⟩:=wO h; cases h1
 | _=>cases h
end
end Go.Am
namespace Go.Am
open Go
section
variable {P:Program} {K:KM} {w:World} {B:Nat} {H:Heap}
theorem oT {w:World} {b off:Nat} {c:Array Value} {el:TypeId} {fz:Nat×Nat} (h:w.heap[b]? = some (.cells c el fz)):w.cell? ⟨b,off,none⟩=c[off]?:=by
 simp [World.cell?,h]
theorem im (h:Sim B K H w) {o v f n:Nat} {cs:List AV} {i:Info} (hK:K o=some i) (hc:H.cells o v f n=some cs) :
  v=i.ver∧cs.length=n∧cs.all AV.flat=true∧∃ ds,VRs K cs ds∧∀ j y,ds[j]? = some y→w.cell? ⟨i.blk,i.base+f+j,none⟩=some y:=by
 unfold Heap.cells at hc
 obtain ⟨ob,h1,h2⟩:=h.obj o i hK
 rw [h1] at hc
 cases ob with
 | map es=>cases hc
 | iter s p=>cases hc
 | row all ver wr=>
  simp only at hc
  split at hc
  ·rename_i hv
   cases hc
   obtain ⟨g1,c,el,fz,g2,g3,g4,g5,g6⟩:=h2
   have hlen:((all.drop f).take n).length=n:=by simp; omega
   refine ⟨by rw [g1]; exact hv.1,hlen,?_,(List.range n).map (fun j=>c.getD (i.base+f+j) Go.undef),?_,?_⟩
   ·rw [List.all_eq_true]
    intro x hx
    obtain ⟨j,hj⟩:=List.mem_iff_getElem?.1 (List.mem_of_mem_drop (List.mem_of_mem_take hx))
    exact (g5 j x hj).1
   ·refine VRs.of_get (by simp; omega) fun j x hx=>?_
    rw [List.getElem?_take] at hx
    split at hx
    ·rename_i hj
     rw [List.getElem?_drop] at hx
     obtain ⟨y,k1,k2⟩:=(g5 (f+j) x hx).2
     refine ⟨y,?_,k2⟩
     rw [List.getElem?_map,List.getElem?_range hj]
     simp only [Option.map_some,Array.getD_eq_getD_getElem?]
     rw [show i.base+f+j=i.base+(f+j) by omega,k1]; rfl
    cases hx
   intro j y hy
   rw [List.getElem?_map] at hy
   rcases Nat.lt_or_ge j n with hj | hj
   ·rw [List.getElem?_range hj] at hy
    simp only [Option.map_some,Option.some.injEq,Array.getD_eq_getD_getElem?] at hy
    rw [oT g2]
    have hb:i.base+f+j < c.size:=by omega
    rw [Array.getElem?_eq_getElem hb] at hy ⊢
    simpa using hy
   rw [List.getElem?_eq_none (by simpa using hj)] at hy; cases hy
  cases hc
theorem sV {a:Addr} {y:Value} (h:w.cell? a=some y):(load a).run P w=.ok y w:=by
 rw [run_load,h]
theorem pH (h:Sim B K H w) {o v f:Nat} {x:AV} {x':Value} (hx:VR K (.ptr o v f) x') (hc:H.cells o v f 1=some [x]) {t:TypeId} (ha:p6 P t=some false):aM P (Instr.loadAt t x') w K x:=by
 simp only [VR] at hx
 obtain ⟨a,i,rfl,hK,hv,hg⟩:=hx
 obtain ⟨g1,g2,g3,ds,g4,g5⟩:=im h hK hc
 obtain ⟨y,rfl,hy⟩:=g4.one
 have hcell:=g5 0 y rfl
 rw [Nat.add_zero,← hg g1] at hcell
 refine ⟨y,?_,hy⟩
 unfold Instr.loadAt
 simp only [Instr.sureAddr,Sem.run_bind,Sem.run_pure,Result.andThen_ok,loadVar,cN ha,Bool.false_eq_true,if_false,sV hcell]
theorem dV {b off:Nat} {ds:List Value} {n:Nat} (hn:ds.length=n) (h:∀ j y,ds[j]? = some y→w.cell? ⟨b,off+j,none⟩=some y):(loadCells ⟨b,off,none⟩ n).run P w=.ok ds.toArray w:=by
 subst hn
 exact run_loadCells_list w _ ds fun j y hy=>by rw [jV]; exact h j y hy
theorem pc (h:Sim B K H w) {o v f n:Nat} {cs:List AV} {x':Value} (hx:VR K (.ptr o v f) x') (hc:H.cells o v f n=some cs) {t:TypeId} (ha:p6 P t=some true) (hz:bh P t=some n):aM P (Instr.loadAt t x') w K (.agg cs):=by
 simp only [VR] at hx
 obtain ⟨a,i,rfl,hK,hv,hg⟩:=hx
 obtain ⟨g1,g2,g3,ds,g4,g5⟩:=im h hK hc
 refine ⟨.agg ds.toArray,?_,by simp only [VR]; exact ⟨_,rfl,g4,g3⟩⟩
 unfold Instr.loadAt
 rw [hg g1]
 simp only [Instr.sureAddr,Sem.run_bind,Sem.run_pure,Result.andThen_ok,loadVar,cN ha,if_true,aI hz,dV (by rw [← g4.length,g2]) g5]
theorem sg (h:Sim B K H w) {esz:Nat} {s:AV} {cs:List AV} {x':Value} (hx:VR K s x') (hc:H.rows esz s=some cs) :
  cs.length=s.slen * esz∧cs.all AV.flat=true∧∃ ds,VRs K cs ds∧((s=.nilSlice∧ds=[])∨∃ a c,x'=.slice (some a) s.slen c∧(0 < s.slen→∀ w',w'.heap=w.heap→(loadCells a (s.slen * esz)).run P w'=.ok ds.toArray w')∧(s.slen=0→ds=[])):=by
 cases s<;>simp only [Heap.rows] at hc<;>first | (cases hc; done) | skip
 ·cases hc
  exact ⟨by simp [AV.slen],rfl,[],VRs.nil,.inl ⟨rfl,rfl⟩⟩
 simp only [VR] at hx
 obtain ⟨a,c,i,rfl,hK,hn,hv,hg⟩:=hx
 obtain ⟨g1,g2,g3,ds,g4,g5⟩:=im h hK hc
 refine ⟨g2,g3,ds,g4,.inr ⟨a,c,rfl,fun hl w' hw'=>?_,fun hl=>?_⟩⟩
 ·simp only [AV.slen] at hl ⊢
  rw [(hg g1).2 (by omega)]
  exact dV (by rw [← g4.length,g2]) (fun j y hy=>by have:=g5 j y hy; unfold World.cell? at this ⊢; rw [hw']; exact this)
 simp only [AV.slen] at hl
 exact List.eq_nil_of_length_eq_zero (by rw [← g4.length,g2,hl,Nat.zero_mul])
theorem e7 (a:Addr):(loadCells a 0).run P w=.ok #[] w:=rfl
theorem jp:∀ {cs:List AV} {bs:List UInt8} {ds:List Value},d6 cs=some bs→VRs K cs ds→∃ ns:List Int,ds=ns.map (Value.int .u8)∧ns.map (fun n=>UInt8.ofNat n.toNat)=bs
 | [],bs,ds,h,hv=>by
  cases h; simp only [VRs] at hv; subst hv; exact ⟨[],rfl,rfl⟩
 | x::cs,bs,ds,h,hv=>by
  obtain ⟨y,ys,rfl,h1,h2⟩:=hv.uncons
  simp only [d6] at h
  split at h
  ·cases h
  rename_i b hb
  split at h
  ·cases h
  rename_i bs' hbs
  cases h
  obtain ⟨ns,rfl,e⟩:=jp hbs h2
  unfold tx at hb
  split at hb
  ·rename_i n
   cases hb
   simp only [VR] at h1
   exact ⟨n::ns,by rw [h1]; rfl,by simp [e]⟩
  cases hb
theorem qt (ns:List Int):∀ (s:ByteArray),(ns.foldl (fun r n=>r.push (UInt8.ofNat n.toNat)) s).data.toList=s.data.toList++ns.map (fun n=>UInt8.ofNat n.toNat):=by
 induction ns with
 | nil=>intro s; simp
 | cons n ns ih=>intro s; rw [List.foldl_cons,ih]; simp [ByteArray.push]
theorem lz (h:Sim B K H w) {s:AV} {cs:List AV} {bs:List UInt8} {x':Value} (hx:VR K s x') (hc:H.rows 1 s=some cs) (hb:d6 cs=some bs):aM P (Conv.bytesToString x') w K (.str bs):=by
 obtain ⟨g1,g2,ds,g3,g4⟩:=sg (P:=P) h hx hc
 obtain ⟨ns,e1,e2⟩:=jp hb g3
 rcases g4 with ⟨rfl,rfl⟩ | ⟨a,c,rfl,g5,g6⟩
 ·simp only [VR] at hx
  subst hx
  have:ns=[]:=by cases ns<;>simp at e1; rfl
  subst this
  simp at e2
  subst e2
  exact ⟨.string .empty,rfl,by simp only [VR]; rfl⟩
 have hl:(loadCells a s.slen).run P w=.ok (ns.map (Value.int .u8)).toArray w:=by
  by_cases h0:s.slen=0
  ·rw [h0,e7,← e1,g6 h0]
  rw [← e1]; simpa using g5 (by omega) w rfl
 refine ⟨_,run_bytesToString w a _ c ns hl,?_⟩
 simp only [VR,Value.string.injEq]
 apply WideShapes.bytes_inj
 rw [qt]
 simpa using e2
end
end Go.Am
