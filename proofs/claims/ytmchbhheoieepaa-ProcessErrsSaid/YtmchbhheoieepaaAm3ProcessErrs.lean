/- An abstract machine for the model's code, and that the model does what it does. No condition. Own work. -/
import Derived.Test.YtmchbhheoieepaaAm2ProcessErrs
import Derived.Laws.NewFold
set_option linter.unusedSimpArgs false
set_option linter.unusedVariables false
namespace Go.Am
open Go Go.MapKept
section
variable {P:Program} {K:KM} {w:World} {B:Nat} {H:Heap}
def dy:TypeDesc→Option Nat
 | .int _=>some 1
 | .string=>some 2
 | _=>none
theorem qQ (a b:List UInt8):((⟨a.toArray⟩:ByteArray)==⟨b.toArray⟩)=(a==b):=by
 rw [Bool.eq_iff_iff,bytes_beq]
 constructor
 ·intro h
  have:(⟨a.toArray⟩:ByteArray).data.toList=(⟨b.toArray⟩:ByteArray).data.toList:=by rw [h]
  simpa using this
 intro h; simp at h; rw [h]
theorem fK {q:Nat} {k k2:AV} {b:Bool} {x x2:Value} {d:TypeDesc} (hk:iy q k=true) (hd:dy d=some q) (h:mh k k2=some b) (hx:VR K k x) (hx2:VR K k2 x2) :
  Instr.sameNow d x x2=some b:=by
 unfold mh at h
 split at h
 ·simp only [VR] at hx hx2
  subst hx; subst hx2
  split at h
  ·rename_i e; subst e; cases h
   have hq:q=1:=by unfold iy at hk; split at hk<;>simp_all
   cases d<;>simp [dy] at hd<;>first | omega | skip
   simp [Instr.sameNow]; rw [Bool.eq_iff_iff]; simp
  cases h
 ·simp only [VR] at hx hx2
  subst hx; subst hx2
  cases h
  have hq:q=2:=by unfold iy at hk; split at hk<;>simp_all
  cases d<;>simp [dy] at hd<;>first | omega | skip
  simp [Instr.sameNow,qQ]
 cases h
theorem mg {q:Nat} {k:AV} {x:Value} {d:TypeDesc} (hk:iy q k=true) (hd:dy d=some q) (hx:VR K k x):∀ {es:List (AV×AV)} {l:List MapEntry} {r:Option AV},VRm K es l→i8 k es=some r→∀ i,
  ∃ r',Instr.findNow d x l i=some r'∧match r,r' with
   | none,none=>True
   | some v,some (_,v')=>VR K v v'
   | _,_=>False
 | [],l,r,hm,h,i=>by
  simp only [VRm] at hm; subst hm; cases h
  exact ⟨none,rfl,trivial⟩
 | (k2,v2)::es,l,r,hm,h,i=>by
  simp only [VRm] at hm
  obtain ⟨e,ents,rfl,h1,h2,h3⟩:=hm
  simp only [i8] at h
  split at h
  ·cases h
  ·rename_i he
   cases h
   exact ⟨some (i,e.val),by simp only [Instr.findNow,fK hk hd he hx h1],h2⟩
  rename_i he
  obtain ⟨r',g1,g2⟩:=mg hk hd hx h3 h (i+1)
  exact ⟨r',by simp only [Instr.findNow,fK hk hd he hx h1,g1],g2⟩
theorem eT {q:Nat} {k:AV} {x:Value} {d:TypeDesc} {kt:TypeId} (hu:P.underlying kt=some d) (hk:iy q k=true) (hd:dy d=some q) (hx:VR K k x) (em:Bool):(Instr.checkKey em 10000 kt x).run P w=.ok () w:=by
 have e:Instr.checkKey em 10000 kt x=Instr.checkKey em (9999+1) kt x:=rfl
 rw [e]
 unfold Instr.checkKey
 rw [Sem.run_bind,run_underlying hu]
 cases d<;>simp [dy] at hd
 ·rfl
 rfl
theorem VRm.length:∀ {es:List (AV×AV)} {l:List MapEntry},VRm K es l→es.length=l.length
 | [],l,h=>by simp only [VRm] at h; subst h; rfl
 | (_,_)::es,l,h=>by
  simp only [VRm] at h
  obtain ⟨e,ents,rfl,_,_,h3⟩:=h
  simp [VRm.length h3]
theorem ma (h:Sim B K H w) {kq:Nat} {ok:Bool} {zero m k v:AV} {m' k':Value} (hv:(ROp.lookup kq ok zero).ev [m,k] H=some v) (hm:VR K m m') (hk:VR K k k') {t kt et:TypeId} {d:TypeDesc}
  (ht:P.underlying t=some (.map kt et)) (hkt:P.underlying kt=some d) (hd:dy d=some kq) (hz:kU P et=some zero):aM P (Instr.lookup t m' k' ok) w K v:=by
 obtain ⟨z',hz1,hz2⟩:=oO (K:=K) hz w
 cases m<;>first | (simp only [ROp.ev] at hv; cases hv; done) | skip
 ·simp only [ROp.ev] at hv
  split at hv
  ·rename_i hko
   simp only [VR] at hm; subst hm
   have hc:=eT (P:=P) (w:=w) hkt hko hd hk true
   cases hv
   refine ⟨if ok then .tuple #[z',.bool false] else z',?_,?_⟩
   ·unfold Instr.lookup
    simp only [Sem.run_bind,run_underlying ht,Result.andThen_ok,Sem.run_pure]
    have hf:(Instr.findKey kt k' (#[]:Array MapEntry).toList).run P w=.ok none w:=by
     simp [Instr.findKey,run_underlying hkt,Instr.findNow]
    have he:(#[]:Array MapEntry).isEmpty=true:=rfl
    rw [he,hc]
    simp only [Result.andThen_ok,hf,Sem.run_bind,hz1,Sem.run_pure]
   cases ok
   ·exact hz2
   simp only [if_true,VR]; exact ⟨_,rfl,VRs.cons hz2 (VRs.cons (by simp only [VR]) VRs.nil)⟩
  cases hv
 rename_i o
 simp only [ROp.ev] at hv
 split at hv
 ·rename_i es hes
  split at hv
  ·rename_i hko
   simp only [VR] at hm
   obtain ⟨r,i,rfl,hK,hr⟩:=hm
   obtain ⟨ob,h1,h2⟩:=h.obj o i hK
   rw [hes] at h1; cases h1
   obtain ⟨g1,g2,ents,clock,g3,g4⟩:=h2
   rw [← hr g1] at g3
   have hc:=eT (P:=P) (w:=w) hkt hko hd hk ents.isEmpty
   have hgo:=MapKept.run_getObj_map (P:=P) g3
   have fin:∀ rr,i8 k es=some rr→v=(match rr with
     | some u=>if ok=true then .tuple [u,.bool true] else u
     | none=>if ok=true then .tuple [zero,.bool false] else zero)→aM P (Instr.lookup t (.map (some r)) k' ok) w K v:=by
    intro rr hrr hvv
    obtain ⟨r',f1,f2⟩:=mg hko hd hk g4 hrr 0
    have hf:(Instr.findKey kt k' ents.toList).run P w=.ok r' w:=by
     simp [Instr.findKey,run_underlying hkt,f1]
    cases rr with
    | none=>
     cases r' with
     | some p=>exact f2.elim
     | none=>
      refine ⟨if ok then .tuple #[z',.bool false] else z',?_,?_⟩
      ·unfold Instr.lookup
       simp only [Sem.run_bind,run_underlying ht,Result.andThen_ok,Sem.run_pure,hgo,hc,hf,hz1]
      subst hvv
      cases ok
      ·exact hz2
      simp only [if_true,VR]; exact ⟨_,rfl,VRs.cons hz2 (VRs.cons (by simp only [VR]) VRs.nil)⟩
    | some u=>
     cases r' with
     | none=>exact f2.elim
     | some p=>
      obtain ⟨j,u'⟩:=p
      refine ⟨if ok then .tuple #[u',.bool true] else u',?_,?_⟩
      ·unfold Instr.lookup
       simp only [Sem.run_bind,run_underlying ht,Result.andThen_ok,Sem.run_pure,hgo,hc,hf]
      subst hvv
      cases ok
      ·exact f2
      simp only [if_true,VR]; exact ⟨_,rfl,VRs.cons f2 (VRs.cons (by simp only [VR]) VRs.nil)⟩
   split at hv
   ·rename_i u hu; exact fin _ hu (by cases hv; rfl)
   ·rename_i hu; exact fin _ hu (by cases hv; rfl)
   cases hv
  cases hv
 cases hv
theorem rx (h:Sim B K H w) {m v:AV} {m':Value} (hv:ROp.lenMap.ev [m] H=some v) (hm:VR K m m') {t kt et:TypeId} (ht:P.underlying t=some (.map kt et)) (ty:TypeId):aM P (Builtin.len_ #[t] ty #[m']) w K v:=by
 cases m<;>first | (simp only [ROp.ev] at hv; cases hv; done) | skip
 ·simp only [ROp.ev] at hv
  cases hv
  simp only [VR] at hm; subst hm
  exact ⟨_,by unfold Builtin.len_; simp [run_underlying ht]; rfl,by simp [VR,goInt]⟩
 rename_i o
 simp only [ROp.ev] at hv
 split at hv
 ·rename_i es hes
  cases hv
  simp only [VR] at hm
  obtain ⟨r,i,rfl,hK,hr⟩:=hm
  obtain ⟨ob,h1,h2⟩:=h.obj o i hK
  rw [hes] at h1; cases h1
  obtain ⟨g1,g2,ents,clock,g3,g4⟩:=h2
  rw [← hr g1] at g3
  have hgo:=MapKept.run_getObj_map (P:=P) g3
  refine ⟨goInt ents.size,by unfold Builtin.len_; simp [run_underlying ht,hgo],?_⟩
  have:=VRm.length g4
  simp [VR,goInt,this]
 cases hv
theorem wI (hs:Sim B K H w) {a:Act} {e:Env} (he:ER K e a.tmps) {o:Oper} {q:ROp} {xs:List Opd} {vs:List AV} {v:AV} (h:bo P o.op=some (.r q,xs)) (hev:evs e xs=some vs) (hv:q.ev vs H=some v):kS P a o w K v:=by
 unfold kS execOp
 generalize o.op=op at h
 cases op with
 | load t x=>
  obtain ⟨h1,h2⟩:=wO h
  obtain ⟨u,rfl,hu⟩:=mb (aD he h2 hev)
  refine aM.lift ?_
  split at h1
  ·rename_i n ha hn
   cases h1
   cases u<;>first | (simp only [ROp.ev] at hv; cases hv; done) | skip
   simp only [ROp.ev] at hv
   split at hv
   ·rename_i cs hcs
    cases hv
    exact pc hs hu hcs ha hn
   cases hv
  ·rename_i n ha hn
   cases h1
   cases u<;>first | (simp only [ROp.ev] at hv; cases hv; done) | skip
   simp only [ROp.ev] at hv
   split at hv
   ·rename_i x hcs
    cases hv
    exact pH hs hu hcs ha
   cases hv
  cases h1
 | convert s d x=>
  obtain ⟨h1,h2⟩:=wO h
  obtain ⟨u,rfl,hu⟩:=mb (aD he h2 hev)
  refine aM.lift ?_
  split at h1
  ·cases h1
  ·cases h1
  ·(repeat' split at h1)<;>cases h1
  ·rename_i e' hss hdd
   split at h1
   ·rename_i hee
    cases h1
    simp only [ROp.ev] at hv
    split at hv
    ·rename_i cs hcs
     split at hv
     ·rename_i bs hbs
      cases hv
      obtain ⟨v',k1,k2⟩:=lz (P:=P) hs hu hcs hbs
      refine ⟨v',?_,k2⟩
      have hsh:(∃ y,a.eval x=.slice none 0 y)∨∃ b n c,a.eval x=.slice b n c:=by
       cases u<;>simp only [Heap.rows] at hcs<;>first | (cases hcs; done) | skip
       ·simp only [VR] at hu; exact .inl ⟨_,hu⟩
       simp only [VR] at hu; obtain ⟨b,c,i,hu,_⟩:=hu; exact .inr ⟨_,_,_,hu⟩
      unfold convert
      rcases hsh with ⟨y,hsh⟩ | ⟨b,n,c,hsh⟩
      ·rw [hsh] at k1 ⊢
       simp only [Sem.run_bind,run_underlying hss,run_underlying hdd,Result.andThen_ok,run_underlying hee]
       exact k1
      rw [hsh] at k1 ⊢
      simp only [Sem.run_bind,run_underlying hss,run_underlying hdd,Result.andThen_ok,run_underlying hee]
      exact k1
     cases hv
    cases hv
   cases h1
  ·(repeat' split at h1)<;>cases h1
  cases h1
 | lookup t x i ok=>
  obtain ⟨h1,h2⟩:=wO h
  obtain ⟨u,u',rfl,hu,hu'⟩:=zq (aD he h2 hev)
  refine aM.lift ?_
  split at h1
  ·rename_i kt et ht
   split at h1
   ·rename_i k z hkt hz
    cases h1
    exact ma hs hv hu hu' ht hkt rfl hz
   ·rename_i z hkt hz
    cases h1
    exact ma hs hv hu hu' ht hkt rfl hz
   cases h1
  cases h1
 | call c=>
  obtain ⟨callee,args,argTypes⟩:=c
  simp only [bo] at h
  have blt:∀ b,ay (au P b argTypes.toList) args.toList=some (.r q,xs)→callee=.builtin b→∃ v',(do let d ← resolve a.eval ⟨callee,args,argTypes⟩ o.type; invoke d.target d.args:Sem Next).run P w=.ok (.value v') w∧VR K v v':=by
   intro b hw hb
   subst hb
   obtain ⟨h1,h2⟩:=wO hw
   have hvs:=aD he h2 hev
   have hargs:args.map a.eval=(args.toList.map a.eval).toArray:=by apply Array.ext'; simp
   simp only [resolve,Sem.run_bind,Sem.run_pure,Result.andThen_ok,invoke,hargs]
   clear h hw hargs
   cases b with
   | len=>
    match hts:argTypes.toList,h1 with
    | [t],h1=>
     have hat:argTypes=[t].toArray:=by apply Array.ext'; simpa using hts
     simp only [au] at h1
     split at h1
     ·cases h1
     ·cases h1
     ·cases h1
     ·rename_i kt et ht
      cases h1
      have hq:∃ u,vs=[u]:=by
       rcases vs with _ | ⟨u,_ | ⟨u',r⟩⟩
       ·simp only [ROp.ev] at hv; cases hv
       ·exact ⟨u,rfl⟩
       cases u<;>(simp only [ROp.ev] at hv; cases hv)
      obtain ⟨u,rfl⟩:=hq
      obtain ⟨x,e',hx⟩:=hvs.one
      rw [e',hat]
      exact (rx hs hv hx ht o.type).lift
     cases h1
   | append=>
    match hts:argTypes.toList,h1 with
    | [t,t'],h1=>
     simp only [au] at h1
     (repeat' split at h1)<;>cases h1
   | copy=>
    match hts:argTypes.toList,h1 with
    | [t,t'],h1=>
     simp only [au] at h1
     (repeat' split at h1)<;>cases h1
   | min=>match hts:argTypes.toList,h1 with
    | [t,t'],h1=>cases h1
   | max=>match hts:argTypes.toList,h1 with
    | [t,t'],h1=>cases h1
   | clear=>
    match hts:argTypes.toList,h1 with
    | [t],h1=>
     simp only [au] at h1
     (repeat' split at h1)<;>cases h1
   | _=>simp only [au] at h1; cases h1
  split at h
  ·rename_i hc
   split at h
   ·obtain ⟨h1,h2⟩:=wO h; cases h1
   exact blt _ h rfl
  ·exact blt _ h rfl
  ·obtain ⟨h1,h2⟩:=wO h; unfold nj at h1; split at h1<;>cases h1
  ·obtain ⟨h1,h2⟩:=wO h; cases h1
  obtain ⟨h1,h2⟩:=wO h; cases h1
 | binOp op t x y yt=>
  obtain ⟨h1,h2⟩:=wO h
  split at h1
  ·unfold bK at h1; (repeat' (first | split at h1 | (cases hh:P.eqGuardType P.depth t<;>rw [hh] at h1<;>simp only [cond_true,cond_false] at h1)))<;>cases h1
  ·unfold bK at h1; (repeat' (first | split at h1 | (cases hh:P.eqGuardType P.depth t<;>rw [hh] at h1<;>simp only [cond_true,cond_false] at h1)))<;>cases h1
  cases h1
 | makeMap t r=>
  cases r with
  | none=>simp only [bo] at h; obtain ⟨h1,h2⟩:=wO h; cases h1
  | some x=>cases h
 | next it s=>
  cases s with
  | true=>obtain ⟨h1,h2⟩:=wO h; cases h1
  | false=>cases h
 | slice t x lo hi mx=>
  cases mx with
  | some m=>cases h
  | none=>
   obtain ⟨h1,h2⟩:=wO h
   (repeat' split at h1)<;>cases h1
 | panic x=>obtain ⟨h1,h2⟩:=wO h; cases h1
 | move x=>obtain ⟨h1,h2⟩:=wO h; cases h1
 | assign x=>obtain ⟨h1,h2⟩:=wO h; cases h1
 | pick c x y=>obtain ⟨h1,h2⟩:=wO h; cases h1
 | box t x=>obtain ⟨h1,h2⟩:=wO h; cases h1
 | nilCheck x=>obtain ⟨h1,h2⟩:=wO h; cases h1
 | unOp op t x=>obtain ⟨h1,h2⟩:=wO h; cases h1
 | extract t i=>obtain ⟨h1,h2⟩:=wO h; cases h1
 | alloc t | build t ps | buildSlice t len ps | store t x y | makeInterface t x | makeFunc fn first caps | makeSlice t l c | fieldAddr t x f | field t x f | indexAddr t x i | index t x i | mapUpdate t m k x | insert t m k x | range t x=>
  obtain ⟨h1,h2⟩:=wO h
  (repeat' split at h1)<;>cases h1
 | _=>cases h
end
end Go.Am
namespace Go.Am
open Go Go.RowKit
section
variable {P:Program} {K:KM} {w:World} {B:Nat} {H:Heap}
theorem be (z:List AV):∀ k,(d7 z k).length=k * z.length
 | 0=>by simp [d7]
 | k+1=>by simp [d7,be z k,Nat.add_mul]; omega
theorem ik (z:List AV) (hz:0 < z.length):∀ (k j:Nat),j < k * z.length→(d7 z k)[j]? = z[j % z.length]?
 | 0,j,h=>by simp at h
 | k+1,j,h=>by
  simp only [d7]
  by_cases hj:j < z.length
  ·rw [List.getElem?_append_left hj,Nat.mod_eq_of_lt hj]
  rw [List.getElem?_append_right (by omega),ik z hz k _ (by rw [Nat.add_mul] at h; omega)]
  congr 1
  rw [← Nat.mod_eq_sub_mod (by omega)]
theorem fi {z:List AV} (hz:z.all AV.flat=true):∀ k,(d7 z k).all AV.flat=true
 | 0=>rfl
 | k+1=>by simp only [d7,List.all_append,hz,fi hz k,Bool.and_self]
theorem uy (zero:Array Value) (m j:Nat) (h:j < m) (hz:0 < zero.size):((Array.range m).map fun i=>zero[i % zero.size]!)[j]? = zero[j % zero.size]?:=by
 have hm:j % zero.size < zero.size:=Nat.mod_lt _ hz
 rw [Array.getElem?_map,Array.getElem?_eq_getElem (by simpa using h)]
 simp [hm]
theorem ry {z:List AV} {zero:Array Value} (hz:VRs K z zero.toList) (h0:0 < z.length) (k:Nat):VRs K (d7 z k) ((Array.range (k * z.length)).map fun i=>zero[i % zero.size]!).toList:=by
 have hl:z.length=zero.size:=by rw [hz.length]; simp
 refine VRs.of_get (by rw [be]; simp) fun j x hx=>?_
 have hj:j < k * z.length:=by
  rcases Nat.lt_or_ge j (k * z.length) with h | h
  ·exact h
  rw [List.getElem?_eq_none (by rw [be]; exact h)] at hx; cases hx
 rw [ik z h0 k j hj] at hx
 obtain ⟨y,h1,h2⟩:=hz.get _ x hx
 refine ⟨y,?_,h2⟩
 rw [Array.getElem?_toList,uy _ _ _ hj (by omega),← hl]
 rw [Array.getElem?_toList] at h1
 exact h1
theorem KM.put_self (K:KM) (o:Nat) (i:Info):(K.put o i) o=some i:=by simp [KM.put]
theorem KM.put_ne (K:KM) {o x:Nat} (i:Info) (h:x≠o):(K.put o i) x=K x:=by simp [KM.put,h]
theorem cK (w:World) (o:Obj):(w.alloc o).heap[w.heap.size]? = some o:=by
 show (w.heap.push o)[w.heap.size]? = _
 simp
theorem dD (w:World) (o:Obj) (k:Nat) (h:k < w.heap.size):(w.alloc o).heap[k]? = w.heap[k]?:=Below.heap_alloc w o k h
theorem dW (h:Sim B K H w) {id:Nat} {cs:List AV} {c:Array Value} {el:TypeId} (hK:K id=none) (hid:H.get id=some (.row cs 0 true)) (hlt:id < H.n)
  (hf:cs.all AV.flat=true) (hc:∀ (j:Nat) (x:AV),cs[j]? = some x→∃ y,c[j]? = some y∧VR K x y) (hle:cs.length≤c.size) (fz:Nat×Nat) (hfz:c.size≤fz.1∨fz=(0,0)) {w':World}
  (hw:w'.heap=w.heap.push (.cells c el fz)):Sim B (K.put id ⟨0,w.heap.size,0,c.size⟩) H w':=by
 refine h.add hK hid hlt rfl (fun k hk=>?_) (by rw [hw]; simp) ?_
 ·rw [hw,Array.getElem?_push,if_neg (by omega)]
 refine ⟨rfl,c,el,fz,?_,rfl,by simpa using hle,fun j x hx=>?_,fun _=>⟨h.big,?_⟩⟩
 ·rw [hw]; simp
 ·refine ⟨(List.all_eq_true.1 hf) x (List.mem_of_getElem? hx),?_⟩
  obtain ⟨y,h1,h2⟩:=hc j x hx
  exact ⟨y,by rw [Nat.zero_add]; exact h1,VR.mono (KLe.put hK) _ _ h2⟩
 rcases hfz with h1 | h1
 ·exact .inr h1
 subst h1; exact .inl rfl
theorem VRs.get_arr {as:List AV} {c:Array Value} (h:VRs K as c.toList) (j:Nat) (x:AV) (hx:as[j]? = some x):∃ y,c[j]? = some y∧VR K x y:=by
 obtain ⟨y,h1,h2⟩:=h.get j x hx
 exact ⟨y,by rw [← Array.getElem?_toList]; exact h1,h2⟩
def jH (P:Program) (B:Nat) (K:KM) (H:Heap) (id:Nat) (s:Sem Value) (w:World) (v:AV):Prop:=
 ∃ v' w' K',s.run P w=.ok v' w'∧Below B w w'∧KLe K K'∧(∀ x,x≠id→K' x=K x)∧Sim B K' H w'∧VR K' v v'
theorem dp {w w':World} {o:Obj} (hB:B≤w.heap.size) (h:w'=w.alloc o):Below B w w':=by
 subst h; exact (Below.refl B w).alloc hB o
theorem gj {w:World}:Below B w w.drew:=(Below.refl B w).drew
theorem mo (h:Sim B K H w) {id:Nat} {cs:List AV} {v0:Value} (t:TypeId) (hK:K id=none) (hid:H.get id=some (.row cs 0 true)) (hlt:id < H.n)
  (hc:VRs K cs v0.cells.toList) (hf:cs.all AV.flat=true):jH P B K H id (do pure (.pointer (some (← newVar t v0)))) w (.ptr id 0 0):=by
 refine ⟨.pointer (some ⟨w.heap.size,0,none⟩),w.alloc (.cells v0.cells t),K.put id ⟨0,w.heap.size,0,v0.cells.size⟩,rfl,dp h.big rfl,KLe.put hK,fun x hx=>KM.put_ne K _ hx,?_,?_⟩
 ·exact dW h hK hid hlt hf (fun j x hx=>hc.get_arr j x hx) (by rw [hc.length]; simp) (0,0) (.inr rfl) rfl
 simp only [VR]
 exact ⟨_,_,rfl,KM.put_self K id _,Nat.le_refl _,fun _=>rfl⟩
theorem fc {id n esz:Nat} {c:Nat} {i:Info} (hi:K id=some i) (h0:i.ver=0) (hn:n≤c) (hl:i.base=0) (hlim:c * esz≤i.lim):VR K (.slice id 0 0 n esz) (.slice (some ⟨i.blk,0,none⟩) n c):=by
 simp only [VR]
 exact ⟨_,c,i,rfl,hi,hn,by omega,fun _=>⟨by omega,fun _=>by rw [hl]⟩⟩
end
end Go.Am
namespace Go.Am
open Go Go.RowKit
section
variable {P:Program} {K:KM} {w:World} {B:Nat} {H:Heap}
theorem ke {x:Int} (h0:0≤x) (h1:x≤1099511627776):IntKind.i64.wrap x=x:=by
 unfold IntKind.wrap
 simp only [IntKind.bits,IntKind.signed]
 have e:x % (2 ^ 64:Int)=x:=by omega
 simp only [e]
 rw [if_neg]
 simp
 omega
theorem fx {e n:Nat} {z:List AV} (hz:cF P e=some z) (hl:z.length=n) (hn:0 < n) (m:Nat) :
  ∃ zero:Array Value,(∀ (f:Array Value→Sem Value),(if m * n=0 then do
    let zero ← pure #[]
    f zero
   else do
    let zv ← zeroValue e
    let zero ← pure zv.cells
    f zero:Sem Value).run P w=(f zero).run P w)∧VRs K (d7 z m) ((Array.range (m * n)).map fun i=>zero[i % zero.size]!).toList:=by
 obtain ⟨v0,h1,h2,h3⟩:=cn (K:=K) hz w
 by_cases h0:m * n=0
 ·refine ⟨#[],fun f=>by rw [if_pos h0]; rfl,?_⟩
  have:m=0:=by
   rcases Nat.mul_eq_zero.1 h0 with h | h
   ·exact h
   omega
  subst this
  simp [d7,VRs]
 refine ⟨v0.cells,fun f=>by rw [if_neg h0]; simp only [Sem.run_bind,h1,Result.andThen_ok,Sem.run_pure],?_⟩
 subst hl
 exact ry h2 hn m
theorem kJ (h:Sim B K H w) {id:Nat} (hK:K id=none) {r:List AV} (hid:H.get id=some (.row r 0 true)) (hlt:id < H.n) {t e len n:Nat} {z:List AV} {ps:List (Nat×Value)} {vs:List AV}
  (hd:P.underlying t=some (.slice e)) (hz:cF P e=some z) (hn:bh P e=some n) (hp:jU n=true) (hbig:len * n≤16777216) (hl:z.length=n) (hv:VRs K vs (ps.map (·.2))) (hpl:fH (d7 z len) (ps.map fun p=>(p.1 * n,n)) vs=some r) :
  jH P B K H id (Instr.buildSlice t len ps.toArray) w (.slice id 0 0 len n):=by
 have hn0:0 < n:=Nat.le_of_ble_eq_true hp
 have hzf:z.all AV.flat=true:=let ⟨_,_,_,k⟩:=cn (K:=K) hz w; k
 obtain ⟨zero,h1,h2⟩:=fx (P:=P) (K:=K) (w:=w) hz hl hn0 len
 obtain ⟨out,ho1,ho2,ho3⟩:=lA (K:=K) (fun i=>some (i * n,n)) ps (ps.map fun p=>(p.1 * n,n)) vs (d7 z len) _ r (by simp)
  (fun j p o hp ho=>by
   simp only [List.getElem?_map,Option.map_eq_some_iff] at ho
   obtain ⟨q',hq',rfl⟩:=ho
   rw [hp] at hq'; cases hq'; rfl) hv h2 (fi hzf len) hpl
 have hlen:out.size=len * n:=by
  have:=ho2.length
  have h4:∀ (zero:List AV) (offs:List (Nat×Nat)) (vs r:List AV),fH zero offs vs=some r→r.length=zero.length:=by
   intro zero offs
   induction offs generalizing zero with
   | nil=>intro vs r h; cases vs<;>simp [fH] at h; subst h; rfl
   | cons o os ih=>
    intro vs r h
    cases vs with
    | nil=>cases h
    | cons v vs=>
     simp only [fH] at h
     cases hb:(Nat.beq v.cells.length o.2&&Nat.ble (o.1+o.2) zero.length&&!v.isTup) with
     | false=>rw [hb] at h; cases h
     | true=>
      rw [hb,cond_true] at h
      simp only [Bool.and_eq_true] at hb
      have a1:=Nat.eq_of_beq_eq_true hb.1.1
      have a2:=Nat.le_of_ble_eq_true hb.1.2
      rw [ih _ _ _ h,bu (by omega)]
  have h5:=h4 _ _ _ _ hpl
  rw [be,hl] at h5
  simp at this
  omega
 refine ⟨.slice (some ⟨w.heap.size,0,none⟩) len len,w.alloc (.cells out e),K.put id ⟨0,w.heap.size,0,out.size⟩,?_,dp h.big rfl,KLe.put hK,fun x hx=>KM.put_ne K _ hx,?_,?_⟩
 ·unfold Instr.buildSlice
  simp only [Sem.run_bind,run_underlying hd,Result.andThen_ok,aI hn]
  rw [if_neg (by omega),h1]
  simp only [ho1]
  rfl
 ·exact dW h hK hid hlt ho3 (fun j x hx=>ho2.get_arr j x hx) (by rw [ho2.length]; simp) (0,0) (.inr rfl) rfl
 exact fc (KM.put_self K id _) rfl (Nat.le_refl _) rfl (by simp [hlen])
theorem qm (h:Sim B K H w) {id:Nat} (hK:K id=none) {l c:Int} {k k':IntKind} {t e n m:Nat} {z:List AV} (hid:H.get id=some (.row (d7 z l.toNat) 0 true)) (hlt:id < H.n)
  (hd:P.underlying t=some (.slice e)) (hz:cF P e=some z) (hn:bh P e=some n) (hm:jR P e=some m) (hp:jU n=true) (hl:z.length=n) (hb:0≤l∧l≤c∧c * m≤aE∧c≤aE) :
  jH P B K H id (Instr.makeSlice t (.int k l) (.int k' c)) w (.slice id 0 0 l.toNat n):=by
 have hn0:0 < n:=Nat.le_of_ble_eq_true hp
 have hzf:z.all AV.flat=true:=let ⟨_,_,_,k⟩:=cn (K:=K) hz w; k
 obtain ⟨b0,b1,b2,b3⟩:=hb
 unfold aE at b2 b3
 obtain ⟨i,hi,him⟩:=iX hm
 obtain ⟨zero,h1,h2⟩:=fx (P:=P) (K:=K) (w:=w) hz hl hn0 c.toNat
 have wl:IntKind.i64.wrap l=l:=ke b0 (by omega)
 have wc:IntKind.i64.wrap c=c:=ke (by omega) (by omega)
 have hsz:((Array.range (c.toNat * n)).map fun i=>zero[i % zero.size]!).size=c.toNat * n:=by simp
 refine ⟨.slice (some ⟨w.heap.size,0,none⟩) l.toNat c.toNat,w.alloc (.cells ((Array.range (c.toNat * n)).map fun i=>zero[i % zero.size]!) e),K.put id ⟨0,w.heap.size,0,c.toNat * n⟩,?_,dp h.big rfl,KLe.put hK,fun x hx=>KM.put_ne K _ hx,?_,?_⟩
 ·unfold Instr.makeSlice
  simp only [Sem.run_bind,run_underlying hd,Result.andThen_ok,asInt,asIntOf,Sem.run_pure,typeInfo,run_program,hi,wl,wc]
  have t1:(decide (c < 0)||decide ((i.bytes:Int) * c > 2 ^ 48))=false:=by
   have e1:(i.bytes:Int) * c=c * m:=by rw [him,Int.mul_comm]
   simp only [Bool.or_eq_false_iff,decide_eq_false_iff_not]
   rw [e1]
   omega
  rw [t1]
  rw [if_neg (by simp; omega)]
  simp only [Sem.run_bind,run_askRoom,Result.andThen_ok,aI hn]
  rw [h1]
  rfl
 ·have hlen:(d7 z l.toNat).length≤c.toNat * n:=by
   rw [be,hl]; exact Nat.mul_le_mul_right _ (by omega)
  have:=dW (w':=w.alloc (.cells ((Array.range (c.toNat * n)).map fun i=>zero[i % zero.size]!) e)) h hK hid hlt (fi hzf _) (fun j x hx=>?_) (by rw [hsz]; exact hlen) (0,0) (.inr rfl) rfl
  ·rw [hsz] at this; exact this
  have hj:j < l.toNat * z.length:=by
   rcases Nat.lt_or_ge j (l.toNat * z.length) with h | h
   ·exact h
   rw [List.getElem?_eq_none (by rw [be]; exact h)] at hx; cases hx
  refine h2.get_arr j x ?_
  have hle:l.toNat * z.length≤c.toNat * z.length:=Nat.mul_le_mul_right _ (by omega)
  rw [ik z (by omega) _ _ (by omega)]
  rw [ik z (by omega) _ _ hj] at hx
  exact hx
 exact fc (KM.put_self K id _) rfl (by omega) rfl (by simp)
theorem vi (h:Sim B K H w) {id:Nat} (hK:K id=none) (hid:H.get id=some (.map [])) (hlt:id < H.n) (t:TypeId):jH P B K H id (Instr.makeMap t none) w (.map id):=by
 refine ⟨.map (some w.heap.size),w.alloc (.map #[] 0),K.put id ⟨0,w.heap.size,0,0⟩,rfl,dp h.big rfl,KLe.put hK,fun x hx=>KM.put_ne K _ hx,?_,?_⟩
 ·refine h.add hK hid hlt rfl (fun k hk=>dD _ _ _ hk) (by simp) ?_
  exact ⟨rfl,h.big,#[],0,cK _ _,by simp [VRm]⟩
 simp only [VR]
 exact ⟨_,_,rfl,KM.put_self K id _,fun _=>rfl⟩
theorem nL (h:Sim B K H w) {id:Nat} {s:List UInt8} (hK:K id=none) (hid:H.get id=some (.iter s 0)) (hlt:id < H.n) {t:TypeId} (hd:P.underlying t=some .string):jH P B K H id (Instr.range t (.string ⟨s.toArray⟩)) w (.iter id):=by
 refine ⟨.pointer (some ⟨w.heap.size,0,none⟩),w.alloc (.stringIter ⟨s.toArray⟩ 0),K.put id ⟨0,w.heap.size,0,0⟩,?_,dp h.big rfl,KLe.put hK,fun x hx=>KM.put_ne K _ hx,?_,?_⟩
 ·unfold Instr.range
  simp only [Sem.run_bind,run_underlying hd,Result.andThen_ok,Sem.run_pure]
  rfl
 ·refine h.add hK hid hlt rfl (fun k hk=>dD _ _ _ hk) (by simp) ?_
  exact ⟨rfl,h.big,cK _ _⟩
 simp only [VR]
 exact ⟨_,_,rfl,KM.put_self K id _,fun _=>rfl⟩
theorem iO (s:List UInt8) (j:Nat):(cT s)[j]? = s[j]?.map fun b=>AV.int .u8 b.toNat:=by simp [cT]
theorem gU (s:List UInt8):(cT s).all AV.flat=true:=by
 simp [cT,AV.flat]
theorem eH (s:List UInt8):(cT s).length=s.length:=by simp [cT]
theorem kN (h:Sim B K H w) {id:Nat} {s:List UInt8} (hK:K id=none) (hid:H.get id=some (.row (cT s) 0 true)) (hlt:id < H.n) (hs:s.length≤aE) (el:TypeId) :
  jH P B K H id (Conv.stringToBytes el ⟨s.toArray⟩) w (.slice id 0 0 s.length 1):=by
 unfold aE at hs
 have hsz:(⟨s.toArray⟩:ByteArray).size=s.length:=by simp [ByteArray.size]
 have hcap:∃ cap,s.length≤cap∧(choose (.appendCap s.length 0 el)).run P w=.ok cap w.drew:=by
  refine ⟨s.length+(w.tape w.drawn (.appendCap s.length 0 el)) % (2 ^ 63 - s.length),by omega,?_⟩
  rw [run_choose_drew]
  rfl
 obtain ⟨cap,hc1,hc2⟩:=hcap
 have hcells:∀ (j:Nat) (x:AV),(cT s)[j]? = some x→∃ y,((s.toArray.map fun (b:UInt8)=>Value.int .u8 b.toNat)++Array.replicate (cap - s.length) (Value.int .u8 0))[j]? = some y∧VR K x y:=by
  intro j x hx
  rw [iO] at hx
  cases hb:s[j]? with
  | none=>rw [hb] at hx; cases hx
  | some b=>
   rw [hb] at hx; cases hx
   have hj:j < s.length:=by
    rcases Nat.lt_or_ge j s.length with h | h
    ·exact h
    rw [List.getElem?_eq_none h] at hb; cases hb
   refine ⟨.int .u8 b.toNat,?_,by simp only [VR]⟩
   rw [Array.getElem?_append_left (by simpa using hj)]
   simp [hb]
 have hcsz:((s.toArray.map fun (b:UInt8)=>Value.int .u8 b.toNat)++Array.replicate (cap - s.length) (Value.int .u8 0)).size=cap:=by simp; omega
 generalize hcd:((s.toArray.map fun (b:UInt8)=>Value.int .u8 b.toNat)++Array.replicate (cap - s.length) (Value.int .u8 0))=cells at hcells hcsz
 refine ⟨.slice (some ⟨w.heap.size,0,none⟩) s.length cap,(w.drew.alloc (.cells cells el)).freeze ⟨w.heap.size,cap,none⟩ 1,K.put id ⟨0,w.heap.size,0,cap⟩,?_,?_,KLe.put hK,fun x hx=>KM.put_ne K _ hx,?_,?_⟩
 ·unfold Conv.stringToBytes
  simp only [hsz,Sem.run_bind,hc2,Result.andThen_ok]
  have e1:((⟨s.toArray⟩:ByteArray).data.map fun (b:UInt8)=>Value.int .u8 b.toNat)++Array.replicate (cap - s.length) (Value.int .u8 0)=cells:=hcd
  rw [e1]
  have e2:(newRow el cells).run P w.drew=.ok ⟨w.heap.size,0,none⟩ (w.drew.alloc (.cells cells el)):=rfl
  rw [e2]
  simp only [Result.andThen_ok]
  have e3:(markStringish ⟨w.heap.size,0,none⟩).run P (w.drew.alloc (.cells cells el))=.ok () ((w.drew.alloc (.cells cells el)).freeze ⟨w.heap.size,cap,none⟩ 1):=by
   unfold markStringish
   simp only [Sem.run_bind,run_shape,Result.andThen_ok]
   have:(w.drew.alloc (.cells cells el)).shape? w.heap.size=some (el,cap):=by
    unfold World.shape?
    have:=cK w.drew (.cells cells el)
    have e4:w.drew.heap.size=w.heap.size:=rfl
    rw [e4] at this
    rw [this]
    simp only [hcsz]
   rw [this]
   rfl
  rw [e3]
  rfl
 ·have b1:Below B w (w.drew.alloc (.cells cells el)):=gj.alloc h.big _
  refine b1.trans ⟨rfl,rfl,rfl,?_,fun k hk=>?_⟩
  ·simp [World.freeze]
  have:=h.big
  simp only [World.freeze,Nat.one_ne_zero,if_false,Array.getElem?_modify]
  rw [if_neg (by omega)]
 ·have hheap:((w.drew.alloc (.cells cells el)).freeze ⟨w.heap.size,cap,none⟩ 1).heap=w.heap.push (.cells cells el (cap,cap+1)):=by
   have e:(w.drew.alloc (.cells cells el)).heap=w.heap.push (.cells cells el):=rfl
   simp only [World.freeze,Nat.one_ne_zero,if_false,e]
   apply Array.ext_getElem?
   intro k
   rw [Array.getElem?_modify,Array.getElem?_push,Array.getElem?_push]
   split
   ·rename_i hk; subst hk; simp
   rename_i hk; rw [if_neg (by simpa using fun e=>hk e.symm),if_neg (fun e=>hk e.symm)]
  have:=dW h hK hid hlt (gU s) hcells (by rw [eH,hcsz]; exact hc1) (cap,cap+1) (.inl (by rw [hcsz]; exact Nat.le_refl _)) hheap
  rw [hcsz] at this
  exact this
 exact fc (KM.put_self K id _) rfl hc1 rfl (by simp)
end
end Go.Am
namespace Go.Am
open Go Go.RowKit
section
variable {P:Program} {K:KM} {w:World} {B:Nat} {H:Heap}
theorem eC (c:Array Value) (o:Nat) (v:Value) (vs:List Value) (h:o < c.size):((c.setIfInBounds o v).toList.take (o+1)++(vs++(c.setIfInBounds o v).toList.drop (o+1+vs.length)))=c.toList.take o++(v::vs++c.toList.drop (o+(vs.length+1))):=by
 rw [Array.toList_setIfInBounds]
 have hl:o < c.toList.length:=by simpa using h
 rw [List.take_set,List.drop_set_of_lt (by omega),List.take_succ_eq_append_getElem hl,List.set_append_right _ _ (by simp; omega)]
 have e2:o - (c.toList.take o).length=0:=by simp; omega
 rw [e2]
 simp only [List.set_cons_zero,List.append_assoc,List.cons_append,List.nil_append]
 congr 4
 omega
theorem bS {b:Nat} {el:TypeId} {fz:Nat×Nat}:∀ (vs:List Value) (o:Nat) (w:World) (c:Array Value),w.heap[b]? = some (.cells c el fz)→o+vs.length≤c.size→
  (∃ c',(w.setCells b o vs).heap[b]? = some (.cells c' el fz)∧c'.toList=c.toList.take o++(vs++c.toList.drop (o+vs.length)))∧(∀ k,k≠b→(w.setCells b o vs).heap[k]? = w.heap[k]?)∧
  (w.setCells b o vs).heap.size=w.heap.size∧(w.setCells b o vs).os=w.os∧(w.setCells b o vs).tape=w.tape∧(w.setCells b o vs).output=w.output
 | [],o,w,c,h,_=>⟨⟨c,h,by simp⟩,fun _ _=>rfl,rfl,rfl,rfl,rfl⟩
 | v::vs,o,w,c,h,hl=>by
  simp only [List.length_cons] at hl
  have h1:(w.setCell ⟨b,o,none⟩ v).heap[b]? = some (.cells (c.setIfInBounds o v) el fz):=by
   simp [World.setCell,Array.getElem?_modify,h]
  obtain ⟨⟨c',g1,g2⟩,g3,g4,g5,g6,g7⟩:=bS vs (o+1) (w.setCell ⟨b,o,none⟩ v) _ h1 (by simp; omega)
  refine ⟨⟨c',g1,?_⟩,fun k hk=>?_,?_,g5,g6,g7⟩
  ·rw [g2]
   have:=eC c o v vs (by omega)
   simpa using this
  ·rw [World.setCells,g3 k hk]; exact Below.heap_setCell _ _ _ _ hk
  rw [World.setCells,g4]; simp [World.setCell]
theorem uV {fz:Nat×Nat} {n:Nat} (h:fz.1=fz.2∨n≤fz.1):∀ o,o < n→¬ (fz.1≤o∧o < fz.2):=by omega
theorem cG {b off:Nat} {c:Array Value} {el:TypeId} {fz:Nat×Nat} (hb:w.heap[b]? = some (.cells c el fz)) (vs:List Value) (h1:∀ v∈vs,v.oneCell'=true) (hl:off+vs.length≤c.size) (hf:∀ o,o < c.size→¬ (fz.1≤o∧o < fz.2)) :
  (storeCells ⟨b,off,none⟩ vs).run P w=.ok () (w.setCells b off vs):=by
 have:=run_storeCells_cells (P:=P) b off vs 0 w (fun j hj=>by
   rw [oT hb,Nat.add_zero,Array.getElem?_eq_getElem (by omega)]; rfl) (fun j hj=>by
   simp only [World.frozen?,hb,Nat.add_zero]
   have:=hf (off+j) (by omega)
   simp only [Bool.and_eq_false_iff,decide_eq_false_iff_not]
   omega) h1
 simpa using this
theorem VRs.oneCells {cs:List AV} {ds:List Value} (h:VRs K cs ds) (hf:cs.all AV.flat=true):∀ v∈ds,v.oneCell'=true:=by
 intro v hv
 obtain ⟨j,hj⟩:=List.mem_iff_getElem?.1 hv
 have hl:=h.length
 have:j < cs.length:=by
  rcases Nat.lt_or_ge j cs.length with h1 | h1
  ·exact h1
  rw [List.getElem?_eq_none (by omega)] at hj; cases hj
 obtain ⟨y,h1,h2⟩:=h.get j _ (List.getElem?_eq_getElem this)
 rw [hj] at h1; cases h1
 exact h2.oneCell (List.all_eq_true.1 hf _ (List.getElem_mem this))
theorem eN (h:Sim B K H w) {esz k:Nat} {x:AV} {cs:List AV} {x':Value} (hx:VR K x x') (ha:appended H esz x=some (cs,k)) :
  (Builtin.lenOf x').run P w=.ok k w∧cs.length=k * esz∧cs.all AV.flat=true∧iB x=k∧∃ ds:List Value,VRs K cs ds∧∀ w',w'.heap=w.heap→(Builtin.firstCells esz k x').run P w'=.ok ds.toArray w':=by
 unfold appended at ha
 split at ha
 ·rename_i bs
  split at ha
  ·rename_i he
   subst he
   cases ha
   simp only [VR] at hx
   subst hx
   have hsz:(⟨bs.toArray⟩:ByteArray).size=bs.length:=by simp [ByteArray.size]
   refine ⟨by simp only [Builtin.lenOf,hsz]; rfl,by rw [eH,Nat.mul_one],gU bs,rfl,bs.map fun (b:UInt8)=>Value.int .u8 b.toNat,?_,fun w' hw'=>?_⟩
   ·refine VRs.of_get (by simp [cT]) fun j y hy=>?_
    rw [iO] at hy
    cases hb:bs[j]? with
    | none=>rw [hb] at hy; cases hy
    | some b=>rw [hb] at hy; cases hy; exact ⟨.int .u8 b.toNat,by simp [hb],by simp only [VR]⟩
   simp only [Builtin.firstCells]
   have e:(((⟨bs.toArray⟩:ByteArray).extract 0 bs.length).data.map fun (b:UInt8)=>Value.int .u8 b.toNat)=(bs.map fun (b:UInt8)=>Value.int .u8 b.toNat).toArray:=by
    apply Array.ext'
    simp [ByteArray.data_extract,List.extract_eq_take_drop]
   rw [e]; rfl
  cases ha
 split at ha
 ·rename_i cs' hcs
  cases ha
  obtain ⟨g1,g2,ds,g3,g4⟩:=sg (P:=P) h hx hcs
  have hl:iB x=x.slen:=by
   cases x<;>first | rfl | (exfalso; rename_i hne; exact hne _ rfl) | (exfalso; rename_i hne _; exact hne _ rfl) | (exfalso; rename_i hne _ _; exact hne _ rfl) | (simp only [Heap.rows] at hcs; cases hcs)
  rcases g4 with ⟨rfl,rfl⟩ | ⟨a,c,rfl,g5,g6⟩
  ·simp only [VR] at hx
   subst hx
   exact ⟨rfl,g1,g2,hl,[],g3,fun _ _=>rfl⟩
  refine ⟨rfl,g1,g2,hl,ds,g3,fun w' hw'=>?_⟩
  simp only [Builtin.firstCells]
  by_cases h0:x.slen=0
  ·rw [h0,Nat.zero_mul,g6 h0]; rfl
  exact g5 (by omega) w' hw'
 cases ha
theorem lU (n:Nat):∀ (r c:Nat),c≤2 * n+192→Builtin.growBy n r c≤2 * n+192
 | 0,c,h=>h
 | r+1,c,h=>by
  simp only [Builtin.growBy]
  split
  ·exact h
  exact lU n r _ (by omega)
theorem qP (need old:Nat) (h:old < need):Builtin.nextslicecap need old≤2 * need+192:=by
 unfold Builtin.nextslicecap
 split
 ·omega
 split
 ·omega
 exact lU _ _ _ (by omega)
structure AppT (P:Program) (t u e n m:Nat) (z:List AV):Prop where
 sl:P.underlying t=some (.slice e)
 xt:∃ d,P.underlying u=some d∧∀ k,d≠.int k
 hzero:cF P e=some z
 hsize:bh P e=some n
 hbytes:jR P e=some m
 hn:jU n=true
 hm:jU m=true
 hz:z.length=n
theorem dY {t u e n m:Nat} {z:List AV} (T:AppT P t u e n m z) {base:Option Addr} {sLen sCap k:Nat} {x':Value} {olds news:Array Value} (hk:(Builtin.lenOf x').run P w=.ok k w) (hcap:sCap < sLen+k) (hroom:(sLen+k) * m≤1099511627776)
  (ho:∀ w',w'.heap=w.heap→(Builtin.firstCells n sLen (.slice base sLen sCap)).run P w'=.ok olds w') (hw:∀ w',w'.heap=w.heap→(Builtin.firstCells n k x').run P w'=.ok news w') (ty:TypeId) :
  ∃ (newCap:Nat) (rest:Array Value),sLen+k≤newCap∧rest.size=(newCap - (sLen+k)) * n∧(Builtin.append_ #[t,u] ty #[.slice base sLen sCap,x']).run P w=.ok (.slice (some ⟨w.heap.size,0,none⟩) (sLen+k) newCap) (w.drew.alloc (.cells (olds++news++rest) e)):=by
 obtain ⟨v0,z1,z2,z3⟩:=cn (K:=fun _=>none) T.hzero w.drew
 obtain ⟨i,hi,him⟩:=iX T.hbytes
 have hm1:=Nat.le_of_ble_eq_true T.hm
 have hmneed:sLen+k≤1099511627776:=Nat.le_trans (Nat.le_mul_of_pos_right _ hm1) hroom
 have hzs:v0.cells.size=n:=by
  have:=z2.length
  rw [T.hz] at this
  simpa using this.symm
 have hnc:=qP (sLen+k) sCap hcap
 have hbig:¬ (Builtin.nextslicecap (sLen+k) sCap * i.bytes > 2 ^ 48):=by
  rw [him]
  have h1:Builtin.nextslicecap (sLen+k) sCap * m≤(2 * (sLen+k)+192) * m:=Nat.mul_le_mul_right _ hnc
  have h2:m≤1099511627776:=Nat.le_trans (Nat.le_mul_of_pos_left _ (by omega)) hroom
  have h3:(2 * (sLen+k)+192) * m=2 * ((sLen+k) * m)+192 * m:=by rw [Nat.add_mul,Nat.mul_assoc]
  omega
 have hcut:∃ cap,sLen+k≤cap∧(choose (.appendCap (sLen+k) sCap e)).run P w=.ok cap w.drew:=by
  refine ⟨(sLen+k)+(w.tape w.drawn (.appendCap (sLen+k) sCap e)) % (2 ^ 63 - (sLen+k)),by omega,?_⟩
  rw [run_choose_drew]
  rfl
 obtain ⟨cap,hc1,hc2⟩:=hcut
 have hn1:¬ (sLen+k≤sCap):=by omega
 have hmax:¬ (((sLen+k:Nat):Int) > IntKind.i64.max∧(False∨i.bytes=0)):=by
  intro h
  have:IntKind.i64.max=9223372036854775807:=by decide
  omega
 refine ⟨cap,Builtin.zeroCells v0.cells (cap - (sLen+k)),hc1,by simp [Builtin.zeroCells,hzs],?_⟩
 unfold Builtin.append_
 have t1:(#[t,u]:Array TypeId)[0]? = some t:=rfl
 have t2:(#[t,u]:Array TypeId)[1]? = some u:=rfl
 have t3:(#[Value.slice base sLen sCap,x']:Array Value)[0]? = some (.slice base sLen sCap):=rfl
 have t4:(#[Value.slice base sLen sCap,x']:Array Value)[1]? = some x':=rfl
 obtain ⟨d,hu,hd⟩:=T.xt
 have hti:∀ w',(typeInfo e).run P w'=.ok i w':=fun w'=>by simp [typeInfo,hi]
 cases d<;>first | exact absurd rfl (hd _) | skip
 all_goals
  simp only [t1,t2,t3,t4,Sem.run_bind,run_underlying T.sl,run_underlying hu,Result.andThen_ok,aI T.hsize,Sem.run_pure,Bool.false_eq_true,if_false,hk,if_neg hn1,hti,if_neg hmax,if_neg hbig,hc2,run_askRoom,ho w.drew rfl,Bool.not_false,if_true,hw w.drew rfl,z1]
  rfl
theorem cH {t u e n m:Nat} {z:List AV} (T:AppT P t u e n m z) {base:Option Addr} {sLen sCap k:Nat} {x':Value} {news:Array Value} (hk:(Builtin.lenOf x').run P w=.ok k w) (hcap:sLen+k≤sCap)
  (hw:(Builtin.firstCells n k x').run P w=.ok news w) (ty:TypeId) :
  (Builtin.append_ #[t,u] ty #[.slice base sLen sCap,x']).run P w=(match base with
   | some a=>do storeCells (a.add (sLen * n)) news.toList; pure (.slice base (sLen+k) sCap)
   | none=>pure (.slice base (sLen+k) sCap):Sem Value).run P w:=by
 unfold Builtin.append_
 have t1:(#[t,u]:Array TypeId)[0]? = some t:=rfl
 have t2:(#[t,u]:Array TypeId)[1]? = some u:=rfl
 have t3:(#[Value.slice base sLen sCap,x']:Array Value)[0]? = some (.slice base sLen sCap):=rfl
 have t4:(#[Value.slice base sLen sCap,x']:Array Value)[1]? = some x':=rfl
 obtain ⟨d,hu,hd⟩:=T.xt
 cases d<;>first | exact absurd rfl (hd _) | skip
 all_goals
  simp only [t1,t2,t3,t4,Sem.run_bind,run_underlying T.sl,run_underlying hu,Result.andThen_ok,aI T.hsize,Sem.run_pure,Bool.false_eq_true,if_false,hk,if_pos hcap,Bool.not_false,if_true,hw]
  cases base<;>rfl
end
end Go.Am
namespace Go.Am
open Go Go.RowKit
section
variable {P:Program} {K:KM} {w:World} {B:Nat} {H:Heap}
def hZ (P:Program) (B:Nat) (K:KM) (H:Heap) {α:Type} (s:Sem α) (w:World) (H':Heap) (Q:KM→α→Prop):Prop:=
 ∃ r w' K',s.run P w=.ok r w'∧Below B w w'∧KLe K K'∧(∀ x,x < H.n→K x=none→K' x=none)∧Sim B K' H' w'∧Q K' r
theorem gO (h:Sim B K H w) {id:Nat} {t u e n m:Nat} {z:List AV} (T:AppT P t u e n m z) {x:AV} {x':Value} {cs:List AV} {k:Nat} (hx:VR K x x') (ha:appended H n x=some (cs,k)) (hroom:k * m≤aE)
  (hK:K id=none) (hid:H.get id=some (.row cs 0 true)) (hlt:id < H.n) (ty:TypeId):jH P B K H id (Builtin.append_ #[t,u] ty #[.slice none 0 0,x']) w (if iB x=0 then .nilSlice else .slice id 0 0 (iB x) n):=by
 obtain ⟨g1,g2,g3,g4,ds,g5,g6⟩:=eN (P:=P) h hx ha
 unfold aE at hroom
 rw [g4]
 by_cases h0:k=0
 ·subst h0
  rw [if_pos rfl]
  refine ⟨.slice none 0 0,w,K,?_,Below.refl _ _,KLe.refl _,fun _ _=>rfl,h,by simp only [VR]⟩
  rw [cH T g1 (Nat.le_refl _) (g6 w rfl)]
  rfl
 rw [if_neg h0]
 obtain ⟨cap,rest,c1,c2,c3⟩:=dY T (base:=none) (sLen:=0) (sCap:=0) (olds:=#[]) (news:=ds.toArray) g1 (by omega) (by simpa using hroom) (fun _ _=>rfl) g6 ty
 simp only [Nat.zero_add] at c1 c2 c3
 have hds:ds.length=k * n:=by rw [← g5.length,g2]
 have hsz:(#[]++ds.toArray++rest).size=cap * n:=by
  simp [hds,c2]
  rw [← Nat.add_mul]; congr 1; omega
 have hS:=dW (w':=w.drew.alloc (.cells (#[]++ds.toArray++rest) e)) h hK hid hlt g3 (fun j y hy=>by
  obtain ⟨y',k1,k2⟩:=g5.get j y hy
  refine ⟨y',?_,k2⟩
  have hj:j < ds.length:=by
   rcases Nat.lt_or_ge j ds.length with hh | hh
   ·exact hh
   rw [List.getElem?_eq_none hh] at k1; cases k1
  rw [Array.getElem?_append_left (by simpa using hj)]
  simpa using k1) (by rw [hsz,g2]; exact Nat.mul_le_mul_right _ c1) (0,0) (.inr rfl) rfl
 refine ⟨_,_,_,c3,(gj.alloc h.big _),KLe.put hK,fun x hx=>KM.put_ne K _ hx,hS,?_⟩
 exact fc (KM.put_self K id _) rfl c1 rfl (by simp only; rw [hsz]; exact Nat.le_refl _)
theorem tf (h:Sim B K H w) {t u e n m:Nat} {z:List AV} (T:AppT P t u e n m z) {s x v:AV} {s' x':Value} {H':Heap} (hs:VR K s s') (hx:VR K x x') (hv:(EOp.append n m).ev [s,x] H=some (v,H')) (ty:TypeId) :
  hZ P B K H (Builtin.append_ #[t,u] ty #[s',x']) w H' (fun K' r=>VR K' v r):=by
 simp only [EOp.ev] at hv
 split at hv
 ·rename_i cs k ha
  split at hv
  ·rename_i hroom
   unfold aE at hroom
   obtain ⟨g1,g2,g3,g4,ds,g5,g6⟩:=eN (P:=P) h hx ha
   have hn1:=Nat.le_of_ble_eq_true T.hn
   have hds:ds.length=k * n:=by rw [← g5.length,g2]
   cases s<;>simp only [bl] at hv<;>first | (cases hv; done) | skip
   ·simp only [VR] at hs
    subst hs
    simp only [AV.slen,Nat.zero_add] at hroom
    split at hv
    ·rename_i h0
     cases hv
     subst h0
     refine ⟨.slice none 0 0,w,K,?_,Below.refl _ _,KLe.refl _,fun _ _ hh=>hh,h,by simp only [VR]⟩
     rw [cH T g1 (Nat.le_refl _) (g6 w rfl)]
     rfl
    rename_i h0
    cases hv
    have hK:K H.n=none:=by
     cases hk:K H.n with
     | none=>rfl
     | some i=>have:=h.dom _ _ hk; omega
    have h':=h.push (.row cs 0 true)
    obtain ⟨v',w',K',k1,k2,k3,k4,k5,k6⟩:=gO (id:=H.n) (ty:=ty) h' T hx (by
     unfold appended at ha ⊢
     split at ha
     ·exact ha
     rename_i hne
     split at ha
     ·rename_i cs' hcs
      have:(H.push (.row cs 0 true)).rows n x=some cs':=by
       cases x<;>simp only [Heap.rows] at hcs ⊢<;>first | exact hcs | skip
       rename_i o' v' f' n' z'
       unfold Heap.cells at hcs ⊢
       simp only [VR] at hx
       obtain ⟨_,_,i',_,hKo,_⟩:=hx
       have:=h.dom _ _ hKo
       rw [Heap.get_push,if_neg (by omega)]
       exact hcs
      rw [this]; exact ha
     cases ha) hroom hK (by rw [Heap.get_push,if_pos rfl]) (by simp [Heap.n_push])
    refine ⟨v',w',K',k1,k2,k3,fun y hy hh=>by rw [k4 y (by omega)]; exact hh,k5,?_⟩
    rw [g4,if_neg h0] at k6
    exact k6
   rename_i o ver0 off len z'
   have hs':=hs
   simp only [VR] at hs
   obtain ⟨a,c,i,rfl,hK,hlc,hvv,hg⟩:=hs
   simp only [AV.slen] at hroom
   obtain ⟨ob,ho1,ho2⟩:=h.obj o i hK
   rw [ho1] at hv
   cases ob with
   | map es=>cases hv
   | iter _ _=>cases hv
   | row all ver wr=>
    simp only at hv
    split at hv
    ·rename_i hc
     obtain ⟨rfl,hc2,rfl,rfl⟩:=hc
     obtain ⟨f1,ca,el,fz,f2,f3,f4,f5,f6⟩:=ho2
     obtain ⟨e1,e2⟩:=hg f1.symm
     have f6':=f6 rfl
     split at hv
     ·rename_i h0
      cases hv
      subst h0
      have hds0:ds=[]:=List.eq_nil_of_length_eq_zero (by rw [hds]; simp)
      subst hds0
      refine ⟨.slice (some a) (len+0) c,w,K,?_,Below.refl _ _,KLe.refl _,fun _ _ hh=>hh,h,hs'⟩
      rw [cH T g1 (by omega) (g6 w rfl)]
      rfl
     rename_i h0
     cases hv
     have hrows:H.cells o ver0 off (len * z')=some ((all.drop off).take (len * z')):=by
      unfold Heap.cells; rw [ho1]; simp only [true_and]; rw [if_pos hc2]
     have hflat:((all.drop off).take (len * z')).all AV.flat=true:=by
      obtain ⟨_,_,q,_⟩:=im h hK hrows; exact q
     have hlen:((all.drop off).take (len * z')).length=len * z':=by simp; omega
     by_cases hfit:len+k≤c
     ·-- in fH
      have ea:=e2 (by omega)
      subst ea
      have hmul:(len+k) * z'≤c * z':=Nat.mul_le_mul_right _ hfit
      rw [Nat.add_mul] at hmul
      have hst:=cG (P:=P) (off:=i.base+off+len * z') f2 ds (g5.oneCells g3) (by omega) (uV (by rw [f3]; exact f6'.2))
      obtain ⟨⟨c',s1,s2⟩,s3,s4,s5,s6,s7⟩:=bS (b:=i.blk) ds (i.base+off+len * z') w ca f2 (by omega)
      have hsz':c'.size=i.lim:=by
       have:c'.toList.length=ca.toList.length:=by rw [s2]; simp; omega
       simpa [f3] using this
      have hle:KLe K (K.put o ⟨ver0+1,i.blk,i.base+off,i.lim⟩):=by
       intro y j hy
       by_cases e':y=o
       ·subst e'
        rw [hK] at hy; cases hy
        exact ⟨_,KM.put_self K _ _,by simp; omega,fun e''=>by simp at e''; omega⟩
       exact ⟨j,by rw [KM.put_ne K _ e']; exact hy,Nat.le_refl _,fun _=>rfl⟩
      refine ⟨.slice (some ⟨i.blk,i.base+off,none⟩) (len+k) c,w.setCells i.blk (i.base+off+len * z') ds,K.put o ⟨ver0+1,i.blk,i.base+off,i.lim⟩,?_,?_,hle,?_,?_,?_⟩
      ·rw [cH T g1 hfit (g6 w rfl)]
       simp only [jV,Sem.run_bind,hst,Result.andThen_ok]
       rfl
      ·exact ⟨s5,s6,s7,by rw [s4]; exact Nat.le_refl _,fun k' hk'=>s3 k' (by omega)⟩
      ·intro y hy hn'
       by_cases e':y=o
       ·subst e'; rw [hK] at hn'; cases hn'
       rw [KM.put_ne K _ e']; exact hn'
      ·refine h.turn hK ho1 rfl rfl hle (.inl rfl) (fun k' _ hk'=>s3 k' hk') (by rw [s4]; exact Nat.le_refl _) ?_
       refine ⟨rfl,c',el,fz,s1,hsz',?_,fun j y hy=>?_,fun _=>f6'⟩
       ·simp only [List.length_append,hlen,g2]; omega
       have hjl:j < len * z'+k * z':=by
        rcases Nat.lt_or_ge j (len * z'+k * z') with hh | hh
        ·exact hh
        rw [List.getElem?_eq_none (by rw [List.length_append,hlen,g2]; exact hh)] at hy; cases hy
       by_cases hj:j < len * z'
       ·rw [List.getElem?_append_left (by omega),List.getElem?_take,if_pos hj,List.getElem?_drop] at hy
        obtain ⟨p1,y',p2,p3⟩:=f5 _ _ hy
        refine ⟨p1,y',?_,VR.mono hle _ _ p3⟩
        rw [← Array.getElem?_toList,s2]
        simp only
        rw [List.getElem?_append_left (by simp; omega),List.getElem?_take,if_pos (by omega),Array.getElem?_toList]
        rw [show i.base+off+j=i.base+(off+j) by omega]; exact p2
       rw [List.getElem?_append_right (by omega),hlen] at hy
       obtain ⟨y',p2,p3⟩:=g5.get _ _ hy
       refine ⟨List.all_eq_true.1 g3 _ (List.mem_of_getElem? hy),y',?_,VR.mono hle _ _ p3⟩
       rw [← Array.getElem?_toList,s2]
       simp only
       have hl1:(List.take (i.base+off+len * z') ca.toList).length=i.base+off+len * z':=by simp; omega
       rw [List.getElem?_append_right (by omega),hl1,List.getElem?_append_left (by omega)]
       rw [show i.base+off+j - (i.base+off+len * z')=j - len * z' by omega]; exact p2
      simp only [VR]
      exact ⟨_,c,_,rfl,KM.put_self K _ _,hfit,Nat.le_refl _,fun _=>⟨by simp only; omega,fun _=>by simp⟩⟩
     -- it grows
     obtain ⟨q1,q2,q3,q4,os,q5,q6⟩:=eN (P:=P) (esz:=z') (x:=.slice o ver0 off len z') (cs:=(all.drop off).take (len * z')) (k:=len) h hs' (by
      unfold appended; simp only [Heap.rows,hrows,AV.slen])
     obtain ⟨cap,rest,c1,c2',c3⟩:=dY T (base:=some a) (sLen:=len) (sCap:=c) (olds:=os.toArray) (news:=ds.toArray) g1 (by omega) hroom q6 g6 ty
     have hos:os.length=len * z':=by rw [← q5.length,hlen]
     have hsz:(os.toArray++ds.toArray++rest).size=cap * z':=by
      simp [hos,hds,c2']
      rw [← Nat.add_mul,← Nat.add_mul]; congr 1; omega
     have hle:KLe K (K.put o ⟨ver0+1,w.heap.size,0,cap * z'⟩):=by
      intro y j hy
      by_cases e':y=o
      ·subst e'
       rw [hK] at hy; cases hy
       exact ⟨_,KM.put_self K _ _,by simp; omega,fun e''=>by simp at e''; omega⟩
      exact ⟨j,by rw [KM.put_ne K _ e']; exact hy,Nat.le_refl _,fun _=>rfl⟩
     have hcapz:(len+k) * z'≤cap * z':=Nat.mul_le_mul_right _ c1
     rw [Nat.add_mul] at hcapz
     refine ⟨_,_,K.put o ⟨ver0+1,w.heap.size,0,cap * z'⟩,c3,gj.alloc h.big _,hle,?_,?_,?_⟩
     ·intro y hy hn'
      by_cases e':y=o
      ·subst e'; rw [hK] at hn'; cases hn'
      rw [KM.put_ne K _ e']; exact hn'
     ·refine h.turn hK ho1 rfl rfl hle (.inr rfl) (fun k' hk' _=>dD w.drew _ _ hk') (by show w.heap.size≤(w.heap.push _).size; simp) ?_
      refine ⟨rfl,_,e,(0,0),cK w.drew _,hsz,?_,fun j y hy=>?_,fun _=>⟨h.big,.inl rfl⟩⟩
      ·simp only [List.length_append,hlen,g2,Nat.zero_add]; exact hcapz
      have hjl:j < len * z'+k * z':=by
       rcases Nat.lt_or_ge j (len * z'+k * z') with hh | hh
       ·exact hh
       rw [List.getElem?_eq_none (by rw [List.length_append,hlen,g2]; exact hh)] at hy; cases hy
      have hall:=q5.append g5
      obtain ⟨y',p2,p3⟩:=hall.get _ _ hy
      refine ⟨?_,y',?_,VR.mono hle _ _ p3⟩
      ·have:((all.drop off).take (len * z')++cs).all AV.flat=true:=by simp only [List.all_append,hflat,g3,Bool.and_self]
       exact List.all_eq_true.1 this _ (List.mem_of_getElem? hy)
      simp only [Nat.zero_add]
      rw [Array.getElem?_append_left (by simp [hos,hds]; omega)]
      simpa [← Array.getElem?_toList] using p2
     simp only [VR]
     exact ⟨_,cap,_,rfl,KM.put_self K _ _,c1,Nat.le_refl _,fun _=>⟨by simp,fun _=>rfl⟩⟩
    cases hv
  cases hv
 cases hv
end
end Go.Am
namespace Go.Am
open Go Go.RowKit Go.MapKept
section
variable {P:Program} {K:KM} {w:World} {B:Nat} {H:Heap}
theorem vO (h:Sim B K H w) {o v off n:Nat} {x r:AV} {a' x':Value} {H':Heap} (ha:VR K (.ptr o v off) a') (hx:VR K x x') (hv:(EOp.store n).ev [.ptr o v off,x] H=some (r,H')) {t:TypeId} (hn:bh P t=some n) :
  hZ P B K H (Instr.storeAt t a' x') w H' (fun _ _=>r=.undef):=by
 simp only [VR] at ha
 obtain ⟨a,i,rfl,hK,hvv,hg⟩:=ha
 obtain ⟨ob,ho1,ho2⟩:=h.obj o i hK
 simp only [EOp.ev,ho1] at hv
 cases ob with
 | map es=>cases hv
 | iter _ _=>cases hv
 | row cs ver wr=>
  simp only at hv
  split at hv
  ·rename_i hc
   obtain ⟨rfl,hc2,rfl,hc4,hc5⟩:=hc
   cases hv
   obtain ⟨f1,ca,el,fz,f2,f3,f4,f5,f6⟩:=ho2
   have ea:=hg f1.symm
   subst ea
   obtain ⟨k1,k2⟩:=hx.cells hc5
   have hds:x'.cells.toList.length=n:=by rw [← k1.length,hc4]
   have f6':=f6 rfl
   have hst:=cG (P:=P) (off:=i.base+off) f2 x'.cells.toList (k1.oneCells k2) (by omega) (uV (by rw [f3]; exact f6'.2))
   obtain ⟨⟨c',s1,s2⟩,s3,s4,s5,s6,s7⟩:=bS (b:=i.blk) x'.cells.toList (i.base+off) w ca f2 (by omega)
   have hsz':c'.size=i.lim:=by
    have:c'.toList.length=ca.toList.length:=by rw [s2]; simp; simp at hds; omega
    simpa [f3] using this
   have hput:K.put o i=K:=by
    funext y
    by_cases e:y=o
    ·subst e; rw [KM.put_self,hK]
    rw [KM.put_ne K _ e]
   refine ⟨(),w.setCells i.blk (i.base+off) x'.cells.toList,K,?_,⟨s5,s6,s7,by rw [s4]; exact Nat.le_refl _,fun k' hk'=>s3 k' (by omega)⟩,KLe.refl _,fun _ _ hh=>hh,?_,rfl⟩
   ·unfold Instr.storeAt
    simp only [Instr.sureAddr,Sem.run_bind,Sem.run_pure,Result.andThen_ok,storeVar,aI hn]
    rw [if_neg (by simp at hds; simp [hds])]
    exact hst
   refine h.turn hK ho1 rfl hput.symm (KLe.refl _) (.inl rfl) (fun k' _ hk'=>s3 k' hk') (by rw [s4]; exact Nat.le_refl _) ?_
   refine ⟨f1,c',el,fz,s1,hsz',?_,fun j y hy=>?_,fun _=>f6'⟩
   ·rw [bu (by omega)]; exact f4
   have hflat:cs.all AV.flat=true:=by
    rw [List.all_eq_true]
    intro y hy
    obtain ⟨j,hj⟩:=List.mem_iff_getElem?.1 hy
    exact (f5 j y hj).1
   refine ⟨List.all_eq_true.1 (dA hflat k2) _ (List.mem_of_getElem? hy),?_⟩
   rw [← Array.getElem?_toList,s2]
   unfold splice at hy
   by_cases h1:j < off
   ·rw [List.getElem?_append_left (by simp; omega),List.getElem?_take,if_pos h1] at hy
    obtain ⟨_,y',p2,p3⟩:=f5 _ _ hy
    refine ⟨y',?_,p3⟩
    rw [List.getElem?_append_left (by simp; omega),List.getElem?_take,if_pos (by omega),Array.getElem?_toList]
    exact p2
   have hl1:(cs.take off).length=off:=by simp; omega
   have hl2:(ca.toList.take (i.base+off)).length=i.base+off:=by simp; omega
   rw [List.getElem?_append_right (by omega),hl1] at hy
   rw [List.getElem?_append_right (by omega),hl2]
   by_cases h2:j - off < n
   ·rw [List.getElem?_append_left (by omega)] at hy
    obtain ⟨y',p2,p3⟩:=k1.get _ _ hy
    refine ⟨y',?_,p3⟩
    rw [List.getElem?_append_left (by omega),show i.base+j - (i.base+off)=j - off by omega]
    exact p2
   rw [List.getElem?_append_right (by omega),List.getElem?_drop] at hy
   obtain ⟨_,y',p2,p3⟩:=f5 _ _ hy
   refine ⟨y',?_,p3⟩
   rw [List.getElem?_append_right (by omega),List.getElem?_drop,Array.getElem?_toList]
   rw [← p2]; congr 1; omega
  cases hv
theorem vq (h:Sim B K H w) {x v:AV} {x':Value} {H':Heap} {zero:List AV} (hx:VR K x x') (hv:(EOp.clear zero).ev [x] H=some (v,H')) {t e:TypeId} (ht:P.underlying t=some (.slice e)) (hz:cF P e=some zero) (hp:jU zero.length=true) (ty:TypeId) :
  hZ P B K H (Builtin.clear_ #[t] ty #[x']) w H' (fun K' r=>VR K' v r):=by
 cases x<;>first | (simp only [EOp.ev] at hv; cases hv; done) | skip
 rename_i o v0 off n z
 simp only [VR] at hx
 obtain ⟨a,c,i,rfl,hK,hnc,hver,hx2⟩:=hx
 obtain ⟨ob,ho1,ho2⟩:=h.obj o i hK
 simp only [EOp.ev,ho1] at hv
 cases ob with
 | map es=>cases hv
 | iter _ _=>cases hv
 | row cs ver wr=>
  simp only at hv
  split at hv
  ·rename_i hc
   obtain ⟨rfl,hc2,rfl,hc4,hc5⟩:=hc
   cases hv
   obtain ⟨f1,ca,el,fz,f2,f3,f4,f5,f6⟩:=ho2
   obtain ⟨_,ha⟩:=hx2 f1.symm
   have ha:=ha (by omega)
   subst ha
   have h0:0 < zero.length:=Nat.le_of_ble_eq_true hp
   obtain ⟨zv,z1,z2,z3⟩:=cn (K:=K) hz w
   have k1:=ry z2 h0 n
   have k2:=fi z3 n
   have hzs:zv.cells.size=zero.length:=by
    have:=z2.length
    simpa using this.symm
   have hzc:(Builtin.zeroCells zv.cells n).toList=((Array.range (n * zero.length)).map fun i=>zv.cells[i % zv.cells.size]!).toList:=by
    unfold Builtin.zeroCells
    rw [hzs]
   rw [← hzc] at k1
   have hds:(Builtin.zeroCells zv.cells n).toList.length=n * zero.length:=by rw [← k1.length,be]
   have f6':=f6 rfl
   have hst:=cG (P:=P) (off:=i.base+off) f2 (Builtin.zeroCells zv.cells n).toList (k1.oneCells k2) (by omega) (uV (by rw [f3]; exact f6'.2))
   obtain ⟨⟨c',s1,s2⟩,s3,s4,s5,s6,s7⟩:=bS (b:=i.blk) (Builtin.zeroCells zv.cells n).toList (i.base+off) w ca f2 (by omega)
   have hsz':c'.size=i.lim:=by
    have:c'.toList.length=ca.toList.length:=by rw [s2]; simp only [List.length_append,List.length_take,List.length_drop,hds,Array.length_toList]; omega
    simpa [f3] using this
   have hput:K.put o i=K:=by
    funext y
    by_cases e:y=o
    ·subst e; rw [KM.put_self,hK]
    rw [KM.put_ne K _ e]
   refine ⟨.tuple #[],w.setCells i.blk (i.base+off) (Builtin.zeroCells zv.cells n).toList,K,?_,⟨s5,s6,s7,by rw [s4]; exact Nat.le_refl _,fun k' hk'=>s3 k' (by omega)⟩,KLe.refl _,fun _ _ hh=>hh,?_,by simp only [VR]; exact ⟨#[],rfl,VRs.nil⟩⟩
   ·unfold Builtin.clear_
    have t1:(#[t]:Array TypeId)[0]? = some t:=rfl
    have t2:(#[Value.slice (some ⟨i.blk,i.base+off,none⟩) n c]:Array Value)[0]? = some (Value.slice (some ⟨i.blk,i.base+off,none⟩) n c):=rfl
    obtain ⟨m,rfl⟩:∃ m,n=m+1:=⟨n - 1,by omega⟩
    simp only [t1,t2,Sem.run_bind,run_underlying ht,Result.andThen_ok,z1,hst,Sem.run_pure]
   refine h.turn hK ho1 rfl hput.symm (KLe.refl _) (.inl rfl) (fun k' _ hk'=>s3 k' hk') (by rw [s4]; exact Nat.le_refl _) ?_
   refine ⟨f1,c',el,fz,s1,hsz',?_,fun j y hy=>?_,fun _=>f6'⟩
   ·rw [bu (by rw [be]; omega)]; exact f4
   have hflat:cs.all AV.flat=true:=by
    rw [List.all_eq_true]
    intro y hy
    obtain ⟨j,hj⟩:=List.mem_iff_getElem?.1 hy
    exact (f5 j y hj).1
   refine ⟨List.all_eq_true.1 (dA hflat k2) _ (List.mem_of_getElem? hy),?_⟩
   rw [← Array.getElem?_toList,s2]
   unfold splice at hy
   have hrl:(d7 zero n).length=n * zero.length:=be _ _
   by_cases h1:j < off
   ·rw [List.getElem?_append_left (by simp; omega),List.getElem?_take,if_pos h1] at hy
    obtain ⟨_,y',p2,p3⟩:=f5 _ _ hy
    refine ⟨y',?_,p3⟩
    rw [List.getElem?_append_left (by simp; omega),List.getElem?_take,if_pos (by omega),Array.getElem?_toList]
    exact p2
   have hl1:(cs.take off).length=off:=by simp; omega
   have hl2:(ca.toList.take (i.base+off)).length=i.base+off:=by simp; omega
   rw [List.getElem?_append_right (by omega),hl1] at hy
   rw [List.getElem?_append_right (by omega),hl2]
   by_cases h2:j - off < n * zero.length
   ·rw [List.getElem?_append_left (by omega)] at hy
    obtain ⟨y',p2,p3⟩:=k1.get _ _ hy
    refine ⟨y',?_,p3⟩
    rw [List.getElem?_append_left (by omega),show i.base+j - (i.base+off)=j - off by omega]
    exact p2
   rw [List.getElem?_append_right (by omega),List.getElem?_drop] at hy
   obtain ⟨_,y',p2,p3⟩:=f5 _ _ hy
   refine ⟨y',?_,p3⟩
   rw [List.getElem?_append_right (by omega),List.getElem?_drop,Array.getElem?_toList]
   rw [← p2]; congr 1; omega
  cases hv
theorem mH {q:Nat} {k k2:AV} {x x2:Value} (hk:iy q k=true) (h:mh k k2=some true) (hx:VR K k x) (hx2:VR K k2 x2):Instr.sameBits 10000 x2 x=true:=by
 have e:(10000:Nat)=9999+1:=rfl
 unfold mh at h
 split at h
 ·simp only [VR] at hx hx2
  subst hx; subst hx2
  split at h
  ·rename_i e'; subst e'
   simp at h
   subst h
   rw [e]
   simp [Instr.sameBits]
  cases h
 ·simp only [VR] at hx hx2
  subst hx; subst hx2
  simp at h
  subst h
  rw [e]
  simp only [Instr.sameBits]
  rw [bytes_beq]
 cases h
theorem ph {q:Nat} {k v:AV} {x y:Value} {d:TypeDesc} (hk:iy q k=true) (hd:dy d=some q) (hx:VR K k x) (hy:VR K v y):∀ {es es':List (AV×AV)} {l:List MapEntry},VRm K es l→qR k v es=some es'→∀ i,
  (Instr.findNow d x l i=some none∧∀ b,VRm K es' (l++[{ key:=x,val:=y,born:=b }]))∨
  ∃ j e,Instr.findNow d x l i=some (some (i+j,e.val))∧l[j]? = some e∧Instr.sameBits 10000 e.key x=true∧VRm K es' (l.set j { e with key:=x,val:=y })
 | [],es',l,hm,h,i=>by
  simp only [VRm] at hm; subst hm; cases h
  exact .inl ⟨rfl,fun b=>⟨_,_,rfl,hx,hy,rfl⟩⟩
 | (k2,v2)::es,es',l,hm,h,i=>by
  simp only [VRm] at hm
  obtain ⟨e,ents,rfl,h1,h2,h3⟩:=hm
  simp only [qR] at h
  split at h
  ·cases h
  ·rename_i he
   cases h
   refine .inr ⟨0,e,by simp only [Instr.findNow,fK hk hd he hx h1,Nat.add_zero],rfl,mH hk he hx h1,?_⟩
   exact ⟨_,_,rfl,hx,hy,h3⟩
  rename_i he
  split at h
  ·cases h
  rename_i es2 hes
  cases h
  rcases ph hk hd hx hy h3 hes (i+1) with ⟨g1,g2⟩ | ⟨j,e',g1,g2,g3,g4⟩
  ·exact .inl ⟨by simp only [Instr.findNow,fK hk hd he hx h1,g1],fun b=>⟨e,_,rfl,h1,h2,g2 b⟩⟩
  exact .inr ⟨j+1,e',by simp only [Instr.findNow,fK hk hd he hx h1,g1]; congr 3; omega,by simpa using g2,g3,⟨e,_,rfl,h1,h2,g4⟩⟩
theorem fC (h:Sim B K H w) {kq:Nat} {m k v r:AV} {m' k' v':Value} {H':Heap} (hv:(EOp.mapSet kq).ev [m,k,v] H=some (r,H')) (hm:VR K m m') (hk:VR K k k') (hx:VR K v v') {t kt et:TypeId} {d:TypeDesc}
  (ht:P.underlying t=some (.map kt et)) (hkt:P.underlying kt=some d) (hd:dy d=some kq):hZ P B K H (Instr.mapUpdate t m' k' v') w H' (fun _ _=>r=.undef):=by
 cases m<;>first | (simp only [EOp.ev] at hv; cases hv; done) | skip
 rename_i o
 simp only [EOp.ev] at hv
 split at hv
 ·rename_i es hes
  split at hv
  ·rename_i hko
   split at hv
   ·rename_i es' hput
    cases hv
    simp only [VR] at hm
    obtain ⟨rr,i,rfl,hK,hr⟩:=hm
    obtain ⟨ob,h1,h2⟩:=h.obj o i hK
    rw [hes] at h1; cases h1
    obtain ⟨g1,g2,ents,clock,g3,g4⟩:=h2
    have hri:=hr g1
    subst hri
    have hc:=eT (P:=P) (w:=w) hkt hko hd hk false
    have hgo:=MapKept.run_getObj_map (P:=P) g3
    have hputK:K.put o i=K:=by
     funext y
     by_cases e:y=o
     ·subst e; rw [KM.put_self,hK]
     rw [KM.put_ne K _ e]
    have fin:∀ (ents':Array MapEntry) (clock':Nat),(Instr.mapUpdate t (.map (some i.blk)) k' v').run P w=.ok () { w with heap:=w.heap.setIfInBounds i.blk (.map ents' clock') }→VRm K es' ents'.toList→
      hZ P B K H (Instr.mapUpdate t (.map (some i.blk)) k' v') w (H.set o (.map es')) (fun _ _=>AV.undef=.undef):=by
     intro ents' clock' hrun hm'
     obtain ⟨q1,q2⟩:=heap_set (o':=.map ents' clock') g3
     refine ⟨(),_,K,hrun,⟨rfl,rfl,rfl,by simp,fun k' hk'=>q2 k' (by omega)⟩,KLe.refl _,fun _ _ hh=>hh,?_,rfl⟩
     exact h.turn hK hes rfl hputK.symm (KLe.refl _) (.inl rfl) (fun k' _ hk'=>q2 k' hk') (by simp) ⟨g1,g2,ents',clock',q1,hm'⟩
    have hset:∀ ob',(setObj i.blk ob').run P w=.ok () { w with heap:=w.heap.setIfInBounds i.blk ob' }:=fun ob'=>MapKept.run_setObj_map (P:=P) ob' g3
    rcases ph hko hd hk hx g4 hput 0 with ⟨f1,f2⟩ | ⟨j,e,f1,f2,f3,f4⟩
    ·have hf:(Instr.findKey kt k' ents.toList).run P w=.ok none w:=by simp [Instr.findKey,run_underlying hkt,f1]
     refine fin (ents.push { key:=k',val:=v',born:=clock }) (clock+1) ?_ (by simpa using f2 clock)
     unfold Instr.mapUpdate
     simp only [Sem.run_bind,run_underlying ht,Result.andThen_ok,hgo,hc,hf,hset]
    have hf:(Instr.findKey kt k' ents.toList).run P w=.ok (some (0+j,e.val)) w:=by simp [Instr.findKey,run_underlying hkt,f1]
    have hj:j < ents.size:=by
     rcases Nat.lt_or_ge j ents.size with hh | hh
     ·exact hh
     rw [List.getElem?_eq_none (by simpa using hh)] at f2; cases f2
    refine fin (ents.modify j fun e=>{ e with key:=k',val:=v' }) clock ?_ ?_
    ·unfold Instr.mapUpdate
     simp only [Sem.run_bind,run_underlying ht,Result.andThen_ok,hgo,hc,hf,Nat.zero_add]
     have e2:((ents[j]?).map (·.key)).getD k'=e.key:=by
      rw [← Array.getElem?_toList,f2]; rfl
     rw [e2]
     simp only [Instr.keyThatStays,f3,if_true,Sem.run_pure,Result.andThen_ok,hset]
    have e3:(ents.modify j fun e=>{ e with key:=k',val:=v' }).toList=ents.toList.set j { e with key:=k',val:=v' }:=by
     rw [Array.toList_modify]
     apply List.ext_getElem?
     intro y
     rw [List.getElem?_modify,List.getElem?_set]
     by_cases ey:j=y
     ·subst ey
      rw [if_pos rfl,if_pos (by simpa using hj),f2]; simp
     simp [ey]
    rw [e3]; exact f4
   cases hv
  cases hv
 cases hv
theorem A1 (h:Sim B K H w) {x y v:AV} {x' y':Value} {H':Heap} {z:Nat} (hx:VR K x x') (hy:VR K y y') (hv:(EOp.copy z).ev [x,y] H=some (v,H')) {t t2 e:TypeId} (ht:P.underlying t=some (.slice e)) (hz:bh P e=some z) (hp:jU z=true) (ty:TypeId) :
  hZ P B K H (Builtin.copy_ #[t,t2] ty #[x',y']) w H' (fun K' r=>VR K' v r):=by
 cases x<;>first | (simp only [EOp.ev] at hv; cases hv; done) | skip
 rename_i o v0 off n z1
 cases y<;>first | (simp only [EOp.ev] at hv; cases hv; done) | skip
 rename_i o2 v2 off2 n2 z2
 simp only [VR] at hx hy
 obtain ⟨a,c,i,rfl,hK,hnc,hver,hx2⟩:=hx
 obtain ⟨a2,c2,i2,rfl,hK2,hnc2,hver2,hy2⟩:=hy
 obtain ⟨ob,ho1,ho2⟩:=h.obj o i hK
 obtain ⟨ob2,ho3,ho4⟩:=h.obj o2 i2 hK2
 simp only [EOp.ev,ho1,ho3] at hv
 cases ob2 with
 | map es=>cases hv
 | iter _ _=>cases hv
 | row cs2 ver2 wr2=>
 cases ob with
 | map es=>cases hv
 | iter _ _=>cases hv
 | row cs ver wr=>
  simp only at hv
  split at hv
  ·rename_i hc
   obtain ⟨rfl,rfl,hc2,hc3,rfl,hc5,hc6,rfl,rfl⟩:=hc
   cases hv
   obtain ⟨f1,ca,el,fz,f2,f3,f4,f5,f6⟩:=ho2
   obtain ⟨b1,ca2,el2,fz2,b2,b3,b4,b5,b6⟩:=ho4
   obtain ⟨_,ha⟩:=hx2 f1.symm
   have ha:=ha (by omega)
   subst ha
   obtain ⟨_,ha2⟩:=hy2 b1.symm
   have ha2:=ha2 (by omega)
   subst ha2
   have h0:0 < z2:=Nat.le_of_ble_eq_true hp
   generalize hm:Nat.min n2 n=m
   have hmn:m≤n:=by subst hm; exact Nat.min_le_right _ _
   have hmn2:m≤n2:=by subst hm; exact Nat.min_le_left _ _
   have hmz:m * z2≤n * z2:=Nat.mul_le_mul_right _ hmn
   have hmz2:m * z2≤n2 * z2:=Nat.mul_le_mul_right _ hmn2
   have hrl:((cs2.drop off2).take (m * z2)).length=m * z2:=by simp; omega
   have hds0:((ca2.toList.drop (i2.base+off2)).take (m * z2)).length=m * z2:=by
    have:=b5 (off2+m * z2 - 1)
    by_cases hz0:m * z2=0
    ·rw [hz0]; simp
    obtain ⟨_,y',p2,_⟩:=this _ (List.getElem?_eq_getElem (by omega))
    have:=(Array.getElem?_eq_some_iff.1 p2).1
    simp; omega
   generalize hds:(ca2.toList.drop (i2.base+off2)).take (m * z2)=ds at hds0
   have hdg:∀ j,j < m * z2→ds[j]? = ca2[i2.base+off2+j]?:=fun j hj=>by
    rw [← hds,List.getElem?_take,if_pos hj,List.getElem?_drop,Array.getElem?_toList]
   have k1:VRs K ((cs2.drop off2).take (m * z2)) ds:=by
    refine VRs.of_get (by rw [hrl,hds0]) fun j y hy=>?_
    have hj:j < m * z2:=by have:=(List.getElem?_eq_some_iff.1 hy).1; omega
    rw [List.getElem?_take,if_pos hj,List.getElem?_drop] at hy
    obtain ⟨_,y',p2,p3⟩:=b5 _ _ hy
    exact ⟨y',by rw [hdg j hj,← p2]; congr 1; omega,p3⟩
   have k2:((cs2.drop off2).take (m * z2)).all AV.flat=true:=by
    rw [List.all_eq_true]
    intro y hy
    obtain ⟨j,hj⟩:=List.mem_iff_getElem?.1 (List.mem_of_mem_drop (List.mem_of_mem_take hy))
    exact (b5 j y hj).1
   have hld:(loadCells ⟨i2.blk,i2.base+off2,none⟩ (m * z2)).run P w=.ok ds.toArray w:=by
    refine dV hds0 fun j y hy=>?_
    have hj:j < m * z2:=by have:=(List.getElem?_eq_some_iff.1 hy).1; omega
    rw [hdg j hj] at hy
    unfold World.cell?
    simp only [b2]
    exact hy
   have f6':=f6 rfl
   have hst:=cG (P:=P) (off:=i.base+off) f2 ds (k1.oneCells k2) (by omega) (uV (by rw [f3]; exact f6'.2))
   obtain ⟨⟨c',s1,s2⟩,s3,s4,s5,s6,s7⟩:=bS (b:=i.blk) ds (i.base+off) w ca f2 (by omega)
   have hsz':c'.size=i.lim:=by
    have:c'.toList.length=ca.toList.length:=by rw [s2]; simp only [List.length_append,List.length_take,List.length_drop,hds0,Array.length_toList]; omega
    simpa [f3] using this
   have hput:K.put o i=K:=by
    funext y
    by_cases e:y=o
    ·subst e; rw [KM.put_self,hK]
    rw [KM.put_ne K _ e]
   refine ⟨goInt m,w.setCells i.blk (i.base+off) ds,K,?_,⟨s5,s6,s7,by rw [s4]; exact Nat.le_refl _,fun k' hk'=>s3 k' (by omega)⟩,KLe.refl _,fun _ _ hh=>hh,?_,by simp only [VR,goInt]⟩
   ·unfold Builtin.copy_
    have t1:(#[t,t2]:Array TypeId)[0]? = some t:=rfl
    have t2:(#[Value.slice (some ⟨i.blk,i.base+off,none⟩) n c,Value.slice (some ⟨i2.blk,i2.base+off2,none⟩) n2 c2]:Array Value)[0]? = some (Value.slice (some ⟨i.blk,i.base+off,none⟩) n c):=rfl
    have t3:(#[Value.slice (some ⟨i.blk,i.base+off,none⟩) n c,Value.slice (some ⟨i2.blk,i2.base+off2,none⟩) n2 c2]:Array Value)[1]? = some (Value.slice (some ⟨i2.blk,i2.base+off2,none⟩) n2 c2):=rfl
    simp only [t1,t2,t3,Sem.run_bind,run_underlying ht,Result.andThen_ok,Builtin.lenOf,Sem.run_pure,aI hz,Builtin.firstCells,hm,hld,hst]
   refine h.turn hK ho1 rfl hput.symm (KLe.refl _) (.inl rfl) (fun k' _ hk'=>s3 k' hk') (by rw [s4]; exact Nat.le_refl _) ?_
   refine ⟨f1,c',el,fz,s1,hsz',?_,fun j y hy=>?_,fun _=>f6'⟩
   ·rw [bu (by rw [hrl]; omega)]; exact f4
   have hflat:cs.all AV.flat=true:=by
    rw [List.all_eq_true]
    intro y hy
    obtain ⟨j,hj⟩:=List.mem_iff_getElem?.1 hy
    exact (f5 j y hj).1
   refine ⟨List.all_eq_true.1 (dA hflat k2) _ (List.mem_of_getElem? hy),?_⟩
   rw [← Array.getElem?_toList,s2]
   unfold splice at hy
   by_cases h1:j < off
   ·rw [List.getElem?_append_left (by simp; omega),List.getElem?_take,if_pos h1] at hy
    obtain ⟨_,y',p2,p3⟩:=f5 _ _ hy
    refine ⟨y',?_,p3⟩
    rw [List.getElem?_append_left (by simp; omega),List.getElem?_take,if_pos (by omega),Array.getElem?_toList]
    exact p2
   have hl1:(cs.take off).length=off:=by simp; omega
   have hl2:(ca.toList.take (i.base+off)).length=i.base+off:=by simp; omega
   rw [List.getElem?_append_right (by omega),hl1] at hy
   rw [List.getElem?_append_right (by omega),hl2]
   by_cases h2:j - off < m * z2
   ·rw [List.getElem?_append_left (by omega)] at hy
    obtain ⟨y',p2,p3⟩:=k1.get _ _ hy
    refine ⟨y',?_,p3⟩
    rw [List.getElem?_append_left (by omega),show i.base+j - (i.base+off)=j - off by omega]
    exact p2
   rw [List.getElem?_append_right (by omega),List.getElem?_drop] at hy
   obtain ⟨_,y',p2,p3⟩:=f5 _ _ hy
   refine ⟨y',?_,p3⟩
   rw [List.getElem?_append_right (by omega),List.getElem?_drop,Array.getElem?_toList]
   rw [← p2]; congr 1; omega
  cases hv
theorem oN (h:Sim B K H w) {x v:AV} {x':Value} {H':Heap} (hx:VR K x x') (hv:EOp.byteConv.ev [x] H=some (v,H')) {s d e0 e:TypeId} (hsd:(s==d)=true) (hs:P.underlying s=some (.slice e0)) (hd:P.underlying d=some (.slice e)) (he:P.underlying e=some (.int .u8)) :
  hZ P B K H (convert s d x') w H' (fun K' r=>VR K' v r):=by
 cases x<;>first | (simp only [EOp.ev] at hv; cases hv; done) | skip
 rename_i o v0 off n z
 simp only [EOp.ev] at hv
 split at hv
 ·rename_i cs ver hes
  split at hv
  ·rename_i hc
   obtain ⟨rfl,hn⟩:=hc
   cases hv
   simp only [VR] at hx
   obtain ⟨a,c,i,rfl,hK,hnc,hver,hx2⟩:=hx
   obtain ⟨ob,h1,h2⟩:=h.obj o i hK
   rw [hes] at h1; cases h1
   obtain ⟨g1,ca,el,fz,g2,g3,g4,g5,g6⟩:=h2
   obtain ⟨_,ha⟩:=hx2 g1.symm
   have ha:=ha (by omega)
   subst ha
   obtain ⟨g7,g8⟩:=g6 rfl
   have hmark:(markStringish ⟨i.blk,i.base+off,none⟩).run P w=.ok () (w.freeze ⟨i.blk,ca.size,none⟩ 1):=by
    unfold markStringish
    simp only [Sem.run_bind,run_shape,Result.andThen_ok]
    have:w.shape? i.blk=some (el,ca.size):=by unfold World.shape?; rw [g2]
    rw [this]
    rfl
   have hother:∀ k,k≠i.blk→(w.freeze ⟨i.blk,ca.size,none⟩ 1).heap[k]? = w.heap[k]?:=by
    intro k hk
    simp only [World.freeze,Nat.one_ne_zero,if_false,Array.getElem?_modify]
    rw [if_neg (fun e=>hk e.symm)]
   have hself:(w.freeze ⟨i.blk,ca.size,none⟩ 1).heap[i.blk]? = some (.cells ca el (if fz.1==fz.2 then (ca.size,ca.size+1) else (min fz.1 ca.size,max fz.2 (ca.size+1)))):=by
    simp only [World.freeze,Nat.one_ne_zero,if_false,Array.getElem?_modify]
    rw [if_pos trivial,g2]
    rfl
   have hsz:(w.freeze ⟨i.blk,ca.size,none⟩ 1).heap.size=w.heap.size:=by simp [World.freeze]
   refine ⟨.slice (some ⟨i.blk,i.base+off,none⟩) n c,w.freeze ⟨i.blk,ca.size,none⟩ 1,K,?_,⟨rfl,rfl,rfl,by rw [hsz]; exact Nat.le_refl _,fun k hk=>hother k (by omega)⟩,KLe.refl _,fun _ _ hh=>hh,?_,?_⟩
   ·unfold convert
    simp only [Sem.run_bind,run_underlying hs,run_underlying hd,Result.andThen_ok,run_underlying he,hsd,hmark]
    rfl
   ·refine ⟨fun o' i' h3=>?_,h.dom,h.excl,by rw [hsz]; exact h.big⟩
    obtain ⟨ob',h4,h5⟩:=h.obj o' i' h3
    refine ⟨ob',h4,?_⟩
    by_cases e:i'.blk=i.blk
    ·have eo:o=o':=h.excl o o' i i' _ hK h3 hes rfl e.symm
     subst eo
     rw [hK] at h3; cases h3
     rw [hes] at h4; cases h4
     refine ⟨g1,ca,el,_,hself,g3,g4,g5,fun _=>⟨g7,?_⟩⟩
     rcases g8 with g8 | g8
     ·rw [if_pos (by simpa using g8)]; exact .inr (by simp only; omega)
     split
     ·exact .inr (by simp only; omega)
     exact .inr (by simp only; omega)
    exact h5.step (KLe.refl _) (hother _ e)
   simp only [VR]
   exact ⟨_,c,i,rfl,hK,hnc,hver,hx2⟩
  cases hv
 cases hv
theorem qn (h:Sim B K H w) {x v:AV} {x':Value} {H':Heap} (hx:VR K x x') (hv:EOp.nextStr.ev [x] H=some (v,H')) (ty:TypeId):hZ P B K H (Instr.next x' true ty) w H' (fun K' r=>VR K' v r):=by
 cases x<;>first | (simp only [EOp.ev] at hv; cases hv; done) | skip
 rename_i o
 simp only [EOp.ev] at hv
 split at hv
 ·rename_i s pos hes
  simp only [VR] at hx
  obtain ⟨r,i,rfl,hK,hr⟩:=hx
  obtain ⟨ob,h1,h2⟩:=h.obj o i hK
  rw [hes] at h1; cases h1
  obtain ⟨g1,g2,g3⟩:=h2
  have hri:=hr g1
  subst hri
  have hgo:(getObj i.blk).run P w=.ok (.stringIter ⟨s.toArray⟩ pos) w:=by simp [getObj,Sem.run,g3]
  have hsz:(⟨s.toArray⟩:ByteArray).size=s.length:=by simp [ByteArray.size]
  have hputK:K.put o i=K:=by
   funext y
   by_cases e:y=o
   ·subst e; rw [KM.put_self,hK]
   rw [KM.put_ne K _ e]
  split at hv
  ·rename_i hp
   cases hv
   generalize hdc:Utf8.decode ⟨s.toArray⟩ pos=dc
   obtain ⟨c,width⟩:=dc
   obtain ⟨q1,q2⟩:=heap_set (o':=.stringIter ⟨s.toArray⟩ (pos+width)) g3
   have hset:(setObj i.blk (.stringIter ⟨s.toArray⟩ (pos+width))).run P w=.ok () { w with heap:=w.heap.setIfInBounds i.blk (.stringIter ⟨s.toArray⟩ (pos+width)) }:=by simp [setObj,Sem.run,g3]
   refine ⟨.tuple #[.bool true,goInt pos,.int .i32 c],{ w with heap:=w.heap.setIfInBounds i.blk (.stringIter ⟨s.toArray⟩ (pos+width)) },K,?_,⟨rfl,rfl,rfl,?_,fun k' hk'=>q2 k' (by omega)⟩,KLe.refl _,fun _ _ hh=>hh,?_,?_⟩
   ·unfold Instr.next
    simp only [Sem.run_bind,hgo,Result.andThen_ok,hsz,if_pos hp,hdc,hset]
    rfl
   ·simp
   ·exact h.turn hK hes rfl hputK.symm (KLe.refl _) (.inl rfl) (fun k' _ hk'=>q2 k' hk') (by simp) ⟨g1,g2,q1⟩
   simp only [VR]
   exact ⟨_,rfl,VRs.cons (by simp only [VR]) (VRs.cons (by simp only [VR,goInt]) (VRs.cons (by simp only [VR]) VRs.nil))⟩
  rename_i hp
  cases hv
  refine ⟨.tuple #[.bool false],w,K,?_,Below.refl _ _,KLe.refl _,fun _ _ hh=>hh,h,?_⟩
  ·unfold Instr.next
   simp only [Sem.run_bind,hgo,Result.andThen_ok,hsz,if_neg hp]
   rfl
  simp only [VR]
  exact ⟨_,rfl,VRs.cons (by simp only [VR]) VRs.nil⟩
 cases hv
end
end Go.Am
