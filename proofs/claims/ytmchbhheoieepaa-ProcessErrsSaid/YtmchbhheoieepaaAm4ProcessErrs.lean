/- An abstract machine for the model's code, and that the model does what it does. No condition. Own work. -/
import Derived.Test.YtmchbhheoieepaaAm3ProcessErrs
set_option linter.unusedSimpArgs false
set_option linter.unusedVariables false
namespace Go.Am
open Go Go.RowKit
section
variable {P:Program} {K:KM} {w:World} {B:Nat} {H:Heap}
def jz (P:Program) (a:Act) (o:Oper) (w:World) (v':Value) (w':World):Prop:=
 (execOp a.eval o).run P w=.ok (.value v') w'∨((execOp a.eval o).run P w=.ok .skip w'∧v'=Go.undef)
theorem jH.lift {id:Nat} {s:Sem Value} {v:AV} (h:jH P B K H id s w v) {a:Act} {o:Oper} (ho:execOp a.eval o=do pure (Next.value (← s))) :
  ∃ v' w' K',jz P a o w v' w'∧Below B w w'∧KLe K K'∧(∀ x,x≠id→K' x=K x)∧Sim B K' H w'∧VR K' v v':=by
 obtain ⟨v',w',K',h1,h2⟩:=h
 exact ⟨v',w',K',.inl (by rw [ho]; exact i9 h1),h2⟩
theorem gM {ts:List TypeId} {n m:Nat} (h:au P .append ts=some (.e (.append n m))):∃ t u e z,ts=[t,u]∧AppT P t u e n m z:=by
 match ts,h with
 | [t,u],h=>
  simp only [au] at h
  split at h
  ·rename_i e hd
   split at h
   ·cases h
   ·rename_i d hne hu
    split at h
    ·rename_i z n' m' hz hn hm
     split at h
     ·rename_i hb
      cases h
      simp only [Bool.and_eq_true] at hb
      exact ⟨t,u,e,z,rfl,⟨hd,⟨d,hu,fun k e'=>by subst e'; exact hne _ rfl⟩,hz,hn,hm,hb.1.1,hb.1.2,Nat.eq_of_beq_eq_true hb.2⟩⟩
     cases h
    cases h
   cases h
  cases h
theorem p7 {args:Array Operand} {a:Act} {x y:Operand} (h:args.toList=[x,y]):args.map a.eval = #[a.eval x,a.eval y]:=by
 have:args = #[x,y]:=by apply Array.ext'; simpa using h
 subst this; simp
theorem v6 (hs:Sim B K H w) {a:Act} {e:Env} (he:ER K e a.tmps) {o:Oper} {q:NOp} {xs:List Opd} {vs:List AV} {ob:AObj} {id:Nat} (h:bo P o.op=some (.n q,xs)) (hev:evs e xs=some vs) (hob:q.ob vs H=some ob)
  (hK:K id=none) (hid:H.get id=some ob) (hlt:id < H.n):∃ v' w' K',jz P a o w v' w'∧Below B w w'∧KLe K K'∧(∀ x,x≠id→K' x=K x)∧Sim B K' H w'∧VR K' (q.mk vs id) v':=by
 obtain ⟨dst,op,type,pos,after,guard⟩:=o
 simp only at h
 cases op with
 | alloc t=>
  obtain ⟨h1,h2⟩:=wO h
  have hvs:=aD he h2 hev
  simp only [List.map_nil] at hvs
  have e0:vs=[]:=List.eq_nil_of_length_eq_zero (by rw [hvs.length]; rfl)
  subst e0
  split at h1
  ·rename_i z hz
   cases h1
   simp only [NOp.ob] at hob
   cases hob
   obtain ⟨v0,g1,g2,g3⟩:=cn (K:=K) hz w
   have:=mo (P:=P) hs t hK hid hlt g2 g3
   obtain ⟨v',w',K',k1,k2⟩:=this
   refine ⟨v',w',K',.inl ?_,k2⟩
   show (do pure (Next.value (← _)):Sem Next).run P w=_
   refine i9 ?_
   unfold Instr.alloc
   simp only [Sem.run_bind,g1,Result.andThen_ok]
   exact k1
  cases h1
 | box t x=>
  obtain ⟨h1,h2⟩:=wO h
  cases h1
  obtain ⟨u,rfl,hu⟩:=mb (aD he h2 hev)
  simp only [NOp.ob] at hob
  split at hob
  ·cases hob
  rename_i ht
  cases hob
  obtain ⟨g2,g3⟩:=hu.cells (by simpa using ht)
  exact (mo (P:=P) hs t hK hid hlt g2 g3).lift rfl
 | buildSlice t len ps=>
  obtain ⟨h1,h2⟩:=wO h
  have hvs:=aD he h2 hev
  split at h1
  ·rename_i e' hd
   split at h1
   ·rename_i z n hz hn
    split at h1
    ·rename_i hb
     cases h1
     simp only [Bool.and_eq_true] at hb
     simp only [NOp.ob] at hob
     split at hob
     ·rename_i cs hcs
      cases hob
      have:=kJ (P:=P) (ps:=ps.toList.map fun p=>(p.1,a.eval p.2)) (vs:=vs) hs hK hid hlt hd hz hn hb.1.1 (Nat.le_of_ble_eq_true hb.1.2) (Nat.eq_of_beq_eq_true hb.2) (by simpa [List.map_map,Function.comp_def] using hvs) (by simpa [List.map_map,Function.comp_def] using hcs)
      refine this.lift ?_
      have e2:(ps.toList.map fun p=>(p.1,a.eval p.2)).toArray=ps.map fun p=>(p.1,a.eval p.2):=by apply Array.ext'; simp
      rw [e2]
      rfl
     cases hob
    cases h1
   cases h1
  cases h1
 | convert s d x=>
  obtain ⟨h1,h2⟩:=wO h
  obtain ⟨u,rfl,hu⟩:=mb (aD he h2 hev)
  split at h1
  ·cases h1
  ·cases h1
  ·rename_i e' hss hdd
   split at h1
   ·rename_i hee
    cases h1
    cases u<;>first | (simp only [NOp.ob] at hob; cases hob; done) | skip
    simp only [NOp.ob] at hob
    split at hob
    ·rename_i hl
     cases hob
     have:=kN (P:=P) hs hK hid hlt hl e'
     obtain ⟨v',w',K',k1,k2⟩:=this
     refine ⟨v',w',K',.inl ?_,k2⟩
     show (do pure (Next.value (← _)):Sem Next).run P w=_
     refine i9 ?_
     simp only [VR] at hu
     rw [hu]
     unfold convert
     simp only [Sem.run_bind,run_underlying hss,run_underlying hdd,Result.andThen_ok,run_underlying hee]
     exact k1
    cases hob
   cases h1
  ·(repeat' split at h1)<;>cases h1
  ·(repeat' split at h1)<;>cases h1
  cases h1
 | makeMap t r=>
  cases r with
  | some x=>cases h
  | none=>
   simp only [bo] at h
   obtain ⟨h1,h2⟩:=wO h
   cases h1
   have hvs:=aD he h2 hev
   simp only [List.map_nil] at hvs
   have e0:vs=[]:=List.eq_nil_of_length_eq_zero (by rw [hvs.length]; rfl)
   subst e0
   simp only [NOp.ob] at hob
   cases hob
   exact (vi (P:=P) hs hK hid hlt t).lift rfl
 | makeSlice t l c=>
  obtain ⟨h1,h2⟩:=wO h
  obtain ⟨u,u',rfl,hu,hu'⟩:=zq (aD he h2 hev)
  split at h1
  ·rename_i e' hd
   split at h1
   ·rename_i z n m hz hn hm
    split at h1
    ·rename_i hb
     cases h1
     simp only [Bool.and_eq_true] at hb
     cases u<;>first | (simp only [NOp.ob] at hob; cases hob; done) | skip
     cases u'<;>first | (simp only [NOp.ob] at hob; cases hob; done) | skip
     simp only [NOp.ob] at hob
     split at hob
     ·rename_i hc
      cases hob
      simp only [VR] at hu hu'
      refine jH.lift (s:=Instr.makeSlice t (a.eval l) (a.eval c)) ?_ rfl
      rw [hu,hu']
      exact qm (P:=P) hs hK hid hlt hd hz hn hm hb.1.1 (Nat.eq_of_beq_eq_true hb.2) hc
     cases hob
    cases h1
   cases h1
  cases h1
 | range t x=>
  obtain ⟨h1,h2⟩:=wO h
  obtain ⟨u,rfl,hu⟩:=mb (aD he h2 hev)
  split at h1
  ·rename_i hd
   cases h1
   cases u<;>first | (simp only [NOp.ob] at hob; cases hob; done) | skip
   simp only [NOp.ob] at hob
   cases hob
   simp only [VR] at hu
   refine (nL (P:=P) hs hK hid hlt hd).lift ?_
   rw [← hu]
   rfl
  cases h1
 | call c=>
  obtain ⟨callee,args,argTypes⟩:=c
  simp only [bo] at h
  split at h
  ·split at h
   ·rename_i x n m hargs hcb
    obtain ⟨h1,h2⟩:=wO h
    cases h1
    obtain ⟨u,rfl,hu⟩:=mb (aD he h2 hev)
    simp only [NOp.ob] at hob
    split at hob
    ·rename_i cs k ha
     split at hob
     ·rename_i hroom
      cases hob
      obtain ⟨t,u',e',z,ht,T⟩:=gM hcb
      have:=gO (P:=P) hs T hu ha hroom hK hid hlt type
      refine this.lift ?_
      have hat:argTypes = #[t,u']:=by apply Array.ext'; simpa using ht
      simp only [execOp,resolve,p7 hargs,hat]
      rfl
     cases hob
    cases hob
   obtain ⟨h1,h2⟩:=wO h
   exfalso
   rename_i hne
   revert h1
   rcases argTypes.toList with _ | ⟨t,_ | ⟨t',_ | ⟨_,_⟩⟩⟩<;>simp only [au]<;>intro h1<;>((repeat' split at h1)<;>cases h1)
  ·obtain ⟨h1,h2⟩:=wO h
   exfalso
   rename_i b hne
   revert h1
   cases b<;>rcases argTypes.toList with _ | ⟨t,_ | ⟨t',_ | ⟨_,_⟩⟩⟩<;>simp only [au]<;>intro h1<;>((repeat' split at h1)<;>cases h1)
  ·obtain ⟨h1,h2⟩:=wO h; unfold nj at h1; split at h1<;>cases h1
  ·obtain ⟨h1,h2⟩:=wO h; cases h1
  obtain ⟨h1,h2⟩:=wO h; cases h1
 | binOp op t x y yt=>
  obtain ⟨h1,h2⟩:=wO h
  split at h1
  ·unfold bK at h1; (repeat' (first | split at h1 | (cases hh:P.eqGuardType P.depth t<;>rw [hh] at h1<;>simp only [cond_true,cond_false] at h1)))<;>cases h1
  ·unfold bK at h1; (repeat' (first | split at h1 | (cases hh:P.eqGuardType P.depth t<;>rw [hh] at h1<;>simp only [cond_true,cond_false] at h1)))<;>cases h1
  cases h1
 | next it s=>
  cases s with
  | true=>obtain ⟨h1,h2⟩:=wO h; cases h1
  | false=>cases h
 | slice t x lo hi mx=>
  cases mx with
  | some m=>cases h
  | none=>
   obtain ⟨h1,h2⟩:=wO h
   (repeat' split at h1)<;>cases h1
 | panic x=>obtain ⟨h1,h2⟩:=wO h; cases h1
 | move x=>obtain ⟨h1,h2⟩:=wO h; cases h1
 | assign x=>obtain ⟨h1,h2⟩:=wO h; cases h1
 | pick c x y=>obtain ⟨h1,h2⟩:=wO h; cases h1
 | nilCheck x=>obtain ⟨h1,h2⟩:=wO h; cases h1
 | unOp op t x=>obtain ⟨h1,h2⟩:=wO h; cases h1
 | extract t i=>obtain ⟨h1,h2⟩:=wO h; cases h1
 | load t x | lookup t x i ok | build t ps | store t x y | makeInterface t x | makeFunc fn first caps | fieldAddr t x f | field t x f | indexAddr t x i | index t x i | mapUpdate t m k x | insert t m k x=>
  obtain ⟨h1,h2⟩:=wO h
  (repeat' split at h1)<;>cases h1
 | _=>cases h
end
end Go.Am
namespace Go.Am
open Go Go.RowKit
section
variable {P:Program} {K:KM} {w:World} {B:Nat} {H:Heap}
theorem hZ.liftV {s:Sem Value} {v:AV} {H':Heap} (h:hZ P B K H s w H' (fun K' r=>VR K' v r)) {a:Act} {o:Oper} (ho:execOp a.eval o=do pure (Next.value (← s))) :
  ∃ v' w' K',jz P a o w v' w'∧Below B w w'∧KLe K K'∧(∀ x,x < H.n→K x=none→K' x=none)∧Sim B K' H' w'∧VR K' v v':=by
 obtain ⟨v',w',K',h1,h2⟩:=h
 exact ⟨v',w',K',.inl (by rw [ho]; exact i9 h1),h2⟩
theorem hZ.liftU {s:Sem Unit} {v:AV} {H':Heap} (h:hZ P B K H s w H' (fun _ _=>v=.undef)) {a:Act} {o:Oper} (ho:execOp a.eval o=do s; pure Next.skip) :
  ∃ v' w' K',jz P a o w v' w'∧Below B w w'∧KLe K K'∧(∀ x,x < H.n→K x=none→K' x=none)∧Sim B K' H' w'∧VR K' v v':=by
 obtain ⟨r,w',K',h1,h2,h3,h4,h5,rfl⟩:=h
 refine ⟨Go.undef,w',K',.inr ⟨?_,rfl⟩,h2,h3,h4,h5,VR.undef⟩
 rw [ho]
 simp only [Sem.run_bind,h1,Result.andThen_ok]
 rfl
theorem CU (hs:Sim B K H w) {a:Act} {e:Env} (he:ER K e a.tmps) {o:Oper} {q:EOp} {xs:List Opd} {vs:List AV} {v:AV} {H':Heap} (h:bo P o.op=some (.e q,xs)) (hev:evs e xs=some vs) (hv:q.ev vs H=some (v,H')) :
  ∃ v' w' K',jz P a o w v' w'∧Below B w w'∧KLe K K'∧(∀ x,x < H.n→K x=none→K' x=none)∧Sim B K' H' w'∧VR K' v v':=by
 obtain ⟨dst,op,type,pos,after,guard⟩:=o
 simp only at h
 have blt:∀ args (argTypes:Array TypeId),ay (au P .append argTypes.toList) (Array.toList args)=some (.e q,xs)→
   ∃ v' w' K',jz P a ⟨dst,.call ⟨.builtin .append,args,argTypes⟩,type,pos,after,guard⟩ w v' w'∧Below B w w'∧KLe K K'∧(∀ x,x < H.n→K x=none→K' x=none)∧Sim B K' H' w'∧VR K' v v':=by
  intro args argTypes hw
  obtain ⟨h1,h2⟩:=wO hw
  have hvs:=aD he h2 hev
  have hq:∃ n m,q=.append n m:=by
   revert h1
   rcases argTypes.toList with _ | ⟨t,_ | ⟨t',_ | ⟨_,_⟩⟩⟩<;>simp only [au]<;>intro h1
   ·cases h1
   ·cases h1
   ·(repeat' split at h1)<;>first | (cases h1; done) | (cases h1; exact ⟨_,_,rfl⟩)
   cases h1
  obtain ⟨n,m,rfl⟩:=hq
  obtain ⟨t,u,e',z,ht,T⟩:=gM h1
  have h2v:∃ x y,vs=[x,y]:=by
   rcases vs with _ | ⟨x,_ | ⟨y,_ | ⟨_,_⟩⟩⟩<;>first | (simp only [EOp.ev] at hv; cases hv; done) | exact ⟨_,_,rfl⟩
  obtain ⟨x,y,rfl⟩:=h2v
  have hargs:∃ ox oy,args.toList=[ox,oy]:=by
   have:=hvs.length
   simp only [List.length_map] at this
   generalize args.toList=L at this
   match L,this with
   | [ox,oy],_=>exact ⟨ox,oy,rfl⟩
  obtain ⟨ox,oy,hargs⟩:=hargs
  rw [hargs] at hvs
  obtain ⟨x1,y1,e2,hx,hy⟩:=hvs.two
  simp only [List.map_cons,List.map_nil,List.cons.injEq,and_true] at e2
  obtain ⟨rfl,rfl⟩:=e2
  refine (tf (P:=P) hs T hx hy hv type).liftV ?_
  have hat:argTypes = #[t,u]:=by apply Array.ext'; simpa using ht
  simp only [execOp,resolve,p7 hargs,hat]
  rfl
 cases op with
 | store t x y=>
  obtain ⟨h1,h2⟩:=wO h
  obtain ⟨u,u',rfl,hu,hu'⟩:=zq (aD he h2 hev)
  split at h1
  ·rename_i n hn
   cases h1
   have hp:∃ o' v' off,u=.ptr o' v' off:=by
    cases u<;>first | (simp only [EOp.ev] at hv; cases hv; done) | exact ⟨_,_,_,rfl⟩
   obtain ⟨o',v',off,rfl⟩:=hp
   exact (vO (P:=P) hs hu hu' hv hn).liftU rfl
  cases h1
 | mapUpdate t m k x=>
  obtain ⟨h1,h2⟩:=wO h
  obtain ⟨u,u',u'',rfl,hu,hu',hu''⟩:=FT (aD he h2 hev)
  split at h1
  ·rename_i kt et ht
   split at h1
   ·rename_i k' hkt
    cases h1
    exact (fC (P:=P) hs hv hu hu' hu'' ht hkt rfl).liftU rfl
   ·rename_i hkt
    cases h1
    exact (fC (P:=P) hs hv hu hu' hu'' ht hkt rfl).liftU rfl
   cases h1
  cases h1
 | insert t m k x=>
  obtain ⟨h1,h2⟩:=wO h
  obtain ⟨u,u',u'',rfl,hu,hu',hu''⟩:=FT (aD he h2 hev)
  split at h1
  ·rename_i kt et ht
   split at h1
   ·rename_i k' hkt
    cases h1
    exact (fC (P:=P) hs hv hu hu' hu'' ht hkt rfl).liftU rfl
   ·rename_i hkt
    cases h1
    exact (fC (P:=P) hs hv hu hu' hu'' ht hkt rfl).liftU rfl
   cases h1
  cases h1
 | convert s d x=>
  obtain ⟨h1,h2⟩:=wO h
  obtain ⟨u,rfl,hu⟩:=mb (aD he h2 hev)
  split at h1
  ·cases h1
  ·cases h1
  ·(repeat' split at h1)<;>cases h1
  ·(repeat' split at h1)<;>cases h1
  ·rename_i e0 e hss hdd
   split at h1
   ·rename_i hsd
    split at h1
    ·rename_i hee
     cases h1
     exact (oN (P:=P) hs hu hv hsd hss hdd hee).liftV rfl
    cases h1
   cases h1
  cases h1
 | next it s=>
  cases s with
  | false=>cases h
  | true=>
   obtain ⟨h1,h2⟩:=wO h
   cases h1
   obtain ⟨u,rfl,hu⟩:=mb (aD he h2 hev)
   exact (qn (P:=P) hs hu hv type).liftV rfl
 | call c=>
  obtain ⟨callee,args,argTypes⟩:=c
  simp only [bo] at h
  split at h
  ·split at h
   ·obtain ⟨h1,h2⟩:=wO h; cases h1
   exact blt args argTypes h
  ·obtain ⟨h1,h2⟩:=wO h
   rename_i b hne
   by_cases hb:b=.clear
   ·subst hb
    have hvs:=aD he h2 hev
    have hq:∃ t e z,argTypes.toList=[t]∧P.underlying t=some (.slice e)∧cF P e=some z∧jU z.length=true∧q=.clear z:=by
     revert h1
     rcases argTypes.toList with _ | ⟨t,_ | ⟨t',_ | ⟨_,_⟩⟩⟩<;>simp only [au]<;>intro h1
     ·cases h1
     ·split at h1
      ·rename_i e hu
       split at h1
       ·rename_i z hz
        split at h1
        ·rename_i hp
         cases h1
         exact ⟨_,_,_,rfl,hu,hz,hp,rfl⟩
        cases h1
       cases h1
      cases h1
     ·cases h1
     cases h1
    obtain ⟨t,e',z,hts,ht,hz,hp,rfl⟩:=hq
    have h2v:∃ x,vs=[x]:=by
     rcases vs with _ | ⟨x,_ | ⟨y,_⟩⟩<;>first | (simp only [EOp.ev] at hv; cases hv; done) | exact ⟨_,rfl⟩
    obtain ⟨x,rfl⟩:=h2v
    have hargs:∃ ox,args.toList=[ox]:=by
     have:=hvs.length
     simp only [List.length_map] at this
     generalize args.toList=L at this
     match L,this with
     | [ox],_=>exact ⟨ox,rfl⟩
    obtain ⟨ox,hargs⟩:=hargs
    rw [hargs] at hvs
    obtain ⟨x1,e2,hx⟩:=hvs.one
    simp only [List.map_cons,List.map_nil,List.cons.injEq,and_true] at e2
    subst e2
    refine (vq (P:=P) hs hx hv ht hz hp type).liftV ?_
    have hat:argTypes = #[t]:=by apply Array.ext'; simpa using hts
    have haa:args.map a.eval = #[a.eval ox]:=by apply Array.ext'; simp [hargs]
    simp only [execOp,resolve,haa,hat]
    rfl
   by_cases hb':b=.copy
   ·subst hb'
    have hvs:=aD he h2 hev
    have hq:∃ t t' e z,argTypes.toList=[t,t']∧P.underlying t=some (.slice e)∧bh P e=some z∧jU z=true∧q=.copy z:=by
     revert h1
     rcases argTypes.toList with _ | ⟨t,_ | ⟨t',_ | ⟨_,_⟩⟩⟩<;>simp only [au]<;>intro h1
     ·cases h1
     ·cases h1
     ·split at h1
      ·rename_i e hu
       split at h1
       ·rename_i z hz
        split at h1
        ·rename_i hp
         cases h1
         exact ⟨_,_,_,_,rfl,hu,hz,hp,rfl⟩
        cases h1
       cases h1
      cases h1
     cases h1
    obtain ⟨t,t',e',z,hts,ht,hz,hp,rfl⟩:=hq
    have h2v:∃ x y,vs=[x,y]:=by
     rcases vs with _ | ⟨x,_ | ⟨y,_ | ⟨_,_⟩⟩⟩<;>first | exact ⟨_,_,rfl⟩ | (exfalso; simp only [EOp.ev] at hv; cases hv; done) | (exfalso; cases x<;>(simp only [EOp.ev] at hv; cases hv); done) | (exfalso; cases x<;>cases y<;>(simp only [EOp.ev] at hv; cases hv); done)
    obtain ⟨x,y,rfl⟩:=h2v
    have hargs:∃ ox oy,args.toList=[ox,oy]:=by
     have:=hvs.length
     simp only [List.length_map] at this
     generalize args.toList=L at this
     match L,this with
     | [ox,oy],_=>exact ⟨ox,oy,rfl⟩
    obtain ⟨ox,oy,hargs⟩:=hargs
    rw [hargs] at hvs
    obtain ⟨x1,y1,e2,hx,hy⟩:=zq hvs
    simp only [List.cons.injEq,and_true] at e2
    obtain ⟨rfl,rfl⟩:=e2
    refine (A1 (P:=P) (t2:=t') hs hx hy hv ht hz hp type).liftV ?_
    have hat:argTypes = #[t,t']:=by apply Array.ext'; simpa using hts
    have haa:args.map a.eval = #[a.eval ox,a.eval oy]:=by apply Array.ext'; simp [hargs]
    simp only [execOp,resolve,haa,hat]
    rfl
   exfalso
   revert h1
   cases b<;>first | exact absurd rfl (fun h=>hne h) | exact absurd rfl hb | exact absurd rfl hb' | (rcases argTypes.toList with _ | ⟨t,_ | ⟨t',_ | ⟨_,_⟩⟩⟩<;>simp only [au]<;>intro h1<;>((repeat' split at h1)<;>(cases h1; done)))
  ·obtain ⟨h1,h2⟩:=wO h; unfold nj at h1; split at h1<;>cases h1
  ·obtain ⟨h1,h2⟩:=wO h; cases h1
  obtain ⟨h1,h2⟩:=wO h; cases h1
 | binOp op t x y yt=>
  obtain ⟨h1,h2⟩:=wO h
  split at h1
  ·unfold bK at h1; (repeat' (first | split at h1 | (cases hh:P.eqGuardType P.depth t<;>rw [hh] at h1<;>simp only [cond_true,cond_false] at h1)))<;>cases h1
  ·unfold bK at h1; (repeat' (first | split at h1 | (cases hh:P.eqGuardType P.depth t<;>rw [hh] at h1<;>simp only [cond_true,cond_false] at h1)))<;>cases h1
  cases h1
 | makeMap t r=>
  cases r with
  | none=>simp only [bo] at h; obtain ⟨h1,h2⟩:=wO h; cases h1
  | some x=>cases h
 | slice t x lo hi mx=>
  cases mx with
  | some m=>cases h
  | none=>
   obtain ⟨h1,h2⟩:=wO h
   (repeat' split at h1)<;>cases h1
 | panic x=>
  obtain ⟨h1,h2⟩:=wO h
  cases h1
  exfalso
  rcases vs with _ | ⟨x,_ | ⟨y,_ | ⟨_,_⟩⟩⟩<;>first | (simp only [EOp.ev] at hv; cases hv; done) | (cases x<;>(simp only [EOp.ev] at hv; cases hv); done) | (cases x<;>cases y<;>(simp only [EOp.ev] at hv; cases hv); done)
 | move x=>obtain ⟨h1,h2⟩:=wO h; cases h1
 | assign x=>obtain ⟨h1,h2⟩:=wO h; cases h1
 | pick c x y=>obtain ⟨h1,h2⟩:=wO h; cases h1
 | box t x=>obtain ⟨h1,h2⟩:=wO h; cases h1
 | nilCheck x=>obtain ⟨h1,h2⟩:=wO h; cases h1
 | unOp op t x=>obtain ⟨h1,h2⟩:=wO h; cases h1
 | extract t i=>obtain ⟨h1,h2⟩:=wO h; cases h1
 | alloc t | load t x | lookup t x i ok | build t ps | buildSlice t len ps | makeInterface t x | makeFunc fn first caps | makeSlice t l c | fieldAddr t x f | field t x f | indexAddr t x i | index t x i | range t x=>
  obtain ⟨h1,h2⟩:=wO h
  (repeat' split at h1)<;>cases h1
 | _=>cases h
theorem fX {name:String} {t f:Nat}:∀ n,eG (ju P name n) t=some f→pn P name t=some f
 | 0,h=>by cases h
 | n+1,h=>by
  unfold ju at h
  split at h
  ·rename_i g hg
   unfold eG at h
   cases hb:Nat.beq n t with
   | true=>
    rw [hb] at h
    cases h
    have:=Nat.eq_of_beq_eq_true hb
    subst this
    exact hg
   | false=>rw [hb] at h; exact fX n h
  exact fX n h
theorem uA {name:String} {t f:Nat} (h:pn P name t=some f) (v:Value) (n:Nat):(method (n+1) t v name).run P w=.ok (f,v) w:=by
 unfold pn at h
 split at h
 ·rename_i i hi
  split at h
  ·rename_i m hm
   split at h
   ·rename_i e hp hf hu
    cases h
    have hm':i.methods.find? (fun x=>x.name==name)=some m:=hm
    simp [method,typeInfo,hi,hm',hp,follow,hf,receiverAt,run_underlying hu,Place.get]
   cases h
  cases h
 cases h
theorem uX {a:Act} {e:Env} (he:ER K e a.tmps) {o:Oper} {tb:List (Nat×Nat)} {xs:List Opd} {t:Nat} {v:AV} {us:List AV} {f:Nat} (h:bo P o.op=some (.callM tb,xs)) (hev:evs e xs=some (.iface t v::us)) (hm:eG tb t=some f) :
  ∃ ys',VRs K (v::us) ys'∧(execOp a.eval o).run P w=(callFunc f ys'.toArray).run P w:=by
 obtain ⟨dst,op,type,pos,after,guard⟩:=o
 simp only at h
 have nobin:∀ b ts xs',ay (au P b ts) xs'≠some (.callM tb,xs):=by
  intro b ts xs' hw
  obtain ⟨h1,h2⟩:=wO hw
  revert h1
  cases b<;>rcases ts with _ | ⟨t,_ | ⟨t',_ | ⟨_,_⟩⟩⟩<;>simp only [au]<;>intro h1<;>((repeat' split at h1)<;>cases h1)
 cases op with
 | call c=>
  obtain ⟨callee,args,argTypes⟩:=c
  simp only [bo] at h
  have hargs:args.map a.eval=(args.toList.map a.eval).toArray:=by apply Array.ext'; simp
  split at h
  ·exfalso
   split at h
   ·obtain ⟨h1,h2⟩:=wO h; cases h1
   exact nobin _ _ _ h
  ·exact (nobin _ _ _ h).elim
  ·obtain ⟨h1,h2⟩:=wO h; unfold nj at h1; split at h1<;>cases h1
  ·obtain ⟨h1,h2⟩:=wO h; cases h1
  rename_i x name
  obtain ⟨h1,h2⟩:=wO h
  cases h1
  have hvs:=aD he h2 hev
  obtain ⟨x',xs',e1,g1,g2⟩:=hvs.uncons
  simp only [List.map_cons,List.cons.injEq] at e1
  obtain ⟨rfl,rfl⟩:=e1
  simp only [VR] at g1
  obtain ⟨y,e2,g3⟩:=g1
  refine ⟨y::args.toList.map a.eval,VRs.cons g3 g2,?_⟩
  have hmm:=fun n=>uA (P:=P) (w:=w) (fX _ hm) y n
  have hd:P.types.size+Made.depth=(P.types.size+99)+1:=rfl
  have hta:((args.toList.map a.eval).take args.size)=args.toList.map a.eval:=List.take_of_length_le (by simp)
  simp [execOp,resolve,e2,invoke,callMethod,hargs,hd,hmm,hta]
 | binOp op t x y yt=>
  exfalso
  obtain ⟨h1,h2⟩:=wO h
  split at h1
  ·unfold bK at h1; (repeat' (first | split at h1 | (cases hh:P.eqGuardType P.depth t<;>rw [hh] at h1<;>simp only [cond_true,cond_false] at h1)))<;>cases h1
  ·unfold bK at h1; (repeat' (first | split at h1 | (cases hh:P.eqGuardType P.depth t<;>rw [hh] at h1<;>simp only [cond_true,cond_false] at h1)))<;>cases h1
  cases h1
 | makeMap t r=>
  exfalso
  cases r with
  | none=>simp only [bo] at h; obtain ⟨h1,h2⟩:=wO h; cases h1
  | some x=>cases h
 | slice t x lo hi mx=>
  exfalso
  cases mx with
  | some m=>cases h
  | none=>
   obtain ⟨h1,h2⟩:=wO h
   (repeat' split at h1)<;>cases h1
 | next it s=>
  exfalso
  cases s with
  | true=>obtain ⟨h1,h2⟩:=wO h; cases h1
  | false=>cases h
 | move x | assign x | pick c x y | box t x | nilCheck x | unOp op t x | extract t i=>obtain ⟨h1,h2⟩:=wO h; cases h1
 | alloc t | load t x | lookup t x i ok | build t ps | buildSlice t len ps | store t x y | makeInterface t x | makeFunc fn first caps | makeSlice t l c | fieldAddr t x f | field t x f | indexAddr t x i | index t x i | mapUpdate t m k x | insert t m k x | range t x | convert s d x=>
  obtain ⟨h1,h2⟩:=wO h
  (repeat' split at h1)<;>cases h1
 | panic x=>
  obtain ⟨h1,h2⟩:=wO h
  cases h1
 | _=>cases h
theorem zt {a:Act} {e:Env} (he:ER K e a.tmps) {o:Oper} {k:AK} {xs:List Opd} {vs ys:List AV} {f:Nat} (h:bo P o.op=some (k,xs)) (hev:evs e xs=some vs) (ht:target k vs=some (f,ys)) :
  ∃ ys',VRs K ys ys'∧(execOp a.eval o).run P w=(callFunc f ys'.toArray).run P w:=by
 obtain ⟨dst,op,type,pos,after,guard⟩:=o
 simp only at h
 have hk:(k=.call f∧ys=vs∨k=.callV∧∃ caps us,vs=.func f caps::us∧ys=us++caps)∨∃ tb t v us,k=.callM tb∧vs=.iface t v::us∧ys=v::us∧eG tb t=some f:=by
  unfold target at ht
  split at ht
  ·cases ht; exact .inl (.inl ⟨rfl,rfl⟩)
  ·cases ht; exact .inl (.inr ⟨rfl,_,_,rfl,rfl⟩)
  ·split at ht
   ·rename_i hm; cases ht; exact .inr ⟨_,_,_,_,rfl,rfl,rfl,hm⟩
   cases ht
  cases ht
 rcases hk with hk | ⟨tb,t,v,us,rfl,rfl,rfl,hm⟩
 case inr=>exact uX (o:=⟨dst,op,type,pos,after,guard⟩) he h hev hm
 have nobin:∀ b ts xs',ay (au P b ts) xs'≠some (.call f,xs)∧ay (au P b ts) xs'≠some (.callV,xs):=by
  intro b ts xs'
  constructor
  all_goals
   intro hw
   obtain ⟨h1,h2⟩:=wO hw
   revert h1
   cases b<;>rcases ts with _ | ⟨t,_ | ⟨t',_ | ⟨_,_⟩⟩⟩<;>simp only [au]<;>intro h1<;>((repeat' split at h1)<;>cases h1)
 cases op with
 | call c=>
  obtain ⟨callee,args,argTypes⟩:=c
  simp only [bo] at h
  have hargs:args.map a.eval=(args.toList.map a.eval).toArray:=by apply Array.ext'; simp
  split at h
  ·exfalso
   split at h
   ·obtain ⟨h1,h2⟩:=wO h
    rcases hk with ⟨rfl,_⟩ | ⟨rfl,_⟩<;>cases h1
   rcases hk with ⟨rfl,_⟩ | ⟨rfl,_⟩
   ·exact (nobin _ _ _).1 h
   exact (nobin _ _ _).2 h
  ·exfalso
   rcases hk with ⟨rfl,_⟩ | ⟨rfl,_⟩
   ·exact (nobin _ _ _).1 h
   exact (nobin _ _ _).2 h
  ·rename_i g
   obtain ⟨h1,h2⟩:=wO h
   have hvs:=aD he h2 hev
   unfold nj at h1
   rcases hk with ⟨rfl,rfl⟩ | ⟨rfl,_⟩
   ·split at h1<;>cases h1
    refine ⟨_,hvs,?_⟩
    simp only [execOp,resolve,Act.eval,Deferred.ofValue,Sem.run_bind,Sem.run_pure,Result.andThen_ok,invoke,hargs]
    simp
   split at h1<;>cases h1
  ·rename_i x hne
   obtain ⟨h1,h2⟩:=wO h
   have hvs:=aD he h2 hev
   rcases hk with ⟨rfl,rfl⟩ | ⟨rfl,caps,us,rfl,rfl⟩
   ·cases h1
   obtain ⟨x',xs',e1,g1,g2⟩:=hvs.uncons
   simp only [List.map_cons,List.cons.injEq] at e1
   obtain ⟨rfl,rfl⟩:=e1
   simp only [VR] at g1
   obtain ⟨cs',e2,g3⟩:=g1
   refine ⟨_,g2.append g3,?_⟩
   simp only [execOp,resolve,e2,Deferred.ofValue,Sem.run_bind,Sem.run_pure,Result.andThen_ok,invoke,hargs]
   congr 2
   apply Array.ext'
   simp
  obtain ⟨h1,h2⟩:=wO h; rcases hk with ⟨rfl,_⟩ | ⟨rfl,_⟩<;>cases h1
 | binOp op t x y yt=>
  exfalso
  obtain ⟨h1,h2⟩:=wO h
  rcases hk with ⟨rfl,_⟩ | ⟨rfl,_⟩
  all_goals
   split at h1
   ·unfold bK at h1; (repeat' (first | split at h1 | (cases hh:P.eqGuardType P.depth t<;>rw [hh] at h1<;>simp only [cond_true,cond_false] at h1)))<;>cases h1
   ·unfold bK at h1; (repeat' (first | split at h1 | (cases hh:P.eqGuardType P.depth t<;>rw [hh] at h1<;>simp only [cond_true,cond_false] at h1)))<;>cases h1
   cases h1
 | makeMap t r=>
  exfalso
  cases r with
  | none=>simp only [bo] at h; obtain ⟨h1,h2⟩:=wO h; rcases hk with ⟨rfl,_⟩ | ⟨rfl,_⟩<;>cases h1
  | some x=>cases h
 | slice t x lo hi mx=>
  exfalso
  cases mx with
  | some m=>cases h
  | none=>
   obtain ⟨h1,h2⟩:=wO h
   rcases hk with ⟨rfl,_⟩ | ⟨rfl,_⟩<;>((repeat' split at h1)<;>cases h1)
 | next it s=>
  exfalso
  cases s with
  | true=>obtain ⟨h1,h2⟩:=wO h; rcases hk with ⟨rfl,_⟩ | ⟨rfl,_⟩<;>cases h1
  | false=>cases h
 | move x | assign x | pick c x y | box t x | nilCheck x | unOp op t x | extract t i=>obtain ⟨h1,h2⟩:=wO h; rcases hk with ⟨rfl,_⟩ | ⟨rfl,_⟩<;>cases h1
 | alloc t | load t x | lookup t x i ok | build t ps | buildSlice t len ps | store t x y | makeInterface t x | makeFunc fn first caps | makeSlice t l c | fieldAddr t x f | field t x f | indexAddr t x i | index t x i | mapUpdate t m k x | insert t m k x | range t x | convert s d x=>
  obtain ⟨h1,h2⟩:=wO h
  rcases hk with ⟨rfl,_⟩ | ⟨rfl,_⟩<;>((repeat' split at h1)<;>cases h1)
 | panic x=>
  obtain ⟨h1,h2⟩:=wO h
  cases h1
  rcases hk with ⟨hh,_⟩ | ⟨hh,_⟩<;>cases hh
 | _=>cases h
end
end Go.Am
namespace Go.Am
open Go Go.RowKit
def Bq (P:Program) (cf:aZ):Prop:=
 ∀ (f:Nat) (xs:List AV) (h:Heap) (v:AV) (h':Heap),cf f xs h=some (v,h')→∀ (B:Nat) (K:KM) (w:World) (ys:List Value),VRs K xs ys→Sim B K h w→
  (callFunc f ys.toArray).run P w=.ok (.enter f ys.toArray) w∧
  h.n≤h'.n∧Calls P f ys.toArray w fun e w'=>∃ v' K',e=.returned v'∧Below B w w'∧KLe K K'∧(∀ x,x < h.n→K x=none→K' x=none)∧Sim B K' h' w'∧VR K' v v'
structure After (B:Nat) (K:KM) (a:Act) (w:World) (e1:Env) (H:Heap) (H1:Heap) (K':KM) (a':Act) (w':World):Prop where
 below:Below B w w'
 le:KLe K K'
 er:ER K' e1 a'.tmps
 sim:Sim B K' H1 w'
 defers:a'.defers=a.defers
 size:a'.tmps.size=a.tmps.size
 fresh:∀ x,x < H.n→K x=none→K' x=none
section
variable {P:Program} {K:KM} {w:World} {B:Nat} {H:Heap}
theorem e9 (a:Act) (d:Option Nat) (v:Value):(a.put d v).tmps.size=a.tmps.size:=by
 cases d<;>simp [Act.put]
theorem dg (a:Act) (d:Option Nat) (v:Value):(a.put d v).defers=a.defers:=by
 cases d<;>rfl
theorem dB (e:Env) (d:Option Nat) (v:AV) (t:Nat):(putE e d v).get t=if d=some t then some v else e.get t:=by
 cases d with
 | none=>simp [putE]
 | some d=>
  rw [putE,T.get_set]
  by_cases h:t=d
  ·subst h; simp
  rw [if_neg h,if_neg (by simpa using fun h'=>h h'.symm)]
theorem xc {e:Env} {a:Act} {d:Option Nat} {v:AV} {v':Value} (he:ER K e a.tmps) (hv:VR K v v') {nt:Nat} (hd:tC nt d=true) (hn:nt≤a.tmps.size):ER K (putE e d v) (a.put d v').tmps:=by
 intro t u ht
 rw [dB] at ht
 cases d with
 | none=>simp at ht; exact he t u ht
 | some d=>
  have hlt:d < a.tmps.size:=by
   unfold tC at hd
   have:d < nt:=Nat.le_of_ble_eq_true hd
   omega
  by_cases h:d=t
  ·subst h
   rw [if_pos rfl] at ht
   cases ht
   exact ⟨v',by simp [Act.put,hlt],hv⟩
  rw [if_neg (by simpa using h)] at ht
  obtain ⟨x,h1,h2⟩:=he t u ht
  exact ⟨x,by simp [Act.put,h,h1],h2⟩
theorem ct {a:Act} {o:Oper} {v':Value} {w':World} {next:Act→World→Prop} {Q:Exit→Act→World→Prop} (h:jz P a o w v' w') (hn:next (a.put o.dst v') w'):o.wp P a w next Q:=by
 unfold Oper.wp
 rcases h with h | ⟨h,rfl⟩
 ·rw [h]; exact hn
 rw [h]; exact hn
theorem zp {v:AV} {b:Bool} (h:VR K v (.bool b)):v=.bool b:=by
 cases v<;>simp only [VR] at h<;>first | (cases h; rfl) | (cases h; done) | (obtain ⟨_,h⟩:=h; first | (cases h; done) | (obtain ⟨_,h⟩:=h; first | (cases h; done) | (obtain ⟨_,h⟩:=h; first | (cases h; done) | (cases h.1; done)) | (cases h.1; done)) | (cases h.1; done))
theorem jD {e:Env} {a:Act} (he:ER K e a.tmps) {ops:Array Oper} {o:Oper} {g:Option (Nat×Bool)} {b:Bool} (hg:fA ops.toList o.guard=some g) (hw:ak e g=some b):Region.wanted o (yielded ops a.tmps)=b:=by
 unfold fA at hg
 unfold Region.wanted
 split at hg
 ·rename_i h0; cases hg; rw [h0]; simp [ak] at hw; subst hw; rfl
 rename_i j want h0
 rw [h0]
 simp only
 split at hg
 ·rename_i o' ho'
  split at hg
  ·rename_i t hdt
   cases hg
   simp only [ak] at hw
   have hy:yielded ops a.tmps j=match a.tmps[t]? with
     | some (.bool b)=>some b
     | _=>none:=by
    unfold yielded
    rw [Array.getElem?_toList] at ho'
    rw [ho']
    simp only [Option.bind_some,hdt]
    rfl
   rw [hy]
   split at hw
   ·rename_i b' hb'
    cases hw
    obtain ⟨x,h1,h2⟩:=he t _ hb'
    simp only [VR] at h2
    rw [h1,h2]
    cases b'<;>cases want<;>rfl
   ·rename_i v hne hb'
    cases hw
    obtain ⟨x,h1,h2⟩:=he t _ hb'
    rw [h1]
    cases x<;>try rfl
    exact absurd (zp h2) (hne _)
   cases hw
  cases hg
 cases hg
theorem d4 {nt:Nat} {ops:List Oper} {o:Oper} {ao:AOper} (h:dC P nt ops o=some ao):fA ops o.guard=some ao.guard∧bo P o.op=some (ao.k,ao.xs)∧ao.dst=o.dst∧tC nt o.dst=true:=by
 unfold dC at h
 split at h
 ·rename_i g k xs h1 h2
  cases hd:tC nt o.dst with
  | false=>rw [hd] at h; cases h
  | true=>rw [hd,cond_true] at h; cases h; exact ⟨h1,h2,rfl,rfl⟩
 cases h
theorem wu {cf:aZ} (hcf:Bq P cf) {a:Act} {e:Env} (he:ER K e a.tmps) (hs:Sim B K H w) {nt:Nat} {opsL:List Oper} {o:Oper} {ao:AOper} (hc:dC P nt opsL o=some ao) (hnt:nt≤a.tmps.size)
  {xs:List AV} (hev:evs e ao.xs=some xs) (hE:ao.k.isE=true) {v:AV} {H1:Heap} (hv:ao.k.ev cf xs H=some (v,H1)) {next:Act→World→Prop} {Q:Exit→Act→World→Prop}
  (hn:∀ K' v' w',Below B w w'→KLe K K'→Sim B K' H1 w'→VR K' v v'→(∀ x,x < H.n→K x=none→K' x=none)→next (a.put o.dst v') w'):o.wp P a w next Q:=by
 obtain ⟨h1,h2,h3,h4⟩:=d4 hc
 have hcall:(∃ f ys,target ao.k xs=some (f,ys)∧cf f ys H=some (v,H1))→o.wp P a w next Q:=by
  rintro ⟨f,ys,ht,hr⟩
  obtain ⟨ys',g1,g2⟩:=zt (P:=P) (w:=w) he h2 hev ht
  obtain ⟨g3,_,g4⟩:=hcf f ys H v H1 hr B K w ys' g1 hs
  unfold Oper.wp
  rw [g2,g3,Oper.upon_enter]
  refine g4.mono fun en w' hh=>?_
  obtain ⟨v',K',rfl,k1,k2,k3,k4,k5⟩:=hh
  exact hn K' v' w' k1 k2 k4 k5 k3
 cases hk:ao.k with
 | p q=>rw [hk] at hE; cases hE
 | r q=>rw [hk] at hE; cases hE
 | n q=>rw [hk] at hE; cases hE
 | e q=>
  rw [hk] at hv h2
  simp only [AK.ev] at hv
  obtain ⟨v',w',K',k1,k2,k3,k4,k5,k6⟩:=CU (P:=P) hs he h2 hev hv
  exact ct k1 (hn K' v' w' k2 k3 k5 k6 k4)
 | call f=>
  refine hcall ?_
  rw [hk] at hv ⊢
  simp only [AK.ev] at hv
  split at hv
  ·rename_i f' ys ht; exact ⟨_,_,ht,hv⟩
  cases hv
 | callV=>
  refine hcall ?_
  rw [hk] at hv ⊢
  simp only [AK.ev] at hv
  split at hv
  ·rename_i f' ys ht; exact ⟨_,_,ht,hv⟩
  cases hv
 | callM tb=>
  refine hcall ?_
  rw [hk] at hv ⊢
  simp only [AK.ev] at hv
  split at hv
  ·rename_i f' ys ht; exact ⟨_,_,ht,hv⟩
  cases hv
theorem bg {h:Heap} {o:Nat} {x y:AObj} (hg:h.get o=some x):(h.push y).get o=some x:=by
 have hlt:o < h.n:=by
  rcases Nat.lt_or_ge o h.n with hh | hh
  ·exact hh
  rw [Heap.get_ge _ (by omega)] at hg; cases hg
 rw [Heap.get_push,if_neg (by omega)]; exact hg
theorem gD {h:Heap} {o v f n:Nat} {cs:List AV} {y:AObj} (hc:h.cells o v f n=some cs):(h.push y).cells o v f n=some cs:=by
 unfold Heap.cells at hc ⊢
 cases hg:h.get o with
 | none=>rw [hg] at hc; cases hc
 | some x=>rw [hg] at hc; rw [bg hg]; exact hc
theorem mW {h:Heap} {esz:Nat} {s:AV} {cs:List AV} {y:AObj} (hc:h.rows esz s=some cs):(h.push y).rows esz s=some cs:=by
 cases s<;>simp only [Heap.rows] at hc ⊢<;>first | exact hc | exact gD hc | cases hc
theorem ky {h:Heap} {esz:Nat} {x:AV} {r:List AV×Nat} {y:AObj} (ha:appended h esz x=some r):appended (h.push y) esz x=some r:=by
 unfold appended at ha ⊢
 split at ha
 ·exact ha
 split at ha
 ·rename_i cs hcs; rw [mW hcs]; exact ha
 cases ha
theorem pv {h:Heap} {q:NOp} {vs:List AV} {ob y:AObj} (hq:q.ob vs h=some ob):q.ob vs (h.push y)=some ob:=by
 cases q with
 | appendNil esz bytes=>
  match vs,hq with
  | [x],hq=>
   simp only [NOp.ob] at hq ⊢
   split at hq
   ·rename_i cs k ha; rw [ky ha]; exact hq
   cases hq
 | _=>rcases vs with _ | ⟨x,_ | ⟨z,_ | ⟨_,_⟩⟩⟩<;>first | exact hq | (cases x<;>first | exact hq | (cases z<;>exact hq))
theorem step_ok {cf:aZ} (hcf:Bq P cf) {a:Act} {e e1:Env} {H1:Heap} (he:ER K e a.tmps) (hs:Sim B K H w) {nt:Nat} {ops:Array Oper} {o:Oper} {ao:AOper} (hc:dC P nt ops.toList o=some ao) (hnt:nt≤a.tmps.size)
  (hst:aP cf ao e H=some (e1,H1)) {next:Act→World→Prop} {Q:Exit→Act→World→Prop} (hn:∀ K' a' w',After B K a w e1 H H1 K' a' w'→next a' w') :
  if Region.wanted o (yielded ops a.tmps) then o.wp P a w next Q∨(o.asks P a w∧LetsOut Q) else next (a.put o.dst Go.undef) w:=by
 obtain ⟨h1,h2,h3,h4⟩:=d4 hc
 unfold aP at hst
 split at hst
 ·cases hst
 ·rename_i hw
  rw [jD he h1 hw]
  cases hst
  simp only [Bool.false_eq_true,if_false]
  refine hn K _ w ⟨Below.refl _ _,KLe.refl _,?_,hs,dg _ _ _,e9 _ _ _,fun _ _ hh=>hh⟩
  rw [h3]
  exact xc he VR.undef h4 hnt
 rename_i hw
 rw [jD he h1 hw]
 simp only [if_true]
 left
 split at hst
 ·cases hst
 rename_i xs hev
 split at hst
 ·cases hst
 rename_i v H1' hv
 cases hst
 have fin:∀ K' v' w',Below B w w'→KLe K K'→Sim B K' H1 w'→VR K' v v'→(∀ x,x < H.n→K x=none→K' x=none)→next (a.put o.dst v') w':=by
  intro K' v' w' k1 k2 k3 k4 k5
  refine hn K' _ w' ⟨k1,k2,?_,k3,dg _ _ _,e9 _ _ _,k5⟩
  rw [h3]
  exact xc (he.mono k2) k4 h4 hnt
 by_cases hE:ao.k.isE=true
 ·exact wu hcf he hs hc hnt hev hE hv fin
 cases hk:ao.k with
 | p q=>
  rw [hk] at hv h2
  simp only [AK.ev] at hv
  split at hv
  ·rename_i u hu
   cases hv
   obtain ⟨v',k1,k2⟩:=xe (P:=P) (w:=w) he h2 hev hu
   exact ct (.inl k1) (fin K v' w (Below.refl _ _) (KLe.refl _) hs k2 (fun _ _ hh=>hh))
  cases hv
 | r q=>
  rw [hk] at hv h2
  simp only [AK.ev] at hv
  split at hv
  ·rename_i u hu
   cases hv
   obtain ⟨v',k1,k2⟩:=wI (P:=P) hs he h2 hev hu
   exact ct (.inl k1) (fin K v' w (Below.refl _ _) (KLe.refl _) hs k2 (fun _ _ hh=>hh))
  cases hv
 | n q=>
  rw [hk] at hv h2
  simp only [AK.ev] at hv
  split at hv
  ·rename_i ob hob
   cases hv
   have hK:K H.n=none:=by
    cases hq:K H.n with
    | none=>rfl
    | some i=>have:=hs.dom _ _ hq; omega
   obtain ⟨v',w',K',k1,k2,k3,k4,k5,k6⟩:=v6 (P:=P) (id:=H.n) (hs.push ob) he h2 hev (pv hob) hK (by rw [Heap.get_push,if_pos rfl]) (by rw [Heap.n_push]; omega)
   exact ct k1 (fin K' v' w' k2 k3 k5 k6 (fun x hx hh=>by rw [k4 x (by omega)]; exact hh))
  cases hv
 | e q=>rw [hk] at hE; exact absurd rfl hE
 | call f=>rw [hk] at hE; exact absurd rfl hE
 | callV=>rw [hk] at hE; exact absurd rfl hE
 | callM tb=>rw [hk] at hE; exact absurd rfl hE
end
end Go.Am
namespace Go.Am
open Go Go.RowKit
theorem ee (l:List Oper) (o:Oper):aS (l++[o])=aS l++[(List.range (aS l).length).map fun i=>o.after.any fun e=>Region.binds .any e&&(Nat.beq e.on i||(((aS l).getD e.on []).getD i false))]:=by
 simp [aS,List.foldl_append]
theorem da:∀ (n:Nat) (l:List Oper),l.length=n→(aS l).length=n
 | 0,l,h=>by
  have:l=[]:=List.eq_nil_of_length_eq_zero h
  subst this; rfl
 | n+1,l,h=>by
  rcases List.eq_nil_or_concat l with e | ⟨L,b,e⟩
  ·subst e; simp at h
  rw [List.concat_eq_append] at e; subst e
  rw [ee]
  simp at h
  simp [da n L h]
theorem pN:∀ (n:Nat) (l:List Oper),l.length=n→∀ i j,bef (aS l) i j=true→∃ o e,l[j]? = some o∧e∈o.after∧Region.binds .any e=true∧(e.on=i∨bef (aS l) i e.on=true)
 | 0,l,h,i,j,hb=>by
  have:l=[]:=List.eq_nil_of_length_eq_zero h
  subst this
  simp [bef,aS] at hb
 | n+1,l,h,i,j,hb=>by
  rcases List.eq_nil_or_concat l with e | ⟨L,b,e⟩
  ·subst e; simp at h
  rw [List.concat_eq_append] at e; subst e
  simp at h
  have hlen:=da n L h
  have old:∀ i j,j < n→bef (aS (L++[b])) i j=bef (aS L) i j:=by
   intro i j hj
   unfold bef
   have e1:(aS (L++[b])).getD j []=(aS L).getD j []:=by
    rw [ee,List.getD_eq_getElem?_getD,List.getElem?_append_left (by omega),← List.getD_eq_getElem?_getD]
   rw [e1]
  by_cases hj:j < n
  ·rw [old i j hj] at hb
   obtain ⟨o,e,h1,h2,h3,h4⟩:=pN n L h i j hb
   refine ⟨o,e,by rw [List.getElem?_append_left (by omega)]; exact h1,h2,h3,?_⟩
   rcases h4 with h4 | h4
   ·exact .inl h4
   right
   have:e.on < n:=by
    rcases Nat.lt_or_ge e.on n with hh | hh
    ·exact hh
    unfold bef at h4
    have e1:(aS L).getD e.on []=[]:=by rw [List.getD_eq_getElem?_getD,List.getElem?_eq_none (by omega)]; rfl
    rw [e1] at h4
    simp at h4
   rw [old _ _ this]; exact h4
  have hj2:j=n:=by
   rcases Nat.lt_or_ge j (n+1) with hh | hh
   ·omega
   unfold bef at hb
   have e1:(aS (L++[b])).getD j []=[]:=by rw [List.getD_eq_getElem?_getD,List.getElem?_eq_none (by rw [da (n+1) _ (by simp [h])]; exact hh)]; rfl
   rw [e1] at hb
   simp at hb
  subst hj2
  unfold bef at hb
  have e1:(aS (L++[b])).getD j []=(List.range j).map fun i=>b.after.any fun e=>Region.binds .any e&&(Nat.beq e.on i||(((aS L).getD e.on []).getD i false)):=by
   rw [ee,List.getD_eq_getElem?_getD,List.getElem?_append_right (by omega),hlen,Nat.sub_self]; rfl
  rw [e1] at hb
  rw [List.getD_eq_getElem?_getD,List.getElem?_map] at hb
  cases hr:(List.range j)[i]? with
  | none=>rw [hr] at hb; simp at hb
  | some x=>
   have hi:i < j:=by
    rcases Nat.lt_or_ge i j with hh | hh
    ·exact hh
    rw [List.getElem?_eq_none (by simpa using hh)] at hr; cases hr
   rw [List.getElem?_range hi] at hr
   cases hr
   rw [List.getElem?_range hi] at hb
   simp only [Option.map_some,Option.getD_some,Array.any_eq_true] at hb
   obtain ⟨k,hk,hb⟩:=hb
   simp only [Bool.and_eq_true,Bool.or_eq_true] at hb
   refine ⟨b,b.after[k],by rw [List.getElem?_append_right (by omega),h,Nat.sub_self]; rfl,Array.getElem_mem hk,hb.1,?_⟩
   rcases hb.2 with h4 | h4
   ·exact .inl (Nat.eq_of_beq_eq_true h4)
   right
   have:(b.after[k]).on < j:=by
    rcases Nat.lt_or_ge (b.after[k]).on j with hh | hh
    ·exact hh
    have e1:(aS L).getD (b.after[k]).on []=[]:=by rw [List.getD_eq_getElem?_getD,List.getElem?_eq_none (by rw [hlen]; exact hh)]; rfl
    rw [e1] at h4
    simp at h4
   rw [old _ _ this]; exact h4
theorem dJ {n:Nat} {f:Nat→Nat→Bool} (h:eZ n f=true) {i j:Nat} (hi:i < j) (hj:j < n):f i j=true:=by
 unfold eZ at h
 have h1:=List.all_eq_true.1 h j (List.mem_range.2 hj)
 exact List.all_eq_true.1 h1 i (List.mem_range.2 hi)
theorem fO {B:List (List Bool)} {as:List AOper} {i j:Nat} {a b:AOper} (hi:as[i]? = some a) (hj:as[j]? = some b) (hij:i < j) (hn:bef B i j=false) :
  (a.k.isR=true→b.k.isE=true→(i,j)∈bq B as)∧(a.k.isE=true→b.k.isR=true→(j,i)∈bq B as):=by
 have hjn:j < as.length:=by
  rcases Nat.lt_or_ge j as.length with hh | hh
  ·exact hh
  rw [List.getElem?_eq_none hh] at hj; cases hj
 constructor
 ·intro h1 h2
  unfold bq
  refine List.mem_flatMap.2 ⟨j,List.mem_range.2 hjn,List.mem_filterMap.2 ⟨i,List.mem_range.2 hij,?_⟩⟩
  simp only [hi,hj,hn,cond_false,h1,h2,Bool.and_self,cond_true]
 intro h1 h2
 unfold bq
 refine List.mem_flatMap.2 ⟨j,List.mem_range.2 hjn,List.mem_filterMap.2 ⟨i,List.mem_range.2 hij,?_⟩⟩
 have h3:(a.k.isR&&b.k.isE)=false:=by
  cases hk:a.k<;>rw [hk] at h1<;>simp [AK.isE,AK.isR] at h1 ⊢
 simp only [hi,hj,hn,cond_false,h3,h1,h2,Bool.and_self,cond_true]
theorem jJ {B:List (List Bool)} {as:List AOper} {i j:Nat} {a b:AOper} (hi:as[i]? = some a) (hj:as[j]? = some b) (hij:i < j) (hn:bef B i j=false) (h1:a.k.isN=true) (h2:b.k.isE=true):(i,j)∈bq B as:=by
 have hjn:j < as.length:=by
  rcases Nat.lt_or_ge j as.length with hh | hh
  ·exact hh
  rw [List.getElem?_eq_none hh] at hj; cases hj
 unfold bq
 refine List.mem_flatMap.2 ⟨j,List.mem_range.2 hjn,List.mem_filterMap.2 ⟨i,List.mem_range.2 hij,?_⟩⟩
 have h3:a.k.isR=false:=by
  cases hk:a.k<;>rw [hk] at h1<;>simp [AK.isN,AK.isR] at h1 ⊢
 have h4:a.k.isE=false:=by
  cases hk:a.k<;>rw [hk] at h1<;>simp [AK.isN,AK.isE] at h1 ⊢
 simp only [hi,hj,hn,cond_false,h3,h4,h1,h2,Bool.false_and,Bool.and_self,cond_true]
theorem rX {q:NOp} (hq:(AK.n q).isC=false) (xs:List AV) (h h':Heap):q.ob xs h=q.ob xs h':=by
 cases q with
 | appendNil _ _=>simp [AK.isC] at hq
 | _=>rcases xs with _ | ⟨x,_ | ⟨y,_ | ⟨z,r⟩⟩⟩<;>first | rfl | (cases x<;>first | rfl | (cases y<;>rfl))
def d8 (S:Nat→Bool) (V:Nat→AV) (t:Nat):List AOper→Nat→Option AV→Option AV
 | [],_,x=>x
 | ao::as,i,x=>d8 S V t as (i+1) (if S i=true∧ao.dst=some t then some (V i) else x)
theorem cV {S S':Nat→Bool} {V:Nat→AV} {t:Nat}:∀ (as:List AOper) (i:Nat) (x:Option AV),(∀ j ao,as[j]? = some ao→ao.dst=some t→S (i+j)=S' (i+j))→d8 S V t as i x=d8 S' V t as i x
 | [],_,_,_=>rfl
 | ao::as,i,x,h=>by
  have h0:(if S i=true∧ao.dst=some t then some (V i) else x)=(if S' i=true∧ao.dst=some t then some (V i) else x):=by
   by_cases hd:ao.dst=some t
   ·have:=h 0 ao rfl hd
    simp only [Nat.add_zero] at this
    rw [this]
   simp [hd]
  rw [d8,d8,h0]
  exact cV as (i+1) _ fun j ao' hj hd=>by
   have:=h (j+1) ao' (by simpa using hj) hd
   rw [show i+1+j=i+(j+1) by omega]; exact this
theorem ep {S:Nat→Bool} {V:Nat→AV} {t:Nat}:∀ (as:List AOper) (i:Nat) (x:Option AV),(∀ j ao,as[j]? = some ao→ao.dst=some t→S (i+j)=false)→d8 S V t as i x=x
 | [],_,_,_=>rfl
 | ao::as,i,x,h=>by
  rw [d8,ep as (i+1) _ fun j ao' hj hd=>by
   have:=h (j+1) ao' (by simpa using hj) hd
   rw [show i+1+j=i+(j+1) by omega]; exact this]
  by_cases hd:ao.dst=some t
  ·have:=h 0 ao rfl hd
   simp only [Nat.add_zero] at this
   simp [this]
  simp [hd]
theorem fT {S:Nat→Bool} {V:Nat→AV} {t:Nat}:∀ (as:List AOper) (i k:Nat) (x:Option AV) (ao:AOper),as[k]? = some ao→ao.dst=some t→S (i+k)=true→(∀ j ao,k < j→as[j]? = some ao→ao.dst=some t→S (i+j)=false)→d8 S V t as i x=some (V (i+k))
 | [],_,_,_,_,h,_,_,_=>by simp at h
 | ao0::as,i,0,x,ao,h,hd,hS,hl=>by
  simp at h; subst h
  simp only [Nat.add_zero] at hS
  rw [d8,if_pos ⟨hS,hd⟩]
  exact ep as (i+1) _ fun j ao' hj hd'=>by
   have:=hl (j+1) ao' (by omega) (by simpa using hj) hd'
   rw [show i+1+j=i+(j+1) by omega]; exact this
 | ao0::as,i,k+1,x,ao,h,hd,hS,hl=>by
  rw [d8]
  rw [fT as (i+1) k _ ao (by simpa using h) hd (by rw [show i+1+k=i+(k+1) by omega]; exact hS) fun j ao' hj hj' hd'=>by
   have:=hl (j+1) ao' (by omega) (by simpa using hj') hd'
   rw [show i+1+j=i+(j+1) by omega]; exact this]
  congr 2; omega
theorem fV {cf:aZ} {ao:AOper} {e e1:Env} {h h1:Heap} (hs:aP cf ao e h=some (e1,h1)) :
  (ak e ao.guard=some false∧e1=putE e ao.dst .undef∧h1=h)∨(ak e ao.guard=some true∧∃ xs v,evs e ao.xs=some xs∧ao.k.ev cf xs h=some (v,h1)∧e1=putE e ao.dst v):=by
 unfold aP at hs
 split at hs
 ·cases hs
 ·rename_i hw; cases hs; exact .inl ⟨hw,rfl,rfl⟩
 rename_i hw
 right
 split at hs
 ·cases hs
 rename_i xs hx
 split at hs
 ·cases hs
 rename_i v h' hv; cases hs; exact ⟨hw,xs,v,hx,hv,rfl⟩
theorem kv {cf:aZ} {ao:AOper} {e e1:Env} {h h1:Heap} (hs:aP cf ao e h=some (e1,h1)) (hE:ao.k.isE=false):h1=h∨(ao.k.isN=true∧∃ ob,h1=h.push ob):=by
 rcases fV hs with ⟨_,_,rfl⟩ | ⟨_,xs,v,_,hv,_⟩
 ·exact .inl rfl
 cases hk:ao.k with
 | p q=>
  rw [hk] at hv
  simp only [AK.ev] at hv
  split at hv<;>cases hv
  exact .inl rfl
 | r q=>
  rw [hk] at hv
  simp only [AK.ev] at hv
  split at hv<;>cases hv
  exact .inl rfl
 | n q=>
  rw [hk] at hv
  simp only [AK.ev] at hv
  split at hv
  ·rename_i ob hob; cases hv; exact .inr ⟨rfl,ob,rfl⟩
  cases hv
 | e q=>rw [hk] at hE; cases hE
 | call f=>rw [hk] at hE; cases hE
 | callV=>rw [hk] at hE; cases hE
 | callM tb=>rw [hk] at hE; cases hE
theorem Ft {q:EOp} {vs:List AV} {h h1:Heap} {v:AV} (hv:q.ev vs h=some (v,h1)):h.n≤h1.n:=by
 unfold EOp.ev at hv
 split at hv
 ·split at hv
  ·split at hv
   ·cases hv; exact Nat.le_refl _
   cases hv
  cases hv
 ·split at hv
  ·split at hv
   ·rename_i s x _ cs k _ _
    unfold bl at hv
    split at hv
    ·split at hv<;>cases hv
     ·exact Nat.le_refl _
     simp [Heap.n_push]
    ·split at hv
     ·split at hv
      ·split at hv<;>cases hv<;>exact Nat.le_refl _
      cases hv
     cases hv
    cases hv
   cases hv
  cases hv
 ·split at hv
  ·split at hv
   ·split at hv<;>cases hv
    exact Nat.le_refl _
   cases hv
  cases hv
 ·split at hv
  ·split at hv<;>cases hv<;>exact Nat.le_refl _
  cases hv
 ·split at hv
  ·split at hv<;>cases hv
   exact Nat.le_refl _
  cases hv
 ·split at hv
  ·split at hv<;>cases hv
   exact Nat.le_refl _
  cases hv
 ·split at hv
  ·split at hv
   ·split at hv<;>cases hv
    exact Nat.le_refl _
   cases hv
  cases hv
 cases hv
end Go.Am
namespace Go.Am
open Go Go.RowKit
theorem vJ {q:ROp} {xs:List AV} {h:Heap} {v:AV} {y:AObj} (hq:q.ev xs h=some v):q.ev xs (h.push y)=some v:=by
 unfold ROp.ev at hq ⊢
 split at hq
 ·split at hq
  ·rename_i x hc; rw [gD hc]; exact hq
  cases hq
 ·split at hq
  ·rename_i cs hc; rw [gD hc]; exact hq
  cases hq
 ·split at hq
  ·rename_i cs hc; rw [mW hc]; exact hq
  cases hq
 ·exact hq
 ·split at hq
  ·rename_i es hg; rw [bg hg]; exact hq
  cases hq
 ·exact hq
 ·split at hq
  ·rename_i es hg; rw [bg hg]; exact hq
  cases hq
 cases hq
theorem dh {h:Heap} {o:Nat} {y:AObj} (hn:o≠h.n):(h.push y).get o=h.get o:=by
 rw [Heap.get_push,if_neg hn]
theorem mc {K:KM} {n:Nat} (hK:K n=none) {o:Nat} {i:Info} (h:K o=some i):o≠n:=fun e=>by rw [e,hK] at h; cases h
theorem qH {K:KM} {q:ROp} {xs:List AV} {ys:List Value} {h:Heap} {v:AV} {y:AObj} (hx:VRs K xs ys) (hK:K h.n=none) (hq:q.ev xs (h.push y)=some v):q.ev xs h=some v:=by
 unfold ROp.ev at hq ⊢
 split at hq
 ·obtain ⟨x,_,hx⟩:=hx.one
  simp only [VR] at hx
  obtain ⟨_,i,_,hKo,_⟩:=hx
  unfold Heap.cells at hq ⊢
  rw [dh (mc hK hKo)] at hq; exact hq
 ·obtain ⟨x,_,hx⟩:=hx.one
  simp only [VR] at hx
  obtain ⟨_,i,_,hKo,_⟩:=hx
  unfold Heap.cells at hq ⊢
  rw [dh (mc hK hKo)] at hq; exact hq
 ·rename_i s
  obtain ⟨x,_,hx⟩:=hx.one
  cases s<;>simp only [Heap.rows] at hq ⊢<;>first | exact hq | skip
  simp only [VR] at hx
  obtain ⟨_,_,i,_,hKo,_⟩:=hx
  unfold Heap.cells at hq ⊢
  rw [dh (mc hK hKo)] at hq; exact hq
 ·exact hq
 ·obtain ⟨x,_,_,hx,_⟩:=hx.two
  simp only [VR] at hx
  obtain ⟨_,i,_,hKo,_⟩:=hx
  rw [dh (mc hK hKo)] at hq; exact hq
 ·exact hq
 ·obtain ⟨x,_,hx⟩:=hx.one
  simp only [VR] at hx
  obtain ⟨_,i,_,hKo,_⟩:=hx
  rw [dh (mc hK hKo)] at hq; exact hq
 cases hq
theorem nI {P:Program} {op:Op} {k:AK} {xs:List Opd} (h:bo P op=some (k,xs)):∃ l,ez l=some xs:=by
 cases op with
 | call c=>
  obtain ⟨callee,args,argTypes⟩:=c
  simp only [bo] at h
  split at h
  ·split at h
   ·exact ⟨_,(wO h).2⟩
   exact ⟨_,(wO h).2⟩
  ·exact ⟨_,(wO h).2⟩
  ·exact ⟨_,(wO h).2⟩
  ·exact ⟨_,(wO h).2⟩
  exact ⟨_,(wO h).2⟩
 | makeMap t r=>
  cases r with
  | none=>simp only [bo] at h; exact ⟨_,(wO h).2⟩
  | some x=>cases h
 | slice t x lo hi mx=>
  cases mx with
  | some m=>cases h
  | none=>exact ⟨_,(wO h).2⟩
 | next it s=>
  cases s with
  | true=>exact ⟨_,(wO h).2⟩
  | false=>cases h
 | move x | assign x | pick c x y | box t x | nilCheck x | unOp op t x | extract t i | alloc t | load t x | lookup t x i ok | build t ps | buildSlice t len ps | store t x y | makeInterface t x | makeFunc fn first caps | makeSlice t l c | fieldAddr t x f | field t x f | indexAddr t x i | index t x i | mapUpdate t m k x | insert t m k x | range t x | convert s d x | binOp op t x y yt | panic x=>
  exact ⟨_,(wO h).2⟩
 | _=>cases h
def ri (cf:aZ) (ao:AOper) (s:Env×Heap) (v:AV) (s':Env×Heap):Prop:=
 (ak s.1 ao.guard=some false∧s'.1=putE s.1 ao.dst v∧v=.undef∧s'.2=s.2)∨
 (ak s.1 ao.guard=some true∧∃ xs,evs s.1 ao.xs=some xs∧ao.k.ev cf xs s.2=some (v,s'.2)∧s'.1=putE s.1 ao.dst v)
theorem Cn {cf:aZ} {ao:AOper} {s s':Env×Heap} (h:aP cf ao s.1 s.2=some s'):∃ v,ri cf ao s v s':=by
 rcases fV (show aP cf ao s.1 s.2=some (s'.1,s'.2) from h) with ⟨h1,h2,h3⟩ | ⟨h1,xs,v,h2,h3,h4⟩
 ·exact ⟨.undef,.inl ⟨h1,h2,rfl,h3⟩⟩
 exact ⟨v,.inr ⟨h1,xs,h2,h3,h4⟩⟩
structure DC (P:Program) (cf:aZ) (nt:Nat) (ops:Array Oper) (Bm:List (List Bool)) (s:Nat→Nat) (as:List AOper) (st:Nat→Env×Heap) (V:Nat→AV):Prop where
 cfOk:Bq P cf
 len:as.length=ops.size
 inj:∀ i j,i < ops.size→j < ops.size→s i=s j→i=j
 sur:∀ q,q < ops.size→∃ i,i < ops.size∧s i=q
 bm:∀ i j,i < ops.size→j < ops.size→bef Bm i j=bef (aS ops.toList) (s i) (s j)
 slt:∀ i,i < ops.size→s i < ops.size
 co:∀ (i:Nat) (o:Oper),i < ops.size→ops[s i]? = some o→∃ ao,as[i]? = some ao∧dC P nt ops.toList o=some ao
 step:∀ (i:Nat) (ao:AOper),as[i]? = some ao→ri cf ao (st i) (V i) (st (i+1))
 mono:∀ (i:Nat) (ao:AOper),as[i]? = some ao→(st i).2.n≤(st (i+1)).2.n
 quiet:∀ (i:Nat) (ao:AOper),as[i]? = some ao→ao.k.isE=false→(st (i+1)).2=(st i).2∨(ao.k.isN=true∧∃ ob,(st (i+1)).2=(st i).2.push ob)
 pair:∀ i j,i < j→j < ops.size→pa Bm as i j=true
 edge:∀ (i:Nat) (o:Oper),ops[i]? = some o→∀ e∈o.after,Region.binds .any e=true→e.on < i
 chk:∀ r x,(r,x)∈bq Bm as→∀ ao q xs v,as[r]? = some ao→ak (st r).1 ao.guard=some true→ao.k=.r q→evs (st r).1 ao.xs=some xs→q.ev xs (st r).2=some v→
  q.ev xs (st x).2=some v∧q.ev xs (st (x+1)).2=some v
 chkN:∀ r x,(r,x)∈bq Bm as→∀ ao q,as[r]? = some ao→ak (st r).1 ao.guard=some true→ao.k=.n q→∀ ob,(st x).2.get (st r).2.n=some ob→(st (x+1)).2.get (st r).2.n=some ob
section
variable {P:Program} {cf:aZ} {nt:Nat} {ops:Array Oper} {Bm:List (List Bool)} {s:Nat→Nat} {as:List AOper} {st:Nat→Env×Heap} {V:Nat→AV} {B:Nat}
theorem DC.lt (_d:DC P cf nt ops Bm s as st V) {i:Nat} {ao:AOper} (h:as[i]? = some ao):i < as.length:=by
 rcases Nat.lt_or_ge i as.length with hh | hh
 ·exact hh
 rw [List.getElem?_eq_none hh] at h; cases h
theorem DC.forward (d:DC P cf nt ops Bm s as st V) {Φ:Heap→Prop} (hΦ:∀ h ob,Φ h→Φ (h.push ob)):∀ (m k:Nat),k+m≤ops.size→(∀ j ao,k≤j→j < k+m→as[j]? = some ao→ao.k.isE=false)→Φ (st k).2→Φ (st (k+m)).2
 | 0,_,_,_,h=>h
 | m+1,k,hle,hq,h=>by
  have hk:k+m < as.length:=by rw [d.len]; omega
  have h1:=d.forward hΦ m k (by omega) (fun j ao h1 h2=>hq j ao h1 (by omega)) h
  have h2:=List.getElem?_eq_getElem hk
  rcases d.quiet _ _ h2 (hq _ _ (by omega) (by omega) h2) with h3 | ⟨_,ob,h3⟩
  ·rw [show k+(m+1)=k+m+1 by omega,h3]; exact h1
  rw [show k+(m+1)=k+m+1 by omega,h3]; exact hΦ _ _ h1
theorem DC.next (d:DC P cf nt ops Bm s as st V):∀ (m k:Nat),k+m=ops.size→∃ p,k≤p∧p≤ops.size∧(∀ j ao,k≤j→j < p→as[j]? = some ao→ao.k.isE=false)∧(∀ ao,as[p]? = some ao→ao.k.isE=true)
 | 0,k,h=>⟨k,Nat.le_refl _,by omega,fun j _ h1 h2=>by omega,fun ao ha=>by have:=d.lt ha; have:=d.len; omega⟩
 | m+1,k,h=>by
  have hk:k < as.length:=by rw [d.len]; omega
  have h2:=List.getElem?_eq_getElem hk
  cases hE:as[k].k.isE with
  | true=>exact ⟨k,Nat.le_refl _,by omega,fun j _ h1 h2=>by omega,fun ao ha=>by rw [h2] at ha; cases ha; exact hE⟩
  | false=>
   obtain ⟨p,p1,p2,p3,p4⟩:=d.next m (k+1) (by omega)
   refine ⟨p,by omega,p2,fun j ao h1 h3 h4=>?_,p4⟩
   by_cases e:j=k
   ·subst e; rw [h2] at h4; cases h4; exact hE
   exact p3 j ao (by omega) h3 h4
structure Inv (B:Nat) (ops:Array Oper) (Bm:List (List Bool)) (s:Nat→Nat) (as:List AOper) (st:Nat→Env×Heap) (V:Nat→AV) (K0:KM) (a0:Act) (w0:World) (listed:Array Bool) (K:KM) (a:Act) (w:World):Prop where
 size:listed.size=ops.size
 closed:∀ i j,i < ops.size→j < ops.size→bef Bm i j=true→listed.getD (s j) false=true→listed.getD (s i) false=true
 env:∀ t v,d8 (fun i=>listed.getD (s i) false) V t as 0 ((st 0).1.get t)=some v→∃ x,a.tmps[t]? = some x∧VR K v x
 sim:∃ p,p≤ops.size∧(∀ (j:Nat) (ao:AOper),j < p→as[j]? = some ao→ao.k.isE=true→listed.getD (s j) false=true)∧(∀ ao,as[p]? = some ao→ao.k.isE=true∧listed.getD (s p) false=false)∧Sim B K (st p).2 w
 fresh:∀ (i:Nat) (ao:AOper),as[i]? = some ao→ao.k.isN=true→ak (st i).1 ao.guard=some true→listed.getD (s i) false=false→K (st i).2.n=none
 below:Below B w0 w
 le:KLe K0 K
 defers:a.defers=a0.defers
 tsize:a.tmps.size=a0.tmps.size
 old:∀ x,x < (st 0).2.n→K0 x=none→K x=none
theorem ip {l:Array Bool} {i j:Nat} (hi:i < l.size) (d:Bool):(l.setIfInBounds i true).getD j d=if j=i then true else l.getD j d:=by
 simp only [Array.getD_eq_getD_getElem?,Array.getElem?_setIfInBounds]
 by_cases h:i=j
 ·subst h; simp [hi]
 rw [if_neg h,if_neg (fun e=>h e.symm)]
def bz (e:Env):List Nat→Env
 | []=>.nil
 | t::ts=>match e.get t with
  | some v=>(bz e ts).set t v
  | none=>bz e ts
theorem cZ (e:Env):∀ (l:List Nat) (t:Nat) (v:AV),(bz e l).get t=some v→t∈l∧e.get t=some v
 | [],t,v,h=>by rw [bz,T.get_nil] at h; cases h
 | s::ts,t,v,h=>by
  unfold bz at h
  split at h
  ·rename_i u hu
   rw [T.get_set] at h
   by_cases e':t=s
   ·rw [if_pos e'] at h; cases h; subst e'; exact ⟨by simp,hu⟩
   rw [if_neg e'] at h
   obtain ⟨h1,h2⟩:=cZ e ts t v h
   exact ⟨by simp [h1],h2⟩
  obtain ⟨h1,h2⟩:=cZ e ts t v h
  exact ⟨by simp [h1],h2⟩
theorem cA (e:Env):∀ (l:List Nat) (t:Nat),t∈l→(bz e l).get t=e.get t
 | s::ts,t,h=>by
  unfold bz
  split
  ·rename_i u hu
   rw [T.get_set]
   by_cases e':t=s
   ·rw [if_pos e',e',hu]
   rw [if_neg e']
   exact cA e ts t (by simpa [e'] using h)
  rename_i hu
  by_cases e':t=s
  ·subst e'
   by_cases hm:t∈ts
   ·exact cA e ts t hm
   cases hr:(bz e ts).get t with
   | none=>exact hu.symm
   | some v=>exact absurd (cZ e ts t v hr).1 hm
  exact cA e ts t (by simpa [e'] using h)
theorem mR {e e':Env}:∀ (l:List Opd),(∀ t,Opd.tmp t∈l→e.get t=e'.get t)→evs e l=evs e' l
 | [],_=>rfl
 | x::xs,h=>by
  have h1:x.ev e=x.ev e':=by
   cases x with
   | tmp t=>exact h t (by simp)
   | const v=>rfl
  simp only [evs,h1,mR xs fun t ht=>h t (by simp [ht])]
theorem vI {ao:AOper} {t:Nat} (h:Opd.tmp t∈ao.xs):t∈cE ao:=by
 unfold cE
 refine List.mem_append.2 (.inr (List.mem_filterMap.2 ⟨_,h,rfl⟩))
theorem lZ (e:Env) (ao:AOper):evs (bz e (cE ao)) ao.xs=evs e ao.xs:=
 mR _ fun t ht=>cA e _ t (vI ht)
theorem jk (e:Env) (ao:AOper):ak (bz e (cE ao)) ao.guard=ak e ao.guard:=by
 unfold ak
 cases hg:ao.guard with
 | none=>rfl
 | some p=>
  obtain ⟨t,want⟩:=p
  simp only
  rw [cA e _ t (by unfold cE; rw [hg]; simp)]
theorem jF {d:Option Nat} {l:List Nat} (h:vG d l=false) {t:Nat} (hd:d=some t):t∉l:=by
 subst hd
 unfold vG at h
 intro hm
 have:l.any (Nat.beq t)=true:=List.any_eq_true.2 ⟨t,hm,by simp⟩
 simp only at h
 rw [this] at h; cases h
theorem lJ {a b:Option Nat} (h:nS a b=false) {t:Nat} (ha:a=some t):b≠some t:=by
 intro hb
 subst ha; subst hb
 simp [nS] at h
theorem DC.pairs (d:DC P cf nt ops Bm s as st V) {i j:Nat} {a b:AOper} (hi:as[i]? = some a) (hj:as[j]? = some b) (hij:i < j) :
  bef Bm i j=true∨(bef Bm i j=false∧bef Bm j i=false∧(∀ t,a.dst=some t→t∉cE b)∧(∀ t,b.dst=some t→t∉cE a)∧(∀ t,a.dst=some t→b.dst≠some t)∧¬ (a.k.isE=true∧b.k.isE=true)∧¬ (a.k.isE=true∧b.k.isN=true)∧¬ (a.k.isN=true∧a.k.isC=true∧b.k.isE=true)):=by
 have h:=d.pair i j hij (by have:=d.lt hj; have:=d.len; omega)
 unfold pa at h
 rw [hi,hj] at h
 simp only at h
 cases hb:bef Bm i j with
 | true=>exact .inl rfl
 | false=>
  right
  rw [hb] at h
  simp only [Bool.false_or,wE,Bool.and_eq_true,Bool.not_eq_true',Bool.and_eq_false_iff] at h
  obtain ⟨⟨⟨⟨⟨⟨h1,h2⟩,h3⟩,h0⟩,h4⟩,h5⟩,h6⟩:=h
  refine ⟨rfl,h0,fun t ht=>jF h1 ht,fun t ht=>jF h2 ht,fun t ht=>lJ h3 ht,?_,?_,?_⟩
  ·rintro ⟨k1,k2⟩; rcases h4 with h | h<;>simp_all
  ·rintro ⟨k1,k2⟩; rcases h5 with h | h<;>simp_all
  rintro ⟨k1,k2,k3⟩; rcases h6 with (h | h) | h<;>simp_all
theorem DC.mono' (d:DC P cf nt ops Bm s as st V):∀ (m k:Nat),k+m≤ops.size→(st k).2.n≤(st (k+m)).2.n
 | 0,k,_=>Nat.le_refl _
 | m+1,k,hk=>by
  have h1:=d.mono' m k (by omega)
  have hkl:k+m < as.length:=by rw [d.len]; omega
  exact Nat.le_trans h1 (d.mono (k+m) _ (List.getElem?_eq_getElem hkl))
theorem DC.grows (d:DC P cf nt ops Bm s as st V) {i:Nat} {ao:AOper} (h:as[i]? = some ao) (hN:ao.k.isN=true) (hw:ak (st i).1 ao.guard=some true):(st (i+1)).2.n=(st i).2.n+1:=by
 rcases d.step i ao h with ⟨h1,_⟩ | ⟨_,xs,_,hv,_⟩
 ·rw [hw] at h1; cases h1
 cases hk:ao.k<;>rw [hk] at hN<;>simp [AK.isN] at hN
 rw [hk] at hv
 simp only [AK.ev] at hv
 split at hv
 ·simp only [Option.some.injEq,Prod.mk.injEq] at hv
  rw [← hv.2,Heap.n_push]
 cases hv
theorem DC.ids (d:DC P cf nt ops Bm s as st V) {i j:Nat} {ai aj:AOper} (hi:as[i]? = some ai) (hj:as[j]? = some aj) (hNi:ai.k.isN=true) (hwi:ak (st i).1 ai.guard=some true) (hNj:aj.k.isN=true) (hwj:ak (st j).1 aj.guard=some true) (hne:i≠j):(st i).2.n≠(st j).2.n:=by
 have l1:=d.lt hi; have l2:=d.lt hj; have l3:=d.len
 rcases Nat.lt_or_ge i j with h | h
 ·have h1:=d.mono' (j - (i+1)) (i+1) (by omega)
  rw [show i+1+(j - (i+1))=j by omega,d.grows hi hNi hwi] at h1
  omega
 have h1:=d.mono' (i - (j+1)) (j+1) (by omega)
 rw [show j+1+(i - (j+1))=i by omega,d.grows hj hNj hwj] at h1
 omega
theorem DC.env_text (d:DC P cf nt ops Bm s as st V) (t:Nat):∀ (i:Nat),i≤as.length→(st i).1.get t=d8 (fun j=>decide (j < i)) V t as 0 ((st 0).1.get t)
 | 0,_=>by rw [ep as 0 _ fun j ao _ _=>by simp]
 | i+1,hi=>by
  have h2:=List.getElem?_eq_getElem (show i < as.length by omega)
  have hput:(st (i+1)).1=putE (st i).1 as[i].dst (V i):=by
   rcases d.step i _ h2 with ⟨_,h,_⟩ | ⟨_,_,_,_,h⟩<;>exact h
  rw [hput,dB]
  by_cases hd:as[i].dst=some t
  ·rw [if_pos hd]
   rw [fT as 0 i _ _ h2 hd (by simp) fun j ao hj _ _=>by simp; omega]
   simp
  rw [if_neg hd,d.env_text t i (by omega)]
  refine cV as 0 _ fun j ao hj hdj=>?_
  by_cases e:j=i
  ·subst e; rw [h2] at hj; cases hj; exact absurd hdj hd
  simp; omega
end
end Go.Am
