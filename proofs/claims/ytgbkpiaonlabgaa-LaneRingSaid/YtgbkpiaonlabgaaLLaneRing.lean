/- The law LaneRing: its pure function answers true, whatever it is called with; so does the machine's function. No condition. Own work. -/
import Derived.Test.YtgbkpiaonlabgaaPm2LaneRing
import Derived.Test.YtgbkpiaonlabgaaPbLaneRing
set_option linter.unusedSimpArgs false
set_option linter.unusedVariables false
namespace Go.Am
open Go
theorem loop_cnt {τ ρ:Type} {f:τ→Option (τ⊕ρ)} (n:Nat) (I:Nat→τ→Prop) (Q:ρ→Prop)
  (step:∀ k s,k < n→I k s→(∃ s',f s=some (.inl s')∧I (k+1) s')∨∃ r,f s=some (.inr r)∧Q r)
  (done:∀ s,I n s→∃ r,f s=some (.inr r)∧Q r) {s:τ} (h0:I 0 s):∃ r,loopC f s=some r∧Q r:=by
 suffices key:∀ d k s,k+d=n→I k s→∃ r,iter f (d+1) s=some r∧Q r by
  obtain ⟨r,h1,h2⟩:=key n 0 s (by omega) h0
  exact ⟨r,loopC_iff.2 ⟨_,h1⟩,h2⟩
 intro d
 induction d with
 | zero=>
  intro k s hk hI
  obtain rfl:k=n:=by omega
  obtain ⟨r,h1,h2⟩:=done s hI
  exact ⟨r,by simp only [iter,h1],h2⟩
 | succ d ih=>
  intro k s hk hI
  rcases step k s (by omega) hI with ⟨s',h1,h2⟩ | ⟨r,h1,h2⟩
  ·obtain ⟨r,h3,h4⟩:=ih (k+1) s' (by omega) h2
   exact ⟨r,by rw [iter]; simp only [h1]; exact h3,h4⟩
  exact ⟨r,by rw [iter]; simp only [h1],h2⟩
def swq {α:Type} (d:List α) (i j:Nat):List α:=match d[i]?,d[j]? with
 | some x,some y=>(d.set j x).set i y
 | _,_=>d
theorem swq_len {α:Type} (d:List α) (i j:Nat):(swq d i j).length=d.length:=by
 unfold swq; split<;>simp
theorem swq_get {α:Type} {d:List α} {i j:Nat} (hi:i < d.length) (hj:j < d.length) (k:Nat):(swq d i j)[k]? = if k=i then d[j]? else if k=j then d[i]? else d[k]?:=by
 unfold swq
 rw [List.getElem?_eq_getElem hi,List.getElem?_eq_getElem hj]
 simp only
 by_cases h1:k=i
 ·subst h1; rw [if_pos rfl,List.getElem?_set_self (by simpa using hi)]
 rw [if_neg h1,List.getElem?_set_ne (by omega)]
 by_cases h2:k=j
 ·subst h2; rw [if_pos rfl,List.getElem?_set_self hj]
 rw [if_neg h2,List.getElem?_set_ne (by omega)]
theorem swap_ev {α β:Type} {d:List α} {I J:Int} (i j:Nat) (hI:I=i) (hJ:J=j) (hi:i < d.length) (hj:j < d.length) (K:List α→Option β) :
  ((idx d I).bind fun e1=>(idx d J).bind fun e2=>(idx d J).bind fun e3=>(some (d.set J.toNat e1)).bind fun d'=>(idx d' I).bind fun e4=>(some (d'.set I.toNat e2)).bind K)=K (swq d i j):=by
 subst hI hJ
 rw [idx_get hi,idx_get hj]
 simp only [Option.bind_some,Int.toNat_natCast]
 rw [idx_get (by simpa using hi)]
 simp only [Option.bind_some]
 unfold swq
 rw [List.getElem?_eq_getElem hi,List.getElem?_eq_getElem hj]
structure SegE {α:Type} (a b:Nat) (d d':List α):Prop where
 len:d'.length=d.length
 out:∀ k,k < a∨b≤k→d'[k]? = d[k]?
 fro:∀ k,a≤k→k < b→∃ j,a≤j∧j < b∧d'[k]? = d[j]?
 to_:∀ k,a≤k→k < b→∃ j,a≤j∧j < b∧d[k]? = d'[j]?
theorem SegE.refl {α:Type} (a b:Nat) (d:List α):SegE a b d d:=⟨rfl,fun _ _=>rfl,fun k h1 h2=>⟨k,h1,h2,rfl⟩,fun k h1 h2=>⟨k,h1,h2,rfl⟩⟩
theorem SegE.trans {α:Type} {a b:Nat} {d d' d'':List α} (h:SegE a b d d') (k:SegE a b d' d''):SegE a b d d'':=by
 refine ⟨k.len.trans h.len,fun p hp=>(k.out p hp).trans (h.out p hp),fun p h1 h2=>?_,fun p h1 h2=>?_⟩
 ·obtain ⟨j,j1,j2,j3⟩:=k.fro p h1 h2
  obtain ⟨i,i1,i2,i3⟩:=h.fro j j1 j2
  exact ⟨i,i1,i2,j3.trans i3⟩
 obtain ⟨j,j1,j2,j3⟩:=h.to_ p h1 h2
 obtain ⟨i,i1,i2,i3⟩:=k.to_ j j1 j2
 exact ⟨i,i1,i2,j3.trans i3⟩
theorem SegE.wide {α:Type} {a b a' b':Nat} {d d':List α} (h:SegE a b d d') (ha:a'≤a) (hb:b≤b'):SegE a' b' d d':=by
 refine ⟨h.len,fun k hk=>h.out k (by omega),fun k h1 h2=>?_,fun k h1 h2=>?_⟩
 ·by_cases hk:a≤k∧k < b
  ·obtain ⟨j,j1,j2,j3⟩:=h.fro k hk.1 hk.2
   exact ⟨j,by omega,by omega,j3⟩
  exact ⟨k,h1,h2,h.out k (by omega)⟩
 by_cases hk:a≤k∧k < b
 ·obtain ⟨j,j1,j2,j3⟩:=h.to_ k hk.1 hk.2
  exact ⟨j,by omega,by omega,j3⟩
 exact ⟨k,h1,h2,(h.out k (by omega)).symm⟩
theorem SegE.swap {α:Type} {a b i j:Nat} {d:List α} (hb:b≤d.length) (h1:a≤i) (h2:i < b) (h3:a≤j) (h4:j < b):SegE a b d (swq d i j):=by
 have hg:=fun k=>swq_get (d:=d) (i:=i) (j:=j) (by omega) (by omega) k
 refine ⟨swq_len _ _ _,fun k hk=>?_,fun k k1 k2=>?_,fun k k1 k2=>?_⟩
 ·rw [hg,if_neg (by omega),if_neg (by omega)]
 ·rw [hg]
  split
  ·exact ⟨j,h3,h4,rfl⟩
  split
  ·exact ⟨i,h1,h2,rfl⟩
  exact ⟨k,k1,k2,rfl⟩
 by_cases e1:k=i
 ·refine ⟨j,h3,h4,?_⟩
  rw [hg]; split
  ·rename_i e; rw [e1,e]
  rw [if_pos rfl,e1]
 by_cases e2:k=j
 ·exact ⟨i,h1,h2,by rw [hg,if_pos rfl,e2]⟩
 exact ⟨k,k1,k2,by rw [hg,if_neg e1,if_neg e2]⟩
theorem SegE.mem {α:Type} {d d':List α} {b:Nat} (h:SegE 0 b d d') (x:α):x∈d'↔x∈d:=by
 constructor
 ·intro hx
  obtain ⟨k,hk⟩:=List.getElem?_of_mem hx
  by_cases hb:k < b
  ·obtain ⟨j,_,_,e⟩:=h.fro k (Nat.zero_le _) hb
   exact List.mem_of_getElem? (e.symm.trans hk)
  exact List.mem_of_getElem? ((h.out k (by omega)).symm.trans hk)
 intro hx
 obtain ⟨k,hk⟩:=List.getElem?_of_mem hx
 by_cases hb:k < b
 ·obtain ⟨j,_,_,e⟩:=h.to_ k (Nat.zero_le _) hb
  exact List.mem_of_getElem? (e.symm.trans hk)
 exact List.mem_of_getElem? ((h.out k (by omega)).trans hk)
structure Ord {α:Type} (lt:α→α→Prop):Prop where
 asy:∀ x y,lt x y→¬ lt y x
 tr:∀ x y z,¬ lt y x→¬ lt z y→¬ lt z x
def Le {α:Type} (lt:α→α→Prop) (d:List α) (i j:Nat):Prop:=∀ x y,d[i]? = some x→d[j]? = some y→¬ lt y x
theorem Ord.irr {α:Type} {lt:α→α→Prop} (o:Ord lt) (x:α):¬ lt x x:=fun h=>o.asy x x h h
theorem Le.refl {α:Type} {lt:α→α→Prop} (o:Ord lt) (d:List α) (i:Nat):Le lt d i i:=fun x y h1 h2=>by rw [h1] at h2; cases h2; exact o.irr x
theorem Le.trans {α:Type} {lt:α→α→Prop} (o:Ord lt) {d:List α} {i j k:Nat} (hj:j < d.length) (h1:Le lt d i j) (h2:Le lt d j k):Le lt d i k:=fun x y hx hy=>o.tr x d[j] y (h1 _ _ hx (List.getElem?_eq_getElem hj)) (h2 _ _ (List.getElem?_eq_getElem hj) hy)
theorem Le.of {α:Type} {lt:α→α→Prop} {d d':List α} {i j i' j':Nat} (h:Le lt d i j) (h1:d'[i']? = d[i]?) (h2:d'[j']? = d[j]?):Le lt d' i' j':=fun x y hx hy=>h x y (h1▸hx) (h2▸hy)
def Srt {α:Type} (lt:α→α→Prop) (a b:Nat) (d:List α):Prop:=∀ i j,a≤i→i < j→j < b→Le lt d i j
end Go.Am
namespace Go.Proofs.Ytgbkpiaonlabgaa
open Go Go.Am
structure CmpOk (C:TLane→TLane→Option Int) (lt:TLane→TLane→Prop):Prop where
 ev:∀ x y,∃ r,C x y=some r∧(r < 0↔lt x y)
 ord:Ord lt
theorem cmp_ev {β:Type} {C:TLane→TLane→Option Int} {lt:TLane→TLane→Prop} (hC:CmpOk C lt) {d:List TLane} {I J:Int} (i j:Nat) (hI:I=i) (hJ:J=j) (hi:i < d.length) (hj:j < d.length) (K:Int→Option β) :
  ∃ r,((idx d I).bind fun e1=>(idx d J).bind fun e2=>(C e1 e2).bind K)=K r∧(r < 0→Le lt d i j)∧(¬ r < 0→Le lt d j i):=by
 subst hI hJ
 obtain ⟨r,h1,h2⟩:=hC.ev d[i] d[j]
 refine ⟨r,?_,fun h x y hx hy=>?_,fun h x y hx hy=>?_⟩
 ·rw [idx_get hi,idx_get hj]
  simp only [Option.bind_some,h1]
 ·rw [List.getElem?_eq_getElem hi] at hx
  rw [List.getElem?_eq_getElem hj] at hy
  cases hx; cases hy
  exact hC.ord.asy _ _ (h2.1 h)
 rw [List.getElem?_eq_getElem hi] at hy
 rw [List.getElem?_eq_getElem hj] at hx
 cases hx; cases hy
 exact fun hh=>h (h2.2 hh)
section
variable {C:TLane→TLane→Option Int} {lt:TLane→TLane→Prop}
theorem p61_inner (hC:CmpOk C lt) {a i:Nat} {d0:List TLane} (hl:d0.length≤1000000) (hai:a≤i) (hi:i < d0.length) (hs:Srt lt a i d0):∃ u,loopC (p61_l0 a C) ((i:Int),d0)=some u∧SegE a (i+1) d0 u∧Srt lt a (i+1) u:=by
 refine loopC_rule (fun s=>∃ j:Nat,s.1=(j:Int)∧a≤j∧j≤i∧SegE a (i+1) d0 s.2∧∀ p q,a≤p→p < q→q≤i→q≠j→Le lt s.2 p q) (fun s=>s.1.toNat) _ ?_ ⟨i,rfl,hai,Nat.le_refl _,SegE.refl _ _ _,fun p q h1 h2 h3 h4=>hs p q h1 h2 (by omega)⟩
 rintro ⟨J,d⟩ ⟨j,e,h1,h2,h3,h4⟩
 simp only at e h3 h4
 subst e
 have hlen:=h3.len
 have fin:Le lt d (j - 1) j∨j=a→SegE a (i+1) d0 d∧Srt lt a (i+1) d:=fun hh=>by
  refine ⟨h3,fun p q k1 k2 k3=>?_⟩
  by_cases hq:q=j
  ·rcases hh with hh | hh
   ·by_cases hp:p=j - 1
    ·rw [hp,hq]; exact hh
    rw [hq]; exact (h4 p (j - 1) k1 (by omega) (by omega) (by omega)).trans hC.ord (by omega) hh
   omega
  exact h4 p q k1 k2 (by omega) hq
 unfold p61_l0
 simp only
 by_cases hj:a < j
 ·rw [if_pos (by omega)]
  have ej:IntKind.wrap .i64 ((j:Int) - 1)=((j - 1:Nat):Int):=by rw [wrap64 (by omega) (by omega)]; omega
  obtain ⟨r,k1,k2,k3⟩:=cmp_ev hC (d:=d) (I:=(j:Int)) (J:=IntKind.wrap .i64 ((j:Int) - 1)) j (j - 1) rfl ej (by omega) (by omega) (fun r=>p61_j0 (j:Int) d (decide (r < 0)))
  rw [k1]
  by_cases hr:r < 0
  ·left
   have hle:=k2 hr
   rw [decide_eq_true hr]
   unfold p61_j0
   rw [if_pos rfl]
   rw [swap_ev (j - 1) j ej rfl (by omega) (by omega)]
   refine ⟨_,rfl,⟨j - 1,?_,by omega,by omega,h3.trans (SegE.swap (by omega) (by omega) (by omega) (by omega) (by omega)),?_⟩,?_⟩
   ·rw [ej]
   ·intro p q q1 q2 q3 q4
    have hg:=fun k=>swq_get (d:=d) (i:=j - 1) (j:=j) (by omega) (by omega) k
    simp only
    by_cases e1:q=j
    ·by_cases e2:p=j - 1
     ·exact hle.of (by rw [hg,if_pos e2]) (by rw [hg,if_neg (by omega),if_pos e1])
     exact (h4 p (j - 1) q1 (by omega) (by omega) (by omega)).of (by rw [hg,if_neg (by omega),if_neg (by omega)]) (by rw [hg,if_neg (by omega),if_pos e1])
    by_cases e2:p=j - 1
    ·exact (h4 j q (by omega) (by omega) q3 e1).of (by rw [hg,if_pos e2]) (by rw [hg,if_neg (by omega),if_neg (by omega)])
    by_cases e3:p=j
    ·exact (h4 (j - 1) q (by omega) (by omega) q3 e1).of (by rw [hg,if_neg (by omega),if_pos e3]) (by rw [hg,if_neg (by omega),if_neg (by omega)])
    exact (h4 p q q1 q2 q3 e1).of (by rw [hg,if_neg (by omega),if_neg (by omega)]) (by rw [hg,if_neg (by omega),if_neg (by omega)])
   simp only; omega
  right
  rw [decide_eq_false hr]
  exact ⟨d,by unfold p61_j0; rw [if_neg (by decide)],fin (.inl (k3 hr))⟩
 rw [if_neg (by omega)]
 right
 exact ⟨d,by unfold p61_j0; rw [if_neg (by decide)],fin (.inr (by omega))⟩
theorem p61_ok (hC:CmpOk C lt) {a b:Nat} {d0:List TLane} (hl:d0.length≤1000000) (hab:a≤b) (hb:b≤d0.length):∃ u,p61 d0 (a:Int) (b:Int) C=some u∧SegE a b d0 u∧Srt lt a b u:=by
 unfold p61
 suffices key:∃ u,loopC (p61_l1 a b C) (IntKind.wrap .i64 ((a:Int)+1),d0)=some u∧SegE a b d0 u∧Srt lt a b u by
  obtain ⟨u,h1,h2⟩:=key
  exact ⟨u,by rw [h1]; rfl,h2⟩
 refine loopC_rule (fun s=>∃ i:Nat,s.1=(i:Int)∧a < i∧i≤b+1∧SegE a b d0 s.2∧Srt lt a (min i b) s.2) (fun s=>b+2 - s.1.toNat) _ ?_ ⟨a+1,by rw [wrap64 (by omega) (by omega)]; rfl,by omega,by omega,SegE.refl _ _ _,fun p q h1 h2 h3=>by omega⟩
 rintro ⟨J,d⟩ ⟨i,e,h1,h2,h3,h4⟩
 simp only at e h3 h4
 subst e
 have hlen:=h3.len
 unfold p61_l1
 simp only
 by_cases hi:i < b
 ·left
  rw [if_pos (by omega)]
  rw [Nat.min_eq_left (by omega)] at h4
  obtain ⟨u,k1,k2,k3⟩:=p61_inner hC (a:=a) (i:=i) (d0:=d) (by omega) (by omega) (by omega) h4
  rw [k1]
  have ei:IntKind.wrap .i64 ((i:Int)+1)=((i+1:Nat):Int):=by rw [wrap64 (by omega) (by omega)]; omega
  refine ⟨_,rfl,⟨i+1,ei,by omega,by omega,h3.trans (k2.wide (by omega) (by omega)),?_⟩,?_⟩
  ·rw [Nat.min_eq_left (by omega)]; exact k3
  simp only [ei]; omega
 right
 rw [if_neg (by omega)]
 rw [Nat.min_eq_right (by omega)] at h4
 exact ⟨d,rfl,h3,h4⟩
theorem p65_ok {a b:Nat} {d0:List TLane} (hl:d0.length≤1000000) (hab:a < b) (hb:b≤d0.length):∃ u,p65 d0 (a:Int) (b:Int) C=some u∧SegE a b d0 u:=by
 unfold p65
 suffices key:∃ u,loopC p65_l0 ((a:Int),IntKind.wrap .i64 ((b:Int) - 1),d0)=some u∧SegE a b d0 u by
  obtain ⟨u,h1,h2⟩:=key
  exact ⟨u,by rw [h1]; rfl,h2⟩
 have eb:IntKind.wrap .i64 ((b:Int) - 1)=((b - 1:Nat):Int):=by rw [wrap64 (by omega) (by omega)]; omega
 rw [eb]
 refine loopC_rule (fun s=>∃ i j:Nat,s.1=(i:Int)∧s.2.1=(j:Int)∧a≤i∧j < b∧i≤j+1∧SegE a b d0 s.2.2) (fun s=>(s.2.1 - s.1).toNat+1 - (if s.2.1 < s.1 then 1 else 0)) _ ?_ ⟨a,b - 1,rfl,rfl,by omega,by omega,by omega,SegE.refl _ _ _⟩
 rintro ⟨I,J,d⟩ ⟨i,j,e1,e2,h1,h2,h3,h4⟩
 simp only at e1 e2 h4
 subst e1 e2
 have hlen:=h4.len
 unfold p65_l0
 simp only
 by_cases hi:i < j
 ·left
  rw [if_pos (by omega),swap_ev j i rfl rfl (by omega) (by omega)]
  have ei:IntKind.wrap .i64 ((i:Int)+1)=((i+1:Nat):Int):=by rw [wrap64 (by omega) (by omega)]; omega
  have ej:IntKind.wrap .i64 ((j:Int) - 1)=((j - 1:Nat):Int):=by rw [wrap64 (by omega) (by omega)]; omega
  refine ⟨_,rfl,⟨i+1,j - 1,ei,ej,by omega,by omega,by omega,h4.trans (SegE.swap (by omega) (by omega) (by omega) (by omega) (by omega))⟩,?_⟩
  simp only [ei,ej]
  split<;>split<;>omega
 right
 rw [if_neg (by omega)]
 exact ⟨d,rfl,h4⟩
theorem p66_ok (hC:CmpOk C lt) {a b:Nat} {d0:List TLane} (hl:d0.length≤1000000) (hab:a < b) (hb:b≤d0.length) (hs:b - a < 50):∃ r,p66 d0 (a:Int) (b:Int) C=some (r,d0)∧(r=true→Srt lt a b d0):=by
 have key:∃ i:Int,loopC (p66_l0 b C d0) (IntKind.wrap .i64 ((a:Int)+1))=some i∧(i=b→Srt lt a b d0):=by
  refine loopC_rule (fun s=>∃ i:Nat,s=(i:Int)∧a < i∧i≤b∧Srt lt a i d0) (fun s=>b+1 - s.toNat) _ ?_ ⟨a+1,by rw [wrap64 (by omega) (by omega)]; rfl,by omega,by omega,fun p q h1 h2 h3=>by omega⟩
  rintro _ ⟨i,rfl,h1,h2,h3⟩
  unfold p66_l0
  by_cases hi:i < b
  ·rw [if_pos (by omega)]
   have ej:IntKind.wrap .i64 ((i:Int) - 1)=((i - 1:Nat):Int):=by rw [wrap64 (by omega) (by omega)]; omega
   obtain ⟨r,k1,k2,k3⟩:=cmp_ev hC (d:=d0) (I:=(i:Int)) (J:=IntKind.wrap .i64 ((i:Int) - 1)) i (i - 1) rfl ej (by omega) (by omega) (fun r=>p66_j0 (i:Int) (!(decide (r < 0))))
   rw [k1]
   by_cases hr:r < 0
   ·right
    rw [decide_eq_true hr]
    exact ⟨i,by unfold p66_j0; rfl,fun e=>by omega⟩
   left
   have ei:IntKind.wrap .i64 ((i:Int)+1)=((i+1:Nat):Int):=by rw [wrap64 (by omega) (by omega)]; omega
   rw [decide_eq_false hr]
   refine ⟨_,by unfold p66_j0; rfl,⟨i+1,ei,by omega,by omega,fun p q q1 q2 q3=>?_⟩,?_⟩
   ·by_cases hq:q=i
    ·rw [hq]
     by_cases hp:p=i - 1
     ·rw [hp]; exact k3 hr
     exact (h3 p (i - 1) q1 (by omega) (by omega)).trans hC.ord (by omega) (k3 hr)
    exact h3 p q q1 q2 (by omega)
   rw [ei]; omega
  right
  rw [if_neg (by omega)]
  obtain rfl:i=b:=by omega
  exact ⟨i,by unfold p66_j0; rfl,fun _=>h3⟩
 obtain ⟨i,h1,h2⟩:=key
 have e:∃ q,loopC (p66_l3 a b C) (IntKind.wrap .i64 ((a:Int)+1),0,d0)=some q∧(q=.inl (true,d0)∧Srt lt a b d0∨q=.inl (false,d0)):=by
  have hstep:∃ q,p66_l3 a b C (IntKind.wrap .i64 ((a:Int)+1),0,d0)=some (.inr q)∧(q=.inl (true,d0)∧Srt lt a b d0∨q=.inl (false,d0)):=by
   unfold p66_l3
   simp only
   rw [if_pos (by omega),h1]
   simp only [Option.bind_some]
   by_cases hi:i=b
   ·rw [if_pos hi]; exact ⟨_,rfl,.inl ⟨rfl,h2 hi⟩⟩
   rw [if_neg hi,wrap64 (by omega) (by omega),if_pos (by omega)]; exact ⟨_,rfl,.inr rfl⟩
  obtain ⟨q,k1,k2⟩:=hstep
  exact ⟨q,loopC_iff.2 ⟨1,by simp only [iter,k1]⟩,k2⟩
 obtain ⟨q,k1,k2⟩:=e
 unfold p66
 rw [k1]
 rcases k2 with ⟨rfl,k2⟩ | rfl
 ·exact ⟨true,rfl,fun _=>k2⟩
 exact ⟨false,rfl,fun h=>by cases h⟩
end
end Go.Proofs.Ytgbkpiaonlabgaa
namespace Go.Proofs.Ytgbkpiaonlabgaa
open Go Go.Am
section
variable {C:TLane→TLane→Option Int} {lt:TLane→TLane→Prop}
def Kid (k c:Nat):Prop:=c=2 * k+1∨c=2 * k+2
def Heapy (lt:TLane→TLane→Prop) (d:List TLane) (f lo hi:Nat):Prop:=∀ k c,lo≤k→Kid k c→c < hi→Le lt d (f+c) (f+k)
theorem heap_top (o:Ord lt) {d:List TLane} {f hi:Nat} (hl:f+hi≤d.length) (h:Heapy lt d f 0 hi):∀ k,k < hi→Le lt d (f+k) f:=by
 intro k
 induction k using Nat.strongRecOn with
 | ind k ih=>
  intro hk
  rcases Nat.eq_zero_or_pos k with rfl | hp
  ·exact Le.refl o _ _
  have:=h ((k - 1) / 2) k (Nat.zero_le _) (by unfold Kid; omega) hk
  exact this.trans o (by omega) (ih _ (by omega) (by omega))
theorem p73_ok (hC:CmpOk C lt) {f lo hi:Nat} {d0:List TLane} (hl:d0.length≤1000000) (hh:f+hi≤d0.length) (hlo:lo≤1000000) (h0:Heapy lt d0 f (lo+1) hi):∃ u,p73 d0 (lo:Int) (hi:Int) (f:Int) C=some u∧SegE (f+lo) (f+hi) d0 u∧Heapy lt u f lo hi:=by
 unfold p73
 suffices key:∃ q,loopC (p73_l0 hi f C) ((lo:Int),d0)=some q∧(match q with
   | .inl u=>SegE (f+lo) (f+hi) d0 u∧Heapy lt u f lo hi
   | .inr u=>SegE (f+lo) (f+hi) d0 u∧Heapy lt u f lo hi) by
  obtain ⟨q,h1,h2⟩:=key
  rw [h1]
  rcases q with u | u<;>exact ⟨u,rfl,h2⟩
 refine loopC_rule (fun s=>∃ r:Nat,s.1=(r:Int)∧lo≤r∧r≤1000000∧SegE (f+lo) (f+hi) d0 s.2∧(∀ k c,lo≤k→k≠r→Kid k c→c < hi→Le lt s.2 (f+c) (f+k))∧(∀ k c,lo≤k→Kid k r→Kid r c→c < hi→Le lt s.2 (f+c) (f+k))) (fun s=>hi - s.1.toNat) _ ?_ ⟨lo,rfl,Nat.le_refl _,hlo,SegE.refl _ _ _,fun k c h1 h2 h3 h4=>h0 k c (by omega) h3 h4,fun k c h1 h2 h3 h4=>by unfold Kid at h2; omega⟩
 rintro ⟨R,d⟩ ⟨r,e,h1,hr6,h2,h3,h4⟩
 simp only at e h2 h3 h4
 subst e
 have hlen:=h2.len
 have e1:IntKind.wrap .i64 ((IntKind.wrap .i64 ((2:Int) * (r:Int)))+(1:Int))=((2 * r+1:Nat):Int):=by
  rw [wrap64 (n:=2 * (r:Int)) (by omega) (by omega),wrap64 (by omega) (by omega)]; omega
 have e2:IntKind.wrap .i64 ((IntKind.wrap .i64 ((IntKind.wrap .i64 ((2:Int) * (r:Int)))+(1:Int)))+(1:Int))=((2 * r+2:Nat):Int):=by
  rw [e1,wrap64 (by omega) (by omega)]; omega
 unfold p73_l0
 simp only
 by_cases hc:2 * r+1 < hi
 ·rw [if_neg (by rw [e1]; omega)]
    -- the greater child
  have step:∀ c:Nat,c < hi→Kid r c→(∀ c',c' < hi→Kid r c'→Le lt d (f+c') (f+c))→
    (∃ s',p73_j0 f C (r:Int) d (c:Int)=some (.inl s')∧(∃ r':Nat,s'.1=(r':Int)∧lo≤r'∧r'≤1000000∧SegE (f+lo) (f+hi) d0 s'.2∧(∀ k c,lo≤k→k≠r'→Kid k c→c < hi→Le lt s'.2 (f+c) (f+k))∧(∀ k c,lo≤k→Kid k r'→Kid r' c→c < hi→Le lt s'.2 (f+c) (f+k)))∧hi - s'.1.toNat < hi - (r:Int).toNat)∨
    ∃ q,p73_j0 f C (r:Int) d (c:Int)=some (.inr q)∧(match q with
     | .inl u=>SegE (f+lo) (f+hi) d0 u∧Heapy lt u f lo hi
     | .inr u=>SegE (f+lo) (f+hi) d0 u∧Heapy lt u f lo hi):=by
   intro c hc1 hc2 hc3
   have hrc:r < c:=by unfold Kid at hc2; omega
   have er:IntKind.wrap .i64 ((f:Int)+(r:Int))=((f+r:Nat):Int):=by rw [wrap64 (by omega) (by omega)]; omega
   have ec:IntKind.wrap .i64 ((f:Int)+(c:Int))=((f+c:Nat):Int):=by rw [wrap64 (by omega) (by omega)]; omega
   unfold p73_j0
   obtain ⟨q,k1,k2,k3⟩:=cmp_ev (β:=(Int×(List TLane))⊕((List TLane)⊕(List TLane))) hC (d:=d) (I:=IntKind.wrap .i64 ((f:Int)+(r:Int))) (J:=IntKind.wrap .i64 ((f:Int)+(c:Int))) (f+r) (f+c) er ec (by omega) (by omega)
    (fun r15=>if (!(decide (r15 < (0:Int))))=true then (some (.inr (.inl d))) else ((idx d (IntKind.wrap .i64 ((f:Int)+(c:Int)))).bind fun e16=>(idx d (IntKind.wrap .i64 ((f:Int)+(r:Int)))).bind fun e17=>(idx d (IntKind.wrap .i64 ((f:Int)+(r:Int)))).bind fun e18=>(some (d.set ((IntKind.wrap .i64 ((f:Int)+(r:Int))):Int).toNat e16)).bind fun y19=>(idx y19 (IntKind.wrap .i64 ((f:Int)+(c:Int)))).bind fun e20=>(some (y19.set ((IntKind.wrap .i64 ((f:Int)+(c:Int))):Int).toNat e17)).bind fun y21=>some (.inl ((c:Int),y21))))
   rw [k1]
   by_cases hq:q < 0
   ·left
    rw [if_neg (by simp [hq]),swap_ev (f+c) (f+r) ec er (by omega) (by omega)]
    have hg:=fun k=>swq_get (d:=d) (i:=f+c) (j:=f+r) (by omega) (by omega) k
    refine ⟨_,rfl,⟨c,rfl,by omega,by omega,h2.trans (SegE.swap (by omega) (by omega) (by omega) (by omega) (by omega)),fun k x x1 x2 x3 x4=>?_,fun k x x1 x2 x3 x4=>?_⟩,by simp only; omega⟩
    ·simp only
     by_cases y1:k=r
     ·subst y1
      by_cases y2:x=c
      ·subst y2
       exact (k2 hq).of (by rw [hg,if_pos rfl]) (by rw [hg,if_neg (by omega),if_pos rfl])
      exact (hc3 x x4 x3).of (by rw [hg,if_neg (by omega),if_neg (by unfold Kid at x3; omega)]) (by rw [hg,if_neg (by omega),if_pos rfl])
     by_cases y2:x=r
     ·subst y2
      exact (h4 k c x1 x3 hc2 hc1).of (by rw [hg,if_neg (by omega),if_pos rfl]) (by rw [hg,if_neg (by omega),if_neg (by omega)])
     have:x≠c:=fun e=>by unfold Kid at x3 hc2; omega
     exact (h3 k x x1 y1 x3 x4).of (by rw [hg,if_neg (by omega),if_neg (by omega)]) (by rw [hg,if_neg (by omega),if_neg (by omega)])
    simp only
    have y1:k=r:=by unfold Kid at x2 hc2; omega
    subst y1
    have y2:c < x:=by unfold Kid at x3; omega
    exact (h3 c x (by omega) (by omega) x3 x4).of (by rw [hg,if_neg (by omega),if_neg (by omega)]) (by rw [hg,if_neg (by omega),if_pos rfl])
   right
   rw [if_pos (by simp [hq])]
   refine ⟨_,rfl,h2,fun k x x1 x2 x3=>?_⟩
   by_cases y1:k=r
   ·subst y1
    exact (hc3 x x3 x2).trans hC.ord (by omega) (k3 hq)
   exact h3 k x x1 y1 x2 x3
  by_cases hc2:2 * r+2 < hi
  ·rw [if_pos (by rw [e2]; omega)]
   have ei:IntKind.wrap .i64 ((f:Int)+IntKind.wrap .i64 ((IntKind.wrap .i64 ((2:Int) * (r:Int)))+(1:Int)))=((f+(2 * r+1):Nat):Int):=by rw [e1,wrap64 (by omega) (by omega)]; omega
   have ej:IntKind.wrap .i64 (IntKind.wrap .i64 ((f:Int)+IntKind.wrap .i64 ((IntKind.wrap .i64 ((2:Int) * (r:Int)))+(1:Int)))+1)=((f+(2 * r+2):Nat):Int):=by rw [ei,wrap64 (by omega) (by omega)]; omega
   obtain ⟨q,k1,k2,k3⟩:=cmp_ev hC (d:=d) (I:=IntKind.wrap .i64 ((f:Int)+IntKind.wrap .i64 ((IntKind.wrap .i64 ((2:Int) * (r:Int)))+(1:Int)))) (J:=IntKind.wrap .i64 (IntKind.wrap .i64 ((f:Int)+IntKind.wrap .i64 ((IntKind.wrap .i64 ((2:Int) * (r:Int)))+(1:Int)))+1)) (f+(2 * r+1)) (f+(2 * r+2)) ei ej (by omega) (by omega)
    (fun r25=>p73_j1 f C (r:Int) d (decide (r25 < (0:Int))))
   rw [k1]
   unfold p73_j1
   by_cases hq:q < 0
   ·rw [if_pos (by simp [hq]),e2]
    exact step (2 * r+2) hc2 (.inr rfl) fun c' q1 q2=>by
     rcases q2 with rfl | rfl
     ·exact k2 hq
     exact Le.refl hC.ord _ _
   rw [if_neg (by simp [hq]),e1]
   exact step (2 * r+1) hc (.inl rfl) fun c' q1 q2=>by
    rcases q2 with rfl | rfl
    ·exact Le.refl hC.ord _ _
    exact k3 hq
  rw [if_neg (by rw [e2]; omega)]
  unfold p73_j1
  rw [if_neg (by decide),e1]
  exact step (2 * r+1) hc (.inl rfl) fun c' q1 q2=>by
   rcases q2 with rfl | rfl
   ·exact Le.refl hC.ord _ _
   omega
 rw [if_pos (by rw [e1]; omega)]
 right
 refine ⟨_,rfl,h2,fun k x x1 x2 x3=>?_⟩
 by_cases y1:k=r
 ·subst y1; unfold Kid at x2; omega
 exact h3 k x x1 y1 x2 x3
theorem p62_ok (hC:CmpOk C lt) {a b:Nat} {d0:List TLane} (hl:d0.length≤1000000) (hab:a≤b) (hb:b≤d0.length):∃ u,p62 d0 (a:Int) (b:Int) C=some u∧SegE a b d0 u∧Srt lt a b u:=by
 obtain ⟨n,rfl⟩:∃ n,b=a+n:=⟨b - a,by omega⟩
 have en:IntKind.wrap .i64 (((a+n:Nat):Int) - (a:Int))=(n:Int):=by rw [wrap64 (by omega) (by omega)]; omega
 unfold p62
 rw [en]
 have em:IntKind.wrap .i64 ((n:Int) - 1)=(n:Int) - 1:=wrap64 (by omega) (by omega)
 rw [em]
 have ed:IntKind.wrap .i64 (Int.tdiv ((n:Int) - 1) 2)=if n=0 then 0 else (((n - 1) / 2:Nat):Int):=by
  split
  ·rename_i h; subst h; decide
  rw [Int.tdiv_eq_ediv_of_nonneg (by omega),wrap64 (by omega) (by omega)]; omega
 suffices key1:∃ u,loopC (p62_l0 a ((a+n:Nat):Int) C) (IntKind.wrap .i64 (Int.tdiv ((n:Int) - 1) 2),d0)=some u∧SegE a (a+n) d0 u∧Heapy lt u a 0 n by
  obtain ⟨u1,q1,q2,q3⟩:=key1
  rw [q1]
  simp only [Option.bind_some]
  suffices key2:∃ u,loopC (p62_l1 a C) ((n:Int) - 1,u1)=some u∧SegE a (a+n) d0 u∧Srt lt a (a+n) u by
   obtain ⟨u2,k1,k2,k3⟩:=key2
   exact ⟨u2,by rw [k1]; rfl,k2,k3⟩
  refine loopC_rule (fun s=>∃ k:Nat,s.1=(k:Int) - 1∧k≤n∧SegE a (a+n) d0 s.2∧Heapy lt s.2 a 0 k∧∀ p q,p < q→q < n→k≤q→Le lt s.2 (a+p) (a+q)) (fun s=>(s.1+1).toNat) _ ?_ ⟨n,rfl,Nat.le_refl _,q2,q3,fun p q h1 h2 h3=>by omega⟩
  rintro ⟨I,d⟩ ⟨k,e,h1,h2,h3,h4⟩
  simp only at e h2 h3 h4
  subst e
  have hlen:=h2.len
  unfold p62_l1
  simp only
  by_cases hk:0 < k
  ·left
   obtain ⟨i,rfl⟩:∃ i,k=i+1:=⟨k - 1,by omega⟩
   rw [if_pos (by omega)]
   have ei:((i+1:Nat):Int) - 1=(i:Int):=by omega
   rw [ei]
   have ea:IntKind.wrap .i64 ((a:Int)+(i:Int))=((a+i:Nat):Int):=by rw [wrap64 (by omega) (by omega)]; omega
   rw [swap_ev (a+i) a ea rfl (by omega) (by omega)]
   have hg:=fun k=>swq_get (d:=d) (i:=a+i) (j:=a) (by omega) (by omega) k
   have hsl:=swq_len d (a+i) a
   have hh:Heapy lt (swq d (a+i) a) a (0+1) i:=fun k c x1 x2 x3=>(h3 k c (Nat.zero_le _) x2 (by omega)).of (by rw [hg,if_neg (by omega),if_neg (by unfold Kid at x2; omega)]) (by rw [hg,if_neg (by unfold Kid at x2; omega),if_neg (by omega)])
   obtain ⟨u,k1,k2,k3⟩:=p73_ok hC (f:=a) (lo:=0) (hi:=i) (d0:=swq d (a+i) a) (by omega) (by omega) (by omega) hh
   rw [show ((0:Nat):Int)=0 from rfl] at k1
   rw [k1]
   simp only [Option.bind_some]
   have htop:=heap_top hC.ord (d:=d) (f:=a) (hi:=i+1) (by omega) h3
   have hsw:SegE a (a+(i+1)) d (swq d (a+i) a):=SegE.swap (by omega) (by omega) (by omega) (by omega) (by omega)
   have hall:=hsw.trans (k2.wide (by omega) (by omega))
   refine ⟨_,rfl,⟨i,by rw [wrap64 (by omega) (by omega)],by omega,h2.trans (hall.wide (by omega) (by omega)),k3,fun p q x1 x2 x3=>?_⟩,?_⟩
   ·have hq:u[a+q]? = if q=i then d[a]? else d[a+q]?:=by
     rw [k2.out _ (by omega),hg]
     by_cases y1:q=i
     ·rw [if_pos (by omega),if_pos y1]
     rw [if_neg (by omega),if_neg (by omega),if_neg y1]
    by_cases y0:p < i+1
    ·obtain ⟨j,j1,j2,j3⟩:=hall.fro (a+p) (by omega) (by omega)
     obtain ⟨j',rfl⟩:∃ j',j=a+j':=⟨j - a,by omega⟩
     by_cases y1:q=i
     ·exact (htop j' (by omega)).of j3 (by rw [hq,if_pos y1])
     exact (h4 j' q (by omega) x2 (by omega)).of j3 (by rw [hq,if_neg y1])
    exact (h4 p q x1 x2 (by omega)).of (by rw [k2.out _ (by omega),hg,if_neg (by omega),if_neg (by omega)]) (by rw [hq,if_neg (by omega)])
   simp only; rw [wrap64 (by omega) (by omega)]; omega
  right
  rw [if_neg (by omega)]
  exact ⟨d,rfl,h2,fun p q x1 x2 x3=>by
   obtain ⟨p',rfl⟩:∃ p',p=a+p':=⟨p - a,by omega⟩
   obtain ⟨q',rfl⟩:∃ q',q=a+q':=⟨q - a,by omega⟩
   exact h4 p' q' (by omega) (by omega) (by omega)⟩
 rw [ed]
 refine loopC_rule (fun s=>∃ k:Nat,s.1=(k:Int) - 1∧k≤n+1∧SegE a (a+n) d0 s.2∧Heapy lt s.2 a k n) (fun s=>(s.1+1).toNat) _ ?_ ?_
 ·rintro ⟨I,d⟩ ⟨k,e,h1,h2,h3⟩
  simp only at e h2 h3
  subst e
  have hlen:=h2.len
  unfold p62_l0
  simp only
  rw [en]
  by_cases hk:0 < k
  ·left
   obtain ⟨i,rfl⟩:∃ i,k=i+1:=⟨k - 1,by omega⟩
   rw [if_pos (by omega)]
   have ei:((i+1:Nat):Int) - 1=(i:Int):=by omega
   rw [ei]
   obtain ⟨u,k1,k2,k3⟩:=p73_ok hC (f:=a) (lo:=i) (hi:=n) (d0:=d) (by omega) (by omega) (by omega) h3
   rw [k1]
   simp only [Option.bind_some]
   exact ⟨_,rfl,⟨i,by rw [wrap64 (by omega) (by omega)],by omega,h2.trans (k2.wide (by omega) (by omega)),k3⟩,by simp only; rw [wrap64 (by omega) (by omega)]; omega⟩
  right
  rw [if_neg (by omega)]
  obtain rfl:k=0:=by omega
  exact ⟨d,rfl,h2,h3⟩
 split
 ·rename_i h
  exact ⟨1,rfl,by omega,SegE.refl _ _ _,fun k c x1 x2 x3=>by omega⟩
 exact ⟨(n - 1) / 2+1,by simp,by omega,SegE.refl _ _ _,fun k c x1 x2 x3=>by unfold Kid at x2; omega⟩
end
end Go.Proofs.Ytgbkpiaonlabgaa
namespace Go.Proofs.Ytgbkpiaonlabgaa
open Go Go.Am
section
variable {C:TLane→TLane→Option Int} {lt:TLane→TLane→Prop}
theorem p78_ok (hC:CmpOk C lt) {d:List TLane} {a b:Nat} (ha:a < d.length) (hb:b < d.length) (s:Int):∃ x y s',p78 d a b (some s) C=some (x,y,d,some s')∧(x=(a:Int)∧y=(b:Int)∨x=(b:Int)∧y=(a:Int)):=by
 unfold p78
 obtain ⟨r,k1,k2,k3⟩:=cmp_ev (β:=Int×Int×(List TLane)×(Option Int)) hC (d:=d) (I:=(b:Int)) (J:=(a:Int)) b a rfl rfl hb ha
  (fun r12=>if r12 < (0:Int) then ((some s).bind fun b13=>some ((b:Int),(a:Int),d,(some (IntKind.wrap .i64 (b13+(1:Int)))))) else (some ((a:Int),(b:Int),d,some s)))
 rw [k1]
 split
 ·exact ⟨_,_,_,rfl,.inr ⟨rfl,rfl⟩⟩
 exact ⟨_,_,_,rfl,.inl ⟨rfl,rfl⟩⟩
theorem p77_ok (hC:CmpOk C lt) {d:List TLane} {a b c:Nat} (ha:a < d.length) (hb:b < d.length) (hc:c < d.length) (s:Int):∃ x s',p77 d a b c (some s) C=some (x,d,some s')∧(x=(a:Int)∨x=(b:Int)∨x=(c:Int)):=by
 unfold p77
 obtain ⟨x1,y1,s1,k1,e1⟩:=p78_ok hC ha hb s
 rw [k1]
 simp only [Option.bind_some]
 obtain ⟨y1',hy1,hy1'⟩:∃ n:Nat,y1=(n:Int)∧n < d.length:=by rcases e1 with ⟨_,rfl⟩ | ⟨_,rfl⟩<;>exact ⟨_,rfl,by assumption⟩
 obtain ⟨x1',hx1,hx1'⟩:∃ n:Nat,x1=(n:Int)∧n < d.length:=by rcases e1 with ⟨rfl,_⟩ | ⟨rfl,_⟩<;>exact ⟨_,rfl,by assumption⟩
 subst hy1 hx1
 obtain ⟨x2,y2,s2,k2,e2⟩:=p78_ok hC hy1' hc s1
 rw [k2]
 simp only [Option.bind_some]
 obtain ⟨x2',hx2,hx2'⟩:∃ n:Nat,x2=(n:Int)∧n < d.length:=by rcases e2 with ⟨rfl,_⟩ | ⟨rfl,_⟩<;>exact ⟨_,rfl,by assumption⟩
 subst hx2
 obtain ⟨x3,y3,s3,k3,e3⟩:=p78_ok hC hx1' hx2' s2
 rw [k3]
 simp only [Option.bind_some]
 exact ⟨y3,s3,rfl,by omega⟩
theorem p64_ok (hC:CmpOk C lt) {a b:Nat} {d:List TLane} (hl:d.length≤1000000) (h1:a+8 < b) (hb:b≤d.length) (h2:b < a+50):∃ (m:Nat) (q:Int),p64 d (a:Int) (b:Int) C=some ((m:Int),q,d)∧a≤m∧m < b:=by
 unfold p64
 have e0:IntKind.wrap .i64 ((b:Int) - (a:Int))=((b - a:Nat):Int):=by rw [wrap64 (by omega) (by omega)]; omega
 rw [e0,if_pos (by omega),if_neg (by omega)]
 have e1:IntKind.wrap .i64 (Int.tdiv ((b - a:Nat):Int) 4)=(((b - a) / 4:Nat):Int):=by rw [Int.tdiv_eq_ediv_of_nonneg (by omega),wrap64 (by omega) (by omega)]; omega
 rw [e1]
 have ek:∀ k:Nat,k≤3→IntKind.wrap .i64 ((a:Int)+IntKind.wrap .i64 ((((b - a) / 4:Nat):Int) * (k:Int)))=((a+(b - a) / 4 * k:Nat):Int):=fun k hk=>by
  have hm:(b - a) / 4 * k≤(b - a) / 4 * 3:=Nat.mul_le_mul_left _ hk
  have hm2:(((b - a) / 4:Nat):Int) * (k:Int)=(((b - a) / 4 * k:Nat):Int):=by rw [Int.natCast_mul]
  rw [hm2,wrap64 (n:=(((b - a) / 4 * k:Nat):Int)) (by omega) (by omega),wrap64 (by omega) (by omega)]; omega
 have k1:=ek 1 (by omega); have k2:=ek 2 (by omega); have k3:=ek 3 (by omega)
 simp only [show ((1:Nat):Int)=1 from rfl,show ((2:Nat):Int)=2 from rfl,show ((3:Nat):Int)=3 from rfl] at k1 k2 k3
 rw [k1,k2,k3]
 unfold p64_j1
 obtain ⟨x,s,q1,q2⟩:=p77_ok hC (d:=d) (a:=a+(b - a) / 4 * 1) (b:=a+(b - a) / 4 * 2) (c:=a+(b - a) / 4 * 3) (by omega) (by omega) (by omega) 0
 rw [q1]
 obtain ⟨m,rfl,m1,m2⟩:∃ m:Nat,x=(m:Int)∧a≤m∧m < b:=by
  rcases q2 with rfl | rfl | rfl
  ·exact ⟨_,rfl,by omega,by omega⟩
  ·exact ⟨_,rfl,by omega,by omega⟩
  exact ⟨_,rfl,by omega,by omega⟩
 simp only [Option.bind_some]
 unfold p64_j0
 simp only [Option.bind_some]
 split
 ·exact ⟨m,_,rfl,m1,m2⟩
 split<;>exact ⟨m,_,rfl,m1,m2⟩
theorem p75_ok (b:Int):∃ w,p75 (some b)=some (w,some w):=by
 unfold p75 shlI shrI
 simp
theorem p74_ok {n:Nat} (h1:12 < n) (h2:n≤20):p74 (n:Int)=some (if n < 16 then 16 else 32):=by
 have:n=13∨n=14∨n=15∨n=16∨n=17∨n=18∨n=19∨n=20:=by omega
 rcases this with rfl | rfl | rfl | rfl | rfl | rfl | rfl | rfl<;>rfl
theorem p63_ok {a b:Nat} {d0:List TLane} (hl:d0.length≤1000000) (h1:a+12 < b) (hb:b≤d0.length) (h2:b≤a+20):∃ u,p63 d0 (a:Int) (b:Int) C=some u∧SegE a b d0 u:=by
 obtain ⟨n,rfl⟩:∃ n,b=a+n:=⟨b - a,by omega⟩
 have e0:IntKind.wrap .i64 (((a+n:Nat):Int) - (a:Int))=(n:Int):=by rw [wrap64 (by omega) (by omega)]; omega
 unfold p63
 rw [e0,if_pos (by omega),p74_ok (by omega) (by omega)]
 simp only [Option.bind_some]
 have e1:IntKind.wrap .i64 (Int.tdiv (n:Int) 4)=((n / 4:Nat):Int):=by rw [Int.tdiv_eq_ediv_of_nonneg (by omega),wrap64 (by omega) (by omega)]; omega
 have e2:IntKind.wrap .i64 ((a:Int)+IntKind.wrap .i64 (IntKind.wrap .i64 (Int.tdiv (n:Int) 4) * 2))=((a+n / 4 * 2:Nat):Int):=by
  rw [e1,wrap64 (n:=((n / 4:Nat):Int) * 2) (by omega) (by omega),wrap64 (by omega) (by omega)]; omega
 have e3:IntKind.wrap .i64 (((a+n / 4 * 2:Nat):Int) - 1)=((a+n / 4 * 2 - 1:Nat):Int):=by rw [wrap64 (by omega) (by omega)]; omega
 rw [e2,e3]
 generalize hM:(if n < 16 then (16:Int) else 32)=M
 have hM2:M=16∨M=32:=by subst hM; split<;>simp
 have hMn:M≤2 * n:=by subst hM; split<;>omega
 suffices key:∃ u,loopC (p63_l0 (a:Int) ((a+n:Nat):Int) M) (((a+n / 4 * 2 - 1:Nat):Int),d0,some (IntKind.wrap .u64 (n:Int)))=some u∧SegE a (a+n) d0 u by
  obtain ⟨u,k1,k2⟩:=key
  exact ⟨u,by rw [k1]; rfl,k2⟩
 refine loopC_rule (fun s=>∃ i:Nat,s.1=(i:Int)∧a+n / 4 * 2 - 1≤i∧i≤a+n / 4 * 2+2∧SegE a (a+n) d0 s.2.1∧∃ v,s.2.2=some v) (fun s=>a+n / 4 * 2+3 - s.1.toNat) _ ?_ ⟨a+n / 4 * 2 - 1,rfl,by omega,by omega,SegE.refl _ _ _,_,rfl⟩
 rintro ⟨I,d,v⟩ ⟨i,e,k1,k2,k3,w,hw⟩
 simp only at e k3 hw
 subst e hw
 have hlen:=k3.len
 unfold p63_l0
 simp only
 rw [e0,e2]
 have e4:IntKind.wrap .i64 (((a+n / 4 * 2:Nat):Int)+1)=((a+n / 4 * 2+1:Nat):Int):=by rw [wrap64 (by omega) (by omega)]; omega
 rw [e4]
 by_cases hi:i≤a+n / 4 * 2+1
 ·left
  rw [if_pos (by omega)]
  obtain ⟨x,hx⟩:=p75_ok w
  rw [hx]
  simp only [Option.bind_some]
  have hand:∃ o:Nat,IntKind.wrap .i64 (IntKind.wrap .u64 ((BitVec.ofInt (IntKind.bits .u64) x &&& BitVec.ofInt (IntKind.bits .u64) (IntKind.wrap .u64 (M - 1))).toNat:Int))=(o:Int)∧(o:Int) < M:=by
   have hb2:(BitVec.ofInt (IntKind.bits .u64) (IntKind.wrap .u64 (M - 1))).toNat=(M - 1).toNat:=by rcases hM2 with rfl | rfl<;>rfl
   have hle:(BitVec.ofInt (IntKind.bits .u64) x &&& BitVec.ofInt (IntKind.bits .u64) (IntKind.wrap .u64 (M - 1))).toNat≤(M - 1).toNat:=by
    rw [BitVec.toNat_and,hb2]; exact Nat.and_le_right
   generalize (BitVec.ofInt (IntKind.bits .u64) x &&& BitVec.ofInt (IntKind.bits .u64) (IntKind.wrap .u64 (M - 1))).toNat=o at hle
   refine ⟨o,?_,by omega⟩
   rw [IntWalk.u64_in _ (by omega),wrap64 (by omega) (by omega)]
  obtain ⟨o,ho,ho2⟩:=hand
  rw [ho]
  have fin:∀ o':Nat,o' < n→∃ s',p63_j0 (a:Int) (i:Int) d (x,some x) (o':Int)=some (.inl s')∧(∃ i':Nat,s'.1=(i':Int)∧a+n / 4 * 2 - 1≤i'∧i'≤a+n / 4 * 2+2∧SegE a (a+n) d0 s'.2.1∧∃ v,s'.2.2=some v)∧a+n / 4 * 2+3 - s'.1.toNat < a+n / 4 * 2+3 - (i:Int).toNat:=fun o' h=>by
   unfold p63_j0
   have eo:IntKind.wrap .i64 ((a:Int)+(o':Int))=((a+o':Nat):Int):=by rw [wrap64 (by omega) (by omega)]; omega
   rw [swap_ev (a+o') i eo rfl (by omega) (by omega)]
   have ei:IntKind.wrap .i64 ((i:Int)+1)=((i+1:Nat):Int):=by rw [wrap64 (by omega) (by omega)]; omega
   exact ⟨_,rfl,⟨i+1,ei,by omega,by omega,k3.trans (SegE.swap (by omega) (by omega) (by omega) (by omega) (by omega)),_,rfl⟩,by simp only [ei]; omega⟩
  by_cases hn:n≤o
  ·rw [if_pos (by omega),show IntKind.wrap .i64 ((o:Int) - (n:Int))=((o - n:Nat):Int) by rw [wrap64 (by omega) (by omega)]; omega]
   exact fin _ (by omega)
  rw [if_neg (by omega)]
  exact fin _ (by omega)
 right
 rw [if_neg (by omega)]
 exact ⟨d,rfl,k3⟩
theorem scan_up {f:Int→Option (Int⊕Int)} {lo e:Nat} (he:e≤1000000000) (hle:lo≤e) (P N:Nat→Prop)
  (step:∀ i:Nat,lo≤i→i < e→(f (i:Int)=some (.inl (IntKind.wrap .i64 ((i:Int)+1)))∧P i)∨(f (i:Int)=some (.inr (i:Int))∧N i)) (fin:f (e:Int)=some (.inr (e:Int))) :
  ∃ m:Nat,loopC f (lo:Int)=some (m:Int)∧lo≤m∧m≤e∧(∀ k,lo≤k→k < m→P k)∧(m=e∨N m):=by
 have:∃ r:Int,loopC f (lo:Int)=some r∧∃ m:Nat,r=(m:Int)∧lo≤m∧m≤e∧(∀ k,lo≤k→k < m→P k)∧(m=e∨N m):=by
  refine loopC_rule (fun s=>∃ i:Nat,s=(i:Int)∧lo≤i∧i≤e∧∀ k,lo≤k→k < i→P k) (fun s=>e+1 - s.toNat) _ ?_ ⟨lo,rfl,Nat.le_refl _,hle,fun k h1 h2=>by omega⟩
  rintro _ ⟨i,rfl,h1,h2,h3⟩
  by_cases hi:i < e
  ·rcases step i h1 hi with ⟨k1,k2⟩ | ⟨k1,k2⟩
   ·have ei:IntKind.wrap .i64 ((i:Int)+1)=((i+1:Nat):Int):=by rw [wrap64 (by omega) (by omega)]; omega
    refine .inl ⟨_,k1,⟨i+1,ei,by omega,by omega,fun k q1 q2=>?_⟩,by rw [ei]; omega⟩
    by_cases hk:k=i
    ·rw [hk]; exact k2
    exact h3 k q1 (by omega)
   exact .inr ⟨_,k1,i,rfl,h1,h2,h3,.inr k2⟩
  obtain rfl:i=e:=by omega
  exact .inr ⟨_,fin,i,rfl,h1,h2,h3,.inl rfl⟩
 obtain ⟨r,h1,m,rfl,h2⟩:=this
 exact ⟨m,h1,h2⟩
theorem scan_dn {f:Int→Option (Int⊕Int)} {lo j:Nat} (hj:j≤1000000000) (hlo:0 < lo) (hle:lo≤j+1) (P N:Nat→Prop)
  (step:∀ i:Nat,lo≤i→i≤j→(f (i:Int)=some (.inl (IntKind.wrap .i64 ((i:Int) - 1)))∧P i)∨(f (i:Int)=some (.inr (i:Int))∧N i)) (fin:f ((lo - 1:Nat):Int)=some (.inr ((lo - 1:Nat):Int))) :
  ∃ m:Nat,loopC f (j:Int)=some (m:Int)∧lo≤m+1∧m≤j∧(∀ k,m < k→k≤j→P k)∧(m+1=lo∨N m):=by
 have:∃ r:Int,loopC f (j:Int)=some r∧∃ m:Nat,r=(m:Int)∧lo≤m+1∧m≤j∧(∀ k,m < k→k≤j→P k)∧(m+1=lo∨N m):=by
  refine loopC_rule (fun s=>∃ i:Nat,s=(i:Int)∧lo≤i+1∧i≤j∧∀ k,i < k→k≤j→P k) (fun s=>s.toNat+1 - (if s=((lo - 1:Nat):Int) then 1 else 0)) _ ?_ ⟨j,rfl,hle,Nat.le_refl _,fun k h1 h2=>by omega⟩
  rintro _ ⟨i,rfl,h1,h2,h3⟩
  by_cases hi:lo≤i
  ·rcases step i hi h2 with ⟨k1,k2⟩ | ⟨k1,k2⟩
   ·have ei:IntKind.wrap .i64 ((i:Int) - 1)=((i - 1:Nat):Int):=by rw [wrap64 (by omega) (by omega)]; omega
    refine .inl ⟨_,k1,⟨i - 1,ei,by omega,by omega,fun k q1 q2=>?_⟩,?_⟩
    ·by_cases hk:k=i
     ·rw [hk]; exact k2
     exact h3 k (by omega) q2
    rw [ei]; split<;>split<;>omega
   exact .inr ⟨_,k1,i,rfl,h1,h2,h3,.inr k2⟩
  have:i=lo - 1:=by omega
  subst this
  exact .inr ⟨_,fin,_,rfl,h1,h2,h3,.inl (by omega)⟩
 obtain ⟨r,h1,m,rfl,h2⟩:=this
 exact ⟨m,h1,h2⟩
end
end Go.Proofs.Ytgbkpiaonlabgaa
namespace Go.Proofs.Ytgbkpiaonlabgaa
open Go Go.Am
section
variable {C:TLane→TLane→Option Int} {lt:TLane→TLane→Prop}
theorem inc_nat {i:Nat} (h:i≤1000000000):IntKind.wrap .i64 ((i:Int)+1)=((i+1:Nat):Int):=by rw [wrap64 (by omega) (by omega)]; omega
theorem dec_nat {i:Nat} (h:i≤1000000000) (h0:0 < i):IntKind.wrap .i64 ((i:Int) - 1)=((i - 1:Nat):Int):=by rw [wrap64 (by omega) (by omega)]; omega
theorem cmp_ev4 {β:Type} (hC:CmpOk C lt) {d:List TLane} {I J:Int} (i j:Nat) (hI:I=i) (hJ:J=j) (hi:i < d.length) (hj:j < d.length) (K:Int→Option β) :
  ∃ r,((idx d I).bind fun e1=>(idx d J).bind fun e2=>(C e1 e2).bind K)=K r∧(r < 0→Le lt d i j∧¬ Le lt d j i)∧(¬ r < 0→Le lt d j i):=by
 subst hI hJ
 obtain ⟨r,h1,h2⟩:=hC.ev d[i] d[j]
 refine ⟨r,?_,fun h=>⟨fun x y hx hy=>?_,fun hh=>hh _ _ (List.getElem?_eq_getElem hj) (List.getElem?_eq_getElem hi) (h2.1 h)⟩,fun h x y hx hy=>?_⟩
 ·rw [idx_get hi,idx_get hj]
  simp only [Option.bind_some,h1]
 ·rw [List.getElem?_eq_getElem hi] at hx
  rw [List.getElem?_eq_getElem hj] at hy
  cases hx; cases hy
  exact hC.ord.asy _ _ (h2.1 h)
 rw [List.getElem?_eq_getElem hi] at hy
 rw [List.getElem?_eq_getElem hj] at hx
 cases hx; cases hy
 exact fun hh=>h (h2.2 hh)
theorem seg_all {d u:List TLane} {lo hi i:Nat} (hs:SegE lo hi d u) (hd:(∀ k,lo≤k→k < hi→Le lt d i k)) (hi':u[i]? = d[i]?):∀ k,lo≤k→k < hi→Le lt u i k:=fun k h1 h2=>by
 obtain ⟨j,j1,j2,j3⟩:=hs.fro k h1 h2
 exact (hd j j1 j2).of hi' j3
theorem p67_ok (hC:CmpOk C lt) {a b p:Nat} {d0:List TLane} (hl:d0.length≤1000000) (hb:b≤d0.length) (h1:a≤p) (h2:p < b) (hp:∀ k,a≤k→k < b→Le lt d0 p k) :
  ∃ (m:Nat) (u:List TLane),p67 d0 (a:Int) (b:Int) (p:Int) C=some ((m:Int),u)∧SegE a b d0 u∧a < m∧m≤b∧∀ i k,a≤i→i < m→a≤k→k < b→Le lt u i k:=by
 unfold p67
 rw [swap_ev p a rfl rfl (by omega) (by omega)]
 have hg:=fun k=>swq_get (d:=d0) (i:=p) (j:=a) (by omega) (by omega) k
 have hsw:SegE a b d0 (swq d0 p a):=SegE.swap hb h1 h2 (Nat.le_refl _) (by omega)
 have hp1:∀ k,a≤k→k < b→Le lt (swq d0 p a) a k:=fun k k1 k2=>by
  obtain ⟨j,j1,j2,j3⟩:=hsw.fro k k1 k2
  refine (hp j j1 j2).of ?_ j3
  rw [hg]; split
  ·rename_i e; rw [e]
  rw [if_pos rfl]
 have hsl:=hsw.len
 generalize swq d0 p a=d1 at *
 rw [inc_nat (by omega),dec_nat (by omega) (by omega)]
 suffices key:∃ q:Int×List TLane,loopC (p67_l2 (a:Int) C) (((a+1:Nat):Int),((b - 1:Nat):Int),d1)=some q∧∃ m:Nat,q.1=(m:Int)∧SegE a b d0 q.2∧a < m∧m≤b∧∀ i k,a≤i→i < m→a≤k→k < b→Le lt q.2 i k by
  obtain ⟨⟨q1,q2⟩,k1,m,e,k2⟩:=key
  simp only at e k2
  subst e
  exact ⟨m,q2,by rw [k1]; rfl,k2⟩
 refine loopC_rule (fun s=>∃ i j:Nat,s.1=(i:Int)∧s.2.1=(j:Int)∧a < i∧i≤j+1∧j < b∧SegE a b d0 s.2.2∧(∀ k,a≤k→k < b→Le lt s.2.2 a k)∧∀ k,a≤k→k < i→Le lt s.2.2 k a) (fun s=>(s.2.1+1 - s.1).toNat) _ ?_ ⟨a+1,b - 1,rfl,rfl,by omega,by omega,by omega,hsw,hp1,fun k k1 k2=>by
  obtain rfl:k=a:=by omega
  exact Le.refl hC.ord _ _⟩
 rintro ⟨I,J,d⟩ ⟨i,j,e1,e2,k1,k2,k3,k4,k5,k6⟩
 simp only at e1 e2 k4 k5 k6
 subst e1 e2
 have hlen:=k4.len
 unfold p67_l2
 simp only
 obtain ⟨m,x1,x2,x3,x4,x5⟩:=scan_up (f:=p67_l0 (a:Int) C (j:Int) d) (lo:=i) (e:=j+1) (by omega) (by omega) (fun k=>Le lt d k a) (fun k=>¬ Le lt d k a)
  (fun k y1 y2=>by
   unfold p67_l0
   rw [if_pos (by omega)]
   obtain ⟨r,z1,z2,z3⟩:=cmp_ev4 (β:=Int⊕Int) hC (d:=d) (I:=(a:Int)) (J:=(k:Int)) a k rfl rfl (by omega) (by omega) (fun r16=>p67_j0 (k:Int) (!(decide (r16 < (0:Int)))))
   rw [z1]
   unfold p67_j0
   by_cases hr:r < 0
   ·right; exact ⟨by simp [hr],(z2 hr).2⟩
   left; exact ⟨by simp [hr],z3 hr⟩)
  (by unfold p67_l0; rw [if_neg (by omega)]; rfl)
 rw [x1,Option.bind_some]
 try dsimp only
 obtain ⟨n,y1,y2,y3,y4,y5⟩:=scan_dn (f:=p67_l1 (a:Int) C d (m:Int)) (lo:=m) (j:=j) (by omega) (by omega) (by omega) (fun _=>True) (fun k=>Le lt d k a)
  (fun k y1 y2=>by
   unfold p67_l1
   rw [if_pos (by omega)]
   obtain ⟨r,z1,z2,z3⟩:=cmp_ev (β:=Int⊕Int) hC (d:=d) (I:=(a:Int)) (J:=(k:Int)) a k rfl rfl (by omega) (by omega) (fun r16=>p67_j1 (k:Int) (decide (r16 < (0:Int))))
   rw [z1]
   unfold p67_j1
   by_cases hr:r < 0
   ·left; exact ⟨by simp [hr],trivial⟩
   right; exact ⟨by simp [hr],z3 hr⟩)
  (by unfold p67_l1; rw [if_neg (by omega)]; rfl)
 rw [y1,Option.bind_some]
 try dsimp only
 have k7:∀ k,a≤k→k < m→Le lt d k a:=fun k z1 z2=>by
  by_cases h:k < i
  ·exact k6 k z1 h
  exact x4 k (by omega) z2
 by_cases hnm:n < m
 ·right
  rw [if_pos (by omega)]
  exact ⟨_,rfl,m,rfl,k4,by omega,by omega,fun x y z1 z2 z3 z4=>(k7 x z1 z2).trans hC.ord (by show a < d.length; omega) (k5 y z3 z4)⟩
 left
 rw [if_neg (by omega),swap_ev n m rfl rfl (by omega) (by omega),inc_nat (by omega),dec_nat (by omega) (by omega)]
 have hg:=fun k=>swq_get (d:=d) (i:=n) (j:=m) (by omega) (by omega) k
 have hn:Le lt d n a:=by rcases y5 with h | h; omega; exact h
 have hne:n≠m:=fun e=>by
  rcases x5 with h | h
  ·omega
  exact h (e▸hn)
 have hs2:SegE a b d (swq d n m):=SegE.swap (by omega) (by omega) (by omega) (by omega) (by omega)
 have ha:(swq d n m)[a]? = d[a]?:=by rw [hg,if_neg (by omega),if_neg (by omega)]
 refine ⟨_,rfl,⟨m+1,n - 1,rfl,rfl,by omega,by omega,by omega,k4.trans hs2,seg_all hs2 k5 ha,fun k z1 z2=>?_⟩,by simp only; omega⟩
 by_cases hk:k=m
 ·subst hk
  refine hn.of ?_ ha
  rw [hg]; split
  ·rename_i e; rw [e]
  rw [if_pos rfl]
 exact (k7 k z1 (by omega)).of (by rw [hg,if_neg (by omega),if_neg (by omega)]) ha
theorem p68_ok (hC:CmpOk C lt) {a b p:Nat} {d0:List TLane} (hl:d0.length≤1000000) (hb:b≤d0.length) (h1:a≤p) (h2:p < b) :
  ∃ (m:Nat) (w:Bool) (u:List TLane),p68 d0 (a:Int) (b:Int) (p:Int) C=some ((m:Int),w,u)∧SegE a b d0 u∧a≤m∧m < b∧(∀ k,a≤k→k < m→Le lt u k m)∧∀ k,m < k→k < b→Le lt u m k:=by
 unfold p68
 rw [swap_ev p a rfl rfl (by omega) (by omega)]
 have hsw:SegE a b d0 (swq d0 p a):=SegE.swap hb h1 h2 (Nat.le_refl _) (by omega)
 have hsl:=hsw.len
 generalize swq d0 p a=d1 at *
 rw [inc_nat (by omega),dec_nat (by omega) (by omega)]
  -- the end: the pivot goes to its place
 have last:∀ (d:List TLane) (j:Nat),SegE a b d0 d→a≤j→j < b→(∀ k,a < k→k≤j→Le lt d k a)→(∀ k,j < k→k < b→Le lt d a k)→SegE a b d0 (swq d j a)∧(∀ k,a≤k→k < j→Le lt (swq d j a) k j)∧∀ k,j < k→k < b→Le lt (swq d j a) j k:=fun d j k1 k2 k3 k4 k5=>by
  have hlen:=k1.len
  have hg:=fun k=>swq_get (d:=d) (i:=j) (j:=a) (by omega) (by omega) k
  refine ⟨k1.trans (SegE.swap (by omega) (by omega) (by omega) (by omega) (by omega)),fun k z1 z2=>?_,fun k z1 z2=>?_⟩
  ·by_cases hk:k=a
   ·subst hk
    exact (k4 j (by omega) (Nat.le_refl _)).of (by rw [hg,if_neg (by omega),if_pos rfl]) (by rw [hg,if_pos rfl])
   exact (k4 k (by omega) (by omega)).of (by rw [hg,if_neg (by omega),if_neg hk]) (by rw [hg,if_pos rfl])
  exact (k5 k z1 z2).of (by rw [hg,if_pos rfl]) (by rw [hg,if_neg (by omega),if_neg (by omega)])
 obtain ⟨m,x1,x2,x3,x4,x5⟩:=scan_up (f:=p68_l0 (a:Int) (b:Int) C d1) (lo:=a+1) (e:=b) (by omega) (by omega) (fun k=>Le lt d1 k a) (fun k=>Le lt d1 a k)
  (fun k y1 y2=>by
   unfold p68_l0
   rw [dec_nat (by omega) (by omega),if_pos (by omega)]
   obtain ⟨r,z1,z2,z3⟩:=cmp_ev (β:=Int⊕Int) hC (d:=d1) (I:=(k:Int)) (J:=(a:Int)) k a rfl rfl (by omega) (by omega) (fun r16=>p68_j0 (k:Int) (decide (r16 < (0:Int))))
   rw [z1]
   unfold p68_j0
   by_cases hr:r < 0
   ·left; exact ⟨by simp [hr],z2 hr⟩
   right; exact ⟨by simp [hr],z3 hr⟩)
  (by unfold p68_l0; rw [dec_nat (by omega) (by omega),if_neg (by omega)]; rfl)
 rw [x1,Option.bind_some]
 try dsimp only
 obtain ⟨n,y1,y2,y3,y4,y5⟩:=scan_dn (f:=p68_l1 (a:Int) C d1 (m:Int)) (lo:=m) (j:=b - 1) (by omega) (by omega) (by omega) (fun k=>Le lt d1 a k) (fun k=>Le lt d1 k a∧¬ Le lt d1 a k)
  (fun k y1 y2=>by
   unfold p68_l1
   rw [if_pos (by omega)]
   obtain ⟨r,z1,z2,z3⟩:=cmp_ev4 (β:=Int⊕Int) hC (d:=d1) (I:=(k:Int)) (J:=(a:Int)) k a rfl rfl (by omega) (by omega) (fun r16=>p68_j1 (k:Int) (!(decide (r16 < (0:Int)))))
   rw [z1]
   unfold p68_j1
   by_cases hr:r < 0
   ·right; exact ⟨by simp [hr],z2 hr⟩
   left; exact ⟨by simp [hr],z3 hr⟩)
  (by unfold p68_l1; rw [if_neg (by omega)]; rfl)
 rw [y1,Option.bind_some]
 try dsimp only
 by_cases hnm:n < m
 ·rw [if_pos (by omega),swap_ev a n rfl rfl (by omega) (by omega)]
  have hcomm:swq d1 a n=swq d1 n a:=by
   apply List.ext_getElem?
   intro k
   rw [swq_get (by omega) (by omega),swq_get (by omega) (by omega)]
   by_cases q1:k=a
   ·by_cases q2:k=n
    ·rw [if_pos q1,if_pos q2,← q1,← q2]
    rw [if_pos q1,if_neg q2,if_pos q1]
   by_cases q2:k=n
   ·rw [if_neg q1,if_pos q2,if_pos q2]
   rw [if_neg q1,if_neg q2,if_neg q2,if_neg q1]
  rw [hcomm]
  obtain ⟨l1,l2,l3⟩:=last d1 n hsw (by omega) (by omega) (fun k z1 z2=>x4 k (by omega) (by omega)) (fun k z1 z2=>y4 k z1 (by omega))
  exact ⟨n,true,_,rfl,l1,by omega,by omega,l2,l3⟩
 rw [if_neg (by omega),swap_ev n m rfl rfl (by omega) (by omega),inc_nat (by omega),dec_nat (by omega) (by omega)]
 have hn:Le lt d1 n a∧¬ Le lt d1 a n:=by rcases y5 with h | h; omega; exact h
 have hm:Le lt d1 a m:=by rcases x5 with h | h; omega; exact h
 have hne:n≠m:=fun e=>hn.2 (e▸hm)
 replace hn:=hn.1
 have hsw2:SegE a b d1 (swq d1 n m):=SegE.swap (by omega) (by omega) (by omega) (by omega) (by omega)
 have hg:=fun k=>swq_get (d:=d1) (i:=n) (j:=m) (by omega) (by omega) k
 have ha:(swq d1 n m)[a]? = d1[a]?:=by rw [hg,if_neg (by omega),if_neg (by omega)]
 have hge:∀ k,a < k→k < m+1→Le lt (swq d1 n m) k a:=fun k z1 z2=>by
  by_cases hk:k=m
  ·subst hk
   refine hn.of ?_ ha
   rw [hg]; split
   ·rename_i e; rw [e]
   rw [if_pos rfl]
  exact (x4 k (by omega) (by omega)).of (by rw [hg,if_neg (by omega),if_neg (by omega)]) ha
 have hle:∀ k,n - 1 < k→k < b→Le lt (swq d1 n m) a k:=fun k z1 z2=>by
  by_cases hk:k=n
  ·subst hk
   exact hm.of ha (by rw [hg,if_pos rfl])
  refine (y4 k (by omega) (by omega)).of ha (by rw [hg,if_neg (by omega),if_neg (by omega)])
 suffices key:∃ q:Int×List TLane,loopC (p68_l4 (a:Int) C) (((m+1:Nat):Int),((n - 1:Nat):Int),swq d1 n m)=some q∧∃ j:Nat,q.1=(j:Int)∧SegE a b d0 q.2∧a≤j∧j < b∧(∀ k,a < k→k≤j→Le lt q.2 k a)∧(∀ k,j < k→k < b→Le lt q.2 a k) by
  obtain ⟨⟨q1,q2⟩,k1,j,e,k2,k3,k4,k5,k6⟩:=key
  simp only at e k2 k5 k6
  subst e
  rw [k1,Option.bind_some]
  try dsimp only
  have:=k2.len
  rw [swap_ev a j rfl rfl (by omega) (by omega)]
  obtain ⟨l1,l2,l3⟩:=last q2 j k2 k3 k4 k5 k6
  have hcomm:swq q2 a j=swq q2 j a:=by
   apply List.ext_getElem?
   intro k
   rw [swq_get (by omega) (by omega),swq_get (by omega) (by omega)]
   by_cases q1:k=a
   ·by_cases q2:k=j
    ·rw [if_pos q1,if_pos q2,← q1,← q2]
    rw [if_pos q1,if_neg q2,if_pos q1]
   by_cases q2:k=j
   ·rw [if_neg q1,if_pos q2,if_pos q2]
   rw [if_neg q1,if_neg q2,if_neg q2,if_neg q1]
  rw [hcomm]
  exact ⟨j,false,_,rfl,l1,k3,k4,l2,l3⟩
 refine loopC_rule (fun s=>∃ i j:Nat,s.1=(i:Int)∧s.2.1=(j:Int)∧a < i∧i≤j+1∧j < b∧SegE a b d0 s.2.2∧(∀ k,a < k→k < i→Le lt s.2.2 k a)∧∀ k,j < k→k < b→Le lt s.2.2 a k) (fun s=>(s.2.1+1 - s.1).toNat) _ ?_ ⟨m+1,n - 1,rfl,rfl,by omega,?_,by omega,hsw.trans hsw2,hge,hle⟩
 ·rintro ⟨I,J,d⟩ ⟨i,j,e1,e2,k1,k2,k3,k4,k5,k6⟩
  simp only at e1 e2 k4 k5 k6
  subst e1 e2
  have hlen:=k4.len
  unfold p68_l4
  simp only
  obtain ⟨m,x1,x2,x3,x4,x5⟩:=scan_up (f:=p68_l2 (a:Int) C (j:Int) d) (lo:=i) (e:=j+1) (by omega) (by omega) (fun k=>Le lt d k a) (fun k=>Le lt d a k)
   (fun k y1 y2=>by
    unfold p68_l2
    rw [if_pos (by omega)]
    obtain ⟨r,z1,z2,z3⟩:=cmp_ev (β:=Int⊕Int) hC (d:=d) (I:=(k:Int)) (J:=(a:Int)) k a rfl rfl (by omega) (by omega) (fun r16=>p68_j2 (k:Int) (decide (r16 < (0:Int))))
    rw [z1]
    unfold p68_j2
    by_cases hr:r < 0
    ·left; exact ⟨by simp [hr],z2 hr⟩
    right; exact ⟨by simp [hr],z3 hr⟩)
   (by unfold p68_l2; rw [if_neg (by omega)]; rfl)
  rw [x1,Option.bind_some]
  try dsimp only
  obtain ⟨n,y1,y2,y3,y4,y5⟩:=scan_dn (f:=p68_l3 (a:Int) C d (m:Int)) (lo:=m) (j:=j) (by omega) (by omega) (by omega) (fun k=>Le lt d a k) (fun k=>Le lt d k a∧¬ Le lt d a k)
   (fun k y1 y2=>by
    unfold p68_l3
    rw [if_pos (by omega)]
    obtain ⟨r,z1,z2,z3⟩:=cmp_ev4 (β:=Int⊕Int) hC (d:=d) (I:=(k:Int)) (J:=(a:Int)) k a rfl rfl (by omega) (by omega) (fun r16=>p68_j3 (k:Int) (!(decide (r16 < (0:Int)))))
    rw [z1]
    unfold p68_j3
    by_cases hr:r < 0
    ·right; exact ⟨by simp [hr],z2 hr⟩
    left; exact ⟨by simp [hr],z3 hr⟩)
   (by unfold p68_l3; rw [if_neg (by omega)]; rfl)
  rw [y1,Option.bind_some]
  try dsimp only
  have k7:∀ k,a < k→k < m→Le lt d k a:=fun k z1 z2=>by
   by_cases h:k < i
   ·exact k5 k z1 h
   exact x4 k (by omega) z2
  have k8:∀ k,n < k→k < b→Le lt d a k:=fun k z1 z2=>by
   by_cases h:k≤j
   ·exact y4 k z1 h
   exact k6 k (by omega) z2
  by_cases hnm:n < m
  ·right
   rw [if_pos (by omega)]
   exact ⟨_,rfl,n,rfl,k4,by omega,by omega,fun k z1 z2=>k7 k z1 (by omega),k8⟩
  left
  rw [if_neg (by omega),swap_ev n m rfl rfl (by omega) (by omega),inc_nat (by omega),dec_nat (by omega) (by omega)]
  have hg:=fun k=>swq_get (d:=d) (i:=n) (j:=m) (by omega) (by omega) k
  have hs2:SegE a b d (swq d n m):=SegE.swap (by omega) (by omega) (by omega) (by omega) (by omega)
  have ha:(swq d n m)[a]? = d[a]?:=by rw [hg,if_neg (by omega),if_neg (by omega)]
  have hn:Le lt d n a∧¬ Le lt d a n:=by rcases y5 with h | h; omega; exact h
  have hm:Le lt d a m:=by rcases x5 with h | h; omega; exact h
  have hne:n≠m:=fun e=>hn.2 (e▸hm)
  replace hn:=hn.1
  refine ⟨_,rfl,⟨m+1,n - 1,rfl,rfl,by omega,?_,by omega,k4.trans hs2,fun k z1 z2=>?_,fun k z1 z2=>?_⟩,?_⟩
  ·by_cases e:n=m
   ·omega
   omega
  ·by_cases hk:k=m
   ·subst hk
    refine hn.of ?_ ha
    rw [hg]; split
    ·rename_i e; rw [e]
    rw [if_pos rfl]
   exact (k7 k z1 (by omega)).of (by rw [hg,if_neg (by omega),if_neg (by omega)]) ha
  ·by_cases hk:k=n
   ·subst hk
    exact hm.of ha (by rw [hg,if_pos rfl])
   exact (k8 k (by omega) z2).of ha (by rw [hg,if_neg (by omega),if_neg (by omega)])
  simp only; omega
 omega
end
end Go.Proofs.Ytgbkpiaonlabgaa
namespace Go.Proofs.Ytgbkpiaonlabgaa
open Go Go.Am
section
variable {C:TLane→TLane→Option Int} {lt:TLane→TLane→Prop}
def Fin' (lt:TLane→TLane→Prop) (A B a b:Nat) (d:List TLane):Prop:=∀ i j,A≤i→i < j→j < B→(i < a∨b≤j)→Le lt d i j
def Pr (lt:TLane→TLane→Prop) (a b:Nat) (d:List TLane):Prop:=a=0∨∀ k,a≤k→k < b→Le lt d (a - 1) k
theorem seg_at {a b:Nat} {d u:List TLane} (h:SegE a b d u) (i:Nat):∃ i',u[i]? = d[i']?∧((i < a∨b≤i)∧i'=i∨a≤i∧i < b∧a≤i'∧i' < b):=by
 by_cases hi:a≤i∧i < b
 ·obtain ⟨j,j1,j2,j3⟩:=h.fro i hi.1 hi.2
  exact ⟨j,j3,.inr ⟨hi.1,hi.2,j1,j2⟩⟩
 exact ⟨i,h.out i (by omega),.inl ⟨by omega,rfl⟩⟩
theorem fin_seg {A B a b:Nat} {d u:List TLane} (hA:A≤a) (hB:b≤B) (hab:a≤b) (h:Fin' lt A B a b d) (s:SegE a b d u):Fin' lt A B a b u:=fun i j h1 h2 h3 h4=>by
 obtain ⟨i',e1,k1⟩:=seg_at s i
 obtain ⟨j',e2,k2⟩:=seg_at s j
 exact (h i' j' (by omega) (by omega) (by omega) (by omega)).of e1 e2
theorem fin_srt {A B a b:Nat} {d u:List TLane} (hA:A≤a) (hB:b≤B) (hab:a≤b) (h:Fin' lt A B a b d) (s:SegE a b d u) (k:Srt lt a b u):Srt lt A B u:=fun i j h1 h2 h3=>by
 by_cases hh:i < a∨b≤j
 ·exact fin_seg hA hB hab h s i j h1 h2 h3 hh
 exact k i j (by omega) h2 (by omega)
theorem pr_seg {a b:Nat} {d u:List TLane} (h:Pr lt a b d) (s:SegE a b d u):Pr lt a b u:=by
 rcases Nat.eq_zero_or_pos a with h0 | h0
 ·exact .inl h0
 rcases h with h | h
 ·omega
 exact .inr (seg_all s h (s.out _ (by omega)))
def RecOk (C:TLane→TLane→Option Int) (lt:TLane→TLane→Prop) (k:Nat) (rec:List TLane→Int→Int→Int→(TLane→TLane→Option Int)→Option (List TLane)):Prop:=
 ∀ (d:List TLane) (a b:Nat) (lim:Int),b - a < k→a≤b→b≤d.length→d.length≤1000000→b - a≤20→0≤lim→lim≤1000→Pr lt a b d→∃ u,rec d a b lim C=some u∧SegE a b d u∧Srt lt a b u
def Inv (lt:TLane→TLane→Prop) (A B:Nat) (d0:List TLane) (s:Int×Int×Int×Bool×Bool×List TLane):Prop:=
 ∃ a b:Nat,s.1=(a:Int)∧s.2.1=(b:Int)∧A≤a∧a≤b∧b≤B∧0≤s.2.2.1∧s.2.2.1≤1000∧SegE A B d0 s.2.2.2.2.2∧Fin' lt A B a b s.2.2.2.2.2∧Pr lt a b s.2.2.2.2.2
def GoesOn (lt:TLane→TLane→Prop) (A B:Nat) (d0:List TLane) (μ:Nat) (o:Option ((Int×Int×Int×Bool×Bool×List TLane)⊕List TLane)):Prop:=
 (∃ s',o=some (.inl s')∧Inv lt A B d0 s'∧(s'.2.1 - s'.1).toNat < μ)∨∃ r,o=some (.inr r)∧SegE A B d0 r∧Srt lt A B r
variable {A B:Nat} {d0:List TLane} {rec:List TLane→Int→Int→Int→(TLane→TLane→Option Int)→Option (List TLane)} {k:Nat}
structure Here (lt:TLane→TLane→Prop) (A B:Nat) (d0:List TLane) (a b:Nat) (lim:Int) (d:List TLane):Prop where
 l6:d0.length≤1000000
 BL:B≤d0.length
 AB:B - A≤20
 Aa:A≤a
 ab:a+12 < b
 bB:b≤B
 l0:0≤lim
 l1:lim≤1000
 s:SegE A B d0 d
 f:Fin' lt A B a b d
 p:Pr lt a b d
theorem Here.seg {a b:Nat} {lim:Int} {d u:List TLane} (H:Here lt A B d0 a b lim d) (s:SegE a b d u):Here lt A B d0 a b lim u:=
 ⟨H.l6,H.BL,H.AB,H.Aa,H.ab,H.bB,H.l0,H.l1,H.s.trans (s.wide H.Aa H.bB),fin_seg H.Aa H.bB (by have:=H.ab; omega) H.f s,pr_seg H.p s⟩
theorem s0_ok (hC:CmpOk C lt) (hr:RecOk C lt k rec) (hk:B - A≤k) {a b p:Nat} {lim:Int} {d:List TLane} (H:Here lt A B d0 a b lim d) (h1:a≤p) (h2:p < b) (w1 w2 w3:Bool) (hw:w3=true→∀ q,a≤q→q < b→Le lt d p q) :
  GoesOn lt A B d0 (b - a) (p57_j0 C rec (a:Int) (b:Int) w1 w2 lim (p:Int) d w3):=by
 obtain ⟨l6,BL,AB,Aa,ab,bB,l0,l1,sE,fE,pE⟩:=H
 have hlen:=sE.len
 unfold p57_j0
 cases w3 with
 | true=>
  rw [if_pos rfl]
  obtain ⟨m,u,q1,q2,q3,q4,q5⟩:=p67_ok hC (by omega) (by omega) h1 h2 (hw rfl)
  rw [q1]
  left
  refine ⟨_,rfl,⟨m,b,rfl,rfl,by omega,q4,bB,l0,l1,sE.trans (q2.wide Aa bB),fun i j x1 x2 x3 x4=>?_,.inr fun j x1 x2=>q5 _ _ (by omega) (by omega) (by omega) x2⟩,by simp only; omega⟩
  by_cases hh:i < a∨b≤j
  ·exact fin_seg Aa bB (by omega) fE q2 i j x1 x2 x3 hh
  exact q5 i j (by omega) (by omega) (by omega) (by omega)
 | false=>
  rw [if_neg (by decide)]
  obtain ⟨m,w,u,q1,q2,q3,q4,q5,q6⟩:=p68_ok hC (d0:=d) (by omega) (by omega) h1 h2
  rw [q1]
  have hul:=q2.len
  have fU:=fin_seg Aa bB (by omega) fE q2
  have pU:=pr_seg pE q2
  simp only [Option.bind_some]
  by_cases hlr:IntKind.wrap .i64 ((m:Int) - (a:Int)) < IntKind.wrap .i64 ((b:Int) - (m:Int))
  ·rw [if_pos hlr]
   obtain ⟨u2,r1,r2,r3⟩:=hr u a m lim (by omega) (by omega) (by omega) (by omega) (by omega) l0 l1 (by
    rcases pU with h | h
    ·exact .inl h
    exact .inr fun j x1 x2=>h j x1 (by omega))
   rw [r1]
   left
   have hm:u2[m]? = u[m]?:=r2.out m (by omega)
   refine ⟨_,rfl,⟨m+1,b,inc_nat (by omega),rfl,by omega,by omega,bB,l0,l1,(sE.trans (q2.wide Aa bB)).trans (r2.wide Aa (by omega)),fun i j x1 x2 x3 x4=>?_,.inr fun j x1 x2=>?_⟩,?_⟩
   ·simp only
    by_cases y1:i < a∨b≤j
    ·obtain ⟨i',e1,z1⟩:=seg_at r2 i
     obtain ⟨j',e2,z2⟩:=seg_at r2 j
     exact (fU i' j' (by omega) (by omega) (by omega) (by omega)).of e1 e2
    by_cases y2:j < m
    ·exact r3 i j (by omega) x2 y2
    by_cases y3:i=m
    ·exact (q6 j (by omega) (by omega)).of (by rw [y3,hm]) (r2.out j (by omega))
    obtain ⟨i',e1,z1⟩:=seg_at r2 i
    have hi:Le lt u2 i m:=(q5 i' (by omega) (by omega)).of e1 hm
    by_cases y4:j=m
    ·rw [y4]; exact hi
    have hl2:=r2.len
    exact hi.trans hC.ord (by omega) ((q6 j (by omega) (by omega)).of hm (r2.out j (by omega)))
   ·simp only
    exact (q6 j (by omega) x2).of (by rw [Nat.add_sub_cancel]; exact hm) (r2.out j (by omega))
   simp only; rw [inc_nat (by omega)]; omega
  rw [if_neg hlr]
  rw [inc_nat (by omega)]
  obtain ⟨u2,r1,r2,r3⟩:=hr u (m+1) b lim (by omega) (by omega) (by omega) (by omega) (by omega) l0 l1 (.inr fun j x1 x2=>q6 j (by omega) x2)
  rw [r1]
  left
  have hm:u2[m]? = u[m]?:=r2.out m (by omega)
  have hl2:=r2.len
  have hgt:∀ j,m < j→j < b→Le lt u2 m j:=seg_all (lo:=m+1) (hi:=b) r2 (fun j x1 x2=>q6 j (by omega) x2) hm |> fun h j x1 x2=>h j (by omega) x2
  refine ⟨_,rfl,⟨a,m,rfl,rfl,Aa,q3,by omega,l0,l1,(sE.trans (q2.wide Aa bB)).trans (r2.wide (by omega) bB),fun i j x1 x2 x3 x4=>?_,?_⟩,?_⟩
  ·simp only
   by_cases y1:i < a∨b≤j
   ·obtain ⟨i',e1,z1⟩:=seg_at r2 i
    obtain ⟨j',e2,z2⟩:=seg_at r2 j
    exact (fU i' j' (by omega) (by omega) (by omega) (by omega)).of e1 e2
   by_cases y2:m < i
   ·exact r3 i j (by omega) x2 (by omega)
   by_cases y3:i=m
   ·rw [y3]; exact hgt j (by omega) (by omega)
   have hi:Le lt u2 i m:=(q5 i (by omega) (by omega)).of (r2.out i (by omega)) hm
   by_cases y4:j=m
   ·rw [y4]; exact hi
   exact hi.trans hC.ord (by omega) (hgt j (by omega) (by omega))
  ·simp only
   rcases pU with h | h
   ·exact .inl h
   rcases Nat.eq_zero_or_pos a with h0 | h0
   ·exact .inl h0
   exact .inr fun j x1 x2=>(h j x1 (by omega)).of (r2.out _ (by omega)) (r2.out j (by omega))
  simp only; omega
theorem s1_ok (hC:CmpOk C lt) (hr:RecOk C lt k rec) (hk:B - A≤k) {a b p:Nat} {lim:Int} {d:List TLane} (H:Here lt A B d0 a b lim d) (h1:a≤p) (h2:p < b) (w1 w2:Bool) :
  GoesOn lt A B d0 (b - a) (p57_j1 C rec (a:Int) (b:Int) w1 w2 lim (p:Int) d):=by
 unfold p57_j1
 have hb:=H.bB; have hL:=H.BL; have hlen:=H.s.len; have h6:=H.l6
 split
 ·rename_i ha
  obtain ⟨r,z1,z2,z3⟩:=cmp_ev (β:=(Int×Int×Int×Bool×Bool×(List TLane))⊕(List TLane)) hC (d:=d) (I:=IntKind.wrap .i64 ((a:Int) - 1)) (J:=(p:Int)) (a - 1) p (dec_nat (by omega) (by omega)) rfl (by omega) (by omega)
   (fun r24=>p57_j0 C rec a b w1 w2 lim p d (!(decide (r24 < (0:Int)))))
  rw [z1]
  refine s0_ok hC hr hk H h1 h2 w1 w2 _ fun hw q x1 x2=>?_
  have hr':¬ r < 0:=by simpa using hw
  rcases H.p with h | h
  ·omega
  exact (z3 hr').trans hC.ord (by omega) (h q x1 x2)
 exact s0_ok hC hr hk H h1 h2 w1 w2 false fun h=>by cases h
theorem s2_ok (hC:CmpOk C lt) (hr:RecOk C lt k rec) (hk:B - A≤k) {a b p:Nat} {lim:Int} {d:List TLane} (H:Here lt A B d0 a b lim d) (h1:a≤p) (h2:p < b) (w1 w2 w3:Bool) :
  GoesOn lt A B d0 (b - a) (p57_j2 C rec (a:Int) (b:Int) w1 w2 lim (p:Int) d w3):=by
 unfold p57_j2
 have hb:=H.bB; have hL:=H.BL; have hlen:=H.s.len; have h6:=H.l6; have hab:=H.ab; have hA:=H.Aa; have h20:=H.AB
 cases w3 with
 | true=>
  rw [if_pos rfl]
  obtain ⟨r,q1,q2⟩:=p66_ok hC (a:=a) (b:=b) (d0:=d) (by omega) (by omega) (by omega) (by omega)
  rw [q1]
  simp only [Option.bind_some]
  cases r with
  | true=>
   rw [if_pos rfl]
   exact .inr ⟨_,rfl,H.s,fin_srt hA hb (by omega) H.f (SegE.refl _ _ _) (q2 rfl)⟩
  | false=>rw [if_neg (by decide)]; exact s1_ok hC hr hk H h1 h2 w1 w2
 | false=>rw [if_neg (by decide)]; exact s1_ok hC hr hk H h1 h2 w1 w2
theorem s4_ok (hC:CmpOk C lt) (hr:RecOk C lt k rec) (hk:B - A≤k) {a b p:Nat} {lim:Int} {d:List TLane} (H:Here lt A B d0 a b lim d) (h1:a≤p) (h2:p < b) (w1 w2:Bool) (q:Int) :
  GoesOn lt A B d0 (b - a) (p57_j4 C rec (a:Int) (b:Int) w1 w2 lim (p:Int) q d):=by
 unfold p57_j4 p57_j3
 split<;>split<;>exact s2_ok hC hr hk H h1 h2 w1 w2 _
theorem s5_ok (hC:CmpOk C lt) (hr:RecOk C lt k rec) (hk:B - A≤k) {a b:Nat} {lim:Int} {d:List TLane} (H:Here lt A B d0 a b lim d) (w1 w2:Bool) :
  GoesOn lt A B d0 (b - a) (p57_j5 C rec (a:Int) (b:Int) w1 w2 lim d):=by
 unfold p57_j5
 have hb:=H.bB; have hL:=H.BL; have hlen:=H.s.len; have h6:=H.l6; have hab:=H.ab; have hA:=H.Aa; have h20:=H.AB
 obtain ⟨m,q,q1,q2,q3⟩:=p64_ok hC (a:=a) (b:=b) (d:=d) (by omega) (by omega) (by omega) (by omega)
 rw [q1]
 simp only [Option.bind_some]
 split
 ·obtain ⟨u,r1,r2⟩:=p65_ok (C:=C) (a:=a) (b:=b) (d0:=d) (by omega) (by omega) (by omega)
  rw [r1]
  simp only [Option.bind_some]
  have e:IntKind.wrap .i64 (IntKind.wrap .i64 ((b:Int) - 1) - IntKind.wrap .i64 ((m:Int) - (a:Int)))=((b - 1 - (m - a):Nat):Int):=by
   rw [dec_nat (by omega) (by omega),wrap64 (n:=(m:Int) - (a:Int)) (by omega) (by omega),wrap64 (by omega) (by omega)]; omega
  rw [e]
  exact s4_ok hC hr hk (H.seg r2) (by omega) (by omega) w1 w2 _
 exact s4_ok hC hr hk H q2 q3 w1 w2 _
theorem q57_ok (hC:CmpOk C lt):∀ k,RecOk C lt k (q57 k):=by
 intro k
 induction k with
 | zero=>intro d a b lim h; omega
 | succ k ih=>
  intro d A B lim hk hab hb h6 h20 l0 l1 hp
  show ∃ u,b57 (q57 k) d A B lim C=some u∧SegE A B d u∧Srt lt A B u
  unfold b57
  suffices key:∃ u,loopC (p57_l0 C (q57 k)) ((A:Int),(B:Int),lim,true,true,d)=some u∧SegE A B d u∧Srt lt A B u by
   obtain ⟨u,h1,h2⟩:=key
   exact ⟨u,by rw [h1]; rfl,h2⟩
  refine loopC_rule (Inv lt A B d) (fun s=>(s.2.1 - s.1).toNat) _ ?_ ⟨A,B,rfl,rfl,Nat.le_refl _,hab,Nat.le_refl _,l0,l1,SegE.refl _ _ _,fun i j x1 x2 x3 x4=>by omega,hp⟩
  rintro ⟨I,J,lim,w1,w2,e⟩ ⟨a,b,e1,e2,k1,k2,k3,k4,k5,k6,k7,k8⟩
  simp only at e1 e2 k4 k5 k6 k7 k8
  subst e1 e2
  have hlen:=k6.len
  have eb:IntKind.wrap .i64 ((b:Int) - (a:Int))=((b - a:Nat):Int):=by rw [wrap64 (by omega) (by omega)]; omega
  show GoesOn lt A B d ((b:Int) - (a:Int)).toNat _
  rw [show ((b:Int) - (a:Int)).toNat=b - a by omega]
  unfold p57_l0
  simp only
  rw [eb]
  by_cases h12:b - a≤12
  ·rw [if_pos (by omega)]
   obtain ⟨u,q1,q2,q3⟩:=p61_ok hC (a:=a) (b:=b) (d0:=e) (by omega) k2 (by omega)
   rw [q1]
   exact .inr ⟨_,rfl,k6.trans (q2.wide k1 k3),fin_srt k1 k3 k2 k7 q2 q3⟩
  rw [if_neg (by omega)]
  split
  ·obtain ⟨u,q1,q2,q3⟩:=p62_ok hC (a:=a) (b:=b) (d0:=e) (by omega) k2 (by omega)
   rw [q1]
   exact .inr ⟨_,rfl,k6.trans (q2.wide k1 k3),fin_srt k1 k3 k2 k7 q2 q3⟩
  rename_i hl
  have H:∀ l:Int,0≤l→l≤1000→Here lt A B d a b l e:=fun l x1 x2=>⟨h6,hb,h20,k1,by omega,k3,x1,x2,k6,k7,k8⟩
  split
  ·obtain ⟨u,q1,q2⟩:=p63_ok (C:=C) (a:=a) (b:=b) (d0:=e) (by omega) (by omega) (by omega) (by omega)
   rw [q1]
   simp only [Option.bind_some]
   refine s5_ok hC ih (by omega) ((H _ ?_ ?_).seg q2) w1 w2
   ·rw [wrap64 (by omega) (by omega)]; omega
   rw [wrap64 (by omega) (by omega)]; omega
  exact s5_ok hC ih (by omega) (H _ k4 k5) w1 w2
theorem p58_ok {n:Nat} (h:n≤20):∃ q,p58 (IntKind.wrap .u64 (n:Int))=some q∧0≤q∧q≤1000:=by
 have:n=0∨n=1∨n=2∨n=3∨n=4∨n=5∨n=6∨n=7∨n=8∨n=9∨n=10∨n=11∨n=12∨n=13∨n=14∨n=15∨n=16∨n=17∨n=18∨n=19∨n=20:=by omega
 rcases this with rfl | rfl | rfl | rfl | rfl | rfl | rfl | rfl | rfl | rfl | rfl | rfl | rfl | rfl | rfl | rfl | rfl | rfl | rfl | rfl | rfl<;>exact ⟨_,rfl,by decide,by decide⟩
theorem p44_ok (hC:CmpOk C lt) {d:List TLane} (h:d.length≤20):∃ u,p44 d C=some u∧u.length=d.length∧(∀ x,x∈u↔x∈d)∧Srt lt 0 u.length u:=by
 unfold p44
 obtain ⟨q,h1,h2,h3⟩:=p58_ok h
 rw [h1]
 simp only [Option.bind_some]
 obtain ⟨u,k1,k2,k3⟩:=q57_ok hC 64 d 0 d.length q (by omega) (by omega) (by omega) (by omega) (by omega) h2 h3 (.inl rfl)
 unfold p57
 rw [show ((0:Nat):Int)=0 from rfl] at k1
 rw [k1]
 exact ⟨u,rfl,k2.len,fun x=>k2.mem x,by rw [k2.len]; exact k3⟩
end
end Go.Proofs.Ytgbkpiaonlabgaa
namespace Go.Proofs.Ytgbkpiaonlabgaa
open Go Go.Am
def ltL (x y:TLane):Prop:=x.From < y.From∨x.From=y.From∧(x.To < y.To∨x.To=y.To∧x.Ahead < y.Ahead)
theorem ltL_ord:Ord ltL:=by
 constructor
 ·unfold ltL; omega
 unfold ltL; intro x y z h1 h2; omega
theorem p47_eq (x y:Int):p47 x y=some (if x < y then -1 else if y < x then 1 else 0):=by
 unfold p47 p59
 simp only [Option.bind_some,decide_true,Bool.not_true]
 rw [if_neg (by decide),if_neg (by decide)]
 split
 ·rfl
 split<;>rfl
theorem p46_eq (a b c:Int):p46 [a,b,c]=some (if a≠0 then a else if b≠0 then b else c):=by
 have step:∃ q,loopC (p46_l0 [a,b,c]) (0:Int)=some q∧q=(if a≠0 then .inl a else if b≠0 then .inl b else if c≠0 then .inl c else .inr ()):=by
  refine ⟨_,loopC_iff.2 ⟨4,?_⟩,rfl⟩
  have f:∀ (k:Nat) (x:Int),[a,b,c][k]? = some x→p46_l0 [a,b,c] (k:Int)=if x≠0 then some (.inr (.inl x)) else some (.inl (IntKind.wrap .i64 ((k:Int)+1))):=fun k x hx=>by
   have:=(List.getElem?_eq_some_iff.1 hx).1
   unfold p46_l0
   rw [if_pos (by omega),idx_ok hx]
   simp only [Option.bind_some]
   by_cases h:x=0<;>simp [h]
  have f3:p46_l0 [a,b,c] (3:Int)=some (.inr (.inr ())):=by unfold p46_l0; rw [if_neg (by simp)]
  have f0:=f 0 a rfl; have f1:=f 1 b rfl; have f2:=f 2 c rfl
  have e1:IntKind.wrap .i64 (((0:Nat):Int)+1)=((1:Nat):Int):=by decide
  have e2:IntKind.wrap .i64 (((1:Nat):Int)+1)=((2:Nat):Int):=by decide
  have e3:IntKind.wrap .i64 (((2:Nat):Int)+1)=(3:Int):=by decide
  rw [e1] at f0; rw [e2] at f1; rw [e3] at f2
  simp only [iter]
  rw [show (0:Int)=((0:Nat):Int) from rfl,f0]
  by_cases ha:a=0
  ·simp only [ha,ne_eq,not_true_eq_false,if_false]
   rw [ha] at f1 f2 f3
   rw [f1]
   by_cases hb:b=0
   ·simp only [hb,ne_eq,not_true_eq_false,if_false]
    rw [hb] at f2 f3
    rw [f2]
    by_cases hc:c=0
    ·simp only [hc,ne_eq,not_true_eq_false,if_false]
     rw [hc] at f3
     rw [f3]; rfl
    simp [hc]
   simp [hb]
  simp [ha]
 obtain ⟨q,h1,h2⟩:=step
 unfold p46
 rw [h1,h2]
 by_cases ha:a=0
 ·by_cases hb:b=0
  ·by_cases hc:c=0<;>simp [ha,hb,hc]
  simp [ha,hb]
 simp [ha]
theorem p45_cmp:CmpOk (fun (y0:TLane) (y1:TLane)=>p45 y0 y1) ltL:=by
 refine ⟨fun x y=>?_,ltL_ord⟩
 unfold p45
 simp only [p47_eq,p46_eq,Option.bind_some]
 refine ⟨_,rfl,?_⟩
 unfold ltL
 split
 ·split at *<;>(try split at *)<;>omega
 split
 ·split at *<;>(try split at *)<;>(try split at *)<;>(try split at *)<;>omega
 split at *<;>(try split at *)<;>(try split at *)<;>(try split at *)<;>(try split at *)<;>(try split at *)<;>omega
def sameL (x y:TLane):Bool:=decide (x.From=y.From)&&decide (x.To=y.To)
theorem p49_eq (x y:TLane):p49 x y=some (sameL x y):=by
 unfold p49 p49_j0 sameL
 split<;>rename_i h<;>simp [h]
def cpt {α:Type} (E:α→α→Bool) (l:List α):Nat→List α
 | 0=>[]
 | k+1=>match l[k]?,(if k=0 then none else l[k - 1]?) with
  | none,_=>cpt E l k
  | some x,none=>cpt E l k++[x]
  | some x,some y=>if E x y then cpt E l k else cpt E l k++[x]
theorem cpt_le {α:Type} (E:α→α→Bool) (l:List α):∀ k,(cpt E l k).length≤k
 | 0=>Nat.le_refl _
 | k+1=>by
  have:=cpt_le E l k
  unfold cpt
  split
  ·omega
  ·simp; omega
  split
  ·omega
  simp; omega
theorem cpt_step {α:Type} {E:α→α→Bool} {l:List α} {k:Nat} (h0:0 < k) (h:k < l.length):cpt E l (k+1)=if E l[k] (l[k - 1]'(by omega)) then cpt E l k else cpt E l k++[l[k]]:=by
 conv=>lhs; unfold cpt
 rw [List.getElem?_eq_getElem h,if_neg (by omega),List.getElem?_eq_getElem (show k - 1 < l.length by omega)]
theorem wr_take {α:Type}:∀ (n:Nat) (l:List α) (lo:Nat) (x:α) (k:Nat),k≤lo→(wr l lo n x).take k=l.take k
 | 0,l,lo,x,k,h=>rfl
 | n+1,l,lo,x,k,h=>by
  unfold wr
  rw [wr_take n _ _ _ k (by omega),List.take_set_of_le (by omega)]
section
variable {E:TLane→TLane→Option Bool} {e:TLane→TLane→Bool}
theorem slc_tail {l:List TLane} {k n:Nat} (h:k≤l.length) (hn:l.length=n:=by rfl):slc l (k:Int) (n:Int)=some (l.drop k):=by
 subst hn
 unfold slc
 rw [if_pos ⟨by omega,by omega,by omega⟩]
 simp
theorem p48_ok (hE:∀ x y,E x y=some (e x y)) {l:List TLane} (hl:l.length≤1000000):p48 l E=some (cpt e l l.length):=by
 unfold p48
 by_cases h2:l.length < 2
 ·rw [if_pos (by omega)]
  match l,h2 with
  | [],_=>rfl
  | [x],_=>rfl
 rw [if_neg (by omega)]
 suffices key:∃ q,loopC (p48_l1 l E) (1:Int)=some q∧(match q with | .inl u=>u=cpt e l l.length | .inr _=>l=cpt e l l.length) by
  obtain ⟨q,h1,h3⟩:=key
  rw [h1]
  rcases q with u | u
  ·simp only at h3; rw [h3]; rfl
  simp only at h3; simp only [Option.bind_some]; exact congrArg some h3
 refine loopC_rule (fun s=>∃ k:Nat,s=(k:Int)∧0 < k∧k≤l.length∧cpt e l k=l.take k) (fun s=>l.length - s.toNat) _ ?_ ⟨1,rfl,by omega,by omega,?_⟩
 ·rintro _ ⟨k,rfl,h0,hk,hc⟩
  unfold p48_l1
  by_cases hkl:k < l.length
  ·rw [if_pos (by omega),idx_get hkl,dec_nat (by omega) h0,idx_get (show k - 1 < l.length by omega)]
   simp only [Option.bind_some,hE]
   by_cases he:e l[k] (l[k - 1]'(by omega))=true
   ·right
    rw [if_pos he,slc_tail (by omega)]
    simp only [Option.bind_some]
    have hc1:cpt e l (k+1)=l.take k:=by rw [cpt_step h0 hkl,if_pos he,hc]
    suffices inner:∃ q:Int×List TLane,loopC (p48_l0 l E (k:Int)) ((k:Int),1,l)=some q∧∃ w:Nat,q.1=(w:Int)∧w < l.length∧q.2.length=l.length∧q.2.take w=cpt e l l.length by
     obtain ⟨⟨q1,d⟩,i1,w,i2,i3,i4,i5⟩:=inner
     simp only at i2 i4 i5
     subst i2
     rw [i1]
     simp only [Option.bind_some]
     rw [slc_tail (by omega)]
     simp only [Option.bind_some]
     have hne:neL (d.drop w)=some ():=by
      unfold neL
      rw [if_neg]
      simp; omega
     rw [hne]
     simp only [Option.bind_some]
     have hs:slc (wr d (w:Int).toNat (((d.length:Int):Int).toNat - (w:Int).toNat) (TLane.mk (0:Int) (0:Int) (0:Int))) (0:Int) (w:Int)=some (d.take w):=by
      unfold slc
      rw [if_pos ⟨by omega,by omega,by rw [wr_len]; omega⟩]
      simp only [Int.toNat_natCast,Int.toNat_zero,List.drop_zero]
      rw [wr_take _ _ _ _ _ (Nat.le_refl _)]
     rw [hs]
     exact ⟨_,rfl,i5⟩
    refine loopC_rule (fun s=>∃ w m:Nat,s.1=(w:Int)∧s.2.1=(m:Int)∧0 < m∧k+m≤l.length∧w < k+m∧s.2.2.length=l.length∧s.2.2.take w=cpt e l (k+m)∧∀ i,k+m≤i+1→s.2.2[i]? = l[i]?) (fun s=>l.length - s.2.1.toNat) _ ?_ ⟨k,1,rfl,rfl,by omega,by omega,by omega,rfl,hc1.symm,fun i hi=>rfl⟩
    rintro ⟨W,M,d⟩ ⟨w,m,j1,j2,j3,j4,j5,j6,j7,j8⟩
    simp only at j1 j2 j6 j7 j8
    subst j1 j2
    unfold p48_l0
    simp only
    rw [slc_tail (by omega) j6]
    simp only [Option.bind_some]
    by_cases hm:k+m < l.length
    ·left
     have hd:m < (d.drop k).length:=by simp; omega
     rw [if_pos (by omega),idx_get hd,dec_nat (by omega) j3,idx_get (show m - 1 < (d.drop k).length by omega)]
     simp only [Option.bind_some,hE]
     have g1:(d.drop k)[m]=l[k+m]:=by
      have:=j8 (k+m) (by omega)
      rw [List.getElem?_eq_getElem (by omega),List.getElem?_eq_getElem hm] at this
      simp only [List.getElem_drop]
      exact Option.some.inj this
     have g2:(d.drop k)[m - 1]'(by omega)=l[k+m - 1]'(by omega):=by
      have:=j8 (k+m - 1) (by omega)
      rw [List.getElem?_eq_getElem (by omega),List.getElem?_eq_getElem (by omega)] at this
      simp only [List.getElem_drop]
      have e1:k+(m - 1)=k+m - 1:=by omega
      simp only [e1]
      exact Option.some.inj this
     rw [g1,g2]
     have hst:=cpt_step (E:=e) (l:=l) (k:=k+m) (by omega) hm
     by_cases he2:e l[k+m] (l[k+m - 1]'(by omega))=true
     ·rw [if_neg (by simp [he2])]
      unfold p48_j0
      refine ⟨_,rfl,⟨w,m+1,rfl,inc_nat (by omega),by omega,by omega,by omega,j6,?_,fun i hi=>j8 i (by omega)⟩,?_⟩
      ·rw [j7,show k+(m+1)=k+m+1 by omega,hst,if_pos he2]
      simp only; rw [inc_nat (by omega)]; omega
     rw [if_pos (by simp [he2]),idx_get (show w < d.length by omega)]
     simp only [Option.bind_some]
     unfold p48_j0
     rw [Int.toNat_natCast]
     refine ⟨_,rfl,⟨w+1,m+1,inc_nat (by omega),inc_nat (by omega),by omega,by omega,by omega,by simp [j6],?_,fun i hi=>?_⟩,?_⟩
     ·simp only
      rw [show k+(m+1)=k+m+1 by omega,hst,if_neg he2,← j7,List.take_succ_eq_append_getElem (by simp; omega),List.take_set_of_le (Nat.le_refl _)]
      simp
     ·simp only
      rw [List.getElem?_set_ne (by omega)]
      exact j8 i (by omega)
     simp only; rw [inc_nat (by omega)]; omega
    right
    rw [if_neg (by simp; omega)]
    refine ⟨_,rfl,w,rfl,by omega,j6,?_⟩
    rw [j7,show k+m=l.length by omega]
   left
   rw [if_neg he]
   refine ⟨_,rfl,⟨k+1,inc_nat (by omega),by omega,by omega,?_⟩,by rw [inc_nat (by omega)]; omega⟩
   rw [cpt_step h0 hkl,if_neg he,hc,List.take_succ_eq_append_getElem hkl]
  right
  rw [if_neg (by omega)]
  have e:k=l.length:=by omega
  refine ⟨_,rfl,?_⟩
  simp only
  rw [← e,hc,e,List.take_length]
 have:0 < l.length:=by omega
 unfold cpt
 rw [List.getElem?_eq_getElem this,if_pos rfl]
 simp only [cpt,List.nil_append]
 rw [List.take_succ_eq_append_getElem this]
 rfl
end
theorem cpt_mem {l:List TLane} {x:TLane}:∀ k,x∈cpt sameL l k→x∈l
 | 0,h=>by cases h
 | k+1,h=>by
  unfold cpt at h
  split at h
  ·exact cpt_mem k h
  ·rename_i y h1 h2
   rcases List.mem_append.1 h with h | h
   ·exact cpt_mem k h
   rw [List.mem_singleton] at h; subst h; exact List.mem_of_getElem? h1
  rename_i y z h1 h2
  split at h
  ·exact cpt_mem k h
  rcases List.mem_append.1 h with h | h
  ·exact cpt_mem k h
  rw [List.mem_singleton] at h; subst h; exact List.mem_of_getElem? h1
def ltP (x y:TLane):Prop:=x.From < y.From∨x.From=y.From∧x.To < y.To
theorem cpt_ok {l:List TLane} (hs:Srt ltL 0 l.length l):∀ k,k≤l.length→(cpt sameL l k).Pairwise ltP∧
  (∀ x,x∈cpt sameL l k→∃ i,i < k∧l[i]? = some x)∧∀ i x,i < k→l[i]? = some x→∃ y,y∈cpt sameL l k∧y.From=x.From∧y.To=x.To∧y.Ahead≤x.Ahead
 | 0,_=>⟨.nil,(fun x hx=>by cases hx),fun i x hi=>by omega⟩
 | k+1,hk=>by
  obtain ⟨h1,h2,h3⟩:=cpt_ok hs k (by omega)
  have hkl:k < l.length:=by omega
  have low:∀ i x,i < k→l[i]? = some x→¬ ltL l[k] x:=fun i x hi hx=>hs i k (Nat.zero_le _) hi hkl _ _ hx (List.getElem?_eq_getElem hkl)
  rcases Nat.eq_zero_or_pos k with h0 | h0
  ·subst h0
   have e:cpt sameL l (0+1)=[l[0]]:=by
    conv=>lhs; unfold cpt
    rw [List.getElem?_eq_getElem hkl,if_pos rfl]
    rfl
   rw [e]
   refine ⟨List.pairwise_singleton _ _,fun x hx=>?_,fun i x hi hx=>?_⟩
   ·rw [List.mem_singleton] at hx; subst hx; exact ⟨0,by omega,List.getElem?_eq_getElem hkl⟩
   obtain rfl:i=0:=by omega
   rw [List.getElem?_eq_getElem hkl] at hx; cases hx
   exact ⟨_,List.mem_singleton.2 rfl,rfl,rfl,Int.le_refl _⟩
  have hprev:=List.getElem?_eq_getElem (show k - 1 < l.length by omega)
  rw [cpt_step h0 hkl]
  split
  ·rename_i he
   unfold sameL at he
   simp only [Bool.and_eq_true,decide_eq_true_eq] at he
   refine ⟨h1,fun x hx=>?_,fun i x hi hx=>?_⟩
   ·obtain ⟨i,i1,i2⟩:=h2 x hx; exact ⟨i,by omega,i2⟩
   by_cases hik:i < k
   ·exact h3 i x hik hx
   obtain rfl:i=k:=by omega
   rw [List.getElem?_eq_getElem hkl] at hx; cases hx
   obtain ⟨y,y1,y2,y3,y4⟩:=h3 (i - 1) _ (by omega) hprev
   have:=low (i - 1) _ (by omega) hprev
   unfold ltL at this
   exact ⟨y,y1,by omega,by omega,by omega⟩
  rename_i he
  unfold sameL at he
  simp only [Bool.and_eq_true,decide_eq_true_eq] at he
  refine ⟨?_,fun x hx=>?_,fun i x hi hx=>?_⟩
  ·rw [List.pairwise_append]
   refine ⟨h1,List.pairwise_singleton _ _,fun x hx y hy=>?_⟩
   rw [List.mem_singleton] at hy; subst hy
   obtain ⟨i,i1,i2⟩:=h2 x hx
   have q1:=low (k - 1) _ (by omega) hprev
   by_cases hik:i=k - 1
   ·subst hik
    rw [hprev] at i2; cases i2
    unfold ltL at q1; unfold ltP
    omega
   have q2:=hs i (k - 1) (Nat.zero_le _) (by omega) (by omega) _ _ i2 hprev
   unfold ltL at q1 q2; unfold ltP
   omega
  ·rcases List.mem_append.1 hx with hx | hx
   ·obtain ⟨i,i1,i2⟩:=h2 x hx; exact ⟨i,by omega,i2⟩
   rw [List.mem_singleton] at hx; subst hx; exact ⟨k,by omega,List.getElem?_eq_getElem hkl⟩
  by_cases hik:i < k
  ·obtain ⟨y,y1,y2⟩:=h3 i x hik hx
   exact ⟨y,List.mem_append_left _ y1,y2⟩
  obtain rfl:i=k:=by omega
  rw [List.getElem?_eq_getElem hkl] at hx; cases hx
  exact ⟨_,List.mem_append_right _ (List.mem_singleton.2 rfl),rfl,rfl,Int.le_refl _⟩
end Go.Proofs.Ytgbkpiaonlabgaa
namespace Go.Proofs.Ytgbkpiaonlabgaa
open Go Go.Am
structure NetOk (n:TNet):Prop where
 np:n.Places.length≤1000
 nt:n.Trans.length≤1000
 ins:∀ t,t∈n.Trans→t.In.length≤1000∧∀ a,a∈t.In→0≤a.Place∧a.Place < n.Places.length
 outs:∀ t,t∈n.Trans→t.Out.length≤1000∧∀ a,a∈t.Out→0≤a.Place∧a.Place < n.Places.length
 delay:∀ t,t∈n.Trans→0≤t.Delay
def B8 (n:Int):Prop:=0≤n∧n≤255
structure ActOk (x:TAct):Prop where
 D:B8 x.D
 P:B8 x.P
 I:B8 x.I
 J:B8 x.J
 N:B8 x.N
 O:B8 x.O
 Q:B8 x.Q
structure DraftOk (d:TDraft):Prop where
 nt:d.Tokens.length≤1000000000
 na:d.Acts.length≤1000000000
 tok:∀ v,v∈d.Tokens→B8 v
 act:∀ x,x∈d.Acts→ActOk x
structure DraftIn (d:TDraft):Prop where
 tok:∀ v,v∈d.Tokens→B8 v
 act:∀ x,x∈d.Acts→ActOk x
theorem DraftIn.ok {d:TDraft} (h:DraftIn d) (ht:d.Tokens.length≤60) (ha:d.Acts.length≤12):DraftOk d:=⟨by omega,by omega,h.tok,h.act⟩
def ArcsOk (m b:Nat) (l:List TArc):Prop:=l.length≤b∧∀ a,a∈l→0≤a.Place∧a.Place < (m:Int)
theorem ArcsOk.nil (m b:Nat):ArcsOk m b []:=⟨Nat.zero_le _,fun _ h=>by cases h⟩
theorem ArcsOk.le {m b c:Nat} {l:List TArc} (h:ArcsOk m b l) (hb:b≤c):ArcsOk m c l:=⟨Nat.le_trans h.1 hb,h.2⟩
structure TransOk (m:Nat) (t:TTrans):Prop where
 ins:ArcsOk m 2 t.In
 nots:ArcsOk m 1 t.Not
 outs:ArcsOk m 2 t.Out
 delay:0≤t.Delay
 dle:t.Delay≤4
def MkT (m k:Nat) (c:List TTrans):Prop:=c.length=k∧∀ t,t∈c→TransOk m t
def Goes (m k:Nat) (o:Option ((Int×List TTrans)⊕List TTrans)):Prop:=∃ s',o=some (.inl (IntKind.wrap .i64 ((k:Int)+1),s'))∧MkT m (k+1) s'
def Alike (a b:TTrans):Prop:=a.Delay=b.Delay∧a.Prio=b.Prio∧a.In=b.In∧a.Not=b.Not∧a.Out=b.Out
theorem p23_ok {n:TNet} (hp:n.Places.length≤1000000) (ht:n.Trans.length≤1000000):∃ n',p23 n=some n'∧n'.Places.length=n.Places.length∧n'.Trans.length=n.Trans.length∧∀ (i:Nat) t,n.Trans[i]? = some t→∃ t',n'.Trans[i]? = some t'∧Alike t' t:=by
 unfold p23
 suffices k1:∃ pl,loopC (p23_l0 n) ((0:Int),[])=some pl∧pl.length=n.Places.length by
  obtain ⟨pl,h1,h2⟩:=k1
  rw [h1]
  simp only [Option.bind_some]
  suffices k2:∃ c,loopC (p23_l1 n) ((0:Int),[])=some c∧(c.length=n.Trans.length∧∀ (i:Nat) t,n.Trans[i]? = some t→∃ t',c[i]? = some t'∧Alike t' t) by
   obtain ⟨c,h3,h4,h5⟩:=k2
   rw [h3]
   exact ⟨_,rfl,h2,h4,h5⟩
  refine loop_up (f:=p23_l1 n) n.Trans.length (by omega) (fun k (c:List TTrans)=>c.length=k∧∀ (i:Nat) t,i < k→n.Trans[i]? = some t→∃ t',c[i]? = some t'∧Alike t' t) _ ?_ ?_ ⟨rfl,fun i t hi=>by omega⟩
  ·intro k c hk ⟨e1,e2⟩
   left
   unfold p23_l1
   simp only
   rw [if_pos (by omega),idx_get hk]
   simp only [Option.bind_some]
   rw [catS_ok (by simp)]
   simp only [Option.bind_some]
   rw [app_ok (by simp; omega)]
   refine ⟨_,rfl,by simp [e1],fun i t hi hit=>?_⟩
   rw [List.getElem?_append]
   split
   ·exact e2 i t (by omega) hit
   obtain rfl:i=k:=by omega
   rw [List.getElem?_eq_getElem hk] at hit
   cases hit
   rw [e1,Nat.sub_self]
   exact ⟨_,rfl,rfl,rfl,rfl,rfl,rfl⟩
  intro c ⟨e1,e2⟩
  unfold p23_l1
  simp only
  rw [if_neg (by omega)]
  exact ⟨_,rfl,e1,fun i t hit=>e2 i t (List.getElem?_eq_some_iff.1 hit).1 hit⟩
 refine loop_up (f:=p23_l0 n) n.Places.length (by omega) (fun k (c:List TPlace)=>c.length=k) _ ?_ ?_ rfl
 ·intro k c hk e1
  left
  unfold p23_l0
  simp only
  rw [if_pos (by omega),idx_get hk]
  simp only [Option.bind_some]
  rw [catS_ok (by simp)]
  simp only [Option.bind_some]
  rw [app_ok (by simp; omega)]
  exact ⟨_,rfl,by simp [e1]⟩
 intro c e1
 unfold p23_l0
 simp only
 rw [if_neg (by omega)]
 exact ⟨_,rfl,e1⟩
end Go.Proofs.Ytgbkpiaonlabgaa
namespace Go.Proofs.Ytgbkpiaonlabgaa
open Go Go.Am
theorem incN {i:Nat} (h:i≤1000000000):IntKind.wrap .i64 ((i:Int)+1)=((i+1:Nat):Int):=by rw [wrap64 (by omega) (by omega)]; omega
def PairIn (n:Nat) (ps:List TArr2_Int) (a b:Nat):Prop:=a < n∧b < n∧∃ p,p∈ps∧p.e0=(a:Int)∧p.e1=(b:Int)
inductive Joi (n:Nat) (ps:List TArr2_Int):Nat→Nat→Prop where
 | refl (a:Nat):Joi n ps a a
 | up {a b c:Nat}:Joi n ps a b→PairIn n ps b c→Joi n ps a c
 | dn {a b c:Nat}:Joi n ps a b→PairIn n ps c b→Joi n ps a c
section
variable {n:Nat} {ps:List TArr2_Int}
theorem Joi.trans {a b c:Nat} (h:Joi n ps a b) (k:Joi n ps b c):Joi n ps a c:=by
 induction k with
 | refl=>exact h
 | up _ e ih=>exact .up ih e
 | dn _ e ih=>exact .dn ih e
theorem Joi.symm {a b:Nat} (h:Joi n ps a b):Joi n ps b a:=by
 induction h with
 | refl=>exact .refl _
 | up _ e ih=>exact (Joi.dn (.refl _) e).trans ih
 | dn _ e ih=>exact (Joi.up (.refl _) e).trans ih
def ColOk (n:Nat) (ps:List TArr2_Int) (col:List Int):Prop:=col.length=n∧∀ v,v < n→∃ w:Nat,col[v]? = some (w:Int)∧w < n∧Joi n ps v w
def Last (n:Nat) (ps:List TArr2_Int) (col:List Int) (v:Nat):Prop:=v < n∧∀ (c:Int) (w:Nat),col[v]? = some c→Joi n ps v w→w < n→c≤w
theorem step_ok {col:List Int} (ok:ColOk n ps col) {x y:Nat} {c d:Int} (hx:col[x]? = some c) (hy:col[y]? = some d) (hyn:y < n) (hxn:x < n) (hj:Joi n ps y x) (hcd:c≤d):ColOk n ps (col.set y c)∧(∀ v,Last n ps col v→Last n ps (col.set y c) v)∧(Last n ps col x→Last n ps (col.set y c) y):=by
 have hl:=ok.1
 have hg:∀ k,(col.set y c)[k]? = if k=y then some c else col[k]?:=fun k=>by
  by_cases hk:k=y
  ·rw [if_pos hk,hk,List.getElem?_set_self (by omega)]
  rw [if_neg hk,List.getElem?_set_ne (by omega)]
 refine ⟨⟨by simpa using hl,fun v hv=>?_⟩,fun v hv=>⟨hv.1,fun e w h1 h2 h3=>?_⟩,fun h=>⟨hyn,fun e w h1 h2 h3=>?_⟩⟩
 ·rw [hg]
  split
  ·rename_i e
   subst e
   obtain ⟨a,a1,a2,a3⟩:=ok.2 x hxn
   rw [hx] at a1
   exact ⟨a,a1,a2,hj.trans a3⟩
  exact ok.2 v hv
 ·rw [hg] at h1
  split at h1
  ·rename_i e'
   subst e'
   cases h1
   have:=hv.2 _ w hy h2 h3
   omega
  exact hv.2 _ w h1 h2 h3
 rw [hg,if_pos rfl] at h1
 cases h1
 exact h.2 _ w hx (hj.symm.trans h2) h3
end
end Go.Proofs.Ytgbkpiaonlabgaa
namespace Go.Proofs.Ytgbkpiaonlabgaa
open Go Go.Am
def looksB (t:TTrans) (q:Int):Bool:=t.In.any (fun a=>decide (a.Place=q))||t.Not.any (fun a=>decide (a.Place=q))
def givesB (t:TTrans) (q:Int):Bool:=t.Out.any (fun a=>decide (a.Place=q))
def tieB (t:TTrans) (q:Int):Bool:=looksB t q||(decide (t.Delay=0)&&givesB t q)
structure TrOk (m:Nat) (t:TTrans):Prop where
 ins:ArcsOk m 1000 t.In
 nots:ArcsOk m 1000 t.Not
 outs:ArcsOk m 1000 t.Out
theorem TransOk.tr {m:Nat} {t:TTrans} (h:TransOk m t):TrOk m t:=⟨h.ins.le (by omega),h.nots.le (by omega),h.outs.le (by omega)⟩
structure Few (n:TNet):Prop where
 np:n.Places.length≤1000
 nt:n.Trans.length≤1000
 tr:∀ t,t∈n.Trans→TrOk n.Places.length t
structure PartOk (n:TNet) (p:TPart):Prop where
 N1:1≤p.N
 N2:p.N≤32
 lp:p.Places.length=n.Places.length
 lt:p.Trans.length=n.Trans.length
 vp:∀ v,v∈p.Places→0≤v∧v < p.N
 vt:∀ v,v∈p.Trans→0≤v∧v < p.N
 tie:∀ (t q:Nat) x,n.Trans[t]? = some x→q < n.Places.length→tieB x (q:Int)=true→p.Places[q]? = p.Trans[t]?
end Go.Proofs.Ytgbkpiaonlabgaa
namespace Go.Proofs.Ytgbkpiaonlabgaa
open Go Go.Am
theorem p56_eq {t:TTrans} (h1:t.In.length≤1000000) (h2:t.Not.length≤1000000):p56 t=some ((t.In++t.Not).map TArc.Place):=by
 have inner:∀ (L:List TArc) (l:List Int),L.length≤1000000→l.length≤1000000→loopC (p56_l0 L) ((0:Int),l)=some (l++L.map TArc.Place):=by
  intro L l hL hl
  have:∃ r,loopC (p56_l0 L) ((0:Int),l)=some r∧r=l++L.map TArc.Place:=by
   refine loop_up (f:=p56_l0 L) L.length (by omega) (fun k (r:List Int)=>r=l++(L.take k).map TArc.Place) _ ?_ ?_ (by simp)
   ·rintro k r hk rfl
    left
    unfold p56_l0
    simp only
    rw [if_pos (by omega),idx_get hk]
    simp only [Option.bind_some]
    rw [app_ok (by simp; omega)]
    refine ⟨_,rfl,?_⟩
    rw [List.take_succ_eq_append_getElem hk,List.map_append,List.append_assoc]
    rfl
   rintro r rfl
   unfold p56_l0
   simp only
   rw [if_neg (by omega)]
   exact ⟨_,rfl,by rw [List.take_length]⟩
  obtain ⟨r,e1,e2⟩:=this
  rw [e1,e2]
 have:∃ r,loopC (p56_l1 t) ((0:Int),[])=some r∧r=(t.In++t.Not).map TArc.Place:=by
  refine loop_cnt 2 (fun k (s:Int×List Int)=>s.1=(k:Int)∧s.2=(if k=0 then [] else if k=1 then t.In.map TArc.Place else (t.In++t.Not).map TArc.Place)) _ ?_ ?_ ⟨rfl,rfl⟩
  ·rintro k ⟨i,l⟩ hk ⟨e1,e2⟩
   simp only at e1 e2
   subst e1 e2
   left
   unfold p56_l1
   simp only
   rw [if_pos (by omega)]
   rcases (show k=0∨k=1 by omega) with rfl | rfl
   ·rw [show idx [t.In,t.Not] ((0:Nat):Int)=some t.In from rfl]
    simp only [Option.bind_some,if_pos]
    rw [inner _ _ h1 (by simp)]
    exact ⟨_,rfl,rfl,by simp⟩
   rw [show idx [t.In,t.Not] ((1:Nat):Int)=some t.Not from rfl]
   simp only [Option.bind_some,if_pos]
   rw [if_neg (by omega),inner _ _ h2 (by simp; omega)]
   exact ⟨_,rfl,rfl,by simp⟩
  rintro ⟨i,l⟩ ⟨e1,e2⟩
  simp only at e1 e2
  subst e1 e2
  unfold p56_l1
  simp only
  rw [if_neg (by omega)]
  exact ⟨_,rfl,by simp⟩
 obtain ⟨r,e1,e2⟩:=this
 unfold p56
 rw [e1,e2]
 rfl
theorem range_eq (p:TPart) {L:List Int} (hL:L.length≤1000000) (y:Int):loopC (p43_l0 p L) (y,(0:Int))=some (if L.all (fun v=>decide (0≤v)&&decide (v < p.N))=true then .inr y else .inl ()):=by
 have:∃ r,loopC (p43_l0 p L) (y,(0:Int))=some r∧r=(if L.all (fun v=>decide (0≤v)&&decide (v < p.N))=true then .inr y else .inl ()):=by
  refine loop_cnt L.length (fun k (s:Int×Int)=>s=(y,(k:Int))∧(L.take k).all (fun v=>decide (0≤v)&&decide (v < p.N))=true) _ ?_ ?_ ⟨rfl,rfl⟩
  ·rintro k s hk ⟨rfl,hI⟩
   unfold p43_l0
   simp only
   rw [if_pos (by omega),idx_get hk]
   simp only [Option.bind_some]
   have bad:¬ (0≤L[k]∧L[k] < p.N)→(.inl ():Unit⊕Int)=(if L.all (fun v=>decide (0≤v)&&decide (v < p.N))=true then .inr y else .inl ()):=fun h=>by
    rw [if_neg]
    intro hall
    have:=List.all_eq_true.1 hall _ (List.getElem_mem hk)
    simp only [Bool.and_eq_true,decide_eq_true_eq] at this
    exact h this
   unfold p43_j0
   by_cases c1:L[k] < 0
   ·right; rw [if_pos c1,if_pos rfl]; exact ⟨_,rfl,bad (by omega)⟩
   by_cases c2:p.N≤L[k]
   ·right; rw [if_neg c1,if_pos (by simpa using c2)]; exact ⟨_,rfl,bad (by omega)⟩
   left
   rw [if_neg c1,if_neg (by simpa using c2)]
   refine ⟨_,rfl,by rw [incN (by omega)],?_⟩
   rw [List.take_succ_eq_append_getElem hk,List.all_append,hI]
   simp; omega
  rintro s ⟨rfl,hI⟩
  unfold p43_l0
  simp only
  rw [if_neg (by omega)]
  rw [List.take_length] at hI
  exact ⟨_,rfl,by rw [if_pos hI]⟩
 obtain ⟨r,e1,e2⟩:=this
 rw [e1,e2]
theorem l1_eq (p:TPart) (h1:p.Places.length≤1000000) (h2:p.Trans.length≤1000000):loopC (p43_l1 p) ((0:Int),(0:Int))=some (if (p.Places++p.Trans).all (fun v=>decide (0≤v)&&decide (v < p.N))=true then .inr 0 else .inl ()):=by
 have f0:p43_l1 p ((0:Int),(0:Int))=if p.Places.all (fun v=>decide (0≤v)&&decide (v < p.N))=true then some (.inl (0,1)) else some (.inr (.inl ())):=by
  unfold p43_l1
  simp only
  rw [if_pos (by decide),show idx [p.Places,p.Trans] (0:Int)=some p.Places from rfl]
  simp only [Option.bind_some]
  rw [range_eq p h1]
  simp only [Option.bind_some]
  split
  ·rename_i h; split at h
   ·cases h
   rename_i hh; rw [if_neg hh]
  rename_i h; split at h
  ·rename_i hh; rw [if_pos hh]; cases h; rfl
  cases h
 have f1:p43_l1 p ((0:Int),(1:Int))=if p.Trans.all (fun v=>decide (0≤v)&&decide (v < p.N))=true then some (.inl (0,2)) else some (.inr (.inl ())):=by
  unfold p43_l1
  simp only
  rw [if_pos (by decide),show idx [p.Places,p.Trans] (1:Int)=some p.Trans from rfl]
  simp only [Option.bind_some]
  rw [range_eq p h2]
  simp only [Option.bind_some]
  split
  ·rename_i h; split at h
   ·cases h
   rename_i hh; rw [if_neg hh]
  rename_i h; split at h
  ·rename_i hh; rw [if_pos hh]; cases h; rfl
  cases h
 have f2:p43_l1 p ((0:Int),(2:Int))=some (.inr (.inr 0)):=by unfold p43_l1; simp
 rw [List.all_append]
 refine loopC_iff.2 ⟨3,?_⟩
 by_cases c1:p.Places.all (fun v=>decide (0≤v)&&decide (v < p.N))=true
 ·by_cases c2:p.Trans.all (fun v=>decide (0≤v)&&decide (v < p.N))=true
  ·rw [if_pos c1] at f0
   rw [if_pos c2] at f1
   simp only [iter,f0,f1,f2,c1,c2]; rfl
  rw [if_pos c1] at f0
  rw [if_neg c2] at f1
  simp only [iter,f0,f1,c1,c2]; rfl
 rw [if_neg c1] at f0
 simp only [iter,f0,c1]; rfl
theorem p43_ok {n:TNet} {p:TPart} (hn:Few n) (hp:PartOk n p):p43 n p=some 0:=by
 have h1:=hn.np; have h2:=hn.nt; have h3:=hp.lp; have h4:=hp.lt; have h5:=hp.N1; have h6:=hp.N2
 unfold p43
 rw [if_neg (by simp; omega)]
 unfold p43_j4
 rw [if_neg (by simp; omega)]
 unfold p43_j3
 rw [if_neg (by simp; omega)]
 unfold p43_j2
 rw [if_neg (by simp; omega),l1_eq p (by omega) (by omega),if_pos (List.all_eq_true.2 fun v hv=>?_)]
 ·simp only [Option.bind_some]
  suffices key:∃ r,loopC (p43_l4 n p) ((0:Int),(0:Int))=some r∧r=.inr () by
   obtain ⟨r,e1,e2⟩:=key
   rw [e1,e2]; rfl
  refine loop_cnt n.Trans.length (fun k (s:Int×Int)=>s=(0,(k:Int))) _ ?_ ?_ rfl
  ·rintro k s hk rfl
   left
   unfold p43_l4
   simp only
   rw [if_pos (by omega)]
   have hget:=List.getElem?_eq_getElem hk
   have hok:=hn.tr _ (List.getElem_mem hk)
   rw [idx_ok hget]
   generalize hT:n.Trans[k]=T at hget hok
   simp only [Option.bind_some]
   have b1:=hok.ins.1; have b2:=hok.nots.1; have b3:=hok.outs.1
   rw [p56_eq (by omega) (by omega)]
   simp only [Option.bind_some]
   have ht:p.Trans[k]? = some (p.Trans[k]'(by omega)):=List.getElem?_eq_getElem (by omega)
   have l2:loopC (p43_l2 p (k:Int) ((T.In++T.Not).map TArc.Place)) ((0:Int),(0:Int))=some (.inr 0):=by
    suffices key:∃ r,loopC (p43_l2 p (k:Int) ((T.In++T.Not).map TArc.Place)) ((0:Int),(0:Int))=some r∧r=.inr 0 by
     obtain ⟨r,e1,e2⟩:=key
     rw [e1,e2]
    refine loop_cnt ((T.In++T.Not).map TArc.Place).length (fun j (s:Int×Int)=>s=(0,(j:Int))) _ ?_ ?_ rfl
    ·rintro j s hj rfl
     left
     unfold p43_l2
     simp only
     have hj2:j≤3000:=by simp at hj; omega
     rw [if_pos (by omega),idx_get hj]
     simp only [Option.bind_some]
     have hmem:=List.getElem_mem hj
     obtain ⟨a,ha1,ha2⟩:=List.mem_map.1 hmem
     rw [← ha2]
     have hin:0≤a.Place∧a.Place < (n.Places.length:Int):=by
      rcases List.mem_append.1 ha1 with h | h
      ·exact hok.ins.2 a h
      exact hok.nots.2 a h
     have htie:tieB T ((a.Place.toNat:Nat):Int)=true:=by
      unfold tieB looksB
      rw [Int.toNat_of_nonneg hin.1]
      rcases List.mem_append.1 ha1 with h | h
      ·rw [List.any_eq_true.2 ⟨a,h,by simp⟩]; simp
      have:T.Not.any (fun b=>decide (b.Place=a.Place))=true:=List.any_eq_true.2 ⟨a,h,by simp⟩
      rw [this]; simp
     have heq:=hp.tie k a.Place.toNat T hget (by omega) htie
     rw [ht] at heq
     have e3:idx p.Places a.Place=some (p.Trans[k]'(by omega)):=by
      have:=idx_ok heq
      rwa [Int.toNat_of_nonneg hin.1] at this
     rw [e3,idx_ok ht]
     simp only [Option.bind_some]
     rw [if_neg (by simp)]
     exact ⟨_,rfl,by rw [incN (by omega)]⟩
    rintro s rfl
    unfold p43_l2
    simp only
    rw [if_neg (by omega)]
    exact ⟨_,rfl,rfl⟩
   have l3:loopC (p43_l3 p (k:Int) T) ((0:Int),(0:Int))=some (.inr 0):=by
    suffices key:∃ r,loopC (p43_l3 p (k:Int) T) ((0:Int),(0:Int))=some r∧r=.inr 0 by
     obtain ⟨r,e1,e2⟩:=key
     rw [e1,e2]
    refine loop_cnt T.Out.length (fun j (s:Int×Int)=>s=(0,(j:Int))) _ ?_ ?_ rfl
    ·rintro j s hj rfl
     left
     unfold p43_l3
     simp only
     rw [if_pos (by omega),idx_get hj]
     simp only [Option.bind_some]
     have hmem:=List.getElem_mem hj
     generalize T.Out[j]=a at hmem
     have hin:=hok.outs.2 a hmem
     unfold p43_j1
     by_cases hd:T.Delay=0
     ·rw [if_pos hd]
      have htie:tieB T ((a.Place.toNat:Nat):Int)=true:=by
       unfold tieB givesB
       rw [Int.toNat_of_nonneg hin.1,List.any_eq_true.2 ⟨a,hmem,by simp⟩]; simp [hd]
      have heq:=hp.tie k a.Place.toNat T hget (by omega) htie
      rw [ht] at heq
      have e3:idx p.Places a.Place=some (p.Trans[k]'(by omega)):=by
       have:=idx_ok heq
       rwa [Int.toNat_of_nonneg hin.1] at this
      rw [e3,idx_ok ht]
      simp only [Option.bind_some]
      rw [if_neg (by simp)]
      exact ⟨_,rfl,by rw [incN (by omega)]⟩
     rw [if_neg hd,if_neg (by decide)]
     exact ⟨_,rfl,by rw [incN (by omega)]⟩
    rintro s rfl
    unfold p43_l3
    simp only
    rw [if_neg (by omega)]
    exact ⟨_,rfl,rfl⟩
   rw [l2]
   simp only [Option.bind_some]
   rw [l3]
   exact ⟨_,rfl,by rw [incN (by omega)]⟩
  rintro s rfl
  unfold p43_l4
  simp only
  rw [if_neg (by omega)]
  exact ⟨_,rfl,rfl⟩
 simp only [Bool.and_eq_true,decide_eq_true_eq]
 rcases List.mem_append.1 hv with hv | hv
 ·exact hp.vp v hv
 exact hp.vt v hv
def InL (n:TNet) (p:TPart) (x:TLane):Prop:=∃ (i:Nat) (t:TTrans) (a:TArc),n.Trans[i]? = some t∧a∈t.Out∧p.Trans[i]? = some x.From∧p.Places[a.Place.toNat]? = some x.To∧x.From≠x.To∧x.Ahead=t.Delay
def outs (n:TNet):Nat:=(n.Trans.map fun t=>t.Out.length).sum
theorem raw_ok {n:TNet} {p:TPart} (hn:Few n) (hp:PartOk n p):∃ L,loopC (p35_l1 n p) ((0:Int),[])=some L∧(L.length≤outs n∧∀ x,x∈L↔InL n p x):=by
 have h1:=hn.np; have h2:=hn.nt; have h3:=hp.lp; have h4:=hp.lt
 have hso:∀ k,k≤n.Trans.length→((n.Trans.take k).map fun t=>t.Out.length).sum≤1000 * k:=by
  intro k
  induction k with
  | zero=>intro _; simp
  | succ k ih=>
   intro hk
   have:=ih (by omega)
   rw [List.take_succ_eq_append_getElem (show k < n.Trans.length by omega),List.map_append,List.sum_append]
   have:=(hn.tr _ (List.getElem_mem (show k < n.Trans.length by omega))).outs.1
   simp only [List.map_cons,List.map_nil,List.sum_cons,List.sum_nil]; omega
 refine loop_up (f:=p35_l1 n p) n.Trans.length (by omega) (fun k (L:List TLane)=>L.length≤((n.Trans.take k).map fun t=>t.Out.length).sum∧∀ x,x∈L↔∃ (i:Nat) (t:TTrans) (a:TArc),i < k∧n.Trans[i]? = some t∧a∈t.Out∧p.Trans[i]? = some x.From∧p.Places[a.Place.toNat]? = some x.To∧x.From≠x.To∧x.Ahead=t.Delay) _ ?_ ?_ ⟨Nat.le_refl _,fun x=>⟨(fun h=>by cases h),fun ⟨i,t,a,h,_⟩=>by omega⟩⟩
 ·intro k L hk ⟨e1,e2⟩
  left
  unfold p35_l1
  simp only
  rw [if_pos (by omega)]
  have hget:=List.getElem?_eq_getElem hk
  have hok:=hn.tr _ (List.getElem_mem hk)
  have hs:=hso k (by omega)
  rw [idx_ok hget]
  have hsum:((n.Trans.take (k+1)).map fun t=>t.Out.length).sum=((n.Trans.take k).map fun t=>t.Out.length).sum+(n.Trans[k]).Out.length:=by
   rw [List.take_succ_eq_append_getElem hk,List.map_append,List.sum_append]; simp
  rw [hsum]
  generalize hT:n.Trans[k]=T at hget hok
  simp only [Option.bind_some]
  have b3:=hok.outs.1
  have ht:p.Trans[k]? = some (p.Trans[k]'(by omega)):=List.getElem?_eq_getElem (by omega)
  generalize hF:p.Trans[k]'(by omega)=F at ht
  have inner:∃ M,loopC (p35_l0 p (k:Int) T) ((0:Int),L)=some M∧(M.length≤L.length+T.Out.length∧∀ x,x∈M↔x∈L∨∃ a,a∈T.Out∧F=x.From∧p.Places[a.Place.toNat]? = some x.To∧x.From≠x.To∧x.Ahead=T.Delay):=by
   refine loop_up (f:=p35_l0 p (k:Int) T) T.Out.length (by omega) (fun j (M:List TLane)=>M.length≤L.length+j∧∀ x,x∈M↔x∈L∨∃ a,a∈T.Out.take j∧F=x.From∧p.Places[a.Place.toNat]? = some x.To∧x.From≠x.To∧x.Ahead=T.Delay) _ ?_ ?_ ⟨Nat.le_refl _,fun x=>by simp⟩
   ·intro j M hj ⟨m1,m2⟩
    left
    unfold p35_l0
    simp only
    rw [if_pos (by omega),idx_get hj,idx_ok ht]
    simp only [Option.bind_some]
    have hmem:=List.getElem_mem hj
    have htk:=List.take_succ_eq_append_getElem hj
    generalize T.Out[j]=a at hmem htk
    have hin:=hok.outs.2 a hmem
    have hpl:p.Places[a.Place.toNat]? = some (p.Places[a.Place.toNat]'(by omega)):=List.getElem?_eq_getElem (by omega)
    generalize hG:p.Places[a.Place.toNat]'(by omega)=G at hpl
    have e3:idx p.Places a.Place=some G:=by
     have:=idx_ok hpl
     rwa [Int.toNat_of_nonneg hin.1] at this
    rw [e3]
    simp only [Option.bind_some]
    unfold p35_j0
    by_cases hfg:F=G
    ·rw [if_neg (by simp [hfg])]
     refine ⟨_,rfl,by omega,fun x=>?_⟩
     rw [m2,htk]
     constructor
     ·rintro (h | ⟨b,b1,b2⟩)
      ·exact .inl h
      exact .inr ⟨b,List.mem_append_left _ b1,b2⟩
     rintro (h | ⟨b,b1,b2,b3,b4,b5⟩)
     ·exact .inl h
     rcases List.mem_append.1 b1 with b1 | b1
     ·exact .inr ⟨b,b1,b2,b3,b4,b5⟩
     rw [List.mem_singleton] at b1
     subst b1
     rw [hpl] at b3; cases b3
     exact absurd (b2.symm.trans hfg) b4
    rw [if_pos (by simp [hfg]),app_ok (by simp; omega)]
    refine ⟨_,rfl,by simp; omega,fun x=>?_⟩
    rw [List.mem_append,m2,List.mem_singleton,htk]
    constructor
    ·rintro ((h | ⟨b,b1,b2⟩) | rfl)
     ·exact .inl h
     ·exact .inr ⟨b,List.mem_append_left _ b1,b2⟩
     exact .inr ⟨a,List.mem_append_right _ (List.mem_singleton.2 rfl),rfl,hpl,hfg,rfl⟩
    rintro (h | ⟨b,b1,b2,b3,b4,b5⟩)
    ·exact .inl (.inl h)
    rcases List.mem_append.1 b1 with b1 | b1
    ·exact .inl (.inr ⟨b,b1,b2,b3,b4,b5⟩)
    rw [List.mem_singleton] at b1
    subst b1
    rw [hpl] at b3
    obtain ⟨x1,x2,x3⟩:=x
    simp only at b2 b3 b4 b5
    cases b3
    subst b2 b5
    exact .inr rfl
   intro M h
   unfold p35_l0
   simp only
   rw [if_neg (by omega)]
   rw [List.take_length] at h
   exact ⟨_,rfl,h⟩
  obtain ⟨M,i1,i2,i3⟩:=inner
  rw [i1]
  refine ⟨M,rfl,by omega,fun x=>?_⟩
  rw [i3,e2]
  constructor
  ·rintro (⟨i,t,a,q1,q2⟩ | ⟨a,q1,q2,q3⟩)
   ·exact ⟨i,t,a,by omega,q2⟩
   exact ⟨k,T,a,by omega,hget,q1,by rw [ht,q2],q3⟩
  rintro ⟨i,t,a,q1,q2,q3,q4,q5⟩
  by_cases e:i=k
  ·subst e
   rw [hget] at q2; cases q2
   rw [ht] at q4; cases q4
   exact .inr ⟨a,q3,rfl,q5⟩
  exact .inl ⟨i,t,a,by omega,q2,q3,q4,q5⟩
 intro L ⟨e1,e2⟩
 unfold p35_l1
 simp only
 rw [if_neg (by omega)]
 rw [List.take_length] at e1
 refine ⟨_,rfl,e1,fun x=>?_⟩
 rw [e2]
 constructor
 ·rintro ⟨i,t,a,q1,q2⟩; exact ⟨i,t,a,q2⟩
 rintro ⟨i,t,a,q2,q3⟩; exact ⟨i,t,a,(List.getElem?_eq_some_iff.1 q2).1,q2,q3⟩
structure LanesOk (n:TNet) (p:TPart) (u:List TLane):Prop where
 len:u.length≤20
 pw:u.Pairwise ltP
 is:∀ x,x∈u→InL n p x
 all:∀ x,InL n p x→∃ y,y∈u∧y.From=x.From∧y.To=x.To∧y.Ahead≤x.Ahead
theorem p35_ok {n:TNet} {p:TPart} (hn:Few n) (hp:PartOk n p) (ho:outs n≤20):∃ u,p35 n p=some u∧LanesOk n p u:=by
 unfold p35
 rw [p43_ok hn hp]
 simp only [Option.bind_some]
 rw [if_neg (by decide)]
 obtain ⟨L,h1,h2,h3⟩:=raw_ok hn hp
 rw [h1]
 simp only [Option.bind_some]
 obtain ⟨s,k1,k2,k3,k4⟩:=p44_ok p45_cmp (d:=L) (by omega)
 rw [k1]
 simp only [Option.bind_some]
 rw [p48_ok (e:=sameL) p49_eq (by omega)]
 obtain ⟨q1,q2,q3⟩:=cpt_ok k4 s.length (Nat.le_refl _)
 refine ⟨_,rfl,by have:=cpt_le sameL s s.length; omega,q1,fun x hx=>(h3 x).1 ((k3 x).1 (cpt_mem _ hx)),fun x hx=>?_⟩
 obtain ⟨i,hi⟩:=List.getElem?_of_mem ((k3 x).2 ((h3 x).2 hx))
 exact q3 i x (List.getElem?_eq_some_iff.1 hi).1 hi
end Go.Proofs.Ytgbkpiaonlabgaa
namespace Go.Proofs.Ytgbkpiaonlabgaa
open Go Go.Am
def Cand (n:TNet) (P:TPart) (a b:Int) (t q:Nat) (D:Int):Prop:=∃ T,n.Trans[t]? = some T∧q < n.Places.length∧a≠b∧P.Trans[t]? = some a∧P.Places[q]? = some b∧givesB T (q:Int)=true∧D=T.Delay
theorem named_few {n n':TNet} (hn:Few n) (h1:n'.Places.length=n.Places.length) (h2:n'.Trans.length=n.Trans.length) (h3:∀ (i:Nat) t,n.Trans[i]? = some t→∃ t',n'.Trans[i]? = some t'∧Alike t' t) :
  Few n'∧(∀ P,PartOk n P→PartOk n' P)∧outs n'=outs n∧∀ P x,InL n' P x↔InL n P x:=by
 have back:∀ (i:Nat) t',n'.Trans[i]? = some t'→∃ t,n.Trans[i]? = some t∧Alike t' t:=fun i t' hi=>by
  have hlt:=(List.getElem?_eq_some_iff.1 hi).1
  have hg:n.Trans[i]? = some (n.Trans[i]'(by omega)):=List.getElem?_eq_getElem (by omega)
  obtain ⟨t2,k1,k2⟩:=h3 _ _ hg
  rw [hi] at k1
  cases k1
  exact ⟨_,hg,k2⟩
 refine ⟨⟨by rw [h1]; exact hn.np,by rw [h2]; exact hn.nt,fun t' ht'=>?_⟩,fun P hP=>⟨hP.N1,hP.N2,by rw [h1]; exact hP.lp,by rw [h2]; exact hP.lt,hP.vp,hP.vt,fun t q x k1 k2 k3=>?_⟩,?_,fun P x=>?_⟩
 ·obtain ⟨i,hi⟩:=List.getElem?_of_mem ht'
  obtain ⟨t,k1,k2⟩:=back i t' hi
  have:=hn.tr t (List.mem_of_getElem? k1)
  exact ⟨by rw [h1,k2.2.2.1]; exact this.ins,by rw [h1,k2.2.2.2.1]; exact this.nots,by rw [h1,k2.2.2.2.2]; exact this.outs⟩
 ·obtain ⟨y,y1,y2⟩:=back t x k1
  refine hP.tie t q y y1 (by omega) ?_
  unfold tieB looksB givesB at k3 ⊢
  rw [← y2.1,← y2.2.2.1,← y2.2.2.2.1,← y2.2.2.2.2]; exact k3
 ·unfold outs
  congr 1
  apply List.ext_getElem?
  intro i
  rw [List.getElem?_map,List.getElem?_map]
  cases hi:n.Trans[i]? with
  | none=>
   have:n'.Trans[i]? = none:=by rw [List.getElem?_eq_none_iff] at hi ⊢; omega
   rw [this]
  | some t=>
   obtain ⟨t',k1,k2⟩:=h3 i t hi
   rw [k1]
   simp only [Option.map_some]
   rw [k2.2.2.2.2]
 constructor
 ·rintro ⟨i,t,a,q1,q2,q3,q4,q5,q6⟩
  obtain ⟨y,y1,y2⟩:=back i t q1
  exact ⟨i,y,a,y1,by rw [← y2.2.2.2.2]; exact q2,q3,q4,q5,by rw [q6,y2.1]⟩
 rintro ⟨i,t,a,q1,q2,q3,q4,q5,q6⟩
 obtain ⟨y,y1,y2⟩:=h3 i t q1
 exact ⟨i,y,a,y1,by rw [y2.2.2.2.2]; exact q2,q3,q4,q5,by rw [q6,y2.1]⟩
theorem p32_eq:p32=some true:=by
 unfold p32
 let n0:TNet:=TNet.mk [(TPlace.mk ([]:List UInt8) (0:Int)),(TPlace.mk ([]:List UInt8) (0:Int))] [(TTrans.mk ([]:List UInt8) (3:Int) (0:Int) [(TArc.mk (0:Int) (1:Int))] [] [(TArc.mk (1:Int) (1:Int))])]
 have f0:Few n0:=by
  refine ⟨by decide,by decide,fun t ht=>?_⟩
  rw [List.mem_singleton] at ht; subst ht
  refine ⟨⟨by decide,fun a ha=>?_⟩,⟨by decide,fun a ha=>by cases ha⟩,⟨by decide,fun a ha=>?_⟩⟩<;>(rw [List.mem_singleton] at ha; subst ha; decide)
 have p0:PartOk n0 ⟨2,[0,1],[0]⟩:=by
  refine ⟨by decide,by decide,rfl,rfl,by decide,by decide,fun t q x h1 h2 h3=>?_⟩
  have ht:t=0:=by
   have:t < 1:=(List.getElem?_eq_some_iff.1 h1).1
   omega
  subst ht
  cases h1
  rcases (show q=0∨q=1 by have:q < 2:=h2; omega) with rfl | rfl
  ·rfl
  exact absurd h3 (by decide)
 obtain ⟨n',h1,h2,h3,h4⟩:=p23_ok (n:=n0) (by decide) (by decide)
 rw [show p23 (TNet.mk [(TPlace.mk ([]:List UInt8) (0:Int)),(TPlace.mk ([]:List UInt8) (0:Int))] [(TTrans.mk ([]:List UInt8) (3:Int) (0:Int) [(TArc.mk (0:Int) (1:Int))] [] [(TArc.mk (1:Int) (1:Int))])])=some n' from h1]
 simp only [Option.bind_some]
 obtain ⟨k1,k2,k3,k4⟩:=named_few f0 h2 h3 h4
 obtain ⟨u,q1,q2⟩:=p35_ok k1 (k2 _ p0) (by rw [k3]; decide)
 rw [q1]
 simp only [Option.bind_some]
 have only:∀ x,InL n' ⟨2,[0,1],[0]⟩ x↔x=⟨0,1,3⟩:=fun x=>by
  rw [k4]
  constructor
  ·rintro ⟨i,t,a,e1,e2,e3,e4,e5,e6⟩
   have ht:i=0:=by
    have:i < 1:=(List.getElem?_eq_some_iff.1 e1).1
    omega
   subst ht
   cases e1
   rw [List.mem_singleton] at e2
   subst e2
   obtain ⟨x1,x2,x3⟩:=x
   simp at e3 e4 e6
   subst e3 e4 e6
   rfl
  rintro rfl
  exact ⟨0,_,⟨1,1⟩,rfl,List.mem_singleton.2 rfl,rfl,rfl,by decide,rfl⟩
 obtain ⟨y,y1,y2,y3,y4⟩:=q2.all ⟨0,1,3⟩ ((only _).2 rfl)
 have hu:u=[⟨0,1,3⟩]:=by
  match u,q2,y1 with
  | [],_,y1=>cases y1
  | [z],q2,_=>rw [(only z).1 (q2.is z (List.mem_singleton.2 rfl))]
  | z::w::l,q2,_=>
   have e1:=(only z).1 (q2.is z (by simp))
   have e2:=(only w).1 (q2.is w (by simp))
   have:=(List.pairwise_cons.1 q2.pw).1 w (by simp)
   subst e1 e2
   unfold ltP at this
   simp at this
 rw [hu]
 rfl
end Go.Proofs.Ytgbkpiaonlabgaa
namespace Go.Proofs.Ytgbkpiaonlabgaa
open Go Go.Am
theorem cpl_get {l m:List Int} {lo hi:Nat} (h1:lo≤hi) (h2:hi≤l.length) (i:Nat):(cpl l lo hi m)[i]? = if i < lo then l[i]? else if i < lo+Nat.min (hi - lo) m.length then m[i - lo]? else l[i]?:=by
 unfold cpl
 have e1:(l.take lo).length=lo:=by simp; omega
 have e2:(m.take (hi - lo)).length=Nat.min (hi - lo) m.length:=List.length_take
 by_cases c1:i < lo
 ·rw [if_pos c1,List.getElem?_append_left (by omega),List.getElem?_take,if_pos c1]
 rw [if_neg c1,List.getElem?_append_right (by omega),e1]
 by_cases c2:i < lo+Nat.min (hi - lo) m.length
 ·have:Nat.min (hi - lo) m.length≤hi - lo:=Nat.min_le_left _ _
  rw [if_pos c2,List.getElem?_append_left (by omega),List.getElem?_take,if_pos (by omega)]
 rw [if_neg c2,List.getElem?_append_right (by omega),e2,List.getElem?_drop]
 congr 1; omega
theorem nmin (a b:Nat):Nat.min a b≤a∧Nat.min a b≤b∧(Nat.min a b=a∨Nat.min a b=b):=by
 have:Nat.min a b=min a b:=rfl
 rw [this]; omega
theorem neL_ok {α:Type} {l:List α} (h:0 < l.length):neL l=some ():=by
 unfold neL
 rw [if_neg]
 cases l with
 | nil=>simp at h
 | cons a l=>simp
theorem mul_ok:∀ k:Fin 33,p60 (IntKind.wrap .u64 1) (IntKind.wrap .u64 ((k:Nat):Int))=some (0,((k:Nat):Int)):=by decide +kernel
theorem p52_ok {x:Int} {K:Nat} (h1:0 < K) (h2:K≤32):p52 [x] (K:Int)=some (List.replicate K x):=by
 unfold p52
 rw [if_neg (by omega)]
 unfold p52_j2
 have:=mul_ok ⟨K,by omega⟩
 simp only at this
 rw [show (([x].length:Nat):Int)=1 from rfl,this]
 simp only [Option.bind_some]
 rw [if_neg (by omega),decide_eq_false (by omega)]
 unfold p52_j1
 rw [if_neg (by decide)]
 unfold p52_j0
 simp only
 rw [wrap64 (by omega) (by omega),mkS_ok (by omega) (by omega)]
 simp only [Option.bind_some,Int.toNat_natCast]
 rw [neL_ok (by simp; omega),neL_ok (l:=[x]) (by simp)]
 simp only [Option.bind_some]
 have hmin:Nat.min [x].length (List.replicate K (0:Int)).length=1:=by
  have:=nmin [x].length (List.replicate K (0:Int)).length
  simp at this ⊢; omega
 rw [hmin]
 suffices key:∃ r,loopC p52_l0 (((1:Nat):Int),cpl (List.replicate K 0) 0 (List.replicate K (0:Int)).length [x])=some r∧r=List.replicate K x by
  obtain ⟨r,e1,e2⟩:=key
  rw [e1,e2]; rfl
 refine loopC_rule (fun s=>∃ n:Nat,s.1=(n:Int)∧0 < n∧n≤K∧s.2.length=K∧∀ i,i < n→s.2[i]? = some x) (fun s=>K - s.1.toNat) _ ?_ ⟨1,rfl,by omega,by omega,by rw [cpl_len (by omega) (Nat.le_refl _)]; simp,fun i hi=>?_⟩
 ·rintro ⟨I,l⟩ ⟨n,e,h3,h4,h5,h6⟩
  simp only at e h5 h6
  subst e
  unfold p52_l0
  simp only
  by_cases hn:n < K
  ·left
   rw [if_pos (by omega)]
   have s1:slc l (n:Int) (l.length:Int)=some (l.drop n):=by unfold slc; rw [if_pos ⟨by omega,by omega,by omega⟩]; simp
   have s2:slc l (0:Int) (n:Int)=some (l.take n):=by unfold slc; rw [if_pos ⟨by omega,by omega,by omega⟩]; simp
   rw [s1,s2]
   simp only [Option.bind_some,Int.toNat_natCast]
   rw [neL_ok (by simp; omega),neL_ok (by simp; omega)]
   simp only [Option.bind_some]
   have hm:Nat.min (l.take n).length (l.drop n).length=Nat.min n (K - n):=by
    rw [List.length_take,List.length_drop,h5,Nat.min_eq_left (show n≤K by omega)]
   rw [hm]
   have hmm:=nmin n (K - n)
   have ew:IntKind.wrap .i64 ((n:Int)+((Nat.min n (K - n):Nat):Int))=((n+Nat.min n (K - n):Nat):Int):=by rw [wrap64 (by omega) (by omega)]; omega
   rw [ew]
   refine ⟨_,rfl,⟨n+Nat.min n (K - n),rfl,by omega,by omega,by simp only; rw [cpl_len (by omega) (Nat.le_refl _)]; exact h5,fun i hi=>?_⟩,by simp only; omega⟩
   simp only
   rw [cpl_get (by omega) (Nat.le_refl _),h5]
   by_cases c1:i < n
   ·rw [if_pos c1]; exact h6 i c1
   have hl:(l.take n).length=n:=by simp; omega
   have hcm:Nat.min (K - n) n=Nat.min n (K - n):=Nat.min_comm _ _
   rw [if_neg c1,hl,hcm,if_pos hi]
   rw [List.getElem?_take,if_pos (by omega)]
   exact h6 _ (by omega)
  right
  rw [if_neg (by omega)]
  refine ⟨_,rfl,?_⟩
  apply List.ext_getElem?
  intro i
  rw [List.getElem?_replicate]
  by_cases c:i < K
  ·rw [if_pos c]; exact h6 i (by omega)
  rw [if_neg c,List.getElem?_eq_none (by omega)]
 obtain rfl:i=0:=by omega
 simp only
 have:=nmin ((List.replicate K (0:Int)).length - 0) [x].length
 rw [cpl_get (by omega) (Nat.le_refl _),if_neg (by omega),if_pos]
 ·rfl
 simp at this ⊢; omega
def far:Int:=1152921504606846976
inductive WayK (U:List TLane) (N k a:Nat):Nat→Int→Prop where
 | one {x:TLane} {j:Nat}:x∈U→x.From=(a:Int)→x.To=(j:Int)→a < N→j < N→WayK U N k a j x.Ahead
 | step {i j:Nat} {w:Int} {x:TLane}:WayK U N k a i w→i < k→x∈U→x.From=(i:Int)→x.To=(j:Int)→i < N→j < N→WayK U N k a j (w+x.Ahead)
section
variable {U:List TLane} {N k:Nat}
theorem WayK.lt {a b:Nat} {w:Int} (h:WayK U N k a b w):a < N∧b < N:=by
 induction h with
 | one _ _ _ h1 h2=>exact ⟨h1,h2⟩
 | step _ _ _ _ _ _ h2 ih=>exact ⟨ih.1,h2⟩
theorem WayK.mono {k':Nat} (hk:k≤k') {a b:Nat} {w:Int} (h:WayK U N k a b w):WayK U N k' a b w:=by
 induction h with
 | one h0 h1 h2 h3 h4=>exact .one h0 h1 h2 h3 h4
 | step _ h0 h1 h2 h3 h4 h5 ih=>exact .step ih (by omega) h1 h2 h3 h4 h5
theorem WayK.all {a b:Nat} {w:Int} (h:WayK U N k a b w):WayK U N N a b w:=by
 induction h with
 | one h0 h1 h2 h3 h4=>exact .one h0 h1 h2 h3 h4
 | step _ h0 h1 h2 h3 h4 h5 ih=>exact .step ih h4 h1 h2 h3 h4 h5
theorem WayK.trans {a b c:Nat} {w v:Int} (h:WayK U N N a b w) (g:WayK U N N b c v):WayK U N N a c (w+v):=by
 induction g with
 | one h0 h1 h2 h3 h4=>exact .step h h3 h0 h1 h2 h3 h4
 | step _ h0 h1 h2 h3 h4 h5 ih=>rw [← Int.add_assoc]; exact .step ih h0 h1 h2 h3 h4 h5
theorem WayK.pos (hp:∀ x,x∈U→1≤x.Ahead) {a b:Nat} {w:Int} (h:WayK U N k a b w):1≤w:=by
 induction h with
 | one h0=>exact hp _ h0
 | step _ _ h1 _ _ _ _ ih=>have:=hp _ h1; omega
theorem WayK.split (hp:∀ x,x∈U→1≤x.Ahead) {a b:Nat} {w:Int} (h:WayK U N (k+1) a b w):(∃ w',WayK U N k a b w'∧w'≤w)∨∃ w1 w2,WayK U N k a k w1∧WayK U N k k b w2∧w1+w2≤w:=by
 induction h with
 | one h0 h1 h2 h3 h4=>exact .inl ⟨_,.one h0 h1 h2 h3 h4,Int.le_refl _⟩
 | @step i j w x _ h0 h1 h2 h3 h4 h5 ih=>
  have hx:=hp x h1
  rcases ih with ⟨w',i1,i2⟩ | ⟨w1,w2,i1,i2,i3⟩
  ·by_cases hi:i < k
   ·exact .inl ⟨_,.step i1 hi h1 h2 h3 h4 h5,by omega⟩
   obtain rfl:i=k:=by omega
   exact .inr ⟨_,_,i1,.one h1 h2 h3 h4 h5,by omega⟩
  by_cases hi:i < k
  ·exact .inr ⟨_,_,i1,.step i2 hi h1 h2 h3 h4 h5,by omega⟩
  obtain rfl:i=k:=by omega
  have:=i2.pos hp
  exact .inr ⟨_,_,i1,.one h1 h2 h3 h4 h5,by omega⟩
def Mat (N:Nat) (y:List (List Int)) (d:Nat→Nat→Int):Prop:=y.length=N∧∀ i,i < N→∃ row,y[i]? = some row∧row.length=N∧∀ j,j < N→row[j]? = some (d i j)
theorem Mat.set {y:List (List Int)} {d:Nat→Nat→Int} (h:Mat N y d) {i j:Nat} {row:List Int} (hi:i < N) (hj:j < N) (hr:y[i]? = some row) (v:Int):Mat N (y.set i (row.set j v)) (fun a b=>if a=i∧b=j then v else d a b):=by
 refine ⟨by simpa using h.1,fun a ha=>?_⟩
 obtain ⟨r,r1,r2,r3⟩:=h.2 a ha
 by_cases e:a=i
 ·subst e
  rw [hr] at r1; cases r1
  refine ⟨row.set j v,List.getElem?_set_self (by have:=h.1; omega),by simpa using r2,fun b hb=>?_⟩
  dsimp only
  by_cases e2:b=j
  ·subst e2; rw [List.getElem?_set_self (by omega),if_pos ⟨rfl,rfl⟩]
  rw [List.getElem?_set_ne (by omega),if_neg (fun h=>e2 h.2)]; exact r3 b hb
 refine ⟨r,by rw [List.getElem?_set_ne (by omega)]; exact r1,r2,fun b hb=>?_⟩
 dsimp only
 rw [if_neg (fun h=>e h.1)]; exact r3 b hb
theorem Mat.congr {y:List (List Int)} {d e:Nat→Nat→Int} (h:Mat N y d) (he:∀ i j,i < N→j < N→d i j=e i j):Mat N y e:=by
 refine ⟨h.1,fun i hi=>?_⟩
 obtain ⟨r,r1,r2,r3⟩:=h.2 i hi
 exact ⟨r,r1,r2,fun j hj=>by rw [r3 j hj,he i j hi hj]⟩
theorem clampN (hN:N≤32):(if (32:Int) < (if (N:Int) < (0:Int) then (0:Int) else (N:Int)) then (32:Int) else (if (N:Int) < (0:Int) then (0:Int) else (N:Int)))=(N:Int):=by
 rw [if_neg (show ¬ (N:Int) < 0 by omega),if_neg (by omega)]
theorem incM {i:Nat} (h:i≤1000000000):IntKind.wrap .i64 ((i:Int)+1)=((i+1:Nat):Int):=by rw [wrap64 (by omega) (by omega)]; omega
theorem ph1 (hN:N≤32):∃ y,loopC (p38_l0 (N:Int)) ((0:Int),List.replicate N [])=some y∧Mat N y (fun _ _=>far):=by
 refine loop_up (f:=p38_l0 (N:Int)) N (by omega) (fun k (y:List (List Int))=>y.length=N∧∀ i,i < k→y[i]? = some (List.replicate N far)) _ ?_ ?_ ⟨by simp,fun i h=>by omega⟩
 ·intro k y hk ⟨h1,h2⟩
  left
  unfold p38_l0
  simp only
  rw [clampN hN,Int.toNat_natCast,if_pos (by omega),p52_ok (by omega) hN]
  simp only [Option.bind_some]
  rw [idx_get (show k < y.length by omega)]
  simp only [Option.bind_some,Int.toNat_natCast]
  refine ⟨_,rfl,by simpa using h1,fun i hi=>?_⟩
  by_cases e:i=k
  ·subst e; rw [List.getElem?_set_self (by omega)]; rfl
  rw [List.getElem?_set_ne (by omega)]; exact h2 i (by omega)
 intro y ⟨h1,h2⟩
 unfold p38_l0
 simp only
 rw [clampN hN,Int.toNat_natCast,if_neg (by omega)]
 refine ⟨_,rfl,h1,fun i hi=>⟨_,h2 i hi,by simp,fun j hj=>by rw [List.getElem?_replicate,if_pos hj]⟩⟩
theorem p53_eq (i n:Int):p53 i n=some (decide (0≤i)&&decide (i < n)):=by
 unfold p53 p53_j0
 split<;>rename_i h<;>simp [h]
def Low (U:List TLane) (N:Nat) (d:Nat→Nat→Int):Prop:=∀ i j,i < N→j < N→1≤d i j∧d i j≤far∧(d i j=far∨∃ x,x∈U∧x.From=(i:Int)∧x.To=(j:Int)∧x.Ahead=d i j)∧∀ x,x∈U→x.From=(i:Int)→x.To=(j:Int)→d i j≤x.Ahead
theorem ph2 (hN:N≤32) (hU:U.length≤1000000) (hp:∀ x,x∈U→1≤x.Ahead) {y0:List (List Int)} (h0:Mat N y0 (fun _ _=>far)):∃ y,loopC (p38_l1 U (N:Int)) ((0:Int),y0)=some y∧∃ d,Mat N y d∧Low U N d:=by
 refine loop_up (f:=p38_l1 U (N:Int)) U.length (by omega) (fun k (y:List (List Int))=>∃ d,Mat N y d∧Low (U.take k) N d) _ ?_ ?_ ⟨_,h0,fun i j hi hj=>⟨by unfold far; omega,Int.le_refl _,.inl rfl,fun x hx=>by simp at hx⟩⟩
 ·intro k y hk ⟨d,h1,h2⟩
  left
  unfold p38_l1
  simp only
  rw [if_pos (by omega),idx_get hk,clampN hN]
  simp only [Option.bind_some,p53_eq]
  have hmem:=List.getElem_mem hk
  have htk:=List.take_succ_eq_append_getElem hk
  rw [htk]
  generalize U[k]=x at hmem
  have hx:=hp x hmem
  unfold p38_j0 at *
  have skip:¬ (0≤x.From∧x.From < (N:Int)∧0≤x.To∧x.To < (N:Int))→∃ s',p38_j1 (k:Int) y x false=some (.inl (IntKind.wrap .i64 ((k:Int)+1),s'))∧∃ d,Mat N s' d∧Low (U.take k++[x]) N d:=fun hno=>by
   unfold p38_j1 p38_j0
   rw [if_neg (by decide)]
   refine ⟨_,rfl,d,h1,fun i j hi hj=>?_⟩
   obtain ⟨q1,q2,q3,q4⟩:=h2 i j hi hj
   refine ⟨q1,q2,?_,fun z hz e1 e2=>?_⟩
   ·rcases q3 with q3 | ⟨z,z1,z2⟩
    ·exact .inl q3
    exact .inr ⟨z,List.mem_append_left _ z1,z2⟩
   rcases List.mem_append.1 hz with hz | hz
   ·exact q4 z hz e1 e2
   rw [List.mem_singleton] at hz; subst hz; omega
  by_cases c1:0≤x.From∧x.From < (N:Int)
  ·rw [if_pos (by simp [c1])]
   by_cases c2:0≤x.To∧x.To < (N:Int)
   ·rw [show (decide (0≤x.To)&&decide (x.To < (N:Int)))=true by simp [c2]]
    unfold p38_j1 p38_j0
    rw [if_pos rfl]
    obtain ⟨i,ei⟩:∃ i:Nat,x.From=(i:Int):=⟨x.From.toNat,by omega⟩
    obtain ⟨j,ej⟩:∃ j:Nat,x.To=(j:Int):=⟨x.To.toNat,by omega⟩
    obtain ⟨row,r1,r2,r3⟩:=h1.2 i (by omega)
    rw [ei,ej,idx_ok r1]
    simp only [Option.bind_some]
    rw [idx_ok (r3 j (by omega))]
    simp only [Option.bind_some,Int.toNat_natCast]
    refine ⟨_,rfl,_,h1.set (i:=i) (j:=j) (by omega) (by omega) r1 _,fun a b ha hb=>?_⟩
    obtain ⟨q1,q2,q3,q4⟩:=h2 a b ha hb
    have old:∀ z,z∈U.take k++[x]→z.From=(a:Int)→z.To=(b:Int)→z∈U.take k∨(z=x∧a=i∧b=j):=fun z hz e1 e2=>by
     rcases List.mem_append.1 hz with hz | hz
     ·exact .inl hz
     rw [List.mem_singleton] at hz; subst hz; exact .inr ⟨rfl,by omega,by omega⟩
    by_cases e:a=i∧b=j
    ·rw [if_pos e]
     obtain ⟨rfl,rfl⟩:=e
     by_cases hlt:x.Ahead < d a b
     ·rw [if_pos hlt]
      refine ⟨hx,by omega,.inr ⟨x,List.mem_append_right _ (List.mem_singleton.2 rfl),ei,ej,rfl⟩,fun z hz e1 e2=>?_⟩
      rcases old z hz e1 e2 with h | ⟨rfl,_⟩
      ·have:=q4 z h e1 e2; omega
      exact Int.le_refl _
     rw [if_neg hlt]
     refine ⟨q1,q2,?_,fun z hz e1 e2=>?_⟩
     ·rcases q3 with q3 | ⟨z,z1,z2⟩
      ·exact .inl q3
      exact .inr ⟨z,List.mem_append_left _ z1,z2⟩
     rcases old z hz e1 e2 with h | ⟨rfl,_⟩
     ·exact q4 z h e1 e2
     omega
    rw [if_neg e]
    refine ⟨q1,q2,?_,fun z hz e1 e2=>?_⟩
    ·rcases q3 with q3 | ⟨z,z1,z2⟩
     ·exact .inl q3
     exact .inr ⟨z,List.mem_append_left _ z1,z2⟩
    rcases old z hz e1 e2 with h | ⟨_,h⟩
    ·exact q4 z h e1 e2
    exact absurd h e
   rw [show (decide (0≤x.To)&&decide (x.To < (N:Int)))=false by simp; omega]
   exact skip (by omega)
  rw [if_neg (by simp; omega)]
  exact skip (by omega)
 intro y h
 unfold p38_l1
 simp only
 rw [if_neg (by omega)]
 rw [List.take_length] at h
 exact ⟨_,rfl,h⟩
def Mid (U:List TLane) (N k:Nat) (d:Nat→Nat→Int):Prop:=∀ i j,i < N→j < N→1≤d i j∧d i j≤far∧(d i j=far∨WayK U N N i j (d i j))∧∀ w,WayK U N k i j w→d i j≤w
def mn (a b:Int):Int:=if b < a then b else a
theorem ph3 (hN:N≤32) (hp:∀ x,x∈U→1≤x.Ahead) {y0:List (List Int)} {d0:Nat→Nat→Int} (h0:Mat N y0 d0) (hl:Low U N d0):∃ y,loopC (p38_l4 (N:Int)) ((0:Int),y0)=some y∧∃ d,Mat N y d∧Mid U N N d:=by
 refine loop_up (f:=p38_l4 (N:Int)) N (by omega) (fun k (y:List (List Int))=>∃ d,Mat N y d∧Mid U N k d) _ ?_ ?_ ⟨d0,h0,fun i j hi hj=>?_⟩
 ·intro k y hk ⟨e,h1,h2⟩
  left
  unfold p38_l4
  simp only
  rw [clampN hN,if_pos (by omega)]
  have fin:∀ {y:List (List Int)} {d:Nat→Nat→Int},Mat N y d→(∀ a b,a < N→b < N→d a b=mn (e a b) (e a k+e k b))→Mid U N (k+1) d:=fun {y d} hm hd i j hi hj=>by
   rw [hd i j hi hj]
   obtain ⟨q1,q2,q3,q4⟩:=h2 i j hi hj
   obtain ⟨s1,s2,s3,s4⟩:=h2 i k hi hk
   obtain ⟨t1,t2,t3,t4⟩:=h2 k j hk hj
   unfold mn
   split
   ·refine ⟨by omega,by omega,.inr ?_,fun w hw=>?_⟩
    ·rcases s3 with s3 | s3
     ·omega
     rcases t3 with t3 | t3
     ·omega
     exact s3.trans t3
    rcases hw.split hp with ⟨w',w1,w2⟩ | ⟨w1,w2,w3,w4,w5⟩
    ·have:=q4 _ w1; omega
    have:=s4 _ w3; have:=t4 _ w4; omega
   refine ⟨q1,q2,q3,fun w hw=>?_⟩
   rcases hw.split hp with ⟨w',w1,w2⟩ | ⟨w1,w2,w3,w4,w5⟩
   ·have:=q4 _ w1; omega
   have:=s4 _ w3; have:=t4 _ w4; omega
  suffices key:∃ z,loopC (p38_l3 (N:Int) (k:Int)) ((0:Int),y)=some z∧Mat N z (fun a b=>mn (e a b) (e a k+e k b)) by
   obtain ⟨z,z1,z2⟩:=key
   rw [z1]
   exact ⟨_,rfl,_,z2,fin z2 fun a b _ _=>rfl⟩
  refine loop_up (f:=p38_l3 (N:Int) (k:Int)) N (by omega) (fun i (z:List (List Int))=>Mat N z (fun a b=>if a < i then mn (e a b) (e a k+e k b) else e a b)) _ ?_ ?_ (h1.congr fun a b _ _=>by rw [if_neg (by omega)])
  ·intro i z hi hz
   left
   unfold p38_l3
   simp only
   rw [clampN hN,if_pos (by omega)]
   suffices key:∃ u,loopC (p38_l2 (N:Int) (k:Int) (i:Int)) ((0:Int),z)=some u∧Mat N u (fun a b=>if a < i∨a=i∧b < N then mn (e a b) (e a k+e k b) else e a b) by
    obtain ⟨u,u1,u2⟩:=key
    rw [u1]
    refine ⟨_,rfl,u2.congr fun a b _ hb=>?_⟩
    by_cases c:a < i+1
    ·rw [if_pos c,if_pos (by omega)]
    rw [if_neg c,if_neg (by omega)]
   refine loop_up (f:=p38_l2 (N:Int) (k:Int) (i:Int)) N (by omega) (fun j (u:List (List Int))=>Mat N u (fun a b=>if a < i∨a=i∧b < j then mn (e a b) (e a k+e k b) else e a b)) _ ?_ ?_ (hz.congr fun a b _ _=>?_)
   ·intro j u hj hu
    left
    unfold p38_l2
    simp only
    rw [clampN hN,if_pos (by omega)]
    obtain ⟨ri,i1,i2,i3⟩:=hu.2 i hi
    obtain ⟨rk,k1,k2,k3⟩:=hu.2 k hk
    obtain ⟨q1,q2,_,_⟩:=h2 i j hi hj
    obtain ⟨s1,s2,_,_⟩:=h2 i k hi hk
    obtain ⟨t1,t2,_,_⟩:=h2 k j hk hj
    obtain ⟨v1,v2,_,_⟩:=h2 k k hk hk
    have f1:far=1152921504606846976:=rfl
    rw [idx_ok i1,idx_ok k1]
    simp only [Option.bind_some]
    have e1:ri[j]? = some (e i j):=by rw [i3 j hj]; dsimp only; rw [if_neg (by omega)]
    have e2:ri[k]? = some (e i k):=by
     rw [i3 k hk]; dsimp only
     split
     ·unfold mn; rw [if_neg (by omega)]
     rfl
    have e3:rk[j]? = some (e k j):=by
     rw [k3 j hj]; dsimp only
     split
     ·unfold mn; rw [if_neg (by omega)]
     rfl
    rw [idx_ok e1,idx_ok e2,idx_ok e3]
    simp only [Option.bind_some,Int.toNat_natCast]
    rw [wrap64 (n:=e i k+e k j) (by omega) (by omega)]
    refine ⟨_,rfl,(hu.set hi hj i1 _).congr fun a b ha hb=>?_⟩
    by_cases c:a=i∧b=j
    ·rw [if_pos c,if_pos (show a < i∨a=i∧b < j+1 by omega),c.1,c.2]; rfl
    rw [if_neg c]
    by_cases c2:a < i∨a=i∧b < j
    ·rw [if_pos c2,if_pos (by omega)]
    rw [if_neg c2,if_neg (by omega)]
   ·intro u hu
    unfold p38_l2
    simp only
    rw [clampN hN,if_neg (by omega)]
    exact ⟨_,rfl,hu⟩
   by_cases c:a < i
   ·rw [if_pos c,if_pos (by omega)]
   rw [if_neg c,if_neg (by omega)]
  intro z hz
  unfold p38_l3
  simp only
  rw [clampN hN,if_neg (by omega)]
  exact ⟨_,rfl,hz.congr fun a b ha hb=>by rw [if_pos ha]⟩
 ·intro y h
  unfold p38_l4
  simp only
  rw [clampN hN,if_neg (by omega)]
  exact ⟨_,rfl,h⟩
 obtain ⟨q1,q2,q3,q4⟩:=hl i j hi hj
 refine ⟨q1,q2,?_,fun w hw=>?_⟩
 ·rcases q3 with q3 | ⟨x,x1,x2,x3,x4⟩
  ·exact .inl q3
  right; rw [← x4]; exact .one x1 x2 x3 hi hj
 cases hw with
 | one h0 h1 h2 h3 h4=>exact q4 _ h0 h1 h2
 | step _ h0=>omega
theorem p38_ok (hN:N≤32) (hU:U.length≤1000000) (hp:∀ x,x∈U→1≤x.Ahead):∃ r,p38 U (N:Int)=some r∧((r = -1∧∀ i w,WayK U N N i i w→far≤w)∨((∃ i,WayK U N N i i r)∧∀ i w,WayK U N N i i w→r≤w)):=by
 unfold p38
 rw [clampN hN,mkS_ok (by omega) (by omega)]
 simp only [Option.bind_some,Int.toNat_natCast]
 obtain ⟨y1,a1,a2⟩:=ph1 hN
 rw [a1]
 simp only [Option.bind_some]
 obtain ⟨y2,b1,d2,b2,b3⟩:=ph2 (U:=U) hN hU hp a2
 rw [b1]
 simp only [Option.bind_some]
 obtain ⟨y3,c1,d3,c2,c3⟩:=ph3 hN hp b2 b3
 rw [c1]
 simp only [Option.bind_some]
 suffices key:∃ b,loopC (p38_l5 (N:Int) y3) ((1152921504606846976:Int),(0:Int))=some b∧(b=far∨∃ i,i < N∧b=d3 i i)∧∀ i,i < N→b≤d3 i i by
  obtain ⟨b,k1,k2,k3⟩:=key
  rw [k1]
  simp only [Option.bind_some]
  have low:∀ i w,WayK U N N i i w→b≤w:=fun i w hw=>by
   have hi:=hw.lt.1
   have:=k3 i hi
   have:=(c3 i i hi hi).2.2.2 w hw
   omega
  by_cases e:b=far
  ·rw [if_pos (show b=1152921504606846976 from e)]
   exact ⟨_,rfl,.inl ⟨rfl,fun i w hw=>e▸low i w hw⟩⟩
  rw [if_neg (show ¬ b=1152921504606846976 from e)]
  refine ⟨_,rfl,.inr ⟨?_,low⟩⟩
  rcases k2 with k2 | ⟨i,i1,i2⟩
  ·exact absurd k2 e
  rcases (c3 i i i1 i1).2.2.1 with h | h
  ·exact absurd (i2.trans h) e
  exact ⟨i,i2▸h⟩
 refine loop_cnt N (fun k (s:Int×Int)=>s.2=(k:Int)∧(s.1=far∨∃ i,i < k∧s.1=d3 i i)∧∀ i,i < k→s.1≤d3 i i) _ ?_ ?_ ⟨rfl,.inl rfl,fun i hi=>by omega⟩
 ·rintro k ⟨b,I⟩ hk ⟨e,k1,k2⟩
  simp only at e k1 k2
  subst e
  left
  unfold p38_l5
  simp only
  rw [clampN hN,if_pos (by omega)]
  obtain ⟨row,r1,r2,r3⟩:=c2.2 k hk
  rw [idx_ok r1]
  simp only [Option.bind_some]
  rw [idx_ok (r3 k hk)]
  simp only [Option.bind_some]
  refine ⟨_,rfl,incM (by omega),?_,fun i hi=>?_⟩
  ·simp only
   split
   ·exact .inr ⟨k,by omega,rfl⟩
   rcases k1 with k1 | ⟨i,i1,i2⟩
   ·exact .inl k1
   exact .inr ⟨i,by omega,i2⟩
  simp only
  by_cases e:i=k
  ·subst e; split<;>omega
  have:=k2 i (by omega)
  split<;>omega
 rintro ⟨b,I⟩ ⟨e,k1,k2⟩
 simp only at e k1 k2
 subst e
 unfold p38_l5
 simp only
 rw [clampN hN,if_neg (by omega)]
 exact ⟨_,rfl,k1,k2⟩
end
end Go.Proofs.Ytgbkpiaonlabgaa
namespace Go.Proofs.Ytgbkpiaonlabgaa
open Go Go.Am
def lanB (f t:Int) (x:TLane):Bool:=decide (x.From=f)&&decide (x.To=t)
theorem p51_eq (x:TLane) (f t:Int):p51 x f t=some (lanB f t x):=by
 unfold p51 p51_j0 lanB
 split<;>rename_i h<;>simp [h]
theorem p37_yes {L:List TLane} (hL:L.length≤1000000) {f t:Int} {k:Nat} {x:TLane} (hx:L[k]? = some x) (hy:lanB f t x=true) (h:∀ i y,i < k→L[i]? = some y→lanB f t y=false):p37 L f t=some (k:Int):=by
 have hkl:=(List.getElem?_eq_some_iff.1 hx).1
 suffices key:∃ r,loopC (p50_l0 L (fun y0=>p51 y0 f t)) (0:Int)=some r∧r=.inl (k:Int) by
  obtain ⟨r,e1,e2⟩:=key
  unfold p37 p50
  rw [e1,e2]; rfl
 refine loop_cnt k (fun k s=>s=(k:Int)) _ ?_ ?_ rfl
 ·rintro i s hk rfl
  left
  unfold p50_l0
  have hg:=List.getElem?_eq_getElem (show i < L.length by omega)
  rw [if_pos (by omega),idx_ok hg]
  simp only [Option.bind_some,p51_eq]
  rw [if_neg (by rw [h i _ hk hg]; decide)]
  exact ⟨_,rfl,incN (by omega)⟩
 rintro s rfl
 unfold p50_l0
 rw [if_pos (by omega),idx_ok hx]
 simp only [Option.bind_some,p51_eq]
 rw [if_pos hy]
 exact ⟨_,rfl,rfl⟩
def Best (n:TNet) (P:TPart) (a b:Int) (S:Nat→Nat→Prop) (v:Int):Prop:=(v = -1∧∀ t q D,S t q→¬ Cand n P a b t q D)∨(0≤v∧(∃ t q,S t q∧Cand n P a b t q v)∧∀ t q D,S t q→Cand n P a b t q D→v≤D)
end Go.Proofs.Ytgbkpiaonlabgaa
namespace Go.Proofs.Ytgbkpiaonlabgaa
open Go Go.Am
theorem pw_ext:∀ {l l':List TLane},l.Pairwise ltP→l'.Pairwise ltP→(∀ x,x∈l↔x∈l')→l=l'
 | [],[],_,_,_=>rfl
 | [],b::l',_,_,h=>by have:=(h b).2 (by simp); cases this
 | a::l,[],_,_,h=>by have:=(h a).1 (by simp); cases this
 | a::l,b::l',h1,h2,h=>by
  have p1:=List.pairwise_cons.1 h1
  have p2:=List.pairwise_cons.1 h2
  have irr:∀ x:TLane,¬ ltP x x:=fun x hx=>by unfold ltP at hx; omega
  have asy:∀ x y:TLane,ltP x y→¬ ltP y x:=fun x y hx hy=>by unfold ltP at hx hy; omega
  have e:a=b:=by
   rcases List.mem_cons.1 ((h a).1 (by simp)) with e | e
   ·exact e
   rcases List.mem_cons.1 ((h b).2 (by simp)) with e' | e'
   ·exact e'.symm
   exact absurd (p2.1 a e) (asy _ _ (p1.1 b e'))
  subst e
  rw [pw_ext p1.2 p2.2 fun x=>?_]
  constructor
  ·intro hx
   rcases List.mem_cons.1 ((h x).1 (by simp [hx])) with e | e
   ·subst e; exact absurd (p1.1 x hx) (irr x)
   exact e
  intro hx
  rcases List.mem_cons.1 ((h x).2 (by simp [hx])) with e | e
  ·subst e; exact absurd (p2.1 x hx) (irr x)
  exact e
section
variable {l:List Int}
def aG (l:List Int) (i:Nat):Int:=1+l.getD i 0
def pot (l:List Int):Nat→Int
 | 0=>0
 | i+1=>pot l i+aG l i
def nx (l:List Int) (i:Nat):Nat:=(i+1) % l.length
def trG (l:List Int) (i:Nat):TTrans:=TTrans.mk [] (aG l i) 0 [TArc.mk (i:Int) 1] [] [TArc.mk (nx l i:Int) 1]
def laneG (l:List Int) (i:Nat):TLane:=⟨(i:Int),(nx l i:Int),aG l i⟩
def nums (k:Nat):List Int:=(List.range k).map fun i:Nat=>(i:Int)
theorem aG_b (h8:∀ v,v∈l→B8 v) (i:Nat):1≤aG l i∧aG l i≤256:=by
 unfold aG
 rw [List.getD_eq_getElem?_getD]
 cases hi:l[i]? with
 | none=>simp
 | some v=>
  have:=h8 v (List.mem_of_getElem? hi)
  unfold B8 at this
  simp; omega
theorem pot_b (h8:∀ v,v∈l→B8 v):∀ k,0≤pot l k∧pot l k≤256 * k
 | 0=>by simp [pot]
 | k+1=>by have:=pot_b h8 k; have:=aG_b h8 k; simp only [pot]; omega
theorem nx_lt (hl:0 < l.length) (i:Nat):nx l i < l.length:=Nat.mod_lt _ hl
theorem nx_eq {i:Nat} (h:i < l.length):nx l i=if i+1 < l.length then i+1 else 0:=by
 unfold nx
 split
 ·rename_i hh; exact Nat.mod_eq_of_lt hh
 obtain hh:i+1=l.length:=by omega
 rw [hh,Nat.mod_self]
theorem rem_nx {i:Nat} (hl:0 < l.length) (hl2:l.length≤1000) (hi:i < l.length):remI .i64 (IntKind.wrap .i64 ((i:Int)+1)) (l.length:Int)=some (nx l i:Int):=by
 rw [incM (by omega),remI_ok (by omega),IntWalk.rem_in _ _ (by omega)]
 unfold nx
 rw [Int.natCast_emod]
theorem loop14 (h2:2≤l.length) (h15:l.length≤15) (h8:∀ v,v∈l→B8 v):∃ pl,loopC (p14_l0 l) ((0:Int),(0:Int),[],[],[],[])=some (pot l l.length,pl,(List.range l.length).map (trG l),nums l.length,nums l.length)∧pl.length=l.length:=by
 suffices key:∃ r,loopC (p14_l0 l) ((0:Int),(0:Int),[],[],[],[])=some r∧∃ pl,r=(pot l l.length,pl,(List.range l.length).map (trG l),nums l.length,nums l.length)∧pl.length=l.length by
  obtain ⟨r,k1,pl,rfl,k2⟩:=key
  exact ⟨pl,k1,k2⟩
 refine loop_cnt l.length (fun k s=>∃ pl:List TPlace,s=(pot l k,(k:Int),pl,(List.range k).map (trG l),nums k,nums k)∧pl.length=k) _ ?_ ?_ ⟨[],rfl,rfl⟩
 ·rintro k s hk ⟨pl,rfl,hpl⟩
  left
  unfold p14_l0
  simp only
  have hnum:∀ k,(nums k).length=k:=fun k=>by simp [nums]
  have he:l[k]? = some l[k]:=List.getElem?_eq_getElem hk
  have ha:1+l[k]=aG l k:=by unfold aG; rw [List.getD_eq_getElem?_getD,he]; rfl
  have hb:=aG_b h8 k
  have hp:=pot_b h8 k
  have ew:IntKind.wrap .i64 (1+IntKind.wrap .i64 l[k])=aG l k:=by rw [wrap64 (n:=l[k]) (by omega) (by omega),ha,wrap64 (by omega) (by omega)]
  rw [if_pos (by omega),app_ok (by simp; omega)]
  simp only [Option.bind_some]
  rw [idx_get hk,rem_nx (by omega) (by omega) hk]
  simp only [Option.bind_some]
  rw [ew,app_ok (by simp; omega)]
  simp only [Option.bind_some]
  rw [app_ok (by rw [hnum]; simp; omega)]
  simp only [Option.bind_some]
  rw [wrap64 (n:=pot l k+aG l k) (by omega) (by omega),incM (by omega)]
  refine ⟨_,rfl,pl++[TPlace.mk [] 0],?_,by simp [hpl]⟩
  have e1:(List.range (k+1)).map (trG l)=(List.range k).map (trG l)++[trG l k]:=by rw [List.range_succ,List.map_append]; rfl
  have e2:nums (k+1)=nums k++[(k:Int)]:=by unfold nums; rw [List.range_succ,List.map_append]; rfl
  rw [e1,e2]
  rfl
 rintro s ⟨pl,rfl,hpl⟩
 unfold p14_l0
 simp only
 rw [if_neg (by omega)]
 exact ⟨_,rfl,pl,rfl,hpl⟩
theorem nums_get {k i:Nat} (h:i < k):(nums k)[i]? = some (i:Int):=by
 unfold nums
 rw [List.getElem?_map,List.getElem?_range h]; rfl
theorem ring_few (h2:2≤l.length) (h15:l.length≤15) {pl:List TPlace} (hpl:pl.length=l.length):Few ⟨pl,(List.range l.length).map (trG l)⟩:=by
 refine ⟨by simp; omega,by simp; omega,fun t ht=>?_⟩
 obtain ⟨i,hi,rfl⟩:=List.mem_map.1 ht
 have hi:=List.mem_range.1 hi
 have:=nx_lt (l:=l) (by omega) i
 refine ⟨⟨by simp [trG],fun a ha=>?_⟩,⟨by simp [trG],fun a ha=>by cases ha⟩,⟨by simp [trG],fun a ha=>?_⟩⟩<;>(simp only [trG,List.mem_singleton] at ha; subst ha; simp only; omega)
theorem ring_get {i:Nat} {t:TTrans} (h:((List.range l.length).map (trG l))[i]? = some t):i < l.length∧t=trG l i:=by
 have hi:i < l.length:=by have:=(List.getElem?_eq_some_iff.1 h).1; simpa using this
 rw [List.getElem?_map,List.getElem?_range hi] at h
 exact ⟨hi,(Option.some.inj h).symm⟩
theorem ring_part (h2:2≤l.length) (h15:l.length≤15) (h8:∀ v,v∈l→B8 v) {pl:List TPlace} (hpl:pl.length=l.length):PartOk ⟨pl,(List.range l.length).map (trG l)⟩ ⟨(l.length:Int),nums l.length,nums l.length⟩:=by
 have hv:∀ v,v∈nums l.length→0≤v∧v < (l.length:Int):=fun v hv=>by
  unfold nums at hv
  obtain ⟨i,hi,rfl⟩:=List.mem_map.1 hv
  have:=List.mem_range.1 hi
  omega
 refine ⟨by simp only; omega,by simp only; omega,by simp [nums,hpl],by simp [nums],hv,hv,fun t q x k1 k2 k3=>?_⟩
 obtain ⟨ht,rfl⟩:=ring_get k1
 have:=aG_b h8 t
 unfold tieB looksB trG at k3
 simp at k3
 rcases k3 with k3 | ⟨k3,_⟩
 ·obtain rfl:t=q:=by omega
  rfl
 omega
theorem outs_one:∀ ts:List TTrans,(∀ t,t∈ts→t.Out.length≤1)→(ts.map fun t=>t.Out.length).sum≤ts.length
 | [],_=>by simp
 | t::ts,h=>by
  have h1:=h t (by simp)
  have h2:=outs_one ts fun x hx=>h x (by simp [hx])
  simp only [List.map_cons,List.sum_cons,List.length_cons]; omega
theorem ring_lane (h2:2≤l.length) {pl:List TPlace} (x:TLane):InL ⟨pl,(List.range l.length).map (trG l)⟩ ⟨(l.length:Int),nums l.length,nums l.length⟩ x↔∃ i,i < l.length∧x=laneG l i:=by
 constructor
 ·rintro ⟨i,t,a,e1,e2,e3,e4,e5,e6⟩
  obtain ⟨hi,rfl⟩:=ring_get e1
  simp only [trG,List.mem_singleton] at e2
  subst e2
  simp only at e3 e4 e6
  rw [nums_get hi] at e3
  rw [Int.toNat_natCast,nums_get (nx_lt (by omega) i)] at e4
  obtain ⟨x1,x2,x3⟩:=x
  simp only [Option.some.injEq] at e3 e4 e6
  refine ⟨i,hi,?_⟩
  unfold laneG
  rw [e3,e4,e6]; rfl
 rintro ⟨i,hi,rfl⟩
 have hn:=nx_lt (l:=l) (by omega) i
 refine ⟨i,trG l i,⟨nx l i,1⟩,by rw [List.getElem?_map,List.getElem?_range hi]; rfl,by simp [trG],nums_get hi,?_,?_,rfl⟩
 ·simp only; rw [Int.toNat_natCast]; exact nums_get hn
 simp only [laneG]
 rw [nx_eq hi]
 split<;>omega
theorem ring_way (h2:2≤l.length) {U:List TLane} (hU:∀ x,x∈U→∃ i,i < l.length∧x=laneG l i) {a b:Nat} {w:Int} (h:WayK U l.length l.length a b w):∃ q:Nat,w=pot l b - pot l a+q * pot l l.length:=by
 have lane:∀ {x:TLane} {i j:Nat},x∈U→x.From=(i:Int)→x.To=(j:Int)→∃ q:Nat,x.Ahead=pot l j - pot l i+q * pot l l.length:=fun {x i j} hx h1 h3=>by
  obtain ⟨k,hk,rfl⟩:=hU x hx
  simp only [laneG] at h1 h3 ⊢
  obtain rfl:k=i:=by omega
  have hn:=nx_eq hk
  by_cases c:k+1 < l.length
  ·rw [if_pos c] at hn
   obtain rfl:j=k+1:=by omega
   exact ⟨0,by simp only [pot]; omega⟩
  rw [if_neg c] at hn
  obtain rfl:j=0:=by omega
  refine ⟨1,?_⟩
  have:l.length=k+1:=by omega
  rw [this]
  simp only [pot]; omega
 induction h with
 | one h0 h1 h3=>exact lane h0 h1 h3
 | step _ _ h0 h1 h3 _ _ ih=>
  obtain ⟨q,hq⟩:=ih
  obtain ⟨p,hp⟩:=lane h0 h1 h3
  refine ⟨q+p,?_⟩
  rw [hq,hp,Int.natCast_add,Int.add_mul]; omega
theorem ring_go (h2:2≤l.length) {U:List TLane} (hU:∀ i,i < l.length→laneG l i∈U):∀ k,0 < k→k < l.length→WayK U l.length l.length 0 k (pot l k)
 | 0,h,_=>by omega
 | k+1,_,h=>by
  have hn:=nx_eq (show k < l.length by omega)
  rw [if_pos h] at hn
  rcases Nat.eq_zero_or_pos k with rfl | hk
  ·have:pot l (0+1)=(laneG l 0).Ahead:=by simp [pot,laneG]
   rw [this]
   exact .one (hU 0 (by omega)) rfl (by simp [laneG,hn]) (by omega) h
  exact .step (ring_go h2 hU k hk (by omega)) (by omega) (hU k (by omega)) rfl (by simp [laneG,hn]) (by omega) h
theorem ring_round (h2:2≤l.length) (h15:l.length≤15) (h8:∀ v,v∈l→B8 v) {U:List TLane} (hul:U.length≤20) (hU:∀ x,x∈U↔∃ i,i < l.length∧x=laneG l i):p38 U (l.length:Int)=some (pot l l.length):=by
 have hpos:∀ x,x∈U→1≤x.Ahead:=fun x hx=>by
  obtain ⟨i,_,rfl⟩:=(hU x).1 hx
  exact (aG_b h8 i).1
 obtain ⟨r,r1,r2⟩:=p38_ok (U:=U) (N:=l.length) (by omega) (by omega) hpos
 rw [r1]
 have hway:WayK U l.length l.length 0 0 (pot l l.length):=by
  obtain ⟨m,hm⟩:∃ m,l.length=m+1:=⟨l.length - 1,by omega⟩
  have hn:=nx_eq (show m < l.length by omega)
  rw [if_neg (by omega)] at hn
  have:=ring_go h2 (fun i hi=>(hU _).2 ⟨i,hi,rfl⟩) m (by omega) (by omega)
  have e:pot l l.length=pot l m+(laneG l m).Ahead:=by rw [hm]; rfl
  rw [e]
  exact .step this (by omega) ((hU _).2 ⟨m,by omega,rfl⟩) rfl (by simp [laneG,hn]) (by omega) (by omega)
 have hlow:∀ i w,WayK U l.length l.length i i w→pot l l.length≤w:=fun i w hw=>by
  obtain ⟨q,hq⟩:=ring_way h2 (fun x hx=>(hU x).1 hx) hw
  have hw1:=hw.pos hpos
  have hp:=(pot_b h8 l.length).1
  cases q with
  | zero=>simp at hq; omega
  | succ q=>
   have:(0:Int)≤(q:Int) * pot l l.length:=Int.mul_nonneg (by omega) hp
   rw [Int.natCast_add,Int.add_mul] at hq
   simp at hq
   omega
 have hb:=pot_b h8 l.length
 rcases r2 with ⟨r2,r3⟩ | ⟨⟨i,r2⟩,r3⟩
 ·have:=r3 _ _ hway
  unfold far at this
  omega
 have e1:=r3 _ _ hway
 have e2:=hlow _ _ r2
 congr 1; omega
theorem chk14 (h2:2≤l.length) (h15:l.length≤15) (h8:∀ v,v∈l→B8 v):loopC (p14_l1 l ((List.range l.length).map (laneG l))) (0:Int)=some (.inr ()):=by
 suffices key:∃ r,loopC (p14_l1 l ((List.range l.length).map (laneG l))) (0:Int)=some r∧r=.inr () by
  obtain ⟨r,e1,e2⟩:=key
  rw [e1,e2]
 have hg:∀ i,i < l.length→((List.range l.length).map (laneG l))[i]? = some (laneG l i):=fun i hi=>by rw [List.getElem?_map,List.getElem?_range hi]; rfl
 refine loop_cnt l.length (fun k s=>s=(k:Int)) _ ?_ ?_ rfl
 ·rintro k s hk rfl
  left
  unfold p14_l1
  rw [if_pos (by omega),rem_nx (by omega) (by omega) hk]
  simp only [Option.bind_some]
  have hf:p37 ((List.range l.length).map (laneG l)) (k:Int) (nx l k:Int)=some (k:Int):=by
   refine p37_yes (by simp; omega) (hg k hk) (by simp [lanB,laneG]) fun i y hi hy=>?_
   rw [hg i (by omega)] at hy
   cases hy
   unfold lanB laneG
   have:¬ (i:Int)=(k:Int):=by omega
   simp [this]
  rw [hf]
  simp only [Option.bind_some]
  rw [if_neg (by omega),idx_ok (hg k hk),idx_get hk]
  simp only [Option.bind_some]
  have he:l[k]? = some l[k]:=List.getElem?_eq_getElem hk
  have ha:1+l[k]=aG l k:=by unfold aG; rw [List.getD_eq_getElem?_getD,he]; rfl
  have hb:=aG_b h8 k
  have ew:IntKind.wrap .i64 (1+IntKind.wrap .i64 l[k])=aG l k:=by rw [wrap64 (n:=l[k]) (by omega) (by omega),ha,wrap64 (by omega) (by omega)]
  rw [ew]
  unfold p14_j0
  rw [if_neg (by simp [laneG])]
  exact ⟨_,rfl,incM (by omega)⟩
 rintro s rfl
 unfold p14_l1
 rw [if_neg (by omega)]
 exact ⟨_,rfl,rfl⟩
theorem p14_true {l:List Int} (h8:∀ v,v∈l→B8 v):p14 l=some true:=by
 unfold p14
 rw [p32_eq]
 simp only [Option.bind_some]
 rw [if_neg (by decide)]
 have j2t:p14_j2 l true=some true:=by unfold p14_j2; rw [if_pos rfl,p32_eq]; rfl
 unfold p14_j3
 by_cases c2:(l.length:Int) < 2
 ·rw [if_pos (by simpa using c2)]; exact j2t
 rw [if_neg (by simpa using c2)]
 by_cases c15:(15:Int) < (l.length:Int)
 ·rw [decide_eq_true c15]; exact j2t
 rw [decide_eq_false c15]
 unfold p14_j2
 rw [if_neg (by decide)]
 have h2:2≤l.length:=by omega
 have h15:l.length≤15:=by omega
 obtain ⟨pl,a1,a2⟩:=loop14 h2 h15 h8
 rw [a1]
 simp only [Option.bind_some]
 obtain ⟨n',h1,hp,ht,hal⟩:=p23_ok (n:=⟨pl,(List.range l.length).map (trG l)⟩) (by simp only; omega) (by simp; omega)
 rw [h1]
 simp only [Option.bind_some]
 obtain ⟨k1,k2,k3,k4⟩:=named_few (ring_few h2 h15 a2) hp ht hal
 have pok:=ring_part h2 h15 h8 a2
 have hP:=k2 _ pok
 have ho1:∀ t,t∈n'.Trans→t.Out.length≤1:=fun t ht'=>by
  obtain ⟨i,hi⟩:=List.getElem?_of_mem ht'
  have hlt:=(List.getElem?_eq_some_iff.1 hi).1
  obtain ⟨t',q1,q2⟩:=hal i _ (List.getElem?_eq_getElem (by omega))
  rw [hi] at q1; cases q1
  have:=ring_get (List.getElem?_eq_getElem (show i < ((List.range l.length).map (trG l)).length by simp only at ht; omega))
  rw [q2.2.2.2.2,this.2]
  simp [trG]
 have hnl:n'.Trans.length=l.length:=by rw [ht]; simp
 have hout:outs n'≤20:=by
  have:=outs_one n'.Trans ho1
  unfold outs; omega
 obtain ⟨u,u1,u2⟩:=p35_ok k1 hP hout
 rw [u1]
 simp only [Option.bind_some]
 have hin:∀ x,InL n' ⟨(l.length:Int),nums l.length,nums l.length⟩ x↔∃ i,i < l.length∧x=laneG l i:=fun x=>(k4 _ x).trans (ring_lane h2 x)
 have hu:u=(List.range l.length).map (laneG l):=by
  refine pw_ext u2.pw ?_ fun x=>?_
  ·rw [List.pairwise_map]
   refine List.pairwise_lt_range.imp fun h=>?_
   unfold ltP laneG
   left; simp only; omega
  rw [List.mem_map]
  constructor
  ·intro hx
   obtain ⟨i,hi,rfl⟩:=(hin x).1 (u2.is x hx)
   exact ⟨i,List.mem_range.2 hi,rfl⟩
  rintro ⟨i,hi,rfl⟩
  obtain ⟨y,y1,y2,y3,y4⟩:=u2.all _ ((hin _).2 ⟨i,List.mem_range.1 hi,rfl⟩)
  obtain ⟨j,hj,rfl⟩:=(hin y).1 (u2.is y y1)
  simp only [laneG] at y2
  obtain rfl:j=i:=by omega
  exact y1
 have hlen:u.length=l.length:=by rw [hu]; simp
 rw [if_neg (by simp [hlen])]
 have hmem:∀ x,x∈u↔∃ i,i < l.length∧x=laneG l i:=fun x=>by
  rw [hu,List.mem_map]
  constructor
  ·rintro ⟨i,hi,rfl⟩; exact ⟨i,List.mem_range.1 hi,rfl⟩
  rintro ⟨i,hi,rfl⟩; exact ⟨i,List.mem_range.2 hi,rfl⟩
 rw [ring_round h2 h15 h8 (by omega) hmem]
 simp only [Option.bind_some]
 unfold p14_j1
 rw [if_neg (by simp),hu,chk14 h2 h15 h8]
 simp only [Option.bind_some]
 rw [show idx n'.Trans (0:Int)=idx n'.Trans ((0:Nat):Int) from rfl,idx_get (show 0 < n'.Trans.length by omega)]
 simp only [Option.bind_some]
  -- without the first one's arc
 have hg0:n'.Trans[0]? = some (n'.Trans[0]'(by omega)):=List.getElem?_eq_getElem (by omega)
 generalize hT:n'.Trans[0]'(by omega)=T at hg0
 rw [show ((0:Int)).toNat=0 from rfl]
 have hmg:∀ (i:Nat) t,(n'.Trans.set 0 (TTrans.mk T.Name T.Delay T.Prio T.In T.Not []))[i]? = some t→(i=0∧t=TTrans.mk T.Name T.Delay T.Prio T.In T.Not [])∨(0 < i∧n'.Trans[i]? = some t):=fun i t h=>by
  rcases Nat.eq_zero_or_pos i with rfl | hi
  ·rw [List.getElem?_set_self (by omega)] at h
   exact .inl ⟨rfl,(Option.some.inj h).symm⟩
  rw [List.getElem?_set_ne (by omega)] at h
  exact .inr ⟨hi,h⟩
 have m1:Few ⟨n'.Places,n'.Trans.set 0 (TTrans.mk T.Name T.Delay T.Prio T.In T.Not [])⟩:=by
  refine ⟨k1.np,by simpa using k1.nt,fun t ht'=>?_⟩
  obtain ⟨i,hi⟩:=List.getElem?_of_mem ht'
  rcases hmg i t hi with ⟨_,rfl⟩ | ⟨_,q⟩
  ·have:=k1.tr T (List.mem_of_getElem? hg0)
   exact ⟨this.ins,this.nots,⟨by simp,fun a ha=>by cases ha⟩⟩
  exact k1.tr t (List.mem_of_getElem? q)
 have m2:PartOk ⟨n'.Places,n'.Trans.set 0 (TTrans.mk T.Name T.Delay T.Prio T.In T.Not [])⟩ ⟨(l.length:Int),nums l.length,nums l.length⟩:=by
  refine ⟨hP.N1,hP.N2,hP.lp,by simpa using hP.lt,hP.vp,hP.vt,fun t q x q1 q2 q3=>?_⟩
  rcases hmg t x q1 with ⟨rfl,rfl⟩ | ⟨_,qg⟩
  ·refine hP.tie 0 q T hg0 q2 ?_
   unfold tieB looksB givesB at q3 ⊢
   simp only [List.any_nil,Bool.and_false,Bool.or_false] at q3
   rw [q3]; simp
  exact hP.tie t q x qg q2 q3
 have m3:outs ⟨n'.Places,n'.Trans.set 0 (TTrans.mk T.Name T.Delay T.Prio T.In T.Not [])⟩≤20:=by
  have:=outs_one (n'.Trans.set 0 (TTrans.mk T.Name T.Delay T.Prio T.In T.Not [])) fun t ht'=>by
   obtain ⟨i,hi⟩:=List.getElem?_of_mem ht'
   rcases hmg i t hi with ⟨_,rfl⟩ | ⟨_,q⟩
   ·simp
   exact ho1 t (List.mem_of_getElem? q)
  rw [List.length_set] at this
  unfold outs; simp only; omega
 obtain ⟨v,v1,v2⟩:=p35_ok m1 m2 m3
 rw [v1]
 simp only [Option.bind_some]
 have hv:∀ x,x∈v→∃ i,0 < i∧i < l.length∧x=laneG l i:=fun x hx=>by
  obtain ⟨i,t,a,e1,e2,e3,e4,e5,e6⟩:=v2.is x hx
  rcases hmg i t e1 with ⟨_,rfl⟩ | ⟨hi,q⟩
  ·cases e2
  obtain ⟨j,hj,rfl⟩:=(hin x).1 ⟨i,t,a,q,e2,e3,e4,e5,e6⟩
  have hil:i < l.length:=by have:=(List.getElem?_eq_some_iff.1 q).1; omega
  simp only at e3
  rw [nums_get hil] at e3
  have:=Option.some.inj e3
  simp only [laneG] at this
  exact ⟨j,by omega,hj,rfl⟩
 have hvpos:∀ x,x∈v→1≤x.Ahead:=fun x hx=>by
  obtain ⟨i,_,_,rfl⟩:=hv x hx
  exact (aG_b h8 i).1
 have hvl:=v2.len
 obtain ⟨r,r1,r2⟩:=p38_ok (U:=v) (N:=l.length) (by omega) (by omega) hvpos
 rw [r1]
 have rank:∀ {a b:Nat} {w:Int},WayK v l.length l.length a b w→(if a=0 then l.length else a) < (if b=0 then l.length else b):=by
  have lane:∀ {x:TLane} {i j:Nat},x∈v→x.From=(i:Int)→x.To=(j:Int)→(if i=0 then l.length else i) < (if j=0 then l.length else j):=fun {x i j} hx q1 q2=>by
   obtain ⟨k,hk0,hk,rfl⟩:=hv x hx
   simp only [laneG] at q1 q2
   obtain rfl:k=i:=by omega
   have hn:=nx_eq hk
   split at hn
   ·obtain rfl:j=k+1:=by omega
    rw [if_neg (by omega),if_neg (by omega)]; omega
   obtain rfl:j=0:=by omega
   rw [if_neg (by omega),if_pos rfl]; exact hk
  intro a b w h
  induction h with
  | one h0 h1 h3=>exact lane h0 h1 h3
  | step _ _ h0 h1 h3 _ _ ih=>exact Nat.lt_trans ih (lane h0 h1 h3)
 rcases r2 with ⟨r2,_⟩ | ⟨⟨i,r2⟩,_⟩
 ·rw [r2]; rfl
 exact absurd (rank r2) (Nat.lt_irrefl _)
end
end Go.Proofs.Ytgbkpiaonlabgaa
namespace Go.Proofs.Ytgbkpiaonlabgaa
open Go Go.Am
theorem wf8 {n:Int} (h:(Lit.int .u8 n).wf=true):B8 n:=by
 simp only [Lit.wf,Bool.and_eq_true,decide_eq_true_eq] at h
 exact h
theorem law_laneRing:∀ h xs,TyAs [(.sl (.int .u8))] h xs→ACalls F 14 xs h fun v _=>v=.bool true:=by
 intro h xs ht
 obtain ⟨c,d,rfl,h3,h4⟩:=ht
 simp only [TyAs] at h4
 subst h4
 obtain ⟨s1,l1,e1,k4,k5,_⟩:=sl_open (r:=rI .u8) (ok:=B8) (cs:=[c]) rfl (fun c hc=>by obtain ⟨n,q1,q2⟩:=int_open hc; exact ⟨n,q1,wf8 q2⟩) h3
 obtain rfl:c=s1:=by injection e1
 exact (r14 k4.frz (p14_true k5)).val fun v h' hq=>hq.1
end Go.Proofs.Ytgbkpiaonlabgaa
