/- The law LaneLeast: its pure function answers true, whatever it is called with; so does the machine's function. No condition. Own work. -/
import Derived.Test.YtgbkpiaonlabgaaPm2LaneLeast
import Derived.Test.YtgbkpiaonlabgaaPLaneLeast
set_option linter.unusedSimpArgs false
set_option linter.unusedVariables false
namespace Go.Am
open Go
theorem loop_cnt {τ ρ:Type} {f:τ→Option (τ⊕ρ)} (n:Nat) (I:Nat→τ→Prop) (Q:ρ→Prop)
  (step:∀ k s,k < n→I k s→(∃ s',f s=some (.inl s')∧I (k+1) s')∨∃ r,f s=some (.inr r)∧Q r)
  (done:∀ s,I n s→∃ r,f s=some (.inr r)∧Q r) {s:τ} (h0:I 0 s):∃ r,loopC f s=some r∧Q r:=by
 suffices key:∀ d k s,k+d=n→I k s→∃ r,iter f (d+1) s=some r∧Q r by
  obtain ⟨r,h1,h2⟩:=key n 0 s (by omega) h0
  exact ⟨r,loopC_iff.2 ⟨_,h1⟩,h2⟩
 intro d
 induction d with
 | zero=>
  intro k s hk hI
  obtain rfl:k=n:=by omega
  obtain ⟨r,h1,h2⟩:=done s hI
  exact ⟨r,by simp only [iter,h1],h2⟩
 | succ d ih=>
  intro k s hk hI
  rcases step k s (by omega) hI with ⟨s',h1,h2⟩ | ⟨r,h1,h2⟩
  ·obtain ⟨r,h3,h4⟩:=ih (k+1) s' (by omega) h2
   exact ⟨r,by rw [iter]; simp only [h1]; exact h3,h4⟩
  exact ⟨r,by rw [iter]; simp only [h1],h2⟩
def swq {α:Type} (d:List α) (i j:Nat):List α:=match d[i]?,d[j]? with
 | some x,some y=>(d.set j x).set i y
 | _,_=>d
theorem swq_len {α:Type} (d:List α) (i j:Nat):(swq d i j).length=d.length:=by
 unfold swq; split<;>simp
theorem swq_get {α:Type} {d:List α} {i j:Nat} (hi:i < d.length) (hj:j < d.length) (k:Nat):(swq d i j)[k]? = if k=i then d[j]? else if k=j then d[i]? else d[k]?:=by
 unfold swq
 rw [List.getElem?_eq_getElem hi,List.getElem?_eq_getElem hj]
 simp only
 by_cases h1:k=i
 ·subst h1; rw [if_pos rfl,List.getElem?_set_self (by simpa using hi)]
 rw [if_neg h1,List.getElem?_set_ne (by omega)]
 by_cases h2:k=j
 ·subst h2; rw [if_pos rfl,List.getElem?_set_self hj]
 rw [if_neg h2,List.getElem?_set_ne (by omega)]
theorem swap_ev {α β:Type} {d:List α} {I J:Int} (i j:Nat) (hI:I=i) (hJ:J=j) (hi:i < d.length) (hj:j < d.length) (K:List α→Option β) :
  ((idx d I).bind fun e1=>(idx d J).bind fun e2=>(idx d J).bind fun e3=>(some (d.set J.toNat e1)).bind fun d'=>(idx d' I).bind fun e4=>(some (d'.set I.toNat e2)).bind K)=K (swq d i j):=by
 subst hI hJ
 rw [idx_get hi,idx_get hj]
 simp only [Option.bind_some,Int.toNat_natCast]
 rw [idx_get (by simpa using hi)]
 simp only [Option.bind_some]
 unfold swq
 rw [List.getElem?_eq_getElem hi,List.getElem?_eq_getElem hj]
structure SegE {α:Type} (a b:Nat) (d d':List α):Prop where
 len:d'.length=d.length
 out:∀ k,k < a∨b≤k→d'[k]? = d[k]?
 fro:∀ k,a≤k→k < b→∃ j,a≤j∧j < b∧d'[k]? = d[j]?
 to_:∀ k,a≤k→k < b→∃ j,a≤j∧j < b∧d[k]? = d'[j]?
theorem SegE.refl {α:Type} (a b:Nat) (d:List α):SegE a b d d:=⟨rfl,fun _ _=>rfl,fun k h1 h2=>⟨k,h1,h2,rfl⟩,fun k h1 h2=>⟨k,h1,h2,rfl⟩⟩
theorem SegE.trans {α:Type} {a b:Nat} {d d' d'':List α} (h:SegE a b d d') (k:SegE a b d' d''):SegE a b d d'':=by
 refine ⟨k.len.trans h.len,fun p hp=>(k.out p hp).trans (h.out p hp),fun p h1 h2=>?_,fun p h1 h2=>?_⟩
 ·obtain ⟨j,j1,j2,j3⟩:=k.fro p h1 h2
  obtain ⟨i,i1,i2,i3⟩:=h.fro j j1 j2
  exact ⟨i,i1,i2,j3.trans i3⟩
 obtain ⟨j,j1,j2,j3⟩:=h.to_ p h1 h2
 obtain ⟨i,i1,i2,i3⟩:=k.to_ j j1 j2
 exact ⟨i,i1,i2,j3.trans i3⟩
theorem SegE.wide {α:Type} {a b a' b':Nat} {d d':List α} (h:SegE a b d d') (ha:a'≤a) (hb:b≤b'):SegE a' b' d d':=by
 refine ⟨h.len,fun k hk=>h.out k (by omega),fun k h1 h2=>?_,fun k h1 h2=>?_⟩
 ·by_cases hk:a≤k∧k < b
  ·obtain ⟨j,j1,j2,j3⟩:=h.fro k hk.1 hk.2
   exact ⟨j,by omega,by omega,j3⟩
  exact ⟨k,h1,h2,h.out k (by omega)⟩
 by_cases hk:a≤k∧k < b
 ·obtain ⟨j,j1,j2,j3⟩:=h.to_ k hk.1 hk.2
  exact ⟨j,by omega,by omega,j3⟩
 exact ⟨k,h1,h2,(h.out k (by omega)).symm⟩
theorem SegE.swap {α:Type} {a b i j:Nat} {d:List α} (hb:b≤d.length) (h1:a≤i) (h2:i < b) (h3:a≤j) (h4:j < b):SegE a b d (swq d i j):=by
 have hg:=fun k=>swq_get (d:=d) (i:=i) (j:=j) (by omega) (by omega) k
 refine ⟨swq_len _ _ _,fun k hk=>?_,fun k k1 k2=>?_,fun k k1 k2=>?_⟩
 ·rw [hg,if_neg (by omega),if_neg (by omega)]
 ·rw [hg]
  split
  ·exact ⟨j,h3,h4,rfl⟩
  split
  ·exact ⟨i,h1,h2,rfl⟩
  exact ⟨k,k1,k2,rfl⟩
 by_cases e1:k=i
 ·refine ⟨j,h3,h4,?_⟩
  rw [hg]; split
  ·rename_i e; rw [e1,e]
  rw [if_pos rfl,e1]
 by_cases e2:k=j
 ·exact ⟨i,h1,h2,by rw [hg,if_pos rfl,e2]⟩
 exact ⟨k,k1,k2,by rw [hg,if_neg e1,if_neg e2]⟩
theorem SegE.mem {α:Type} {d d':List α} {b:Nat} (h:SegE 0 b d d') (x:α):x∈d'↔x∈d:=by
 constructor
 ·intro hx
  obtain ⟨k,hk⟩:=List.getElem?_of_mem hx
  by_cases hb:k < b
  ·obtain ⟨j,_,_,e⟩:=h.fro k (Nat.zero_le _) hb
   exact List.mem_of_getElem? (e.symm.trans hk)
  exact List.mem_of_getElem? ((h.out k (by omega)).symm.trans hk)
 intro hx
 obtain ⟨k,hk⟩:=List.getElem?_of_mem hx
 by_cases hb:k < b
 ·obtain ⟨j,_,_,e⟩:=h.to_ k (Nat.zero_le _) hb
  exact List.mem_of_getElem? (e.symm.trans hk)
 exact List.mem_of_getElem? ((h.out k (by omega)).trans hk)
structure Ord {α:Type} (lt:α→α→Prop):Prop where
 asy:∀ x y,lt x y→¬ lt y x
 tr:∀ x y z,¬ lt y x→¬ lt z y→¬ lt z x
def Le {α:Type} (lt:α→α→Prop) (d:List α) (i j:Nat):Prop:=∀ x y,d[i]? = some x→d[j]? = some y→¬ lt y x
theorem Ord.irr {α:Type} {lt:α→α→Prop} (o:Ord lt) (x:α):¬ lt x x:=fun h=>o.asy x x h h
theorem Le.refl {α:Type} {lt:α→α→Prop} (o:Ord lt) (d:List α) (i:Nat):Le lt d i i:=fun x y h1 h2=>by rw [h1] at h2; cases h2; exact o.irr x
theorem Le.trans {α:Type} {lt:α→α→Prop} (o:Ord lt) {d:List α} {i j k:Nat} (hj:j < d.length) (h1:Le lt d i j) (h2:Le lt d j k):Le lt d i k:=fun x y hx hy=>o.tr x d[j] y (h1 _ _ hx (List.getElem?_eq_getElem hj)) (h2 _ _ (List.getElem?_eq_getElem hj) hy)
theorem Le.of {α:Type} {lt:α→α→Prop} {d d':List α} {i j i' j':Nat} (h:Le lt d i j) (h1:d'[i']? = d[i]?) (h2:d'[j']? = d[j]?):Le lt d' i' j':=fun x y hx hy=>h x y (h1▸hx) (h2▸hy)
def Srt {α:Type} (lt:α→α→Prop) (a b:Nat) (d:List α):Prop:=∀ i j,a≤i→i < j→j < b→Le lt d i j
end Go.Am
namespace Go.Proofs.Ytgbkpiaonlabgaa
open Go Go.Am
structure CmpOk (C:TLane→TLane→Option Int) (lt:TLane→TLane→Prop):Prop where
 ev:∀ x y,∃ r,C x y=some r∧(r < 0↔lt x y)
 ord:Ord lt
theorem cmp_ev {β:Type} {C:TLane→TLane→Option Int} {lt:TLane→TLane→Prop} (hC:CmpOk C lt) {d:List TLane} {I J:Int} (i j:Nat) (hI:I=i) (hJ:J=j) (hi:i < d.length) (hj:j < d.length) (K:Int→Option β) :
  ∃ r,((idx d I).bind fun e1=>(idx d J).bind fun e2=>(C e1 e2).bind K)=K r∧(r < 0→Le lt d i j)∧(¬ r < 0→Le lt d j i):=by
 subst hI hJ
 obtain ⟨r,h1,h2⟩:=hC.ev d[i] d[j]
 refine ⟨r,?_,fun h x y hx hy=>?_,fun h x y hx hy=>?_⟩
 ·rw [idx_get hi,idx_get hj]
  simp only [Option.bind_some,h1]
 ·rw [List.getElem?_eq_getElem hi] at hx
  rw [List.getElem?_eq_getElem hj] at hy
  cases hx; cases hy
  exact hC.ord.asy _ _ (h2.1 h)
 rw [List.getElem?_eq_getElem hi] at hy
 rw [List.getElem?_eq_getElem hj] at hx
 cases hx; cases hy
 exact fun hh=>h (h2.2 hh)
section
variable {C:TLane→TLane→Option Int} {lt:TLane→TLane→Prop}
theorem p61_inner (hC:CmpOk C lt) {a i:Nat} {d0:List TLane} (hl:d0.length≤1000000) (hai:a≤i) (hi:i < d0.length) (hs:Srt lt a i d0):∃ u,loopC (p61_l0 a C) ((i:Int),d0)=some u∧SegE a (i+1) d0 u∧Srt lt a (i+1) u:=by
 refine loopC_rule (fun s=>∃ j:Nat,s.1=(j:Int)∧a≤j∧j≤i∧SegE a (i+1) d0 s.2∧∀ p q,a≤p→p < q→q≤i→q≠j→Le lt s.2 p q) (fun s=>s.1.toNat) _ ?_ ⟨i,rfl,hai,Nat.le_refl _,SegE.refl _ _ _,fun p q h1 h2 h3 h4=>hs p q h1 h2 (by omega)⟩
 rintro ⟨J,d⟩ ⟨j,e,h1,h2,h3,h4⟩
 simp only at e h3 h4
 subst e
 have hlen:=h3.len
 have fin:Le lt d (j - 1) j∨j=a→SegE a (i+1) d0 d∧Srt lt a (i+1) d:=fun hh=>by
  refine ⟨h3,fun p q k1 k2 k3=>?_⟩
  by_cases hq:q=j
  ·rcases hh with hh | hh
   ·by_cases hp:p=j - 1
    ·rw [hp,hq]; exact hh
    rw [hq]; exact (h4 p (j - 1) k1 (by omega) (by omega) (by omega)).trans hC.ord (by omega) hh
   omega
  exact h4 p q k1 k2 (by omega) hq
 unfold p61_l0
 simp only
 by_cases hj:a < j
 ·rw [if_pos (by omega)]
  have ej:IntKind.wrap .i64 ((j:Int) - 1)=((j - 1:Nat):Int):=by rw [wrap64 (by omega) (by omega)]; omega
  obtain ⟨r,k1,k2,k3⟩:=cmp_ev hC (d:=d) (I:=(j:Int)) (J:=IntKind.wrap .i64 ((j:Int) - 1)) j (j - 1) rfl ej (by omega) (by omega) (fun r=>p61_j0 (j:Int) d (decide (r < 0)))
  rw [k1]
  by_cases hr:r < 0
  ·left
   have hle:=k2 hr
   rw [decide_eq_true hr]
   unfold p61_j0
   rw [if_pos rfl]
   rw [swap_ev (j - 1) j ej rfl (by omega) (by omega)]
   refine ⟨_,rfl,⟨j - 1,?_,by omega,by omega,h3.trans (SegE.swap (by omega) (by omega) (by omega) (by omega) (by omega)),?_⟩,?_⟩
   ·rw [ej]
   ·intro p q q1 q2 q3 q4
    have hg:=fun k=>swq_get (d:=d) (i:=j - 1) (j:=j) (by omega) (by omega) k
    simp only
    by_cases e1:q=j
    ·by_cases e2:p=j - 1
     ·exact hle.of (by rw [hg,if_pos e2]) (by rw [hg,if_neg (by omega),if_pos e1])
     exact (h4 p (j - 1) q1 (by omega) (by omega) (by omega)).of (by rw [hg,if_neg (by omega),if_neg (by omega)]) (by rw [hg,if_neg (by omega),if_pos e1])
    by_cases e2:p=j - 1
    ·exact (h4 j q (by omega) (by omega) q3 e1).of (by rw [hg,if_pos e2]) (by rw [hg,if_neg (by omega),if_neg (by omega)])
    by_cases e3:p=j
    ·exact (h4 (j - 1) q (by omega) (by omega) q3 e1).of (by rw [hg,if_neg (by omega),if_pos e3]) (by rw [hg,if_neg (by omega),if_neg (by omega)])
    exact (h4 p q q1 q2 q3 e1).of (by rw [hg,if_neg (by omega),if_neg (by omega)]) (by rw [hg,if_neg (by omega),if_neg (by omega)])
   simp only; omega
  right
  rw [decide_eq_false hr]
  exact ⟨d,by unfold p61_j0; rw [if_neg (by decide)],fin (.inl (k3 hr))⟩
 rw [if_neg (by omega)]
 right
 exact ⟨d,by unfold p61_j0; rw [if_neg (by decide)],fin (.inr (by omega))⟩
theorem p61_ok (hC:CmpOk C lt) {a b:Nat} {d0:List TLane} (hl:d0.length≤1000000) (hab:a≤b) (hb:b≤d0.length):∃ u,p61 d0 (a:Int) (b:Int) C=some u∧SegE a b d0 u∧Srt lt a b u:=by
 unfold p61
 suffices key:∃ u,loopC (p61_l1 a b C) (IntKind.wrap .i64 ((a:Int)+1),d0)=some u∧SegE a b d0 u∧Srt lt a b u by
  obtain ⟨u,h1,h2⟩:=key
  exact ⟨u,by rw [h1]; rfl,h2⟩
 refine loopC_rule (fun s=>∃ i:Nat,s.1=(i:Int)∧a < i∧i≤b+1∧SegE a b d0 s.2∧Srt lt a (min i b) s.2) (fun s=>b+2 - s.1.toNat) _ ?_ ⟨a+1,by rw [wrap64 (by omega) (by omega)]; rfl,by omega,by omega,SegE.refl _ _ _,fun p q h1 h2 h3=>by omega⟩
 rintro ⟨J,d⟩ ⟨i,e,h1,h2,h3,h4⟩
 simp only at e h3 h4
 subst e
 have hlen:=h3.len
 unfold p61_l1
 simp only
 by_cases hi:i < b
 ·left
  rw [if_pos (by omega)]
  rw [Nat.min_eq_left (by omega)] at h4
  obtain ⟨u,k1,k2,k3⟩:=p61_inner hC (a:=a) (i:=i) (d0:=d) (by omega) (by omega) (by omega) h4
  rw [k1]
  have ei:IntKind.wrap .i64 ((i:Int)+1)=((i+1:Nat):Int):=by rw [wrap64 (by omega) (by omega)]; omega
  refine ⟨_,rfl,⟨i+1,ei,by omega,by omega,h3.trans (k2.wide (by omega) (by omega)),?_⟩,?_⟩
  ·rw [Nat.min_eq_left (by omega)]; exact k3
  simp only [ei]; omega
 right
 rw [if_neg (by omega)]
 rw [Nat.min_eq_right (by omega)] at h4
 exact ⟨d,rfl,h3,h4⟩
theorem p65_ok {a b:Nat} {d0:List TLane} (hl:d0.length≤1000000) (hab:a < b) (hb:b≤d0.length):∃ u,p65 d0 (a:Int) (b:Int) C=some u∧SegE a b d0 u:=by
 unfold p65
 suffices key:∃ u,loopC p65_l0 ((a:Int),IntKind.wrap .i64 ((b:Int) - 1),d0)=some u∧SegE a b d0 u by
  obtain ⟨u,h1,h2⟩:=key
  exact ⟨u,by rw [h1]; rfl,h2⟩
 have eb:IntKind.wrap .i64 ((b:Int) - 1)=((b - 1:Nat):Int):=by rw [wrap64 (by omega) (by omega)]; omega
 rw [eb]
 refine loopC_rule (fun s=>∃ i j:Nat,s.1=(i:Int)∧s.2.1=(j:Int)∧a≤i∧j < b∧i≤j+1∧SegE a b d0 s.2.2) (fun s=>(s.2.1 - s.1).toNat+1 - (if s.2.1 < s.1 then 1 else 0)) _ ?_ ⟨a,b - 1,rfl,rfl,by omega,by omega,by omega,SegE.refl _ _ _⟩
 rintro ⟨I,J,d⟩ ⟨i,j,e1,e2,h1,h2,h3,h4⟩
 simp only at e1 e2 h4
 subst e1 e2
 have hlen:=h4.len
 unfold p65_l0
 simp only
 by_cases hi:i < j
 ·left
  rw [if_pos (by omega),swap_ev j i rfl rfl (by omega) (by omega)]
  have ei:IntKind.wrap .i64 ((i:Int)+1)=((i+1:Nat):Int):=by rw [wrap64 (by omega) (by omega)]; omega
  have ej:IntKind.wrap .i64 ((j:Int) - 1)=((j - 1:Nat):Int):=by rw [wrap64 (by omega) (by omega)]; omega
  refine ⟨_,rfl,⟨i+1,j - 1,ei,ej,by omega,by omega,by omega,h4.trans (SegE.swap (by omega) (by omega) (by omega) (by omega) (by omega))⟩,?_⟩
  simp only [ei,ej]
  split<;>split<;>omega
 right
 rw [if_neg (by omega)]
 exact ⟨d,rfl,h4⟩
theorem p66_ok (hC:CmpOk C lt) {a b:Nat} {d0:List TLane} (hl:d0.length≤1000000) (hab:a < b) (hb:b≤d0.length) (hs:b - a < 50):∃ r,p66 d0 (a:Int) (b:Int) C=some (r,d0)∧(r=true→Srt lt a b d0):=by
 have key:∃ i:Int,loopC (p66_l0 b C d0) (IntKind.wrap .i64 ((a:Int)+1))=some i∧(i=b→Srt lt a b d0):=by
  refine loopC_rule (fun s=>∃ i:Nat,s=(i:Int)∧a < i∧i≤b∧Srt lt a i d0) (fun s=>b+1 - s.toNat) _ ?_ ⟨a+1,by rw [wrap64 (by omega) (by omega)]; rfl,by omega,by omega,fun p q h1 h2 h3=>by omega⟩
  rintro _ ⟨i,rfl,h1,h2,h3⟩
  unfold p66_l0
  by_cases hi:i < b
  ·rw [if_pos (by omega)]
   have ej:IntKind.wrap .i64 ((i:Int) - 1)=((i - 1:Nat):Int):=by rw [wrap64 (by omega) (by omega)]; omega
   obtain ⟨r,k1,k2,k3⟩:=cmp_ev hC (d:=d0) (I:=(i:Int)) (J:=IntKind.wrap .i64 ((i:Int) - 1)) i (i - 1) rfl ej (by omega) (by omega) (fun r=>p66_j0 (i:Int) (!(decide (r < 0))))
   rw [k1]
   by_cases hr:r < 0
   ·right
    rw [decide_eq_true hr]
    exact ⟨i,by unfold p66_j0; rfl,fun e=>by omega⟩
   left
   have ei:IntKind.wrap .i64 ((i:Int)+1)=((i+1:Nat):Int):=by rw [wrap64 (by omega) (by omega)]; omega
   rw [decide_eq_false hr]
   refine ⟨_,by unfold p66_j0; rfl,⟨i+1,ei,by omega,by omega,fun p q q1 q2 q3=>?_⟩,?_⟩
   ·by_cases hq:q=i
    ·rw [hq]
     by_cases hp:p=i - 1
     ·rw [hp]; exact k3 hr
     exact (h3 p (i - 1) q1 (by omega) (by omega)).trans hC.ord (by omega) (k3 hr)
    exact h3 p q q1 q2 (by omega)
   rw [ei]; omega
  right
  rw [if_neg (by omega)]
  obtain rfl:i=b:=by omega
  exact ⟨i,by unfold p66_j0; rfl,fun _=>h3⟩
 obtain ⟨i,h1,h2⟩:=key
 have e:∃ q,loopC (p66_l3 a b C) (IntKind.wrap .i64 ((a:Int)+1),0,d0)=some q∧(q=.inl (true,d0)∧Srt lt a b d0∨q=.inl (false,d0)):=by
  have hstep:∃ q,p66_l3 a b C (IntKind.wrap .i64 ((a:Int)+1),0,d0)=some (.inr q)∧(q=.inl (true,d0)∧Srt lt a b d0∨q=.inl (false,d0)):=by
   unfold p66_l3
   simp only
   rw [if_pos (by omega),h1]
   simp only [Option.bind_some]
   by_cases hi:i=b
   ·rw [if_pos hi]; exact ⟨_,rfl,.inl ⟨rfl,h2 hi⟩⟩
   rw [if_neg hi,wrap64 (by omega) (by omega),if_pos (by omega)]; exact ⟨_,rfl,.inr rfl⟩
  obtain ⟨q,k1,k2⟩:=hstep
  exact ⟨q,loopC_iff.2 ⟨1,by simp only [iter,k1]⟩,k2⟩
 obtain ⟨q,k1,k2⟩:=e
 unfold p66
 rw [k1]
 rcases k2 with ⟨rfl,k2⟩ | rfl
 ·exact ⟨true,rfl,fun _=>k2⟩
 exact ⟨false,rfl,fun h=>by cases h⟩
end
end Go.Proofs.Ytgbkpiaonlabgaa
namespace Go.Proofs.Ytgbkpiaonlabgaa
open Go Go.Am
section
variable {C:TLane→TLane→Option Int} {lt:TLane→TLane→Prop}
def Kid (k c:Nat):Prop:=c=2 * k+1∨c=2 * k+2
def Heapy (lt:TLane→TLane→Prop) (d:List TLane) (f lo hi:Nat):Prop:=∀ k c,lo≤k→Kid k c→c < hi→Le lt d (f+c) (f+k)
theorem heap_top (o:Ord lt) {d:List TLane} {f hi:Nat} (hl:f+hi≤d.length) (h:Heapy lt d f 0 hi):∀ k,k < hi→Le lt d (f+k) f:=by
 intro k
 induction k using Nat.strongRecOn with
 | ind k ih=>
  intro hk
  rcases Nat.eq_zero_or_pos k with rfl | hp
  ·exact Le.refl o _ _
  have:=h ((k - 1) / 2) k (Nat.zero_le _) (by unfold Kid; omega) hk
  exact this.trans o (by omega) (ih _ (by omega) (by omega))
theorem p73_ok (hC:CmpOk C lt) {f lo hi:Nat} {d0:List TLane} (hl:d0.length≤1000000) (hh:f+hi≤d0.length) (hlo:lo≤1000000) (h0:Heapy lt d0 f (lo+1) hi):∃ u,p73 d0 (lo:Int) (hi:Int) (f:Int) C=some u∧SegE (f+lo) (f+hi) d0 u∧Heapy lt u f lo hi:=by
 unfold p73
 suffices key:∃ q,loopC (p73_l0 hi f C) ((lo:Int),d0)=some q∧(match q with
   | .inl u=>SegE (f+lo) (f+hi) d0 u∧Heapy lt u f lo hi
   | .inr u=>SegE (f+lo) (f+hi) d0 u∧Heapy lt u f lo hi) by
  obtain ⟨q,h1,h2⟩:=key
  rw [h1]
  rcases q with u | u<;>exact ⟨u,rfl,h2⟩
 refine loopC_rule (fun s=>∃ r:Nat,s.1=(r:Int)∧lo≤r∧r≤1000000∧SegE (f+lo) (f+hi) d0 s.2∧(∀ k c,lo≤k→k≠r→Kid k c→c < hi→Le lt s.2 (f+c) (f+k))∧(∀ k c,lo≤k→Kid k r→Kid r c→c < hi→Le lt s.2 (f+c) (f+k))) (fun s=>hi - s.1.toNat) _ ?_ ⟨lo,rfl,Nat.le_refl _,hlo,SegE.refl _ _ _,fun k c h1 h2 h3 h4=>h0 k c (by omega) h3 h4,fun k c h1 h2 h3 h4=>by unfold Kid at h2; omega⟩
 rintro ⟨R,d⟩ ⟨r,e,h1,hr6,h2,h3,h4⟩
 simp only at e h2 h3 h4
 subst e
 have hlen:=h2.len
 have e1:IntKind.wrap .i64 ((IntKind.wrap .i64 ((2:Int) * (r:Int)))+(1:Int))=((2 * r+1:Nat):Int):=by
  rw [wrap64 (n:=2 * (r:Int)) (by omega) (by omega),wrap64 (by omega) (by omega)]; omega
 have e2:IntKind.wrap .i64 ((IntKind.wrap .i64 ((IntKind.wrap .i64 ((2:Int) * (r:Int)))+(1:Int)))+(1:Int))=((2 * r+2:Nat):Int):=by
  rw [e1,wrap64 (by omega) (by omega)]; omega
 unfold p73_l0
 simp only
 by_cases hc:2 * r+1 < hi
 ·rw [if_neg (by rw [e1]; omega)]
    -- the greater child
  have step:∀ c:Nat,c < hi→Kid r c→(∀ c',c' < hi→Kid r c'→Le lt d (f+c') (f+c))→
    (∃ s',p73_j0 f C (r:Int) d (c:Int)=some (.inl s')∧(∃ r':Nat,s'.1=(r':Int)∧lo≤r'∧r'≤1000000∧SegE (f+lo) (f+hi) d0 s'.2∧(∀ k c,lo≤k→k≠r'→Kid k c→c < hi→Le lt s'.2 (f+c) (f+k))∧(∀ k c,lo≤k→Kid k r'→Kid r' c→c < hi→Le lt s'.2 (f+c) (f+k)))∧hi - s'.1.toNat < hi - (r:Int).toNat)∨
    ∃ q,p73_j0 f C (r:Int) d (c:Int)=some (.inr q)∧(match q with
     | .inl u=>SegE (f+lo) (f+hi) d0 u∧Heapy lt u f lo hi
     | .inr u=>SegE (f+lo) (f+hi) d0 u∧Heapy lt u f lo hi):=by
   intro c hc1 hc2 hc3
   have hrc:r < c:=by unfold Kid at hc2; omega
   have er:IntKind.wrap .i64 ((f:Int)+(r:Int))=((f+r:Nat):Int):=by rw [wrap64 (by omega) (by omega)]; omega
   have ec:IntKind.wrap .i64 ((f:Int)+(c:Int))=((f+c:Nat):Int):=by rw [wrap64 (by omega) (by omega)]; omega
   unfold p73_j0
   obtain ⟨q,k1,k2,k3⟩:=cmp_ev (β:=(Int×(List TLane))⊕((List TLane)⊕(List TLane))) hC (d:=d) (I:=IntKind.wrap .i64 ((f:Int)+(r:Int))) (J:=IntKind.wrap .i64 ((f:Int)+(c:Int))) (f+r) (f+c) er ec (by omega) (by omega)
    (fun r15=>if (!(decide (r15 < (0:Int))))=true then (some (.inr (.inl d))) else ((idx d (IntKind.wrap .i64 ((f:Int)+(c:Int)))).bind fun e16=>(idx d (IntKind.wrap .i64 ((f:Int)+(r:Int)))).bind fun e17=>(idx d (IntKind.wrap .i64 ((f:Int)+(r:Int)))).bind fun e18=>(some (d.set ((IntKind.wrap .i64 ((f:Int)+(r:Int))):Int).toNat e16)).bind fun y19=>(idx y19 (IntKind.wrap .i64 ((f:Int)+(c:Int)))).bind fun e20=>(some (y19.set ((IntKind.wrap .i64 ((f:Int)+(c:Int))):Int).toNat e17)).bind fun y21=>some (.inl ((c:Int),y21))))
   rw [k1]
   by_cases hq:q < 0
   ·left
    rw [if_neg (by simp [hq]),swap_ev (f+c) (f+r) ec er (by omega) (by omega)]
    have hg:=fun k=>swq_get (d:=d) (i:=f+c) (j:=f+r) (by omega) (by omega) k
    refine ⟨_,rfl,⟨c,rfl,by omega,by omega,h2.trans (SegE.swap (by omega) (by omega) (by omega) (by omega) (by omega)),fun k x x1 x2 x3 x4=>?_,fun k x x1 x2 x3 x4=>?_⟩,by simp only; omega⟩
    ·simp only
     by_cases y1:k=r
     ·subst y1
      by_cases y2:x=c
      ·subst y2
       exact (k2 hq).of (by rw [hg,if_pos rfl]) (by rw [hg,if_neg (by omega),if_pos rfl])
      exact (hc3 x x4 x3).of (by rw [hg,if_neg (by omega),if_neg (by unfold Kid at x3; omega)]) (by rw [hg,if_neg (by omega),if_pos rfl])
     by_cases y2:x=r
     ·subst y2
      exact (h4 k c x1 x3 hc2 hc1).of (by rw [hg,if_neg (by omega),if_pos rfl]) (by rw [hg,if_neg (by omega),if_neg (by omega)])
     have:x≠c:=fun e=>by unfold Kid at x3 hc2; omega
     exact (h3 k x x1 y1 x3 x4).of (by rw [hg,if_neg (by omega),if_neg (by omega)]) (by rw [hg,if_neg (by omega),if_neg (by omega)])
    simp only
    have y1:k=r:=by unfold Kid at x2 hc2; omega
    subst y1
    have y2:c < x:=by unfold Kid at x3; omega
    exact (h3 c x (by omega) (by omega) x3 x4).of (by rw [hg,if_neg (by omega),if_neg (by omega)]) (by rw [hg,if_neg (by omega),if_pos rfl])
   right
   rw [if_pos (by simp [hq])]
   refine ⟨_,rfl,h2,fun k x x1 x2 x3=>?_⟩
   by_cases y1:k=r
   ·subst y1
    exact (hc3 x x3 x2).trans hC.ord (by omega) (k3 hq)
   exact h3 k x x1 y1 x2 x3
  by_cases hc2:2 * r+2 < hi
  ·rw [if_pos (by rw [e2]; omega)]
   have ei:IntKind.wrap .i64 ((f:Int)+IntKind.wrap .i64 ((IntKind.wrap .i64 ((2:Int) * (r:Int)))+(1:Int)))=((f+(2 * r+1):Nat):Int):=by rw [e1,wrap64 (by omega) (by omega)]; omega
   have ej:IntKind.wrap .i64 (IntKind.wrap .i64 ((f:Int)+IntKind.wrap .i64 ((IntKind.wrap .i64 ((2:Int) * (r:Int)))+(1:Int)))+1)=((f+(2 * r+2):Nat):Int):=by rw [ei,wrap64 (by omega) (by omega)]; omega
   obtain ⟨q,k1,k2,k3⟩:=cmp_ev hC (d:=d) (I:=IntKind.wrap .i64 ((f:Int)+IntKind.wrap .i64 ((IntKind.wrap .i64 ((2:Int) * (r:Int)))+(1:Int)))) (J:=IntKind.wrap .i64 (IntKind.wrap .i64 ((f:Int)+IntKind.wrap .i64 ((IntKind.wrap .i64 ((2:Int) * (r:Int)))+(1:Int)))+1)) (f+(2 * r+1)) (f+(2 * r+2)) ei ej (by omega) (by omega)
    (fun r25=>p73_j1 f C (r:Int) d (decide (r25 < (0:Int))))
   rw [k1]
   unfold p73_j1
   by_cases hq:q < 0
   ·rw [if_pos (by simp [hq]),e2]
    exact step (2 * r+2) hc2 (.inr rfl) fun c' q1 q2=>by
     rcases q2 with rfl | rfl
     ·exact k2 hq
     exact Le.refl hC.ord _ _
   rw [if_neg (by simp [hq]),e1]
   exact step (2 * r+1) hc (.inl rfl) fun c' q1 q2=>by
    rcases q2 with rfl | rfl
    ·exact Le.refl hC.ord _ _
    exact k3 hq
  rw [if_neg (by rw [e2]; omega)]
  unfold p73_j1
  rw [if_neg (by decide),e1]
  exact step (2 * r+1) hc (.inl rfl) fun c' q1 q2=>by
   rcases q2 with rfl | rfl
   ·exact Le.refl hC.ord _ _
   omega
 rw [if_pos (by rw [e1]; omega)]
 right
 refine ⟨_,rfl,h2,fun k x x1 x2 x3=>?_⟩
 by_cases y1:k=r
 ·subst y1; unfold Kid at x2; omega
 exact h3 k x x1 y1 x2 x3
theorem p62_ok (hC:CmpOk C lt) {a b:Nat} {d0:List TLane} (hl:d0.length≤1000000) (hab:a≤b) (hb:b≤d0.length):∃ u,p62 d0 (a:Int) (b:Int) C=some u∧SegE a b d0 u∧Srt lt a b u:=by
 obtain ⟨n,rfl⟩:∃ n,b=a+n:=⟨b - a,by omega⟩
 have en:IntKind.wrap .i64 (((a+n:Nat):Int) - (a:Int))=(n:Int):=by rw [wrap64 (by omega) (by omega)]; omega
 unfold p62
 rw [en]
 have em:IntKind.wrap .i64 ((n:Int) - 1)=(n:Int) - 1:=wrap64 (by omega) (by omega)
 rw [em]
 have ed:IntKind.wrap .i64 (Int.tdiv ((n:Int) - 1) 2)=if n=0 then 0 else (((n - 1) / 2:Nat):Int):=by
  split
  ·rename_i h; subst h; decide
  rw [Int.tdiv_eq_ediv_of_nonneg (by omega),wrap64 (by omega) (by omega)]; omega
 suffices key1:∃ u,loopC (p62_l0 a ((a+n:Nat):Int) C) (IntKind.wrap .i64 (Int.tdiv ((n:Int) - 1) 2),d0)=some u∧SegE a (a+n) d0 u∧Heapy lt u a 0 n by
  obtain ⟨u1,q1,q2,q3⟩:=key1
  rw [q1]
  simp only [Option.bind_some]
  suffices key2:∃ u,loopC (p62_l1 a C) ((n:Int) - 1,u1)=some u∧SegE a (a+n) d0 u∧Srt lt a (a+n) u by
   obtain ⟨u2,k1,k2,k3⟩:=key2
   exact ⟨u2,by rw [k1]; rfl,k2,k3⟩
  refine loopC_rule (fun s=>∃ k:Nat,s.1=(k:Int) - 1∧k≤n∧SegE a (a+n) d0 s.2∧Heapy lt s.2 a 0 k∧∀ p q,p < q→q < n→k≤q→Le lt s.2 (a+p) (a+q)) (fun s=>(s.1+1).toNat) _ ?_ ⟨n,rfl,Nat.le_refl _,q2,q3,fun p q h1 h2 h3=>by omega⟩
  rintro ⟨I,d⟩ ⟨k,e,h1,h2,h3,h4⟩
  simp only at e h2 h3 h4
  subst e
  have hlen:=h2.len
  unfold p62_l1
  simp only
  by_cases hk:0 < k
  ·left
   obtain ⟨i,rfl⟩:∃ i,k=i+1:=⟨k - 1,by omega⟩
   rw [if_pos (by omega)]
   have ei:((i+1:Nat):Int) - 1=(i:Int):=by omega
   rw [ei]
   have ea:IntKind.wrap .i64 ((a:Int)+(i:Int))=((a+i:Nat):Int):=by rw [wrap64 (by omega) (by omega)]; omega
   rw [swap_ev (a+i) a ea rfl (by omega) (by omega)]
   have hg:=fun k=>swq_get (d:=d) (i:=a+i) (j:=a) (by omega) (by omega) k
   have hsl:=swq_len d (a+i) a
   have hh:Heapy lt (swq d (a+i) a) a (0+1) i:=fun k c x1 x2 x3=>(h3 k c (Nat.zero_le _) x2 (by omega)).of (by rw [hg,if_neg (by omega),if_neg (by unfold Kid at x2; omega)]) (by rw [hg,if_neg (by unfold Kid at x2; omega),if_neg (by omega)])
   obtain ⟨u,k1,k2,k3⟩:=p73_ok hC (f:=a) (lo:=0) (hi:=i) (d0:=swq d (a+i) a) (by omega) (by omega) (by omega) hh
   rw [show ((0:Nat):Int)=0 from rfl] at k1
   rw [k1]
   simp only [Option.bind_some]
   have htop:=heap_top hC.ord (d:=d) (f:=a) (hi:=i+1) (by omega) h3
   have hsw:SegE a (a+(i+1)) d (swq d (a+i) a):=SegE.swap (by omega) (by omega) (by omega) (by omega) (by omega)
   have hall:=hsw.trans (k2.wide (by omega) (by omega))
   refine ⟨_,rfl,⟨i,by rw [wrap64 (by omega) (by omega)],by omega,h2.trans (hall.wide (by omega) (by omega)),k3,fun p q x1 x2 x3=>?_⟩,?_⟩
   ·have hq:u[a+q]? = if q=i then d[a]? else d[a+q]?:=by
     rw [k2.out _ (by omega),hg]
     by_cases y1:q=i
     ·rw [if_pos (by omega),if_pos y1]
     rw [if_neg (by omega),if_neg (by omega),if_neg y1]
    by_cases y0:p < i+1
    ·obtain ⟨j,j1,j2,j3⟩:=hall.fro (a+p) (by omega) (by omega)
     obtain ⟨j',rfl⟩:∃ j',j=a+j':=⟨j - a,by omega⟩
     by_cases y1:q=i
     ·exact (htop j' (by omega)).of j3 (by rw [hq,if_pos y1])
     exact (h4 j' q (by omega) x2 (by omega)).of j3 (by rw [hq,if_neg y1])
    exact (h4 p q x1 x2 (by omega)).of (by rw [k2.out _ (by omega),hg,if_neg (by omega),if_neg (by omega)]) (by rw [hq,if_neg (by omega)])
   simp only; rw [wrap64 (by omega) (by omega)]; omega
  right
  rw [if_neg (by omega)]
  exact ⟨d,rfl,h2,fun p q x1 x2 x3=>by
   obtain ⟨p',rfl⟩:∃ p',p=a+p':=⟨p - a,by omega⟩
   obtain ⟨q',rfl⟩:∃ q',q=a+q':=⟨q - a,by omega⟩
   exact h4 p' q' (by omega) (by omega) (by omega)⟩
 rw [ed]
 refine loopC_rule (fun s=>∃ k:Nat,s.1=(k:Int) - 1∧k≤n+1∧SegE a (a+n) d0 s.2∧Heapy lt s.2 a k n) (fun s=>(s.1+1).toNat) _ ?_ ?_
 ·rintro ⟨I,d⟩ ⟨k,e,h1,h2,h3⟩
  simp only at e h2 h3
  subst e
  have hlen:=h2.len
  unfold p62_l0
  simp only
  rw [en]
  by_cases hk:0 < k
  ·left
   obtain ⟨i,rfl⟩:∃ i,k=i+1:=⟨k - 1,by omega⟩
   rw [if_pos (by omega)]
   have ei:((i+1:Nat):Int) - 1=(i:Int):=by omega
   rw [ei]
   obtain ⟨u,k1,k2,k3⟩:=p73_ok hC (f:=a) (lo:=i) (hi:=n) (d0:=d) (by omega) (by omega) (by omega) h3
   rw [k1]
   simp only [Option.bind_some]
   exact ⟨_,rfl,⟨i,by rw [wrap64 (by omega) (by omega)],by omega,h2.trans (k2.wide (by omega) (by omega)),k3⟩,by simp only; rw [wrap64 (by omega) (by omega)]; omega⟩
  right
  rw [if_neg (by omega)]
  obtain rfl:k=0:=by omega
  exact ⟨d,rfl,h2,h3⟩
 split
 ·rename_i h
  exact ⟨1,rfl,by omega,SegE.refl _ _ _,fun k c x1 x2 x3=>by omega⟩
 exact ⟨(n - 1) / 2+1,by simp,by omega,SegE.refl _ _ _,fun k c x1 x2 x3=>by unfold Kid at x2; omega⟩
end
end Go.Proofs.Ytgbkpiaonlabgaa
namespace Go.Proofs.Ytgbkpiaonlabgaa
open Go Go.Am
section
variable {C:TLane→TLane→Option Int} {lt:TLane→TLane→Prop}
theorem p78_ok (hC:CmpOk C lt) {d:List TLane} {a b:Nat} (ha:a < d.length) (hb:b < d.length) (s:Int):∃ x y s',p78 d a b (some s) C=some (x,y,d,some s')∧(x=(a:Int)∧y=(b:Int)∨x=(b:Int)∧y=(a:Int)):=by
 unfold p78
 obtain ⟨r,k1,k2,k3⟩:=cmp_ev (β:=Int×Int×(List TLane)×(Option Int)) hC (d:=d) (I:=(b:Int)) (J:=(a:Int)) b a rfl rfl hb ha
  (fun r12=>if r12 < (0:Int) then ((some s).bind fun b13=>some ((b:Int),(a:Int),d,(some (IntKind.wrap .i64 (b13+(1:Int)))))) else (some ((a:Int),(b:Int),d,some s)))
 rw [k1]
 split
 ·exact ⟨_,_,_,rfl,.inr ⟨rfl,rfl⟩⟩
 exact ⟨_,_,_,rfl,.inl ⟨rfl,rfl⟩⟩
theorem p77_ok (hC:CmpOk C lt) {d:List TLane} {a b c:Nat} (ha:a < d.length) (hb:b < d.length) (hc:c < d.length) (s:Int):∃ x s',p77 d a b c (some s) C=some (x,d,some s')∧(x=(a:Int)∨x=(b:Int)∨x=(c:Int)):=by
 unfold p77
 obtain ⟨x1,y1,s1,k1,e1⟩:=p78_ok hC ha hb s
 rw [k1]
 simp only [Option.bind_some]
 obtain ⟨y1',hy1,hy1'⟩:∃ n:Nat,y1=(n:Int)∧n < d.length:=by rcases e1 with ⟨_,rfl⟩ | ⟨_,rfl⟩<;>exact ⟨_,rfl,by assumption⟩
 obtain ⟨x1',hx1,hx1'⟩:∃ n:Nat,x1=(n:Int)∧n < d.length:=by rcases e1 with ⟨rfl,_⟩ | ⟨rfl,_⟩<;>exact ⟨_,rfl,by assumption⟩
 subst hy1 hx1
 obtain ⟨x2,y2,s2,k2,e2⟩:=p78_ok hC hy1' hc s1
 rw [k2]
 simp only [Option.bind_some]
 obtain ⟨x2',hx2,hx2'⟩:∃ n:Nat,x2=(n:Int)∧n < d.length:=by rcases e2 with ⟨rfl,_⟩ | ⟨rfl,_⟩<;>exact ⟨_,rfl,by assumption⟩
 subst hx2
 obtain ⟨x3,y3,s3,k3,e3⟩:=p78_ok hC hx1' hx2' s2
 rw [k3]
 simp only [Option.bind_some]
 exact ⟨y3,s3,rfl,by omega⟩
theorem p64_ok (hC:CmpOk C lt) {a b:Nat} {d:List TLane} (hl:d.length≤1000000) (h1:a+8 < b) (hb:b≤d.length) (h2:b < a+50):∃ (m:Nat) (q:Int),p64 d (a:Int) (b:Int) C=some ((m:Int),q,d)∧a≤m∧m < b:=by
 unfold p64
 have e0:IntKind.wrap .i64 ((b:Int) - (a:Int))=((b - a:Nat):Int):=by rw [wrap64 (by omega) (by omega)]; omega
 rw [e0,if_pos (by omega),if_neg (by omega)]
 have e1:IntKind.wrap .i64 (Int.tdiv ((b - a:Nat):Int) 4)=(((b - a) / 4:Nat):Int):=by rw [Int.tdiv_eq_ediv_of_nonneg (by omega),wrap64 (by omega) (by omega)]; omega
 rw [e1]
 have ek:∀ k:Nat,k≤3→IntKind.wrap .i64 ((a:Int)+IntKind.wrap .i64 ((((b - a) / 4:Nat):Int) * (k:Int)))=((a+(b - a) / 4 * k:Nat):Int):=fun k hk=>by
  have hm:(b - a) / 4 * k≤(b - a) / 4 * 3:=Nat.mul_le_mul_left _ hk
  have hm2:(((b - a) / 4:Nat):Int) * (k:Int)=(((b - a) / 4 * k:Nat):Int):=by rw [Int.natCast_mul]
  rw [hm2,wrap64 (n:=(((b - a) / 4 * k:Nat):Int)) (by omega) (by omega),wrap64 (by omega) (by omega)]; omega
 have k1:=ek 1 (by omega); have k2:=ek 2 (by omega); have k3:=ek 3 (by omega)
 simp only [show ((1:Nat):Int)=1 from rfl,show ((2:Nat):Int)=2 from rfl,show ((3:Nat):Int)=3 from rfl] at k1 k2 k3
 rw [k1,k2,k3]
 unfold p64_j1
 obtain ⟨x,s,q1,q2⟩:=p77_ok hC (d:=d) (a:=a+(b - a) / 4 * 1) (b:=a+(b - a) / 4 * 2) (c:=a+(b - a) / 4 * 3) (by omega) (by omega) (by omega) 0
 rw [q1]
 obtain ⟨m,rfl,m1,m2⟩:∃ m:Nat,x=(m:Int)∧a≤m∧m < b:=by
  rcases q2 with rfl | rfl | rfl
  ·exact ⟨_,rfl,by omega,by omega⟩
  ·exact ⟨_,rfl,by omega,by omega⟩
  exact ⟨_,rfl,by omega,by omega⟩
 simp only [Option.bind_some]
 unfold p64_j0
 simp only [Option.bind_some]
 split
 ·exact ⟨m,_,rfl,m1,m2⟩
 split<;>exact ⟨m,_,rfl,m1,m2⟩
theorem p75_ok (b:Int):∃ w,p75 (some b)=some (w,some w):=by
 unfold p75 shlI shrI
 simp
theorem p74_ok {n:Nat} (h1:12 < n) (h2:n≤20):p74 (n:Int)=some (if n < 16 then 16 else 32):=by
 have:n=13∨n=14∨n=15∨n=16∨n=17∨n=18∨n=19∨n=20:=by omega
 rcases this with rfl | rfl | rfl | rfl | rfl | rfl | rfl | rfl<;>rfl
theorem p63_ok {a b:Nat} {d0:List TLane} (hl:d0.length≤1000000) (h1:a+12 < b) (hb:b≤d0.length) (h2:b≤a+20):∃ u,p63 d0 (a:Int) (b:Int) C=some u∧SegE a b d0 u:=by
 obtain ⟨n,rfl⟩:∃ n,b=a+n:=⟨b - a,by omega⟩
 have e0:IntKind.wrap .i64 (((a+n:Nat):Int) - (a:Int))=(n:Int):=by rw [wrap64 (by omega) (by omega)]; omega
 unfold p63
 rw [e0,if_pos (by omega),p74_ok (by omega) (by omega)]
 simp only [Option.bind_some]
 have e1:IntKind.wrap .i64 (Int.tdiv (n:Int) 4)=((n / 4:Nat):Int):=by rw [Int.tdiv_eq_ediv_of_nonneg (by omega),wrap64 (by omega) (by omega)]; omega
 have e2:IntKind.wrap .i64 ((a:Int)+IntKind.wrap .i64 (IntKind.wrap .i64 (Int.tdiv (n:Int) 4) * 2))=((a+n / 4 * 2:Nat):Int):=by
  rw [e1,wrap64 (n:=((n / 4:Nat):Int) * 2) (by omega) (by omega),wrap64 (by omega) (by omega)]; omega
 have e3:IntKind.wrap .i64 (((a+n / 4 * 2:Nat):Int) - 1)=((a+n / 4 * 2 - 1:Nat):Int):=by rw [wrap64 (by omega) (by omega)]; omega
 rw [e2,e3]
 generalize hM:(if n < 16 then (16:Int) else 32)=M
 have hM2:M=16∨M=32:=by subst hM; split<;>simp
 have hMn:M≤2 * n:=by subst hM; split<;>omega
 suffices key:∃ u,loopC (p63_l0 (a:Int) ((a+n:Nat):Int) M) (((a+n / 4 * 2 - 1:Nat):Int),d0,some (IntKind.wrap .u64 (n:Int)))=some u∧SegE a (a+n) d0 u by
  obtain ⟨u,k1,k2⟩:=key
  exact ⟨u,by rw [k1]; rfl,k2⟩
 refine loopC_rule (fun s=>∃ i:Nat,s.1=(i:Int)∧a+n / 4 * 2 - 1≤i∧i≤a+n / 4 * 2+2∧SegE a (a+n) d0 s.2.1∧∃ v,s.2.2=some v) (fun s=>a+n / 4 * 2+3 - s.1.toNat) _ ?_ ⟨a+n / 4 * 2 - 1,rfl,by omega,by omega,SegE.refl _ _ _,_,rfl⟩
 rintro ⟨I,d,v⟩ ⟨i,e,k1,k2,k3,w,hw⟩
 simp only at e k3 hw
 subst e hw
 have hlen:=k3.len
 unfold p63_l0
 simp only
 rw [e0,e2]
 have e4:IntKind.wrap .i64 (((a+n / 4 * 2:Nat):Int)+1)=((a+n / 4 * 2+1:Nat):Int):=by rw [wrap64 (by omega) (by omega)]; omega
 rw [e4]
 by_cases hi:i≤a+n / 4 * 2+1
 ·left
  rw [if_pos (by omega)]
  obtain ⟨x,hx⟩:=p75_ok w
  rw [hx]
  simp only [Option.bind_some]
  have hand:∃ o:Nat,IntKind.wrap .i64 (IntKind.wrap .u64 ((BitVec.ofInt (IntKind.bits .u64) x &&& BitVec.ofInt (IntKind.bits .u64) (IntKind.wrap .u64 (M - 1))).toNat:Int))=(o:Int)∧(o:Int) < M:=by
   have hb2:(BitVec.ofInt (IntKind.bits .u64) (IntKind.wrap .u64 (M - 1))).toNat=(M - 1).toNat:=by rcases hM2 with rfl | rfl<;>rfl
   have hle:(BitVec.ofInt (IntKind.bits .u64) x &&& BitVec.ofInt (IntKind.bits .u64) (IntKind.wrap .u64 (M - 1))).toNat≤(M - 1).toNat:=by
    rw [BitVec.toNat_and,hb2]; exact Nat.and_le_right
   generalize (BitVec.ofInt (IntKind.bits .u64) x &&& BitVec.ofInt (IntKind.bits .u64) (IntKind.wrap .u64 (M - 1))).toNat=o at hle
   refine ⟨o,?_,by omega⟩
   rw [IntWalk.u64_in _ (by omega),wrap64 (by omega) (by omega)]
  obtain ⟨o,ho,ho2⟩:=hand
  rw [ho]
  have fin:∀ o':Nat,o' < n→∃ s',p63_j0 (a:Int) (i:Int) d (x,some x) (o':Int)=some (.inl s')∧(∃ i':Nat,s'.1=(i':Int)∧a+n / 4 * 2 - 1≤i'∧i'≤a+n / 4 * 2+2∧SegE a (a+n) d0 s'.2.1∧∃ v,s'.2.2=some v)∧a+n / 4 * 2+3 - s'.1.toNat < a+n / 4 * 2+3 - (i:Int).toNat:=fun o' h=>by
   unfold p63_j0
   have eo:IntKind.wrap .i64 ((a:Int)+(o':Int))=((a+o':Nat):Int):=by rw [wrap64 (by omega) (by omega)]; omega
   rw [swap_ev (a+o') i eo rfl (by omega) (by omega)]
   have ei:IntKind.wrap .i64 ((i:Int)+1)=((i+1:Nat):Int):=by rw [wrap64 (by omega) (by omega)]; omega
   exact ⟨_,rfl,⟨i+1,ei,by omega,by omega,k3.trans (SegE.swap (by omega) (by omega) (by omega) (by omega) (by omega)),_,rfl⟩,by simp only [ei]; omega⟩
  by_cases hn:n≤o
  ·rw [if_pos (by omega),show IntKind.wrap .i64 ((o:Int) - (n:Int))=((o - n:Nat):Int) by rw [wrap64 (by omega) (by omega)]; omega]
   exact fin _ (by omega)
  rw [if_neg (by omega)]
  exact fin _ (by omega)
 right
 rw [if_neg (by omega)]
 exact ⟨d,rfl,k3⟩
theorem scan_up {f:Int→Option (Int⊕Int)} {lo e:Nat} (he:e≤1000000000) (hle:lo≤e) (P N:Nat→Prop)
  (step:∀ i:Nat,lo≤i→i < e→(f (i:Int)=some (.inl (IntKind.wrap .i64 ((i:Int)+1)))∧P i)∨(f (i:Int)=some (.inr (i:Int))∧N i)) (fin:f (e:Int)=some (.inr (e:Int))) :
  ∃ m:Nat,loopC f (lo:Int)=some (m:Int)∧lo≤m∧m≤e∧(∀ k,lo≤k→k < m→P k)∧(m=e∨N m):=by
 have:∃ r:Int,loopC f (lo:Int)=some r∧∃ m:Nat,r=(m:Int)∧lo≤m∧m≤e∧(∀ k,lo≤k→k < m→P k)∧(m=e∨N m):=by
  refine loopC_rule (fun s=>∃ i:Nat,s=(i:Int)∧lo≤i∧i≤e∧∀ k,lo≤k→k < i→P k) (fun s=>e+1 - s.toNat) _ ?_ ⟨lo,rfl,Nat.le_refl _,hle,fun k h1 h2=>by omega⟩
  rintro _ ⟨i,rfl,h1,h2,h3⟩
  by_cases hi:i < e
  ·rcases step i h1 hi with ⟨k1,k2⟩ | ⟨k1,k2⟩
   ·have ei:IntKind.wrap .i64 ((i:Int)+1)=((i+1:Nat):Int):=by rw [wrap64 (by omega) (by omega)]; omega
    refine .inl ⟨_,k1,⟨i+1,ei,by omega,by omega,fun k q1 q2=>?_⟩,by rw [ei]; omega⟩
    by_cases hk:k=i
    ·rw [hk]; exact k2
    exact h3 k q1 (by omega)
   exact .inr ⟨_,k1,i,rfl,h1,h2,h3,.inr k2⟩
  obtain rfl:i=e:=by omega
  exact .inr ⟨_,fin,i,rfl,h1,h2,h3,.inl rfl⟩
 obtain ⟨r,h1,m,rfl,h2⟩:=this
 exact ⟨m,h1,h2⟩
theorem scan_dn {f:Int→Option (Int⊕Int)} {lo j:Nat} (hj:j≤1000000000) (hlo:0 < lo) (hle:lo≤j+1) (P N:Nat→Prop)
  (step:∀ i:Nat,lo≤i→i≤j→(f (i:Int)=some (.inl (IntKind.wrap .i64 ((i:Int) - 1)))∧P i)∨(f (i:Int)=some (.inr (i:Int))∧N i)) (fin:f ((lo - 1:Nat):Int)=some (.inr ((lo - 1:Nat):Int))) :
  ∃ m:Nat,loopC f (j:Int)=some (m:Int)∧lo≤m+1∧m≤j∧(∀ k,m < k→k≤j→P k)∧(m+1=lo∨N m):=by
 have:∃ r:Int,loopC f (j:Int)=some r∧∃ m:Nat,r=(m:Int)∧lo≤m+1∧m≤j∧(∀ k,m < k→k≤j→P k)∧(m+1=lo∨N m):=by
  refine loopC_rule (fun s=>∃ i:Nat,s=(i:Int)∧lo≤i+1∧i≤j∧∀ k,i < k→k≤j→P k) (fun s=>s.toNat+1 - (if s=((lo - 1:Nat):Int) then 1 else 0)) _ ?_ ⟨j,rfl,hle,Nat.le_refl _,fun k h1 h2=>by omega⟩
  rintro _ ⟨i,rfl,h1,h2,h3⟩
  by_cases hi:lo≤i
  ·rcases step i hi h2 with ⟨k1,k2⟩ | ⟨k1,k2⟩
   ·have ei:IntKind.wrap .i64 ((i:Int) - 1)=((i - 1:Nat):Int):=by rw [wrap64 (by omega) (by omega)]; omega
    refine .inl ⟨_,k1,⟨i - 1,ei,by omega,by omega,fun k q1 q2=>?_⟩,?_⟩
    ·by_cases hk:k=i
     ·rw [hk]; exact k2
     exact h3 k (by omega) q2
    rw [ei]; split<;>split<;>omega
   exact .inr ⟨_,k1,i,rfl,h1,h2,h3,.inr k2⟩
  have:i=lo - 1:=by omega
  subst this
  exact .inr ⟨_,fin,_,rfl,h1,h2,h3,.inl (by omega)⟩
 obtain ⟨r,h1,m,rfl,h2⟩:=this
 exact ⟨m,h1,h2⟩
end
end Go.Proofs.Ytgbkpiaonlabgaa
namespace Go.Proofs.Ytgbkpiaonlabgaa
open Go Go.Am
section
variable {C:TLane→TLane→Option Int} {lt:TLane→TLane→Prop}
theorem inc_nat {i:Nat} (h:i≤1000000000):IntKind.wrap .i64 ((i:Int)+1)=((i+1:Nat):Int):=by rw [wrap64 (by omega) (by omega)]; omega
theorem dec_nat {i:Nat} (h:i≤1000000000) (h0:0 < i):IntKind.wrap .i64 ((i:Int) - 1)=((i - 1:Nat):Int):=by rw [wrap64 (by omega) (by omega)]; omega
theorem cmp_ev4 {β:Type} (hC:CmpOk C lt) {d:List TLane} {I J:Int} (i j:Nat) (hI:I=i) (hJ:J=j) (hi:i < d.length) (hj:j < d.length) (K:Int→Option β) :
  ∃ r,((idx d I).bind fun e1=>(idx d J).bind fun e2=>(C e1 e2).bind K)=K r∧(r < 0→Le lt d i j∧¬ Le lt d j i)∧(¬ r < 0→Le lt d j i):=by
 subst hI hJ
 obtain ⟨r,h1,h2⟩:=hC.ev d[i] d[j]
 refine ⟨r,?_,fun h=>⟨fun x y hx hy=>?_,fun hh=>hh _ _ (List.getElem?_eq_getElem hj) (List.getElem?_eq_getElem hi) (h2.1 h)⟩,fun h x y hx hy=>?_⟩
 ·rw [idx_get hi,idx_get hj]
  simp only [Option.bind_some,h1]
 ·rw [List.getElem?_eq_getElem hi] at hx
  rw [List.getElem?_eq_getElem hj] at hy
  cases hx; cases hy
  exact hC.ord.asy _ _ (h2.1 h)
 rw [List.getElem?_eq_getElem hi] at hy
 rw [List.getElem?_eq_getElem hj] at hx
 cases hx; cases hy
 exact fun hh=>h (h2.2 hh)
theorem seg_all {d u:List TLane} {lo hi i:Nat} (hs:SegE lo hi d u) (hd:(∀ k,lo≤k→k < hi→Le lt d i k)) (hi':u[i]? = d[i]?):∀ k,lo≤k→k < hi→Le lt u i k:=fun k h1 h2=>by
 obtain ⟨j,j1,j2,j3⟩:=hs.fro k h1 h2
 exact (hd j j1 j2).of hi' j3
theorem p67_ok (hC:CmpOk C lt) {a b p:Nat} {d0:List TLane} (hl:d0.length≤1000000) (hb:b≤d0.length) (h1:a≤p) (h2:p < b) (hp:∀ k,a≤k→k < b→Le lt d0 p k) :
  ∃ (m:Nat) (u:List TLane),p67 d0 (a:Int) (b:Int) (p:Int) C=some ((m:Int),u)∧SegE a b d0 u∧a < m∧m≤b∧∀ i k,a≤i→i < m→a≤k→k < b→Le lt u i k:=by
 unfold p67
 rw [swap_ev p a rfl rfl (by omega) (by omega)]
 have hg:=fun k=>swq_get (d:=d0) (i:=p) (j:=a) (by omega) (by omega) k
 have hsw:SegE a b d0 (swq d0 p a):=SegE.swap hb h1 h2 (Nat.le_refl _) (by omega)
 have hp1:∀ k,a≤k→k < b→Le lt (swq d0 p a) a k:=fun k k1 k2=>by
  obtain ⟨j,j1,j2,j3⟩:=hsw.fro k k1 k2
  refine (hp j j1 j2).of ?_ j3
  rw [hg]; split
  ·rename_i e; rw [e]
  rw [if_pos rfl]
 have hsl:=hsw.len
 generalize swq d0 p a=d1 at *
 rw [inc_nat (by omega),dec_nat (by omega) (by omega)]
 suffices key:∃ q:Int×List TLane,loopC (p67_l2 (a:Int) C) (((a+1:Nat):Int),((b - 1:Nat):Int),d1)=some q∧∃ m:Nat,q.1=(m:Int)∧SegE a b d0 q.2∧a < m∧m≤b∧∀ i k,a≤i→i < m→a≤k→k < b→Le lt q.2 i k by
  obtain ⟨⟨q1,q2⟩,k1,m,e,k2⟩:=key
  simp only at e k2
  subst e
  exact ⟨m,q2,by rw [k1]; rfl,k2⟩
 refine loopC_rule (fun s=>∃ i j:Nat,s.1=(i:Int)∧s.2.1=(j:Int)∧a < i∧i≤j+1∧j < b∧SegE a b d0 s.2.2∧(∀ k,a≤k→k < b→Le lt s.2.2 a k)∧∀ k,a≤k→k < i→Le lt s.2.2 k a) (fun s=>(s.2.1+1 - s.1).toNat) _ ?_ ⟨a+1,b - 1,rfl,rfl,by omega,by omega,by omega,hsw,hp1,fun k k1 k2=>by
  obtain rfl:k=a:=by omega
  exact Le.refl hC.ord _ _⟩
 rintro ⟨I,J,d⟩ ⟨i,j,e1,e2,k1,k2,k3,k4,k5,k6⟩
 simp only at e1 e2 k4 k5 k6
 subst e1 e2
 have hlen:=k4.len
 unfold p67_l2
 simp only
 obtain ⟨m,x1,x2,x3,x4,x5⟩:=scan_up (f:=p67_l0 (a:Int) C (j:Int) d) (lo:=i) (e:=j+1) (by omega) (by omega) (fun k=>Le lt d k a) (fun k=>¬ Le lt d k a)
  (fun k y1 y2=>by
   unfold p67_l0
   rw [if_pos (by omega)]
   obtain ⟨r,z1,z2,z3⟩:=cmp_ev4 (β:=Int⊕Int) hC (d:=d) (I:=(a:Int)) (J:=(k:Int)) a k rfl rfl (by omega) (by omega) (fun r16=>p67_j0 (k:Int) (!(decide (r16 < (0:Int)))))
   rw [z1]
   unfold p67_j0
   by_cases hr:r < 0
   ·right; exact ⟨by simp [hr],(z2 hr).2⟩
   left; exact ⟨by simp [hr],z3 hr⟩)
  (by unfold p67_l0; rw [if_neg (by omega)]; rfl)
 rw [x1,Option.bind_some]
 try dsimp only
 obtain ⟨n,y1,y2,y3,y4,y5⟩:=scan_dn (f:=p67_l1 (a:Int) C d (m:Int)) (lo:=m) (j:=j) (by omega) (by omega) (by omega) (fun _=>True) (fun k=>Le lt d k a)
  (fun k y1 y2=>by
   unfold p67_l1
   rw [if_pos (by omega)]
   obtain ⟨r,z1,z2,z3⟩:=cmp_ev (β:=Int⊕Int) hC (d:=d) (I:=(a:Int)) (J:=(k:Int)) a k rfl rfl (by omega) (by omega) (fun r16=>p67_j1 (k:Int) (decide (r16 < (0:Int))))
   rw [z1]
   unfold p67_j1
   by_cases hr:r < 0
   ·left; exact ⟨by simp [hr],trivial⟩
   right; exact ⟨by simp [hr],z3 hr⟩)
  (by unfold p67_l1; rw [if_neg (by omega)]; rfl)
 rw [y1,Option.bind_some]
 try dsimp only
 have k7:∀ k,a≤k→k < m→Le lt d k a:=fun k z1 z2=>by
  by_cases h:k < i
  ·exact k6 k z1 h
  exact x4 k (by omega) z2
 by_cases hnm:n < m
 ·right
  rw [if_pos (by omega)]
  exact ⟨_,rfl,m,rfl,k4,by omega,by omega,fun x y z1 z2 z3 z4=>(k7 x z1 z2).trans hC.ord (by show a < d.length; omega) (k5 y z3 z4)⟩
 left
 rw [if_neg (by omega),swap_ev n m rfl rfl (by omega) (by omega),inc_nat (by omega),dec_nat (by omega) (by omega)]
 have hg:=fun k=>swq_get (d:=d) (i:=n) (j:=m) (by omega) (by omega) k
 have hn:Le lt d n a:=by rcases y5 with h | h; omega; exact h
 have hne:n≠m:=fun e=>by
  rcases x5 with h | h
  ·omega
  exact h (e▸hn)
 have hs2:SegE a b d (swq d n m):=SegE.swap (by omega) (by omega) (by omega) (by omega) (by omega)
 have ha:(swq d n m)[a]? = d[a]?:=by rw [hg,if_neg (by omega),if_neg (by omega)]
 refine ⟨_,rfl,⟨m+1,n - 1,rfl,rfl,by omega,by omega,by omega,k4.trans hs2,seg_all hs2 k5 ha,fun k z1 z2=>?_⟩,by simp only; omega⟩
 by_cases hk:k=m
 ·subst hk
  refine hn.of ?_ ha
  rw [hg]; split
  ·rename_i e; rw [e]
  rw [if_pos rfl]
 exact (k7 k z1 (by omega)).of (by rw [hg,if_neg (by omega),if_neg (by omega)]) ha
theorem p68_ok (hC:CmpOk C lt) {a b p:Nat} {d0:List TLane} (hl:d0.length≤1000000) (hb:b≤d0.length) (h1:a≤p) (h2:p < b) :
  ∃ (m:Nat) (w:Bool) (u:List TLane),p68 d0 (a:Int) (b:Int) (p:Int) C=some ((m:Int),w,u)∧SegE a b d0 u∧a≤m∧m < b∧(∀ k,a≤k→k < m→Le lt u k m)∧∀ k,m < k→k < b→Le lt u m k:=by
 unfold p68
 rw [swap_ev p a rfl rfl (by omega) (by omega)]
 have hsw:SegE a b d0 (swq d0 p a):=SegE.swap hb h1 h2 (Nat.le_refl _) (by omega)
 have hsl:=hsw.len
 generalize swq d0 p a=d1 at *
 rw [inc_nat (by omega),dec_nat (by omega) (by omega)]
  -- the end: the pivot goes to its place
 have last:∀ (d:List TLane) (j:Nat),SegE a b d0 d→a≤j→j < b→(∀ k,a < k→k≤j→Le lt d k a)→(∀ k,j < k→k < b→Le lt d a k)→SegE a b d0 (swq d j a)∧(∀ k,a≤k→k < j→Le lt (swq d j a) k j)∧∀ k,j < k→k < b→Le lt (swq d j a) j k:=fun d j k1 k2 k3 k4 k5=>by
  have hlen:=k1.len
  have hg:=fun k=>swq_get (d:=d) (i:=j) (j:=a) (by omega) (by omega) k
  refine ⟨k1.trans (SegE.swap (by omega) (by omega) (by omega) (by omega) (by omega)),fun k z1 z2=>?_,fun k z1 z2=>?_⟩
  ·by_cases hk:k=a
   ·subst hk
    exact (k4 j (by omega) (Nat.le_refl _)).of (by rw [hg,if_neg (by omega),if_pos rfl]) (by rw [hg,if_pos rfl])
   exact (k4 k (by omega) (by omega)).of (by rw [hg,if_neg (by omega),if_neg hk]) (by rw [hg,if_pos rfl])
  exact (k5 k z1 z2).of (by rw [hg,if_pos rfl]) (by rw [hg,if_neg (by omega),if_neg (by omega)])
 obtain ⟨m,x1,x2,x3,x4,x5⟩:=scan_up (f:=p68_l0 (a:Int) (b:Int) C d1) (lo:=a+1) (e:=b) (by omega) (by omega) (fun k=>Le lt d1 k a) (fun k=>Le lt d1 a k)
  (fun k y1 y2=>by
   unfold p68_l0
   rw [dec_nat (by omega) (by omega),if_pos (by omega)]
   obtain ⟨r,z1,z2,z3⟩:=cmp_ev (β:=Int⊕Int) hC (d:=d1) (I:=(k:Int)) (J:=(a:Int)) k a rfl rfl (by omega) (by omega) (fun r16=>p68_j0 (k:Int) (decide (r16 < (0:Int))))
   rw [z1]
   unfold p68_j0
   by_cases hr:r < 0
   ·left; exact ⟨by simp [hr],z2 hr⟩
   right; exact ⟨by simp [hr],z3 hr⟩)
  (by unfold p68_l0; rw [dec_nat (by omega) (by omega),if_neg (by omega)]; rfl)
 rw [x1,Option.bind_some]
 try dsimp only
 obtain ⟨n,y1,y2,y3,y4,y5⟩:=scan_dn (f:=p68_l1 (a:Int) C d1 (m:Int)) (lo:=m) (j:=b - 1) (by omega) (by omega) (by omega) (fun k=>Le lt d1 a k) (fun k=>Le lt d1 k a∧¬ Le lt d1 a k)
  (fun k y1 y2=>by
   unfold p68_l1
   rw [if_pos (by omega)]
   obtain ⟨r,z1,z2,z3⟩:=cmp_ev4 (β:=Int⊕Int) hC (d:=d1) (I:=(k:Int)) (J:=(a:Int)) k a rfl rfl (by omega) (by omega) (fun r16=>p68_j1 (k:Int) (!(decide (r16 < (0:Int)))))
   rw [z1]
   unfold p68_j1
   by_cases hr:r < 0
   ·right; exact ⟨by simp [hr],z2 hr⟩
   left; exact ⟨by simp [hr],z3 hr⟩)
  (by unfold p68_l1; rw [if_neg (by omega)]; rfl)
 rw [y1,Option.bind_some]
 try dsimp only
 by_cases hnm:n < m
 ·rw [if_pos (by omega),swap_ev a n rfl rfl (by omega) (by omega)]
  have hcomm:swq d1 a n=swq d1 n a:=by
   apply List.ext_getElem?
   intro k
   rw [swq_get (by omega) (by omega),swq_get (by omega) (by omega)]
   by_cases q1:k=a
   ·by_cases q2:k=n
    ·rw [if_pos q1,if_pos q2,← q1,← q2]
    rw [if_pos q1,if_neg q2,if_pos q1]
   by_cases q2:k=n
   ·rw [if_neg q1,if_pos q2,if_pos q2]
   rw [if_neg q1,if_neg q2,if_neg q2,if_neg q1]
  rw [hcomm]
  obtain ⟨l1,l2,l3⟩:=last d1 n hsw (by omega) (by omega) (fun k z1 z2=>x4 k (by omega) (by omega)) (fun k z1 z2=>y4 k z1 (by omega))
  exact ⟨n,true,_,rfl,l1,by omega,by omega,l2,l3⟩
 rw [if_neg (by omega),swap_ev n m rfl rfl (by omega) (by omega),inc_nat (by omega),dec_nat (by omega) (by omega)]
 have hn:Le lt d1 n a∧¬ Le lt d1 a n:=by rcases y5 with h | h; omega; exact h
 have hm:Le lt d1 a m:=by rcases x5 with h | h; omega; exact h
 have hne:n≠m:=fun e=>hn.2 (e▸hm)
 replace hn:=hn.1
 have hsw2:SegE a b d1 (swq d1 n m):=SegE.swap (by omega) (by omega) (by omega) (by omega) (by omega)
 have hg:=fun k=>swq_get (d:=d1) (i:=n) (j:=m) (by omega) (by omega) k
 have ha:(swq d1 n m)[a]? = d1[a]?:=by rw [hg,if_neg (by omega),if_neg (by omega)]
 have hge:∀ k,a < k→k < m+1→Le lt (swq d1 n m) k a:=fun k z1 z2=>by
  by_cases hk:k=m
  ·subst hk
   refine hn.of ?_ ha
   rw [hg]; split
   ·rename_i e; rw [e]
   rw [if_pos rfl]
  exact (x4 k (by omega) (by omega)).of (by rw [hg,if_neg (by omega),if_neg (by omega)]) ha
 have hle:∀ k,n - 1 < k→k < b→Le lt (swq d1 n m) a k:=fun k z1 z2=>by
  by_cases hk:k=n
  ·subst hk
   exact hm.of ha (by rw [hg,if_pos rfl])
  refine (y4 k (by omega) (by omega)).of ha (by rw [hg,if_neg (by omega),if_neg (by omega)])
 suffices key:∃ q:Int×List TLane,loopC (p68_l4 (a:Int) C) (((m+1:Nat):Int),((n - 1:Nat):Int),swq d1 n m)=some q∧∃ j:Nat,q.1=(j:Int)∧SegE a b d0 q.2∧a≤j∧j < b∧(∀ k,a < k→k≤j→Le lt q.2 k a)∧(∀ k,j < k→k < b→Le lt q.2 a k) by
  obtain ⟨⟨q1,q2⟩,k1,j,e,k2,k3,k4,k5,k6⟩:=key
  simp only at e k2 k5 k6
  subst e
  rw [k1,Option.bind_some]
  try dsimp only
  have:=k2.len
  rw [swap_ev a j rfl rfl (by omega) (by omega)]
  obtain ⟨l1,l2,l3⟩:=last q2 j k2 k3 k4 k5 k6
  have hcomm:swq q2 a j=swq q2 j a:=by
   apply List.ext_getElem?
   intro k
   rw [swq_get (by omega) (by omega),swq_get (by omega) (by omega)]
   by_cases q1:k=a
   ·by_cases q2:k=j
    ·rw [if_pos q1,if_pos q2,← q1,← q2]
    rw [if_pos q1,if_neg q2,if_pos q1]
   by_cases q2:k=j
   ·rw [if_neg q1,if_pos q2,if_pos q2]
   rw [if_neg q1,if_neg q2,if_neg q2,if_neg q1]
  rw [hcomm]
  exact ⟨j,false,_,rfl,l1,k3,k4,l2,l3⟩
 refine loopC_rule (fun s=>∃ i j:Nat,s.1=(i:Int)∧s.2.1=(j:Int)∧a < i∧i≤j+1∧j < b∧SegE a b d0 s.2.2∧(∀ k,a < k→k < i→Le lt s.2.2 k a)∧∀ k,j < k→k < b→Le lt s.2.2 a k) (fun s=>(s.2.1+1 - s.1).toNat) _ ?_ ⟨m+1,n - 1,rfl,rfl,by omega,?_,by omega,hsw.trans hsw2,hge,hle⟩
 ·rintro ⟨I,J,d⟩ ⟨i,j,e1,e2,k1,k2,k3,k4,k5,k6⟩
  simp only at e1 e2 k4 k5 k6
  subst e1 e2
  have hlen:=k4.len
  unfold p68_l4
  simp only
  obtain ⟨m,x1,x2,x3,x4,x5⟩:=scan_up (f:=p68_l2 (a:Int) C (j:Int) d) (lo:=i) (e:=j+1) (by omega) (by omega) (fun k=>Le lt d k a) (fun k=>Le lt d a k)
   (fun k y1 y2=>by
    unfold p68_l2
    rw [if_pos (by omega)]
    obtain ⟨r,z1,z2,z3⟩:=cmp_ev (β:=Int⊕Int) hC (d:=d) (I:=(k:Int)) (J:=(a:Int)) k a rfl rfl (by omega) (by omega) (fun r16=>p68_j2 (k:Int) (decide (r16 < (0:Int))))
    rw [z1]
    unfold p68_j2
    by_cases hr:r < 0
    ·left; exact ⟨by simp [hr],z2 hr⟩
    right; exact ⟨by simp [hr],z3 hr⟩)
   (by unfold p68_l2; rw [if_neg (by omega)]; rfl)
  rw [x1,Option.bind_some]
  try dsimp only
  obtain ⟨n,y1,y2,y3,y4,y5⟩:=scan_dn (f:=p68_l3 (a:Int) C d (m:Int)) (lo:=m) (j:=j) (by omega) (by omega) (by omega) (fun k=>Le lt d a k) (fun k=>Le lt d k a∧¬ Le lt d a k)
   (fun k y1 y2=>by
    unfold p68_l3
    rw [if_pos (by omega)]
    obtain ⟨r,z1,z2,z3⟩:=cmp_ev4 (β:=Int⊕Int) hC (d:=d) (I:=(k:Int)) (J:=(a:Int)) k a rfl rfl (by omega) (by omega) (fun r16=>p68_j3 (k:Int) (!(decide (r16 < (0:Int)))))
    rw [z1]
    unfold p68_j3
    by_cases hr:r < 0
    ·right; exact ⟨by simp [hr],z2 hr⟩
    left; exact ⟨by simp [hr],z3 hr⟩)
   (by unfold p68_l3; rw [if_neg (by omega)]; rfl)
  rw [y1,Option.bind_some]
  try dsimp only
  have k7:∀ k,a < k→k < m→Le lt d k a:=fun k z1 z2=>by
   by_cases h:k < i
   ·exact k5 k z1 h
   exact x4 k (by omega) z2
  have k8:∀ k,n < k→k < b→Le lt d a k:=fun k z1 z2=>by
   by_cases h:k≤j
   ·exact y4 k z1 h
   exact k6 k (by omega) z2
  by_cases hnm:n < m
  ·right
   rw [if_pos (by omega)]
   exact ⟨_,rfl,n,rfl,k4,by omega,by omega,fun k z1 z2=>k7 k z1 (by omega),k8⟩
  left
  rw [if_neg (by omega),swap_ev n m rfl rfl (by omega) (by omega),inc_nat (by omega),dec_nat (by omega) (by omega)]
  have hg:=fun k=>swq_get (d:=d) (i:=n) (j:=m) (by omega) (by omega) k
  have hs2:SegE a b d (swq d n m):=SegE.swap (by omega) (by omega) (by omega) (by omega) (by omega)
  have ha:(swq d n m)[a]? = d[a]?:=by rw [hg,if_neg (by omega),if_neg (by omega)]
  have hn:Le lt d n a∧¬ Le lt d a n:=by rcases y5 with h | h; omega; exact h
  have hm:Le lt d a m:=by rcases x5 with h | h; omega; exact h
  have hne:n≠m:=fun e=>hn.2 (e▸hm)
  replace hn:=hn.1
  refine ⟨_,rfl,⟨m+1,n - 1,rfl,rfl,by omega,?_,by omega,k4.trans hs2,fun k z1 z2=>?_,fun k z1 z2=>?_⟩,?_⟩
  ·by_cases e:n=m
   ·omega
   omega
  ·by_cases hk:k=m
   ·subst hk
    refine hn.of ?_ ha
    rw [hg]; split
    ·rename_i e; rw [e]
    rw [if_pos rfl]
   exact (k7 k z1 (by omega)).of (by rw [hg,if_neg (by omega),if_neg (by omega)]) ha
  ·by_cases hk:k=n
   ·subst hk
    exact hm.of ha (by rw [hg,if_pos rfl])
   exact (k8 k (by omega) z2).of ha (by rw [hg,if_neg (by omega),if_neg (by omega)])
  simp only; omega
 omega
end
end Go.Proofs.Ytgbkpiaonlabgaa
namespace Go.Proofs.Ytgbkpiaonlabgaa
open Go Go.Am
section
variable {C:TLane→TLane→Option Int} {lt:TLane→TLane→Prop}
def Fin' (lt:TLane→TLane→Prop) (A B a b:Nat) (d:List TLane):Prop:=∀ i j,A≤i→i < j→j < B→(i < a∨b≤j)→Le lt d i j
def Pr (lt:TLane→TLane→Prop) (a b:Nat) (d:List TLane):Prop:=a=0∨∀ k,a≤k→k < b→Le lt d (a - 1) k
theorem seg_at {a b:Nat} {d u:List TLane} (h:SegE a b d u) (i:Nat):∃ i',u[i]? = d[i']?∧((i < a∨b≤i)∧i'=i∨a≤i∧i < b∧a≤i'∧i' < b):=by
 by_cases hi:a≤i∧i < b
 ·obtain ⟨j,j1,j2,j3⟩:=h.fro i hi.1 hi.2
  exact ⟨j,j3,.inr ⟨hi.1,hi.2,j1,j2⟩⟩
 exact ⟨i,h.out i (by omega),.inl ⟨by omega,rfl⟩⟩
theorem fin_seg {A B a b:Nat} {d u:List TLane} (hA:A≤a) (hB:b≤B) (hab:a≤b) (h:Fin' lt A B a b d) (s:SegE a b d u):Fin' lt A B a b u:=fun i j h1 h2 h3 h4=>by
 obtain ⟨i',e1,k1⟩:=seg_at s i
 obtain ⟨j',e2,k2⟩:=seg_at s j
 exact (h i' j' (by omega) (by omega) (by omega) (by omega)).of e1 e2
theorem fin_srt {A B a b:Nat} {d u:List TLane} (hA:A≤a) (hB:b≤B) (hab:a≤b) (h:Fin' lt A B a b d) (s:SegE a b d u) (k:Srt lt a b u):Srt lt A B u:=fun i j h1 h2 h3=>by
 by_cases hh:i < a∨b≤j
 ·exact fin_seg hA hB hab h s i j h1 h2 h3 hh
 exact k i j (by omega) h2 (by omega)
theorem pr_seg {a b:Nat} {d u:List TLane} (h:Pr lt a b d) (s:SegE a b d u):Pr lt a b u:=by
 rcases Nat.eq_zero_or_pos a with h0 | h0
 ·exact .inl h0
 rcases h with h | h
 ·omega
 exact .inr (seg_all s h (s.out _ (by omega)))
def RecOk (C:TLane→TLane→Option Int) (lt:TLane→TLane→Prop) (k:Nat) (rec:List TLane→Int→Int→Int→(TLane→TLane→Option Int)→Option (List TLane)):Prop:=
 ∀ (d:List TLane) (a b:Nat) (lim:Int),b - a < k→a≤b→b≤d.length→d.length≤1000000→b - a≤20→0≤lim→lim≤1000→Pr lt a b d→∃ u,rec d a b lim C=some u∧SegE a b d u∧Srt lt a b u
def Inv (lt:TLane→TLane→Prop) (A B:Nat) (d0:List TLane) (s:Int×Int×Int×Bool×Bool×List TLane):Prop:=
 ∃ a b:Nat,s.1=(a:Int)∧s.2.1=(b:Int)∧A≤a∧a≤b∧b≤B∧0≤s.2.2.1∧s.2.2.1≤1000∧SegE A B d0 s.2.2.2.2.2∧Fin' lt A B a b s.2.2.2.2.2∧Pr lt a b s.2.2.2.2.2
def GoesOn (lt:TLane→TLane→Prop) (A B:Nat) (d0:List TLane) (μ:Nat) (o:Option ((Int×Int×Int×Bool×Bool×List TLane)⊕List TLane)):Prop:=
 (∃ s',o=some (.inl s')∧Inv lt A B d0 s'∧(s'.2.1 - s'.1).toNat < μ)∨∃ r,o=some (.inr r)∧SegE A B d0 r∧Srt lt A B r
variable {A B:Nat} {d0:List TLane} {rec:List TLane→Int→Int→Int→(TLane→TLane→Option Int)→Option (List TLane)} {k:Nat}
structure Here (lt:TLane→TLane→Prop) (A B:Nat) (d0:List TLane) (a b:Nat) (lim:Int) (d:List TLane):Prop where
 l6:d0.length≤1000000
 BL:B≤d0.length
 AB:B - A≤20
 Aa:A≤a
 ab:a+12 < b
 bB:b≤B
 l0:0≤lim
 l1:lim≤1000
 s:SegE A B d0 d
 f:Fin' lt A B a b d
 p:Pr lt a b d
theorem Here.seg {a b:Nat} {lim:Int} {d u:List TLane} (H:Here lt A B d0 a b lim d) (s:SegE a b d u):Here lt A B d0 a b lim u:=
 ⟨H.l6,H.BL,H.AB,H.Aa,H.ab,H.bB,H.l0,H.l1,H.s.trans (s.wide H.Aa H.bB),fin_seg H.Aa H.bB (by have:=H.ab; omega) H.f s,pr_seg H.p s⟩
theorem s0_ok (hC:CmpOk C lt) (hr:RecOk C lt k rec) (hk:B - A≤k) {a b p:Nat} {lim:Int} {d:List TLane} (H:Here lt A B d0 a b lim d) (h1:a≤p) (h2:p < b) (w1 w2 w3:Bool) (hw:w3=true→∀ q,a≤q→q < b→Le lt d p q) :
  GoesOn lt A B d0 (b - a) (p57_j0 C rec (a:Int) (b:Int) w1 w2 lim (p:Int) d w3):=by
 obtain ⟨l6,BL,AB,Aa,ab,bB,l0,l1,sE,fE,pE⟩:=H
 have hlen:=sE.len
 unfold p57_j0
 cases w3 with
 | true=>
  rw [if_pos rfl]
  obtain ⟨m,u,q1,q2,q3,q4,q5⟩:=p67_ok hC (by omega) (by omega) h1 h2 (hw rfl)
  rw [q1]
  left
  refine ⟨_,rfl,⟨m,b,rfl,rfl,by omega,q4,bB,l0,l1,sE.trans (q2.wide Aa bB),fun i j x1 x2 x3 x4=>?_,.inr fun j x1 x2=>q5 _ _ (by omega) (by omega) (by omega) x2⟩,by simp only; omega⟩
  by_cases hh:i < a∨b≤j
  ·exact fin_seg Aa bB (by omega) fE q2 i j x1 x2 x3 hh
  exact q5 i j (by omega) (by omega) (by omega) (by omega)
 | false=>
  rw [if_neg (by decide)]
  obtain ⟨m,w,u,q1,q2,q3,q4,q5,q6⟩:=p68_ok hC (d0:=d) (by omega) (by omega) h1 h2
  rw [q1]
  have hul:=q2.len
  have fU:=fin_seg Aa bB (by omega) fE q2
  have pU:=pr_seg pE q2
  simp only [Option.bind_some]
  by_cases hlr:IntKind.wrap .i64 ((m:Int) - (a:Int)) < IntKind.wrap .i64 ((b:Int) - (m:Int))
  ·rw [if_pos hlr]
   obtain ⟨u2,r1,r2,r3⟩:=hr u a m lim (by omega) (by omega) (by omega) (by omega) (by omega) l0 l1 (by
    rcases pU with h | h
    ·exact .inl h
    exact .inr fun j x1 x2=>h j x1 (by omega))
   rw [r1]
   left
   have hm:u2[m]? = u[m]?:=r2.out m (by omega)
   refine ⟨_,rfl,⟨m+1,b,inc_nat (by omega),rfl,by omega,by omega,bB,l0,l1,(sE.trans (q2.wide Aa bB)).trans (r2.wide Aa (by omega)),fun i j x1 x2 x3 x4=>?_,.inr fun j x1 x2=>?_⟩,?_⟩
   ·simp only
    by_cases y1:i < a∨b≤j
    ·obtain ⟨i',e1,z1⟩:=seg_at r2 i
     obtain ⟨j',e2,z2⟩:=seg_at r2 j
     exact (fU i' j' (by omega) (by omega) (by omega) (by omega)).of e1 e2
    by_cases y2:j < m
    ·exact r3 i j (by omega) x2 y2
    by_cases y3:i=m
    ·exact (q6 j (by omega) (by omega)).of (by rw [y3,hm]) (r2.out j (by omega))
    obtain ⟨i',e1,z1⟩:=seg_at r2 i
    have hi:Le lt u2 i m:=(q5 i' (by omega) (by omega)).of e1 hm
    by_cases y4:j=m
    ·rw [y4]; exact hi
    have hl2:=r2.len
    exact hi.trans hC.ord (by omega) ((q6 j (by omega) (by omega)).of hm (r2.out j (by omega)))
   ·simp only
    exact (q6 j (by omega) x2).of (by rw [Nat.add_sub_cancel]; exact hm) (r2.out j (by omega))
   simp only; rw [inc_nat (by omega)]; omega
  rw [if_neg hlr]
  rw [inc_nat (by omega)]
  obtain ⟨u2,r1,r2,r3⟩:=hr u (m+1) b lim (by omega) (by omega) (by omega) (by omega) (by omega) l0 l1 (.inr fun j x1 x2=>q6 j (by omega) x2)
  rw [r1]
  left
  have hm:u2[m]? = u[m]?:=r2.out m (by omega)
  have hl2:=r2.len
  have hgt:∀ j,m < j→j < b→Le lt u2 m j:=seg_all (lo:=m+1) (hi:=b) r2 (fun j x1 x2=>q6 j (by omega) x2) hm |> fun h j x1 x2=>h j (by omega) x2
  refine ⟨_,rfl,⟨a,m,rfl,rfl,Aa,q3,by omega,l0,l1,(sE.trans (q2.wide Aa bB)).trans (r2.wide (by omega) bB),fun i j x1 x2 x3 x4=>?_,?_⟩,?_⟩
  ·simp only
   by_cases y1:i < a∨b≤j
   ·obtain ⟨i',e1,z1⟩:=seg_at r2 i
    obtain ⟨j',e2,z2⟩:=seg_at r2 j
    exact (fU i' j' (by omega) (by omega) (by omega) (by omega)).of e1 e2
   by_cases y2:m < i
   ·exact r3 i j (by omega) x2 (by omega)
   by_cases y3:i=m
   ·rw [y3]; exact hgt j (by omega) (by omega)
   have hi:Le lt u2 i m:=(q5 i (by omega) (by omega)).of (r2.out i (by omega)) hm
   by_cases y4:j=m
   ·rw [y4]; exact hi
   exact hi.trans hC.ord (by omega) (hgt j (by omega) (by omega))
  ·simp only
   rcases pU with h | h
   ·exact .inl h
   rcases Nat.eq_zero_or_pos a with h0 | h0
   ·exact .inl h0
   exact .inr fun j x1 x2=>(h j x1 (by omega)).of (r2.out _ (by omega)) (r2.out j (by omega))
  simp only; omega
theorem s1_ok (hC:CmpOk C lt) (hr:RecOk C lt k rec) (hk:B - A≤k) {a b p:Nat} {lim:Int} {d:List TLane} (H:Here lt A B d0 a b lim d) (h1:a≤p) (h2:p < b) (w1 w2:Bool) :
  GoesOn lt A B d0 (b - a) (p57_j1 C rec (a:Int) (b:Int) w1 w2 lim (p:Int) d):=by
 unfold p57_j1
 have hb:=H.bB; have hL:=H.BL; have hlen:=H.s.len; have h6:=H.l6
 split
 ·rename_i ha
  obtain ⟨r,z1,z2,z3⟩:=cmp_ev (β:=(Int×Int×Int×Bool×Bool×(List TLane))⊕(List TLane)) hC (d:=d) (I:=IntKind.wrap .i64 ((a:Int) - 1)) (J:=(p:Int)) (a - 1) p (dec_nat (by omega) (by omega)) rfl (by omega) (by omega)
   (fun r24=>p57_j0 C rec a b w1 w2 lim p d (!(decide (r24 < (0:Int)))))
  rw [z1]
  refine s0_ok hC hr hk H h1 h2 w1 w2 _ fun hw q x1 x2=>?_
  have hr':¬ r < 0:=by simpa using hw
  rcases H.p with h | h
  ·omega
  exact (z3 hr').trans hC.ord (by omega) (h q x1 x2)
 exact s0_ok hC hr hk H h1 h2 w1 w2 false fun h=>by cases h
theorem s2_ok (hC:CmpOk C lt) (hr:RecOk C lt k rec) (hk:B - A≤k) {a b p:Nat} {lim:Int} {d:List TLane} (H:Here lt A B d0 a b lim d) (h1:a≤p) (h2:p < b) (w1 w2 w3:Bool) :
  GoesOn lt A B d0 (b - a) (p57_j2 C rec (a:Int) (b:Int) w1 w2 lim (p:Int) d w3):=by
 unfold p57_j2
 have hb:=H.bB; have hL:=H.BL; have hlen:=H.s.len; have h6:=H.l6; have hab:=H.ab; have hA:=H.Aa; have h20:=H.AB
 cases w3 with
 | true=>
  rw [if_pos rfl]
  obtain ⟨r,q1,q2⟩:=p66_ok hC (a:=a) (b:=b) (d0:=d) (by omega) (by omega) (by omega) (by omega)
  rw [q1]
  simp only [Option.bind_some]
  cases r with
  | true=>
   rw [if_pos rfl]
   exact .inr ⟨_,rfl,H.s,fin_srt hA hb (by omega) H.f (SegE.refl _ _ _) (q2 rfl)⟩
  | false=>rw [if_neg (by decide)]; exact s1_ok hC hr hk H h1 h2 w1 w2
 | false=>rw [if_neg (by decide)]; exact s1_ok hC hr hk H h1 h2 w1 w2
theorem s4_ok (hC:CmpOk C lt) (hr:RecOk C lt k rec) (hk:B - A≤k) {a b p:Nat} {lim:Int} {d:List TLane} (H:Here lt A B d0 a b lim d) (h1:a≤p) (h2:p < b) (w1 w2:Bool) (q:Int) :
  GoesOn lt A B d0 (b - a) (p57_j4 C rec (a:Int) (b:Int) w1 w2 lim (p:Int) q d):=by
 unfold p57_j4 p57_j3
 split<;>split<;>exact s2_ok hC hr hk H h1 h2 w1 w2 _
theorem s5_ok (hC:CmpOk C lt) (hr:RecOk C lt k rec) (hk:B - A≤k) {a b:Nat} {lim:Int} {d:List TLane} (H:Here lt A B d0 a b lim d) (w1 w2:Bool) :
  GoesOn lt A B d0 (b - a) (p57_j5 C rec (a:Int) (b:Int) w1 w2 lim d):=by
 unfold p57_j5
 have hb:=H.bB; have hL:=H.BL; have hlen:=H.s.len; have h6:=H.l6; have hab:=H.ab; have hA:=H.Aa; have h20:=H.AB
 obtain ⟨m,q,q1,q2,q3⟩:=p64_ok hC (a:=a) (b:=b) (d:=d) (by omega) (by omega) (by omega) (by omega)
 rw [q1]
 simp only [Option.bind_some]
 split
 ·obtain ⟨u,r1,r2⟩:=p65_ok (C:=C) (a:=a) (b:=b) (d0:=d) (by omega) (by omega) (by omega)
  rw [r1]
  simp only [Option.bind_some]
  have e:IntKind.wrap .i64 (IntKind.wrap .i64 ((b:Int) - 1) - IntKind.wrap .i64 ((m:Int) - (a:Int)))=((b - 1 - (m - a):Nat):Int):=by
   rw [dec_nat (by omega) (by omega),wrap64 (n:=(m:Int) - (a:Int)) (by omega) (by omega),wrap64 (by omega) (by omega)]; omega
  rw [e]
  exact s4_ok hC hr hk (H.seg r2) (by omega) (by omega) w1 w2 _
 exact s4_ok hC hr hk H q2 q3 w1 w2 _
theorem q57_ok (hC:CmpOk C lt):∀ k,RecOk C lt k (q57 k):=by
 intro k
 induction k with
 | zero=>intro d a b lim h; omega
 | succ k ih=>
  intro d A B lim hk hab hb h6 h20 l0 l1 hp
  show ∃ u,b57 (q57 k) d A B lim C=some u∧SegE A B d u∧Srt lt A B u
  unfold b57
  suffices key:∃ u,loopC (p57_l0 C (q57 k)) ((A:Int),(B:Int),lim,true,true,d)=some u∧SegE A B d u∧Srt lt A B u by
   obtain ⟨u,h1,h2⟩:=key
   exact ⟨u,by rw [h1]; rfl,h2⟩
  refine loopC_rule (Inv lt A B d) (fun s=>(s.2.1 - s.1).toNat) _ ?_ ⟨A,B,rfl,rfl,Nat.le_refl _,hab,Nat.le_refl _,l0,l1,SegE.refl _ _ _,fun i j x1 x2 x3 x4=>by omega,hp⟩
  rintro ⟨I,J,lim,w1,w2,e⟩ ⟨a,b,e1,e2,k1,k2,k3,k4,k5,k6,k7,k8⟩
  simp only at e1 e2 k4 k5 k6 k7 k8
  subst e1 e2
  have hlen:=k6.len
  have eb:IntKind.wrap .i64 ((b:Int) - (a:Int))=((b - a:Nat):Int):=by rw [wrap64 (by omega) (by omega)]; omega
  show GoesOn lt A B d ((b:Int) - (a:Int)).toNat _
  rw [show ((b:Int) - (a:Int)).toNat=b - a by omega]
  unfold p57_l0
  simp only
  rw [eb]
  by_cases h12:b - a≤12
  ·rw [if_pos (by omega)]
   obtain ⟨u,q1,q2,q3⟩:=p61_ok hC (a:=a) (b:=b) (d0:=e) (by omega) k2 (by omega)
   rw [q1]
   exact .inr ⟨_,rfl,k6.trans (q2.wide k1 k3),fin_srt k1 k3 k2 k7 q2 q3⟩
  rw [if_neg (by omega)]
  split
  ·obtain ⟨u,q1,q2,q3⟩:=p62_ok hC (a:=a) (b:=b) (d0:=e) (by omega) k2 (by omega)
   rw [q1]
   exact .inr ⟨_,rfl,k6.trans (q2.wide k1 k3),fin_srt k1 k3 k2 k7 q2 q3⟩
  rename_i hl
  have H:∀ l:Int,0≤l→l≤1000→Here lt A B d a b l e:=fun l x1 x2=>⟨h6,hb,h20,k1,by omega,k3,x1,x2,k6,k7,k8⟩
  split
  ·obtain ⟨u,q1,q2⟩:=p63_ok (C:=C) (a:=a) (b:=b) (d0:=e) (by omega) (by omega) (by omega) (by omega)
   rw [q1]
   simp only [Option.bind_some]
   refine s5_ok hC ih (by omega) ((H _ ?_ ?_).seg q2) w1 w2
   ·rw [wrap64 (by omega) (by omega)]; omega
   rw [wrap64 (by omega) (by omega)]; omega
  exact s5_ok hC ih (by omega) (H _ k4 k5) w1 w2
theorem p58_ok {n:Nat} (h:n≤20):∃ q,p58 (IntKind.wrap .u64 (n:Int))=some q∧0≤q∧q≤1000:=by
 have:n=0∨n=1∨n=2∨n=3∨n=4∨n=5∨n=6∨n=7∨n=8∨n=9∨n=10∨n=11∨n=12∨n=13∨n=14∨n=15∨n=16∨n=17∨n=18∨n=19∨n=20:=by omega
 rcases this with rfl | rfl | rfl | rfl | rfl | rfl | rfl | rfl | rfl | rfl | rfl | rfl | rfl | rfl | rfl | rfl | rfl | rfl | rfl | rfl | rfl<;>exact ⟨_,rfl,by decide,by decide⟩
theorem p44_ok (hC:CmpOk C lt) {d:List TLane} (h:d.length≤20):∃ u,p44 d C=some u∧u.length=d.length∧(∀ x,x∈u↔x∈d)∧Srt lt 0 u.length u:=by
 unfold p44
 obtain ⟨q,h1,h2,h3⟩:=p58_ok h
 rw [h1]
 simp only [Option.bind_some]
 obtain ⟨u,k1,k2,k3⟩:=q57_ok hC 64 d 0 d.length q (by omega) (by omega) (by omega) (by omega) (by omega) h2 h3 (.inl rfl)
 unfold p57
 rw [show ((0:Nat):Int)=0 from rfl] at k1
 rw [k1]
 exact ⟨u,rfl,k2.len,fun x=>k2.mem x,by rw [k2.len]; exact k3⟩
end
end Go.Proofs.Ytgbkpiaonlabgaa
namespace Go.Proofs.Ytgbkpiaonlabgaa
open Go Go.Am
def ltL (x y:TLane):Prop:=x.From < y.From∨x.From=y.From∧(x.To < y.To∨x.To=y.To∧x.Ahead < y.Ahead)
theorem ltL_ord:Ord ltL:=by
 constructor
 ·unfold ltL; omega
 unfold ltL; intro x y z h1 h2; omega
theorem p47_eq (x y:Int):p47 x y=some (if x < y then -1 else if y < x then 1 else 0):=by
 unfold p47 p59
 simp only [Option.bind_some,decide_true,Bool.not_true]
 rw [if_neg (by decide),if_neg (by decide)]
 split
 ·rfl
 split<;>rfl
theorem p46_eq (a b c:Int):p46 [a,b,c]=some (if a≠0 then a else if b≠0 then b else c):=by
 have step:∃ q,loopC (p46_l0 [a,b,c]) (0:Int)=some q∧q=(if a≠0 then .inl a else if b≠0 then .inl b else if c≠0 then .inl c else .inr ()):=by
  refine ⟨_,loopC_iff.2 ⟨4,?_⟩,rfl⟩
  have f:∀ (k:Nat) (x:Int),[a,b,c][k]? = some x→p46_l0 [a,b,c] (k:Int)=if x≠0 then some (.inr (.inl x)) else some (.inl (IntKind.wrap .i64 ((k:Int)+1))):=fun k x hx=>by
   have:=(List.getElem?_eq_some_iff.1 hx).1
   unfold p46_l0
   rw [if_pos (by omega),idx_ok hx]
   simp only [Option.bind_some]
   by_cases h:x=0<;>simp [h]
  have f3:p46_l0 [a,b,c] (3:Int)=some (.inr (.inr ())):=by unfold p46_l0; rw [if_neg (by simp)]
  have f0:=f 0 a rfl; have f1:=f 1 b rfl; have f2:=f 2 c rfl
  have e1:IntKind.wrap .i64 (((0:Nat):Int)+1)=((1:Nat):Int):=by decide
  have e2:IntKind.wrap .i64 (((1:Nat):Int)+1)=((2:Nat):Int):=by decide
  have e3:IntKind.wrap .i64 (((2:Nat):Int)+1)=(3:Int):=by decide
  rw [e1] at f0; rw [e2] at f1; rw [e3] at f2
  simp only [iter]
  rw [show (0:Int)=((0:Nat):Int) from rfl,f0]
  by_cases ha:a=0
  ·simp only [ha,ne_eq,not_true_eq_false,if_false]
   rw [ha] at f1 f2 f3
   rw [f1]
   by_cases hb:b=0
   ·simp only [hb,ne_eq,not_true_eq_false,if_false]
    rw [hb] at f2 f3
    rw [f2]
    by_cases hc:c=0
    ·simp only [hc,ne_eq,not_true_eq_false,if_false]
     rw [hc] at f3
     rw [f3]; rfl
    simp [hc]
   simp [hb]
  simp [ha]
 obtain ⟨q,h1,h2⟩:=step
 unfold p46
 rw [h1,h2]
 by_cases ha:a=0
 ·by_cases hb:b=0
  ·by_cases hc:c=0<;>simp [ha,hb,hc]
  simp [ha,hb]
 simp [ha]
theorem p45_cmp:CmpOk (fun (y0:TLane) (y1:TLane)=>p45 y0 y1) ltL:=by
 refine ⟨fun x y=>?_,ltL_ord⟩
 unfold p45
 simp only [p47_eq,p46_eq,Option.bind_some]
 refine ⟨_,rfl,?_⟩
 unfold ltL
 split
 ·split at *<;>(try split at *)<;>omega
 split
 ·split at *<;>(try split at *)<;>(try split at *)<;>(try split at *)<;>omega
 split at *<;>(try split at *)<;>(try split at *)<;>(try split at *)<;>(try split at *)<;>(try split at *)<;>omega
def sameL (x y:TLane):Bool:=decide (x.From=y.From)&&decide (x.To=y.To)
theorem p49_eq (x y:TLane):p49 x y=some (sameL x y):=by
 unfold p49 p49_j0 sameL
 split<;>rename_i h<;>simp [h]
def cpt {α:Type} (E:α→α→Bool) (l:List α):Nat→List α
 | 0=>[]
 | k+1=>match l[k]?,(if k=0 then none else l[k - 1]?) with
  | none,_=>cpt E l k
  | some x,none=>cpt E l k++[x]
  | some x,some y=>if E x y then cpt E l k else cpt E l k++[x]
theorem cpt_le {α:Type} (E:α→α→Bool) (l:List α):∀ k,(cpt E l k).length≤k
 | 0=>Nat.le_refl _
 | k+1=>by
  have:=cpt_le E l k
  unfold cpt
  split
  ·omega
  ·simp; omega
  split
  ·omega
  simp; omega
theorem cpt_step {α:Type} {E:α→α→Bool} {l:List α} {k:Nat} (h0:0 < k) (h:k < l.length):cpt E l (k+1)=if E l[k] (l[k - 1]'(by omega)) then cpt E l k else cpt E l k++[l[k]]:=by
 conv=>lhs; unfold cpt
 rw [List.getElem?_eq_getElem h,if_neg (by omega),List.getElem?_eq_getElem (show k - 1 < l.length by omega)]
theorem wr_take {α:Type}:∀ (n:Nat) (l:List α) (lo:Nat) (x:α) (k:Nat),k≤lo→(wr l lo n x).take k=l.take k
 | 0,l,lo,x,k,h=>rfl
 | n+1,l,lo,x,k,h=>by
  unfold wr
  rw [wr_take n _ _ _ k (by omega),List.take_set_of_le (by omega)]
section
variable {E:TLane→TLane→Option Bool} {e:TLane→TLane→Bool}
theorem slc_tail {l:List TLane} {k n:Nat} (h:k≤l.length) (hn:l.length=n:=by rfl):slc l (k:Int) (n:Int)=some (l.drop k):=by
 subst hn
 unfold slc
 rw [if_pos ⟨by omega,by omega,by omega⟩]
 simp
theorem p48_ok (hE:∀ x y,E x y=some (e x y)) {l:List TLane} (hl:l.length≤1000000):p48 l E=some (cpt e l l.length):=by
 unfold p48
 by_cases h2:l.length < 2
 ·rw [if_pos (by omega)]
  match l,h2 with
  | [],_=>rfl
  | [x],_=>rfl
 rw [if_neg (by omega)]
 suffices key:∃ q,loopC (p48_l1 l E) (1:Int)=some q∧(match q with | .inl u=>u=cpt e l l.length | .inr _=>l=cpt e l l.length) by
  obtain ⟨q,h1,h3⟩:=key
  rw [h1]
  rcases q with u | u
  ·simp only at h3; rw [h3]; rfl
  simp only at h3; simp only [Option.bind_some]; exact congrArg some h3
 refine loopC_rule (fun s=>∃ k:Nat,s=(k:Int)∧0 < k∧k≤l.length∧cpt e l k=l.take k) (fun s=>l.length - s.toNat) _ ?_ ⟨1,rfl,by omega,by omega,?_⟩
 ·rintro _ ⟨k,rfl,h0,hk,hc⟩
  unfold p48_l1
  by_cases hkl:k < l.length
  ·rw [if_pos (by omega),idx_get hkl,dec_nat (by omega) h0,idx_get (show k - 1 < l.length by omega)]
   simp only [Option.bind_some,hE]
   by_cases he:e l[k] (l[k - 1]'(by omega))=true
   ·right
    rw [if_pos he,slc_tail (by omega)]
    simp only [Option.bind_some]
    have hc1:cpt e l (k+1)=l.take k:=by rw [cpt_step h0 hkl,if_pos he,hc]
    suffices inner:∃ q:Int×List TLane,loopC (p48_l0 l E (k:Int)) ((k:Int),1,l)=some q∧∃ w:Nat,q.1=(w:Int)∧w < l.length∧q.2.length=l.length∧q.2.take w=cpt e l l.length by
     obtain ⟨⟨q1,d⟩,i1,w,i2,i3,i4,i5⟩:=inner
     simp only at i2 i4 i5
     subst i2
     rw [i1]
     simp only [Option.bind_some]
     rw [slc_tail (by omega)]
     simp only [Option.bind_some]
     have hne:neL (d.drop w)=some ():=by
      unfold neL
      rw [if_neg]
      simp; omega
     rw [hne]
     simp only [Option.bind_some]
     have hs:slc (wr d (w:Int).toNat (((d.length:Int):Int).toNat - (w:Int).toNat) (TLane.mk (0:Int) (0:Int) (0:Int))) (0:Int) (w:Int)=some (d.take w):=by
      unfold slc
      rw [if_pos ⟨by omega,by omega,by rw [wr_len]; omega⟩]
      simp only [Int.toNat_natCast,Int.toNat_zero,List.drop_zero]
      rw [wr_take _ _ _ _ _ (Nat.le_refl _)]
     rw [hs]
     exact ⟨_,rfl,i5⟩
    refine loopC_rule (fun s=>∃ w m:Nat,s.1=(w:Int)∧s.2.1=(m:Int)∧0 < m∧k+m≤l.length∧w < k+m∧s.2.2.length=l.length∧s.2.2.take w=cpt e l (k+m)∧∀ i,k+m≤i+1→s.2.2[i]? = l[i]?) (fun s=>l.length - s.2.1.toNat) _ ?_ ⟨k,1,rfl,rfl,by omega,by omega,by omega,rfl,hc1.symm,fun i hi=>rfl⟩
    rintro ⟨W,M,d⟩ ⟨w,m,j1,j2,j3,j4,j5,j6,j7,j8⟩
    simp only at j1 j2 j6 j7 j8
    subst j1 j2
    unfold p48_l0
    simp only
    rw [slc_tail (by omega) j6]
    simp only [Option.bind_some]
    by_cases hm:k+m < l.length
    ·left
     have hd:m < (d.drop k).length:=by simp; omega
     rw [if_pos (by omega),idx_get hd,dec_nat (by omega) j3,idx_get (show m - 1 < (d.drop k).length by omega)]
     simp only [Option.bind_some,hE]
     have g1:(d.drop k)[m]=l[k+m]:=by
      have:=j8 (k+m) (by omega)
      rw [List.getElem?_eq_getElem (by omega),List.getElem?_eq_getElem hm] at this
      simp only [List.getElem_drop]
      exact Option.some.inj this
     have g2:(d.drop k)[m - 1]'(by omega)=l[k+m - 1]'(by omega):=by
      have:=j8 (k+m - 1) (by omega)
      rw [List.getElem?_eq_getElem (by omega),List.getElem?_eq_getElem (by omega)] at this
      simp only [List.getElem_drop]
      have e1:k+(m - 1)=k+m - 1:=by omega
      simp only [e1]
      exact Option.some.inj this
     rw [g1,g2]
     have hst:=cpt_step (E:=e) (l:=l) (k:=k+m) (by omega) hm
     by_cases he2:e l[k+m] (l[k+m - 1]'(by omega))=true
     ·rw [if_neg (by simp [he2])]
      unfold p48_j0
      refine ⟨_,rfl,⟨w,m+1,rfl,inc_nat (by omega),by omega,by omega,by omega,j6,?_,fun i hi=>j8 i (by omega)⟩,?_⟩
      ·rw [j7,show k+(m+1)=k+m+1 by omega,hst,if_pos he2]
      simp only; rw [inc_nat (by omega)]; omega
     rw [if_pos (by simp [he2]),idx_get (show w < d.length by omega)]
     simp only [Option.bind_some]
     unfold p48_j0
     rw [Int.toNat_natCast]
     refine ⟨_,rfl,⟨w+1,m+1,inc_nat (by omega),inc_nat (by omega),by omega,by omega,by omega,by simp [j6],?_,fun i hi=>?_⟩,?_⟩
     ·simp only
      rw [show k+(m+1)=k+m+1 by omega,hst,if_neg he2,← j7,List.take_succ_eq_append_getElem (by simp; omega),List.take_set_of_le (Nat.le_refl _)]
      simp
     ·simp only
      rw [List.getElem?_set_ne (by omega)]
      exact j8 i (by omega)
     simp only; rw [inc_nat (by omega)]; omega
    right
    rw [if_neg (by simp; omega)]
    refine ⟨_,rfl,w,rfl,by omega,j6,?_⟩
    rw [j7,show k+m=l.length by omega]
   left
   rw [if_neg he]
   refine ⟨_,rfl,⟨k+1,inc_nat (by omega),by omega,by omega,?_⟩,by rw [inc_nat (by omega)]; omega⟩
   rw [cpt_step h0 hkl,if_neg he,hc,List.take_succ_eq_append_getElem hkl]
  right
  rw [if_neg (by omega)]
  have e:k=l.length:=by omega
  refine ⟨_,rfl,?_⟩
  simp only
  rw [← e,hc,e,List.take_length]
 have:0 < l.length:=by omega
 unfold cpt
 rw [List.getElem?_eq_getElem this,if_pos rfl]
 simp only [cpt,List.nil_append]
 rw [List.take_succ_eq_append_getElem this]
 rfl
end
theorem cpt_mem {l:List TLane} {x:TLane}:∀ k,x∈cpt sameL l k→x∈l
 | 0,h=>by cases h
 | k+1,h=>by
  unfold cpt at h
  split at h
  ·exact cpt_mem k h
  ·rename_i y h1 h2
   rcases List.mem_append.1 h with h | h
   ·exact cpt_mem k h
   rw [List.mem_singleton] at h; subst h; exact List.mem_of_getElem? h1
  rename_i y z h1 h2
  split at h
  ·exact cpt_mem k h
  rcases List.mem_append.1 h with h | h
  ·exact cpt_mem k h
  rw [List.mem_singleton] at h; subst h; exact List.mem_of_getElem? h1
def ltP (x y:TLane):Prop:=x.From < y.From∨x.From=y.From∧x.To < y.To
theorem cpt_ok {l:List TLane} (hs:Srt ltL 0 l.length l):∀ k,k≤l.length→(cpt sameL l k).Pairwise ltP∧
  (∀ x,x∈cpt sameL l k→∃ i,i < k∧l[i]? = some x)∧∀ i x,i < k→l[i]? = some x→∃ y,y∈cpt sameL l k∧y.From=x.From∧y.To=x.To∧y.Ahead≤x.Ahead
 | 0,_=>⟨.nil,(fun x hx=>by cases hx),fun i x hi=>by omega⟩
 | k+1,hk=>by
  obtain ⟨h1,h2,h3⟩:=cpt_ok hs k (by omega)
  have hkl:k < l.length:=by omega
  have low:∀ i x,i < k→l[i]? = some x→¬ ltL l[k] x:=fun i x hi hx=>hs i k (Nat.zero_le _) hi hkl _ _ hx (List.getElem?_eq_getElem hkl)
  rcases Nat.eq_zero_or_pos k with h0 | h0
  ·subst h0
   have e:cpt sameL l (0+1)=[l[0]]:=by
    conv=>lhs; unfold cpt
    rw [List.getElem?_eq_getElem hkl,if_pos rfl]
    rfl
   rw [e]
   refine ⟨List.pairwise_singleton _ _,fun x hx=>?_,fun i x hi hx=>?_⟩
   ·rw [List.mem_singleton] at hx; subst hx; exact ⟨0,by omega,List.getElem?_eq_getElem hkl⟩
   obtain rfl:i=0:=by omega
   rw [List.getElem?_eq_getElem hkl] at hx; cases hx
   exact ⟨_,List.mem_singleton.2 rfl,rfl,rfl,Int.le_refl _⟩
  have hprev:=List.getElem?_eq_getElem (show k - 1 < l.length by omega)
  rw [cpt_step h0 hkl]
  split
  ·rename_i he
   unfold sameL at he
   simp only [Bool.and_eq_true,decide_eq_true_eq] at he
   refine ⟨h1,fun x hx=>?_,fun i x hi hx=>?_⟩
   ·obtain ⟨i,i1,i2⟩:=h2 x hx; exact ⟨i,by omega,i2⟩
   by_cases hik:i < k
   ·exact h3 i x hik hx
   obtain rfl:i=k:=by omega
   rw [List.getElem?_eq_getElem hkl] at hx; cases hx
   obtain ⟨y,y1,y2,y3,y4⟩:=h3 (i - 1) _ (by omega) hprev
   have:=low (i - 1) _ (by omega) hprev
   unfold ltL at this
   exact ⟨y,y1,by omega,by omega,by omega⟩
  rename_i he
  unfold sameL at he
  simp only [Bool.and_eq_true,decide_eq_true_eq] at he
  refine ⟨?_,fun x hx=>?_,fun i x hi hx=>?_⟩
  ·rw [List.pairwise_append]
   refine ⟨h1,List.pairwise_singleton _ _,fun x hx y hy=>?_⟩
   rw [List.mem_singleton] at hy; subst hy
   obtain ⟨i,i1,i2⟩:=h2 x hx
   have q1:=low (k - 1) _ (by omega) hprev
   by_cases hik:i=k - 1
   ·subst hik
    rw [hprev] at i2; cases i2
    unfold ltL at q1; unfold ltP
    omega
   have q2:=hs i (k - 1) (Nat.zero_le _) (by omega) (by omega) _ _ i2 hprev
   unfold ltL at q1 q2; unfold ltP
   omega
  ·rcases List.mem_append.1 hx with hx | hx
   ·obtain ⟨i,i1,i2⟩:=h2 x hx; exact ⟨i,by omega,i2⟩
   rw [List.mem_singleton] at hx; subst hx; exact ⟨k,by omega,List.getElem?_eq_getElem hkl⟩
  by_cases hik:i < k
  ·obtain ⟨y,y1,y2⟩:=h3 i x hik hx
   exact ⟨y,List.mem_append_left _ y1,y2⟩
  obtain rfl:i=k:=by omega
  rw [List.getElem?_eq_getElem hkl] at hx; cases hx
  exact ⟨_,List.mem_append_right _ (List.mem_singleton.2 rfl),rfl,rfl,Int.le_refl _⟩
end Go.Proofs.Ytgbkpiaonlabgaa
namespace Go.Proofs.Ytgbkpiaonlabgaa
open Go Go.Am
structure NetOk (n:TNet):Prop where
 np:n.Places.length≤1000
 nt:n.Trans.length≤1000
 ins:∀ t,t∈n.Trans→t.In.length≤1000∧∀ a,a∈t.In→0≤a.Place∧a.Place < n.Places.length
 outs:∀ t,t∈n.Trans→t.Out.length≤1000∧∀ a,a∈t.Out→0≤a.Place∧a.Place < n.Places.length
 delay:∀ t,t∈n.Trans→0≤t.Delay
def B8 (n:Int):Prop:=0≤n∧n≤255
structure ActOk (x:TAct):Prop where
 D:B8 x.D
 P:B8 x.P
 I:B8 x.I
 J:B8 x.J
 N:B8 x.N
 O:B8 x.O
 Q:B8 x.Q
structure DraftOk (d:TDraft):Prop where
 nt:d.Tokens.length≤1000000000
 na:d.Acts.length≤1000000000
 tok:∀ v,v∈d.Tokens→B8 v
 act:∀ x,x∈d.Acts→ActOk x
structure DraftIn (d:TDraft):Prop where
 tok:∀ v,v∈d.Tokens→B8 v
 act:∀ x,x∈d.Acts→ActOk x
theorem DraftIn.ok {d:TDraft} (h:DraftIn d) (ht:d.Tokens.length≤60) (ha:d.Acts.length≤12):DraftOk d:=⟨by omega,by omega,h.tok,h.act⟩
def ArcsOk (m b:Nat) (l:List TArc):Prop:=l.length≤b∧∀ a,a∈l→0≤a.Place∧a.Place < (m:Int)
theorem ArcsOk.nil (m b:Nat):ArcsOk m b []:=⟨Nat.zero_le _,fun _ h=>by cases h⟩
theorem ArcsOk.le {m b c:Nat} {l:List TArc} (h:ArcsOk m b l) (hb:b≤c):ArcsOk m c l:=⟨Nat.le_trans h.1 hb,h.2⟩
structure TransOk (m:Nat) (t:TTrans):Prop where
 ins:ArcsOk m 2 t.In
 nots:ArcsOk m 1 t.Not
 outs:ArcsOk m 2 t.Out
 delay:0≤t.Delay
 dle:t.Delay≤4
def MkT (m k:Nat) (c:List TTrans):Prop:=c.length=k∧∀ t,t∈c→TransOk m t
def Goes (m k:Nat) (o:Option ((Int×List TTrans)⊕List TTrans)):Prop:=∃ s',o=some (.inl (IntKind.wrap .i64 ((k:Int)+1),s'))∧MkT m (k+1) s'
def Alike (a b:TTrans):Prop:=a.Delay=b.Delay∧a.Prio=b.Prio∧a.In=b.In∧a.Not=b.Not∧a.Out=b.Out
theorem p23_ok {n:TNet} (hp:n.Places.length≤1000000) (ht:n.Trans.length≤1000000):∃ n',p23 n=some n'∧n'.Places.length=n.Places.length∧n'.Trans.length=n.Trans.length∧∀ (i:Nat) t,n.Trans[i]? = some t→∃ t',n'.Trans[i]? = some t'∧Alike t' t:=by
 unfold p23
 suffices k1:∃ pl,loopC (p23_l0 n) ((0:Int),[])=some pl∧pl.length=n.Places.length by
  obtain ⟨pl,h1,h2⟩:=k1
  rw [h1]
  simp only [Option.bind_some]
  suffices k2:∃ c,loopC (p23_l1 n) ((0:Int),[])=some c∧(c.length=n.Trans.length∧∀ (i:Nat) t,n.Trans[i]? = some t→∃ t',c[i]? = some t'∧Alike t' t) by
   obtain ⟨c,h3,h4,h5⟩:=k2
   rw [h3]
   exact ⟨_,rfl,h2,h4,h5⟩
  refine loop_up (f:=p23_l1 n) n.Trans.length (by omega) (fun k (c:List TTrans)=>c.length=k∧∀ (i:Nat) t,i < k→n.Trans[i]? = some t→∃ t',c[i]? = some t'∧Alike t' t) _ ?_ ?_ ⟨rfl,fun i t hi=>by omega⟩
  ·intro k c hk ⟨e1,e2⟩
   left
   unfold p23_l1
   simp only
   rw [if_pos (by omega),idx_get hk]
   simp only [Option.bind_some]
   rw [catS_ok (by simp)]
   simp only [Option.bind_some]
   rw [app_ok (by simp; omega)]
   refine ⟨_,rfl,by simp [e1],fun i t hi hit=>?_⟩
   rw [List.getElem?_append]
   split
   ·exact e2 i t (by omega) hit
   obtain rfl:i=k:=by omega
   rw [List.getElem?_eq_getElem hk] at hit
   cases hit
   rw [e1,Nat.sub_self]
   exact ⟨_,rfl,rfl,rfl,rfl,rfl,rfl⟩
  intro c ⟨e1,e2⟩
  unfold p23_l1
  simp only
  rw [if_neg (by omega)]
  exact ⟨_,rfl,e1,fun i t hit=>e2 i t (List.getElem?_eq_some_iff.1 hit).1 hit⟩
 refine loop_up (f:=p23_l0 n) n.Places.length (by omega) (fun k (c:List TPlace)=>c.length=k) _ ?_ ?_ rfl
 ·intro k c hk e1
  left
  unfold p23_l0
  simp only
  rw [if_pos (by omega),idx_get hk]
  simp only [Option.bind_some]
  rw [catS_ok (by simp)]
  simp only [Option.bind_some]
  rw [app_ok (by simp; omega)]
  exact ⟨_,rfl,by simp [e1]⟩
 intro c e1
 unfold p23_l0
 simp only
 rw [if_neg (by omega)]
 exact ⟨_,rfl,e1⟩
end Go.Proofs.Ytgbkpiaonlabgaa
namespace Go.Proofs.Ytgbkpiaonlabgaa
open Go Go.Am
theorem incN {i:Nat} (h:i≤1000000000):IntKind.wrap .i64 ((i:Int)+1)=((i+1:Nat):Int):=by rw [wrap64 (by omega) (by omega)]; omega
def PairIn (n:Nat) (ps:List TArr2_Int) (a b:Nat):Prop:=a < n∧b < n∧∃ p,p∈ps∧p.e0=(a:Int)∧p.e1=(b:Int)
inductive Joi (n:Nat) (ps:List TArr2_Int):Nat→Nat→Prop where
 | refl (a:Nat):Joi n ps a a
 | up {a b c:Nat}:Joi n ps a b→PairIn n ps b c→Joi n ps a c
 | dn {a b c:Nat}:Joi n ps a b→PairIn n ps c b→Joi n ps a c
section
variable {n:Nat} {ps:List TArr2_Int}
theorem Joi.trans {a b c:Nat} (h:Joi n ps a b) (k:Joi n ps b c):Joi n ps a c:=by
 induction k with
 | refl=>exact h
 | up _ e ih=>exact .up ih e
 | dn _ e ih=>exact .dn ih e
theorem Joi.symm {a b:Nat} (h:Joi n ps a b):Joi n ps b a:=by
 induction h with
 | refl=>exact .refl _
 | up _ e ih=>exact (Joi.dn (.refl _) e).trans ih
 | dn _ e ih=>exact (Joi.up (.refl _) e).trans ih
def ColOk (n:Nat) (ps:List TArr2_Int) (col:List Int):Prop:=col.length=n∧∀ v,v < n→∃ w:Nat,col[v]? = some (w:Int)∧w < n∧Joi n ps v w
def Last (n:Nat) (ps:List TArr2_Int) (col:List Int) (v:Nat):Prop:=v < n∧∀ (c:Int) (w:Nat),col[v]? = some c→Joi n ps v w→w < n→c≤w
theorem step_ok {col:List Int} (ok:ColOk n ps col) {x y:Nat} {c d:Int} (hx:col[x]? = some c) (hy:col[y]? = some d) (hyn:y < n) (hxn:x < n) (hj:Joi n ps y x) (hcd:c≤d):ColOk n ps (col.set y c)∧(∀ v,Last n ps col v→Last n ps (col.set y c) v)∧(Last n ps col x→Last n ps (col.set y c) y):=by
 have hl:=ok.1
 have hg:∀ k,(col.set y c)[k]? = if k=y then some c else col[k]?:=fun k=>by
  by_cases hk:k=y
  ·rw [if_pos hk,hk,List.getElem?_set_self (by omega)]
  rw [if_neg hk,List.getElem?_set_ne (by omega)]
 refine ⟨⟨by simpa using hl,fun v hv=>?_⟩,fun v hv=>⟨hv.1,fun e w h1 h2 h3=>?_⟩,fun h=>⟨hyn,fun e w h1 h2 h3=>?_⟩⟩
 ·rw [hg]
  split
  ·rename_i e
   subst e
   obtain ⟨a,a1,a2,a3⟩:=ok.2 x hxn
   rw [hx] at a1
   exact ⟨a,a1,a2,hj.trans a3⟩
  exact ok.2 v hv
 ·rw [hg] at h1
  split at h1
  ·rename_i e'
   subst e'
   cases h1
   have:=hv.2 _ w hy h2 h3
   omega
  exact hv.2 _ w h1 h2 h3
 rw [hg,if_pos rfl] at h1
 cases h1
 exact h.2 _ w hx (hj.symm.trans h2) h3
end
end Go.Proofs.Ytgbkpiaonlabgaa
namespace Go.Proofs.Ytgbkpiaonlabgaa
open Go Go.Am
def looksB (t:TTrans) (q:Int):Bool:=t.In.any (fun a=>decide (a.Place=q))||t.Not.any (fun a=>decide (a.Place=q))
def givesB (t:TTrans) (q:Int):Bool:=t.Out.any (fun a=>decide (a.Place=q))
def tieB (t:TTrans) (q:Int):Bool:=looksB t q||(decide (t.Delay=0)&&givesB t q)
structure TrOk (m:Nat) (t:TTrans):Prop where
 ins:ArcsOk m 1000 t.In
 nots:ArcsOk m 1000 t.Not
 outs:ArcsOk m 1000 t.Out
theorem TransOk.tr {m:Nat} {t:TTrans} (h:TransOk m t):TrOk m t:=⟨h.ins.le (by omega),h.nots.le (by omega),h.outs.le (by omega)⟩
structure Few (n:TNet):Prop where
 np:n.Places.length≤1000
 nt:n.Trans.length≤1000
 tr:∀ t,t∈n.Trans→TrOk n.Places.length t
structure PartOk (n:TNet) (p:TPart):Prop where
 N1:1≤p.N
 N2:p.N≤32
 lp:p.Places.length=n.Places.length
 lt:p.Trans.length=n.Trans.length
 vp:∀ v,v∈p.Places→0≤v∧v < p.N
 vt:∀ v,v∈p.Trans→0≤v∧v < p.N
 tie:∀ (t q:Nat) x,n.Trans[t]? = some x→q < n.Places.length→tieB x (q:Int)=true→p.Places[q]? = p.Trans[t]?
end Go.Proofs.Ytgbkpiaonlabgaa
namespace Go.Proofs.Ytgbkpiaonlabgaa
open Go Go.Am
theorem p56_eq {t:TTrans} (h1:t.In.length≤1000000) (h2:t.Not.length≤1000000):p56 t=some ((t.In++t.Not).map TArc.Place):=by
 have inner:∀ (L:List TArc) (l:List Int),L.length≤1000000→l.length≤1000000→loopC (p56_l0 L) ((0:Int),l)=some (l++L.map TArc.Place):=by
  intro L l hL hl
  have:∃ r,loopC (p56_l0 L) ((0:Int),l)=some r∧r=l++L.map TArc.Place:=by
   refine loop_up (f:=p56_l0 L) L.length (by omega) (fun k (r:List Int)=>r=l++(L.take k).map TArc.Place) _ ?_ ?_ (by simp)
   ·rintro k r hk rfl
    left
    unfold p56_l0
    simp only
    rw [if_pos (by omega),idx_get hk]
    simp only [Option.bind_some]
    rw [app_ok (by simp; omega)]
    refine ⟨_,rfl,?_⟩
    rw [List.take_succ_eq_append_getElem hk,List.map_append,List.append_assoc]
    rfl
   rintro r rfl
   unfold p56_l0
   simp only
   rw [if_neg (by omega)]
   exact ⟨_,rfl,by rw [List.take_length]⟩
  obtain ⟨r,e1,e2⟩:=this
  rw [e1,e2]
 have:∃ r,loopC (p56_l1 t) ((0:Int),[])=some r∧r=(t.In++t.Not).map TArc.Place:=by
  refine loop_cnt 2 (fun k (s:Int×List Int)=>s.1=(k:Int)∧s.2=(if k=0 then [] else if k=1 then t.In.map TArc.Place else (t.In++t.Not).map TArc.Place)) _ ?_ ?_ ⟨rfl,rfl⟩
  ·rintro k ⟨i,l⟩ hk ⟨e1,e2⟩
   simp only at e1 e2
   subst e1 e2
   left
   unfold p56_l1
   simp only
   rw [if_pos (by omega)]
   rcases (show k=0∨k=1 by omega) with rfl | rfl
   ·rw [show idx [t.In,t.Not] ((0:Nat):Int)=some t.In from rfl]
    simp only [Option.bind_some,if_pos]
    rw [inner _ _ h1 (by simp)]
    exact ⟨_,rfl,rfl,by simp⟩
   rw [show idx [t.In,t.Not] ((1:Nat):Int)=some t.Not from rfl]
   simp only [Option.bind_some,if_pos]
   rw [if_neg (by omega),inner _ _ h2 (by simp; omega)]
   exact ⟨_,rfl,rfl,by simp⟩
  rintro ⟨i,l⟩ ⟨e1,e2⟩
  simp only at e1 e2
  subst e1 e2
  unfold p56_l1
  simp only
  rw [if_neg (by omega)]
  exact ⟨_,rfl,by simp⟩
 obtain ⟨r,e1,e2⟩:=this
 unfold p56
 rw [e1,e2]
 rfl
theorem range_eq (p:TPart) {L:List Int} (hL:L.length≤1000000) (y:Int):loopC (p43_l0 p L) (y,(0:Int))=some (if L.all (fun v=>decide (0≤v)&&decide (v < p.N))=true then .inr y else .inl ()):=by
 have:∃ r,loopC (p43_l0 p L) (y,(0:Int))=some r∧r=(if L.all (fun v=>decide (0≤v)&&decide (v < p.N))=true then .inr y else .inl ()):=by
  refine loop_cnt L.length (fun k (s:Int×Int)=>s=(y,(k:Int))∧(L.take k).all (fun v=>decide (0≤v)&&decide (v < p.N))=true) _ ?_ ?_ ⟨rfl,rfl⟩
  ·rintro k s hk ⟨rfl,hI⟩
   unfold p43_l0
   simp only
   rw [if_pos (by omega),idx_get hk]
   simp only [Option.bind_some]
   have bad:¬ (0≤L[k]∧L[k] < p.N)→(.inl ():Unit⊕Int)=(if L.all (fun v=>decide (0≤v)&&decide (v < p.N))=true then .inr y else .inl ()):=fun h=>by
    rw [if_neg]
    intro hall
    have:=List.all_eq_true.1 hall _ (List.getElem_mem hk)
    simp only [Bool.and_eq_true,decide_eq_true_eq] at this
    exact h this
   unfold p43_j0
   by_cases c1:L[k] < 0
   ·right; rw [if_pos c1,if_pos rfl]; exact ⟨_,rfl,bad (by omega)⟩
   by_cases c2:p.N≤L[k]
   ·right; rw [if_neg c1,if_pos (by simpa using c2)]; exact ⟨_,rfl,bad (by omega)⟩
   left
   rw [if_neg c1,if_neg (by simpa using c2)]
   refine ⟨_,rfl,by rw [incN (by omega)],?_⟩
   rw [List.take_succ_eq_append_getElem hk,List.all_append,hI]
   simp; omega
  rintro s ⟨rfl,hI⟩
  unfold p43_l0
  simp only
  rw [if_neg (by omega)]
  rw [List.take_length] at hI
  exact ⟨_,rfl,by rw [if_pos hI]⟩
 obtain ⟨r,e1,e2⟩:=this
 rw [e1,e2]
theorem l1_eq (p:TPart) (h1:p.Places.length≤1000000) (h2:p.Trans.length≤1000000):loopC (p43_l1 p) ((0:Int),(0:Int))=some (if (p.Places++p.Trans).all (fun v=>decide (0≤v)&&decide (v < p.N))=true then .inr 0 else .inl ()):=by
 have f0:p43_l1 p ((0:Int),(0:Int))=if p.Places.all (fun v=>decide (0≤v)&&decide (v < p.N))=true then some (.inl (0,1)) else some (.inr (.inl ())):=by
  unfold p43_l1
  simp only
  rw [if_pos (by decide),show idx [p.Places,p.Trans] (0:Int)=some p.Places from rfl]
  simp only [Option.bind_some]
  rw [range_eq p h1]
  simp only [Option.bind_some]
  split
  ·rename_i h; split at h
   ·cases h
   rename_i hh; rw [if_neg hh]
  rename_i h; split at h
  ·rename_i hh; rw [if_pos hh]; cases h; rfl
  cases h
 have f1:p43_l1 p ((0:Int),(1:Int))=if p.Trans.all (fun v=>decide (0≤v)&&decide (v < p.N))=true then some (.inl (0,2)) else some (.inr (.inl ())):=by
  unfold p43_l1
  simp only
  rw [if_pos (by decide),show idx [p.Places,p.Trans] (1:Int)=some p.Trans from rfl]
  simp only [Option.bind_some]
  rw [range_eq p h2]
  simp only [Option.bind_some]
  split
  ·rename_i h; split at h
   ·cases h
   rename_i hh; rw [if_neg hh]
  rename_i h; split at h
  ·rename_i hh; rw [if_pos hh]; cases h; rfl
  cases h
 have f2:p43_l1 p ((0:Int),(2:Int))=some (.inr (.inr 0)):=by unfold p43_l1; simp
 rw [List.all_append]
 refine loopC_iff.2 ⟨3,?_⟩
 by_cases c1:p.Places.all (fun v=>decide (0≤v)&&decide (v < p.N))=true
 ·by_cases c2:p.Trans.all (fun v=>decide (0≤v)&&decide (v < p.N))=true
  ·rw [if_pos c1] at f0
   rw [if_pos c2] at f1
   simp only [iter,f0,f1,f2,c1,c2]; rfl
  rw [if_pos c1] at f0
  rw [if_neg c2] at f1
  simp only [iter,f0,f1,c1,c2]; rfl
 rw [if_neg c1] at f0
 simp only [iter,f0,c1]; rfl
theorem p43_ok {n:TNet} {p:TPart} (hn:Few n) (hp:PartOk n p):p43 n p=some 0:=by
 have h1:=hn.np; have h2:=hn.nt; have h3:=hp.lp; have h4:=hp.lt; have h5:=hp.N1; have h6:=hp.N2
 unfold p43
 rw [if_neg (by simp; omega)]
 unfold p43_j4
 rw [if_neg (by simp; omega)]
 unfold p43_j3
 rw [if_neg (by simp; omega)]
 unfold p43_j2
 rw [if_neg (by simp; omega),l1_eq p (by omega) (by omega),if_pos (List.all_eq_true.2 fun v hv=>?_)]
 ·simp only [Option.bind_some]
  suffices key:∃ r,loopC (p43_l4 n p) ((0:Int),(0:Int))=some r∧r=.inr () by
   obtain ⟨r,e1,e2⟩:=key
   rw [e1,e2]; rfl
  refine loop_cnt n.Trans.length (fun k (s:Int×Int)=>s=(0,(k:Int))) _ ?_ ?_ rfl
  ·rintro k s hk rfl
   left
   unfold p43_l4
   simp only
   rw [if_pos (by omega)]
   have hget:=List.getElem?_eq_getElem hk
   have hok:=hn.tr _ (List.getElem_mem hk)
   rw [idx_ok hget]
   generalize hT:n.Trans[k]=T at hget hok
   simp only [Option.bind_some]
   have b1:=hok.ins.1; have b2:=hok.nots.1; have b3:=hok.outs.1
   rw [p56_eq (by omega) (by omega)]
   simp only [Option.bind_some]
   have ht:p.Trans[k]? = some (p.Trans[k]'(by omega)):=List.getElem?_eq_getElem (by omega)
   have l2:loopC (p43_l2 p (k:Int) ((T.In++T.Not).map TArc.Place)) ((0:Int),(0:Int))=some (.inr 0):=by
    suffices key:∃ r,loopC (p43_l2 p (k:Int) ((T.In++T.Not).map TArc.Place)) ((0:Int),(0:Int))=some r∧r=.inr 0 by
     obtain ⟨r,e1,e2⟩:=key
     rw [e1,e2]
    refine loop_cnt ((T.In++T.Not).map TArc.Place).length (fun j (s:Int×Int)=>s=(0,(j:Int))) _ ?_ ?_ rfl
    ·rintro j s hj rfl
     left
     unfold p43_l2
     simp only
     have hj2:j≤3000:=by simp at hj; omega
     rw [if_pos (by omega),idx_get hj]
     simp only [Option.bind_some]
     have hmem:=List.getElem_mem hj
     obtain ⟨a,ha1,ha2⟩:=List.mem_map.1 hmem
     rw [← ha2]
     have hin:0≤a.Place∧a.Place < (n.Places.length:Int):=by
      rcases List.mem_append.1 ha1 with h | h
      ·exact hok.ins.2 a h
      exact hok.nots.2 a h
     have htie:tieB T ((a.Place.toNat:Nat):Int)=true:=by
      unfold tieB looksB
      rw [Int.toNat_of_nonneg hin.1]
      rcases List.mem_append.1 ha1 with h | h
      ·rw [List.any_eq_true.2 ⟨a,h,by simp⟩]; simp
      have:T.Not.any (fun b=>decide (b.Place=a.Place))=true:=List.any_eq_true.2 ⟨a,h,by simp⟩
      rw [this]; simp
     have heq:=hp.tie k a.Place.toNat T hget (by omega) htie
     rw [ht] at heq
     have e3:idx p.Places a.Place=some (p.Trans[k]'(by omega)):=by
      have:=idx_ok heq
      rwa [Int.toNat_of_nonneg hin.1] at this
     rw [e3,idx_ok ht]
     simp only [Option.bind_some]
     rw [if_neg (by simp)]
     exact ⟨_,rfl,by rw [incN (by omega)]⟩
    rintro s rfl
    unfold p43_l2
    simp only
    rw [if_neg (by omega)]
    exact ⟨_,rfl,rfl⟩
   have l3:loopC (p43_l3 p (k:Int) T) ((0:Int),(0:Int))=some (.inr 0):=by
    suffices key:∃ r,loopC (p43_l3 p (k:Int) T) ((0:Int),(0:Int))=some r∧r=.inr 0 by
     obtain ⟨r,e1,e2⟩:=key
     rw [e1,e2]
    refine loop_cnt T.Out.length (fun j (s:Int×Int)=>s=(0,(j:Int))) _ ?_ ?_ rfl
    ·rintro j s hj rfl
     left
     unfold p43_l3
     simp only
     rw [if_pos (by omega),idx_get hj]
     simp only [Option.bind_some]
     have hmem:=List.getElem_mem hj
     generalize T.Out[j]=a at hmem
     have hin:=hok.outs.2 a hmem
     unfold p43_j1
     by_cases hd:T.Delay=0
     ·rw [if_pos hd]
      have htie:tieB T ((a.Place.toNat:Nat):Int)=true:=by
       unfold tieB givesB
       rw [Int.toNat_of_nonneg hin.1,List.any_eq_true.2 ⟨a,hmem,by simp⟩]; simp [hd]
      have heq:=hp.tie k a.Place.toNat T hget (by omega) htie
      rw [ht] at heq
      have e3:idx p.Places a.Place=some (p.Trans[k]'(by omega)):=by
       have:=idx_ok heq
       rwa [Int.toNat_of_nonneg hin.1] at this
      rw [e3,idx_ok ht]
      simp only [Option.bind_some]
      rw [if_neg (by simp)]
      exact ⟨_,rfl,by rw [incN (by omega)]⟩
     rw [if_neg hd,if_neg (by decide)]
     exact ⟨_,rfl,by rw [incN (by omega)]⟩
    rintro s rfl
    unfold p43_l3
    simp only
    rw [if_neg (by omega)]
    exact ⟨_,rfl,rfl⟩
   rw [l2]
   simp only [Option.bind_some]
   rw [l3]
   exact ⟨_,rfl,by rw [incN (by omega)]⟩
  rintro s rfl
  unfold p43_l4
  simp only
  rw [if_neg (by omega)]
  exact ⟨_,rfl,rfl⟩
 simp only [Bool.and_eq_true,decide_eq_true_eq]
 rcases List.mem_append.1 hv with hv | hv
 ·exact hp.vp v hv
 exact hp.vt v hv
def InL (n:TNet) (p:TPart) (x:TLane):Prop:=∃ (i:Nat) (t:TTrans) (a:TArc),n.Trans[i]? = some t∧a∈t.Out∧p.Trans[i]? = some x.From∧p.Places[a.Place.toNat]? = some x.To∧x.From≠x.To∧x.Ahead=t.Delay
def outs (n:TNet):Nat:=(n.Trans.map fun t=>t.Out.length).sum
theorem raw_ok {n:TNet} {p:TPart} (hn:Few n) (hp:PartOk n p):∃ L,loopC (p35_l1 n p) ((0:Int),[])=some L∧(L.length≤outs n∧∀ x,x∈L↔InL n p x):=by
 have h1:=hn.np; have h2:=hn.nt; have h3:=hp.lp; have h4:=hp.lt
 have hso:∀ k,k≤n.Trans.length→((n.Trans.take k).map fun t=>t.Out.length).sum≤1000 * k:=by
  intro k
  induction k with
  | zero=>intro _; simp
  | succ k ih=>
   intro hk
   have:=ih (by omega)
   rw [List.take_succ_eq_append_getElem (show k < n.Trans.length by omega),List.map_append,List.sum_append]
   have:=(hn.tr _ (List.getElem_mem (show k < n.Trans.length by omega))).outs.1
   simp only [List.map_cons,List.map_nil,List.sum_cons,List.sum_nil]; omega
 refine loop_up (f:=p35_l1 n p) n.Trans.length (by omega) (fun k (L:List TLane)=>L.length≤((n.Trans.take k).map fun t=>t.Out.length).sum∧∀ x,x∈L↔∃ (i:Nat) (t:TTrans) (a:TArc),i < k∧n.Trans[i]? = some t∧a∈t.Out∧p.Trans[i]? = some x.From∧p.Places[a.Place.toNat]? = some x.To∧x.From≠x.To∧x.Ahead=t.Delay) _ ?_ ?_ ⟨Nat.le_refl _,fun x=>⟨(fun h=>by cases h),fun ⟨i,t,a,h,_⟩=>by omega⟩⟩
 ·intro k L hk ⟨e1,e2⟩
  left
  unfold p35_l1
  simp only
  rw [if_pos (by omega)]
  have hget:=List.getElem?_eq_getElem hk
  have hok:=hn.tr _ (List.getElem_mem hk)
  have hs:=hso k (by omega)
  rw [idx_ok hget]
  have hsum:((n.Trans.take (k+1)).map fun t=>t.Out.length).sum=((n.Trans.take k).map fun t=>t.Out.length).sum+(n.Trans[k]).Out.length:=by
   rw [List.take_succ_eq_append_getElem hk,List.map_append,List.sum_append]; simp
  rw [hsum]
  generalize hT:n.Trans[k]=T at hget hok
  simp only [Option.bind_some]
  have b3:=hok.outs.1
  have ht:p.Trans[k]? = some (p.Trans[k]'(by omega)):=List.getElem?_eq_getElem (by omega)
  generalize hF:p.Trans[k]'(by omega)=F at ht
  have inner:∃ M,loopC (p35_l0 p (k:Int) T) ((0:Int),L)=some M∧(M.length≤L.length+T.Out.length∧∀ x,x∈M↔x∈L∨∃ a,a∈T.Out∧F=x.From∧p.Places[a.Place.toNat]? = some x.To∧x.From≠x.To∧x.Ahead=T.Delay):=by
   refine loop_up (f:=p35_l0 p (k:Int) T) T.Out.length (by omega) (fun j (M:List TLane)=>M.length≤L.length+j∧∀ x,x∈M↔x∈L∨∃ a,a∈T.Out.take j∧F=x.From∧p.Places[a.Place.toNat]? = some x.To∧x.From≠x.To∧x.Ahead=T.Delay) _ ?_ ?_ ⟨Nat.le_refl _,fun x=>by simp⟩
   ·intro j M hj ⟨m1,m2⟩
    left
    unfold p35_l0
    simp only
    rw [if_pos (by omega),idx_get hj,idx_ok ht]
    simp only [Option.bind_some]
    have hmem:=List.getElem_mem hj
    have htk:=List.take_succ_eq_append_getElem hj
    generalize T.Out[j]=a at hmem htk
    have hin:=hok.outs.2 a hmem
    have hpl:p.Places[a.Place.toNat]? = some (p.Places[a.Place.toNat]'(by omega)):=List.getElem?_eq_getElem (by omega)
    generalize hG:p.Places[a.Place.toNat]'(by omega)=G at hpl
    have e3:idx p.Places a.Place=some G:=by
     have:=idx_ok hpl
     rwa [Int.toNat_of_nonneg hin.1] at this
    rw [e3]
    simp only [Option.bind_some]
    unfold p35_j0
    by_cases hfg:F=G
    ·rw [if_neg (by simp [hfg])]
     refine ⟨_,rfl,by omega,fun x=>?_⟩
     rw [m2,htk]
     constructor
     ·rintro (h | ⟨b,b1,b2⟩)
      ·exact .inl h
      exact .inr ⟨b,List.mem_append_left _ b1,b2⟩
     rintro (h | ⟨b,b1,b2,b3,b4,b5⟩)
     ·exact .inl h
     rcases List.mem_append.1 b1 with b1 | b1
     ·exact .inr ⟨b,b1,b2,b3,b4,b5⟩
     rw [List.mem_singleton] at b1
     subst b1
     rw [hpl] at b3; cases b3
     exact absurd (b2.symm.trans hfg) b4
    rw [if_pos (by simp [hfg]),app_ok (by simp; omega)]
    refine ⟨_,rfl,by simp; omega,fun x=>?_⟩
    rw [List.mem_append,m2,List.mem_singleton,htk]
    constructor
    ·rintro ((h | ⟨b,b1,b2⟩) | rfl)
     ·exact .inl h
     ·exact .inr ⟨b,List.mem_append_left _ b1,b2⟩
     exact .inr ⟨a,List.mem_append_right _ (List.mem_singleton.2 rfl),rfl,hpl,hfg,rfl⟩
    rintro (h | ⟨b,b1,b2,b3,b4,b5⟩)
    ·exact .inl (.inl h)
    rcases List.mem_append.1 b1 with b1 | b1
    ·exact .inl (.inr ⟨b,b1,b2,b3,b4,b5⟩)
    rw [List.mem_singleton] at b1
    subst b1
    rw [hpl] at b3
    obtain ⟨x1,x2,x3⟩:=x
    simp only at b2 b3 b4 b5
    cases b3
    subst b2 b5
    exact .inr rfl
   intro M h
   unfold p35_l0
   simp only
   rw [if_neg (by omega)]
   rw [List.take_length] at h
   exact ⟨_,rfl,h⟩
  obtain ⟨M,i1,i2,i3⟩:=inner
  rw [i1]
  refine ⟨M,rfl,by omega,fun x=>?_⟩
  rw [i3,e2]
  constructor
  ·rintro (⟨i,t,a,q1,q2⟩ | ⟨a,q1,q2,q3⟩)
   ·exact ⟨i,t,a,by omega,q2⟩
   exact ⟨k,T,a,by omega,hget,q1,by rw [ht,q2],q3⟩
  rintro ⟨i,t,a,q1,q2,q3,q4,q5⟩
  by_cases e:i=k
  ·subst e
   rw [hget] at q2; cases q2
   rw [ht] at q4; cases q4
   exact .inr ⟨a,q3,rfl,q5⟩
  exact .inl ⟨i,t,a,by omega,q2,q3,q4,q5⟩
 intro L ⟨e1,e2⟩
 unfold p35_l1
 simp only
 rw [if_neg (by omega)]
 rw [List.take_length] at e1
 refine ⟨_,rfl,e1,fun x=>?_⟩
 rw [e2]
 constructor
 ·rintro ⟨i,t,a,q1,q2⟩; exact ⟨i,t,a,q2⟩
 rintro ⟨i,t,a,q2,q3⟩; exact ⟨i,t,a,(List.getElem?_eq_some_iff.1 q2).1,q2,q3⟩
structure LanesOk (n:TNet) (p:TPart) (u:List TLane):Prop where
 len:u.length≤20
 pw:u.Pairwise ltP
 is:∀ x,x∈u→InL n p x
 all:∀ x,InL n p x→∃ y,y∈u∧y.From=x.From∧y.To=x.To∧y.Ahead≤x.Ahead
theorem p35_ok {n:TNet} {p:TPart} (hn:Few n) (hp:PartOk n p) (ho:outs n≤20):∃ u,p35 n p=some u∧LanesOk n p u:=by
 unfold p35
 rw [p43_ok hn hp]
 simp only [Option.bind_some]
 rw [if_neg (by decide)]
 obtain ⟨L,h1,h2,h3⟩:=raw_ok hn hp
 rw [h1]
 simp only [Option.bind_some]
 obtain ⟨s,k1,k2,k3,k4⟩:=p44_ok p45_cmp (d:=L) (by omega)
 rw [k1]
 simp only [Option.bind_some]
 rw [p48_ok (e:=sameL) p49_eq (by omega)]
 obtain ⟨q1,q2,q3⟩:=cpt_ok k4 s.length (Nat.le_refl _)
 refine ⟨_,rfl,by have:=cpt_le sameL s s.length; omega,q1,fun x hx=>(h3 x).1 ((k3 x).1 (cpt_mem _ hx)),fun x hx=>?_⟩
 obtain ⟨i,hi⟩:=List.getElem?_of_mem ((k3 x).2 ((h3 x).2 hx))
 exact q3 i x (List.getElem?_eq_some_iff.1 hi).1 hi
end Go.Proofs.Ytgbkpiaonlabgaa
namespace Go.Proofs.Ytgbkpiaonlabgaa
open Go Go.Am
def lanB (f t:Int) (x:TLane):Bool:=decide (x.From=f)&&decide (x.To=t)
theorem p51_eq (x:TLane) (f t:Int):p51 x f t=some (lanB f t x):=by
 unfold p51 p51_j0 lanB
 split<;>rename_i h<;>simp [h]
theorem p37_no {L:List TLane} (hL:L.length≤1000000) {f t:Int} (h:∀ x,x∈L→lanB f t x=false):p37 L f t=some (-1):=by
 suffices key:∃ r,loopC (p50_l0 L (fun y0=>p51 y0 f t)) (0:Int)=some r∧r=.inr () by
  obtain ⟨r,e1,e2⟩:=key
  unfold p37 p50
  rw [e1,e2]; rfl
 refine loop_cnt L.length (fun k s=>s=(k:Int)) _ ?_ ?_ rfl
 ·rintro k s hk rfl
  left
  unfold p50_l0
  rw [if_pos (by omega),idx_get hk]
  simp only [Option.bind_some,p51_eq]
  rw [if_neg (by rw [h _ (List.getElem_mem hk)]; decide)]
  exact ⟨_,rfl,incN (by omega)⟩
 rintro s rfl
 unfold p50_l0
 rw [if_neg (by omega)]
 exact ⟨_,rfl,rfl⟩
def Cand (n:TNet) (P:TPart) (a b:Int) (t q:Nat) (D:Int):Prop:=∃ T,n.Trans[t]? = some T∧q < n.Places.length∧a≠b∧P.Trans[t]? = some a∧P.Places[q]? = some b∧givesB T (q:Int)=true∧D=T.Delay
def Best (n:TNet) (P:TPart) (a b:Int) (S:Nat→Nat→Prop) (v:Int):Prop:=(v = -1∧∀ t q D,S t q→¬ Cand n P a b t q D)∨(0≤v∧(∃ t q,S t q∧Cand n P a b t q v)∧∀ t q D,S t q→Cand n P a b t q D→v≤D)
theorem named_few {n n':TNet} (hn:Few n) (h1:n'.Places.length=n.Places.length) (h2:n'.Trans.length=n.Trans.length) (h3:∀ (i:Nat) t,n.Trans[i]? = some t→∃ t',n'.Trans[i]? = some t'∧Alike t' t) :
  Few n'∧(∀ P,PartOk n P→PartOk n' P)∧outs n'=outs n∧∀ P x,InL n' P x↔InL n P x:=by
 have back:∀ (i:Nat) t',n'.Trans[i]? = some t'→∃ t,n.Trans[i]? = some t∧Alike t' t:=fun i t' hi=>by
  have hlt:=(List.getElem?_eq_some_iff.1 hi).1
  have hg:n.Trans[i]? = some (n.Trans[i]'(by omega)):=List.getElem?_eq_getElem (by omega)
  obtain ⟨t2,k1,k2⟩:=h3 _ _ hg
  rw [hi] at k1
  cases k1
  exact ⟨_,hg,k2⟩
 refine ⟨⟨by rw [h1]; exact hn.np,by rw [h2]; exact hn.nt,fun t' ht'=>?_⟩,fun P hP=>⟨hP.N1,hP.N2,by rw [h1]; exact hP.lp,by rw [h2]; exact hP.lt,hP.vp,hP.vt,fun t q x k1 k2 k3=>?_⟩,?_,fun P x=>?_⟩
 ·obtain ⟨i,hi⟩:=List.getElem?_of_mem ht'
  obtain ⟨t,k1,k2⟩:=back i t' hi
  have:=hn.tr t (List.mem_of_getElem? k1)
  exact ⟨by rw [h1,k2.2.2.1]; exact this.ins,by rw [h1,k2.2.2.2.1]; exact this.nots,by rw [h1,k2.2.2.2.2]; exact this.outs⟩
 ·obtain ⟨y,y1,y2⟩:=back t x k1
  refine hP.tie t q y y1 (by omega) ?_
  unfold tieB looksB givesB at k3 ⊢
  rw [← y2.1,← y2.2.2.1,← y2.2.2.2.1,← y2.2.2.2.2]; exact k3
 ·unfold outs
  congr 1
  apply List.ext_getElem?
  intro i
  rw [List.getElem?_map,List.getElem?_map]
  cases hi:n.Trans[i]? with
  | none=>
   have:n'.Trans[i]? = none:=by rw [List.getElem?_eq_none_iff] at hi ⊢; omega
   rw [this]
  | some t=>
   obtain ⟨t',k1,k2⟩:=h3 i t hi
   rw [k1]
   simp only [Option.map_some]
   rw [k2.2.2.2.2]
 constructor
 ·rintro ⟨i,t,a,q1,q2,q3,q4,q5,q6⟩
  obtain ⟨y,y1,y2⟩:=back i t q1
  exact ⟨i,y,a,y1,by rw [← y2.2.2.2.2]; exact q2,q3,q4,q5,by rw [q6,y2.1]⟩
 rintro ⟨i,t,a,q1,q2,q3,q4,q5,q6⟩
 obtain ⟨y,y1,y2⟩:=h3 i t q1
 exact ⟨i,y,a,y1,by rw [y2.2.2.2.2]; exact q2,q3,q4,q5,by rw [q6,y2.1]⟩
theorem p32_eq:p32=some true:=by
 unfold p32
 let n0:TNet:=TNet.mk [(TPlace.mk ([]:List UInt8) (0:Int)),(TPlace.mk ([]:List UInt8) (0:Int))] [(TTrans.mk ([]:List UInt8) (3:Int) (0:Int) [(TArc.mk (0:Int) (1:Int))] [] [(TArc.mk (1:Int) (1:Int))])]
 have f0:Few n0:=by
  refine ⟨by decide,by decide,fun t ht=>?_⟩
  rw [List.mem_singleton] at ht; subst ht
  refine ⟨⟨by decide,fun a ha=>?_⟩,⟨by decide,fun a ha=>by cases ha⟩,⟨by decide,fun a ha=>?_⟩⟩<;>(rw [List.mem_singleton] at ha; subst ha; decide)
 have p0:PartOk n0 ⟨2,[0,1],[0]⟩:=by
  refine ⟨by decide,by decide,rfl,rfl,by decide,by decide,fun t q x h1 h2 h3=>?_⟩
  have ht:t=0:=by
   have:t < 1:=(List.getElem?_eq_some_iff.1 h1).1
   omega
  subst ht
  cases h1
  rcases (show q=0∨q=1 by have:q < 2:=h2; omega) with rfl | rfl
  ·rfl
  exact absurd h3 (by decide)
 obtain ⟨n',h1,h2,h3,h4⟩:=p23_ok (n:=n0) (by decide) (by decide)
 rw [show p23 (TNet.mk [(TPlace.mk ([]:List UInt8) (0:Int)),(TPlace.mk ([]:List UInt8) (0:Int))] [(TTrans.mk ([]:List UInt8) (3:Int) (0:Int) [(TArc.mk (0:Int) (1:Int))] [] [(TArc.mk (1:Int) (1:Int))])])=some n' from h1]
 simp only [Option.bind_some]
 obtain ⟨k1,k2,k3,k4⟩:=named_few f0 h2 h3 h4
 obtain ⟨u,q1,q2⟩:=p35_ok k1 (k2 _ p0) (by rw [k3]; decide)
 rw [q1]
 simp only [Option.bind_some]
 have only:∀ x,InL n' ⟨2,[0,1],[0]⟩ x↔x=⟨0,1,3⟩:=fun x=>by
  rw [k4]
  constructor
  ·rintro ⟨i,t,a,e1,e2,e3,e4,e5,e6⟩
   have ht:i=0:=by
    have:i < 1:=(List.getElem?_eq_some_iff.1 e1).1
    omega
   subst ht
   cases e1
   rw [List.mem_singleton] at e2
   subst e2
   obtain ⟨x1,x2,x3⟩:=x
   simp at e3 e4 e6
   subst e3 e4 e6
   rfl
  rintro rfl
  exact ⟨0,_,⟨1,1⟩,rfl,List.mem_singleton.2 rfl,rfl,rfl,by decide,rfl⟩
 obtain ⟨y,y1,y2,y3,y4⟩:=q2.all ⟨0,1,3⟩ ((only _).2 rfl)
 have hu:u=[⟨0,1,3⟩]:=by
  match u,q2,y1 with
  | [],_,y1=>cases y1
  | [z],q2,_=>rw [(only z).1 (q2.is z (List.mem_singleton.2 rfl))]
  | z::w::l,q2,_=>
   have e1:=(only z).1 (q2.is z (by simp))
   have e2:=(only w).1 (q2.is w (by simp))
   have:=(List.pairwise_cons.1 q2.pw).1 w (by simp)
   subst e1 e2
   unfold ltP at this
   simp at this
 rw [hu]
 rfl
end Go.Proofs.Ytgbkpiaonlabgaa
namespace Go.Proofs.Ytgbkpiaonlabgaa
open Go Go.Am
def trL (e:Int):TTrans:=TTrans.mk [] (1+e) 0 [TArc.mk 0 1] [] [TArc.mk 1 1]
def plL:List TPlace:=[TPlace.mk [] 0,TPlace.mk [] 0]
def IsLeast (l:List Int) (b:Int):Prop:=(l=[]∧b=0)∨(1≤b∧(∃ e,e∈l∧b=1+e)∧∀ e,e∈l→b≤1+e)
theorem loop12 {l:List Int} (hl:l.length≤20) (h8:∀ v,v∈l→B8 v):∃ b,loopC (p12_l0 l) ((0:Int),(0:Int),plL,[],[(0:Int),(1:Int)],[])=some (b,plL,l.map trL,[0,1],List.replicate l.length 0)∧IsLeast l b:=by
 suffices key:∃ r,loopC (p12_l0 l) ((0:Int),(0:Int),plL,[],[(0:Int),(1:Int)],[])=some r∧∃ b,r=(b,plL,l.map trL,[0,1],List.replicate l.length 0)∧IsLeast l b by
  obtain ⟨r,h1,b,rfl,h2⟩:=key
  exact ⟨b,h1,h2⟩
 refine loop_cnt l.length (fun k s=>∃ b,s=(b,(k:Int),plL,(l.take k).map trL,[0,1],List.replicate k 0)∧IsLeast (l.take k) b) _ ?_ ?_ ⟨0,rfl,.inl ⟨rfl,rfl⟩⟩
 ·rintro k s hk ⟨b,rfl,hb⟩
  left
  unfold p12_l0
  simp only
  rw [if_pos (by omega),idx_get hk]
  simp only [Option.bind_some]
  have he:=h8 _ (List.getElem_mem hk)
  have htk:=List.take_succ_eq_append_getElem hk
  generalize l[k]=e at he htk
  unfold B8 at he
  have ew:IntKind.wrap .i64 (1+IntKind.wrap .i64 e)=1+e:=by rw [wrap64 (n:=e) (by omega) (by omega),wrap64 (by omega) (by omega)]
  rw [ew,app_ok (by simp; omega)]
  simp only [Option.bind_some]
  rw [app_ok (by simp; omega)]
  simp only [Option.bind_some]
  rw [htk,List.map_append,List.replicate_succ']
  have new:∀ b',(b'=1+e∧(l.take k=[]∨1+e≤b)∨b'=b∧b≠0∧b≤1+e)→∃ b'',p12_j0 (k:Int) plL [0,1] ((l.take k).map trL++[trL e]) (List.replicate k 0++[0]) b'=some (.inl (b'',((k+1:Nat):Int),plL,(l.take k).map trL++[e].map trL,[0,1],List.replicate k 0++[0]))∧IsLeast (l.take k++[e]) b'':=fun b' h=>by
   unfold p12_j0
   rw [incN (by omega)]
   refine ⟨b',rfl,.inr ?_⟩
   rcases h with ⟨rfl,h⟩ | ⟨rfl,h0,h⟩
   ·refine ⟨by omega,⟨e,by simp,rfl⟩,fun x hx=>?_⟩
    rcases List.mem_append.1 hx with hx | hx
    ·rcases h with h | h
     ·rw [h] at hx; cases hx
     rcases hb with ⟨q1,_⟩ | ⟨_,_,q3⟩
     ·rw [q1] at hx; cases hx
     have:=q3 x hx; omega
    rw [List.mem_singleton] at hx; subst hx; omega
   rcases hb with ⟨_,q2⟩ | ⟨q1,⟨x,q2,q3⟩,q4⟩
   ·exact absurd q2 h0
   refine ⟨q1,⟨x,List.mem_append_left _ q2,q3⟩,fun y hy=>?_⟩
   rcases List.mem_append.1 hy with hy | hy
   ·exact q4 y hy
   rw [List.mem_singleton] at hy; subst hy; exact h
  have fin:∀ o:Option _,(∃ b'',o=some (.inl (b'',((k+1:Nat):Int),plL,(l.take k).map trL++[e].map trL,[0,1],List.replicate k 0++[0]))∧IsLeast (l.take k++[e]) b'')→∃ s',o=some (.inl s':(Int×Int×(List TPlace)×(List TTrans)×(List Int)×(List Int))⊕(Int×(List TPlace)×(List TTrans)×(List Int)×(List Int)))∧∃ b,s'=(b,((k+1:Nat):Int),plL,(l.take k).map trL++[e].map trL,[0,1],List.replicate k 0++[0])∧IsLeast (l.take k++[e]) b:=fun o ⟨b,h1,h2⟩=>⟨_,h1,b,rfl,h2⟩
  apply fin
  unfold p12_j1
  by_cases h0:b=0
  ·rw [if_pos h0,if_pos rfl,ew]
   refine new _ (.inl ⟨rfl,.inl ?_⟩)
   rcases hb with ⟨q,_⟩ | ⟨q,_⟩
   ·exact q
   omega
  rw [if_neg h0]
  by_cases h1:1+e < b
  ·rw [if_pos (by simpa using h1),ew]
   exact new _ (.inl ⟨rfl,.inr (by omega)⟩)
  rw [if_neg (by simpa using h1)]
  exact new _ (.inr ⟨rfl,h0,by omega⟩)
 rintro s ⟨b,rfl,hb⟩
 unfold p12_l0
 simp only
 rw [if_neg (by omega)]
 rw [List.take_length] at hb ⊢
 exact ⟨_,rfl,b,rfl,hb⟩
theorem p12_true {l:List Int} (h8:∀ v,v∈l→B8 v):p12 l=some true:=by
 unfold p12
 rw [p32_eq]
 simp only [Option.bind_some]
 rw [if_neg (by decide)]
 unfold p12_j5
 by_cases h20:(20:Int) < (l.length:Int)
 ·rw [decide_eq_true h20,if_pos rfl,p32_eq]; rfl
 rw [decide_eq_false h20,if_neg (by decide)]
 obtain ⟨b,b1,b2⟩:=loop12 (by omega) h8
 have b1':=b1
 unfold plL at b1'
 rw [b1']
 simp only [Option.bind_some]
 rw [show ([TPlace.mk [] 0,TPlace.mk [] 0]:List TPlace)=plL from rfl]
 have hget:∀ i t,(l.map trL)[i]? = some t→∃ e,l[i]? = some e∧t=trL e:=fun i t h=>by
  rw [List.getElem?_map] at h
  cases hi:l[i]? with
  | none=>rw [hi] at h; cases h
  | some e=>rw [hi] at h; exact ⟨e,hi,(Option.some.inj h).symm⟩
 have f0:Few ⟨plL,l.map trL⟩:=by
  refine ⟨by simp [plL],by simp; omega,fun t ht=>?_⟩
  obtain ⟨e,_,rfl⟩:=List.mem_map.1 ht
  refine ⟨⟨by simp [trL],fun a ha=>?_⟩,⟨by simp [trL],fun a ha=>by cases ha⟩,⟨by simp [trL],fun a ha=>?_⟩⟩<;>(simp only [trL,List.mem_singleton] at ha; subst ha; simp [plL])
 have p0:PartOk ⟨plL,l.map trL⟩ ⟨2,[0,1],List.replicate l.length 0⟩:=by
  refine ⟨by simp,by simp,rfl,by simp,by simp,fun v hv=>?_,fun t q x h1 h2 h3=>?_⟩
  ·obtain ⟨_,rfl⟩:=List.mem_replicate.1 hv; simp
  obtain ⟨e,e1,rfl⟩:=hget t x h1
  have ht:=(List.getElem?_eq_some_iff.1 e1).1
  have he:=h8 e (List.mem_of_getElem? e1)
  unfold B8 at he
  have h2':q < 2:=h2
  rcases (show q=0∨q=1 by omega) with rfl | rfl
  ·simp only
   rw [List.getElem?_replicate,if_pos ht]; rfl
  unfold tieB looksB trL at h3
  simp at h3
  omega
 obtain ⟨n',h1,h2,h3,h4⟩:=p23_ok (n:=⟨plL,l.map trL⟩) (by simp [plL]) (by simp; omega)
 rw [h1]
 simp only [Option.bind_some]
 obtain ⟨k1,k2,k3,k4⟩:=named_few f0 h2 h3 h4
 have ho:outs ⟨plL,l.map trL⟩≤20:=by
  unfold outs
  have:∀ l:List Int,((l.map trL).map fun t=>t.Out.length).sum=l.length:=fun l=>by
   induction l with
   | nil=>rfl
   | cons e l ih=>simp only [List.map_cons,List.sum_cons,ih,List.length_cons,trL,List.length_nil]; omega
  simp only [this]; omega
 obtain ⟨u,q1,q2⟩:=p35_ok k1 (k2 _ p0) (by rw [k3]; exact ho)
 rw [q1]
 simp only [Option.bind_some]
 have only:∀ x,InL n' ⟨2,[0,1],List.replicate l.length 0⟩ x↔x.From=0∧x.To=1∧∃ e,e∈l∧x.Ahead=1+e:=fun x=>by
  rw [k4]
  constructor
  ·rintro ⟨i,t,a,e1,e2,e3,e4,e5,e6⟩
   obtain ⟨e,hi,rfl⟩:=hget i t e1
   simp only [trL,List.mem_singleton] at e2
   subst e2
   have ht:=(List.getElem?_eq_some_iff.1 hi).1
   simp only at e3 e4
   rw [List.getElem?_replicate,if_pos ht] at e3
   exact ⟨(Option.some.inj e3).symm,(Option.some.inj e4).symm,e,List.mem_of_getElem? hi,e6⟩
  rintro ⟨h1,h2,e,h3,h4⟩
  obtain ⟨i,hi⟩:=List.getElem?_of_mem h3
  have ht:=(List.getElem?_eq_some_iff.1 hi).1
  refine ⟨i,trL e,⟨1,1⟩,by simp [hi],by simp [trL],?_,?_,by rw [h1,h2]; decide,h4⟩
  ·simp only; rw [List.getElem?_replicate,if_pos ht,h1]
  rw [h2]; rfl
 by_cases hl0:(l.length:Int)=0
 ·rw [if_pos hl0]
  have:u=[]:=by
   cases u with
   | nil=>rfl
   | cons x u=>
    obtain ⟨_,_,e,he,_⟩:=(only x).1 (q2.is x (by simp))
    have:=List.length_pos_of_mem he
    omega
  rw [this]; rfl
 rw [if_neg hl0]
 rcases b2 with ⟨b2,_⟩ | ⟨b2,⟨e,b3,b4⟩,b5⟩
 ·rw [b2] at hl0; exact absurd rfl hl0
 obtain ⟨y,y1,y2,y3,y4⟩:=q2.all ⟨0,1,b⟩ ((only _).2 ⟨rfl,rfl,e,b3,b4⟩)
 have hu:u=[⟨0,1,b⟩]:=by
  match u,q2,y1 with
  | [],_,y1=>cases y1
  | [z],q2,y1=>
   rw [List.mem_singleton] at y1
   subst y1
   obtain ⟨_,_,e',e1,e2⟩:=(only y).1 (q2.is y (by simp))
   have:=b5 e' e1
   simp only at y2 y3 y4
   obtain ⟨z1,z2,z3⟩:=y
   simp only at y2 y3 y4 e2
   subst y2 y3
   have:z3=b:=by omega
   rw [this]
  | z::w::t,q2,_=>
   have e1:=(only z).1 (q2.is z (by simp))
   have e2:=(only w).1 (q2.is w (by simp))
   have:=(List.pairwise_cons.1 q2.pw).1 w (by simp)
   unfold ltP at this
   omega
 rw [hu]
 rw [if_pos (by simp),show idx [(⟨0,1,b⟩:TLane)] (0:Int)=some ⟨0,1,b⟩ from rfl]
 simp only [Option.bind_some]
 have f1:p37 [(⟨0,1,b⟩:TLane)] 1 0=some (-1):=p37_no (by simp) fun x hx=>by
  rw [List.mem_singleton] at hx; subst hx; rfl
 have f2:p37 [] 0 1=some (-1):=p37_no (by simp) fun x hx=>by cases hx
 unfold p12_j4 p12_j3 p12_j2
 rw [f1,f2]
 simp
end Go.Proofs.Ytgbkpiaonlabgaa
namespace Go.Proofs.Ytgbkpiaonlabgaa
open Go Go.Am
theorem wf8 {n:Int} (h:(Lit.int .u8 n).wf=true):B8 n:=by
 simp only [Lit.wf,Bool.and_eq_true,decide_eq_true_eq] at h
 exact h
theorem law_laneLeast:∀ h xs,TyAs [(.sl (.int .u8))] h xs→ACalls F 12 xs h fun v _=>v=.bool true:=by
 intro h xs ht
 obtain ⟨c,d,rfl,h3,h4⟩:=ht
 simp only [TyAs] at h4
 subst h4
 obtain ⟨s1,l1,e1,k4,k5,_⟩:=sl_open (r:=rI .u8) (ok:=B8) (cs:=[c]) rfl (fun c hc=>by obtain ⟨n,q1,q2⟩:=int_open hc; exact ⟨n,q1,wf8 q2⟩) h3
 obtain rfl:c=s1:=by injection e1
 exact (r12 k4.frz (p12_true k5)).val fun v h' hq=>hq.1
end Go.Proofs.Ytgbkpiaonlabgaa
