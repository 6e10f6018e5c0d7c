/- An abstract machine for the model's code, and that the model does what it does. No condition. Own work. -/
import Derived.Test.YtmchbhheoieepaaAm5ProcessErrs
set_option linter.unusedSimpArgs false
set_option linter.unusedVariables false
namespace Go.Am
open Go
def FzO (a b:Option AObj):Prop:=a=b∨∃ cs v,a=some (.row cs v true)∧b=some (.row cs v false)
structure Fz (h h':Heap):Prop where
 n:h.n=h'.n
 get:∀ o,FzO (h.get o) (h'.get o)
theorem Fz.refl (h:Heap):Fz h h:=⟨rfl,fun _=>.inl rfl⟩
theorem Fz.trans {a b c:Heap} (h:Fz a b) (k:Fz b c):Fz a c:=⟨h.n.trans k.n,fun o=>by
 rcases h.get o with e | ⟨cs,v,e1,e2⟩
 ·rw [e]; exact k.get o
 rcases k.get o with e | ⟨cs',v',e3,e4⟩
 ·exact .inr ⟨cs,v,e1,by rw [← e]; exact e2⟩
 rw [e2] at e3; cases e3⟩
theorem Fz.push {h h':Heap} (k:Fz h h') (x:AObj):Fz (h.push x) (h'.push x):=⟨by simp [Heap.push,k.n],fun o=>by
 rw [Heap.get_push,Heap.get_push,k.n]
 split
 ·exact .inl rfl
 exact k.get o⟩
theorem Fz.set {h h':Heap} (k:Fz h h') {o:Nat} (ho:o < h.n) (x:AObj):Fz (h.set o x) (h'.set o x):=⟨k.n,fun p=>by
 rw [Heap.get_set h ho,Heap.get_set h' (by rw [← k.n]; exact ho)]
 split
 ·exact .inl rfl
 exact k.get p⟩
theorem Fz.cells {h h':Heap} (k:Fz h h') (o v off n:Nat):h.cells o v off n=h'.cells o v off n:=by
 unfold Heap.cells
 rcases k.get o with e | ⟨cs,v,e1,e2⟩
 ·rw [e]
 rw [e1,e2]
theorem Fz.rows {h h':Heap} (k:Fz h h') (z:Nat) (s:AV):h.rows z s=h'.rows z s:=by
 cases s<;>simp only [Heap.rows,k.cells]
theorem Fz.map {h h':Heap} (k:Fz h h') (o:Nat) (es:List (AV×AV)):h.get o=some (.map es)↔h'.get o=some (.map es):=by
 rcases k.get o with e | ⟨cs,v,e1,e2⟩
 ·rw [e]
 rw [e1,e2]; simp
theorem Fz.rop {h h':Heap} (k:Fz h h') (q:ROp) (xs:List AV):q.ev xs h=q.ev xs h':=by
 have key:∀ o,(∃ es,h.get o=some (.map es)∧h'.get o=some (.map es))∨((∀ es,h.get o≠some (.map es))∧∀ es,h'.get o≠some (.map es)):=by
  intro o
  by_cases hh:∃ es,h.get o=some (.map es)
  ·obtain ⟨es,he⟩:=hh; exact .inl ⟨es,he,(k.map o es).1 he⟩
  exact .inr ⟨fun es he=>hh ⟨es,he⟩,fun es he=>hh ⟨es,(k.map o es).2 he⟩⟩
 unfold ROp.ev
 split<;>try simp only [k.cells,k.rows]
 ·rename_i o _
  rcases key o with ⟨es,e1,e2⟩ | ⟨e1,e2⟩
  ·simp only [e1,e2]
  split
  ·rename_i es he; exact absurd he (e1 es)
  first | rfl | (split<;>first | rfl | (rename_i es he; exact absurd he (e2 es)))
 rename_i o
 rcases key o with ⟨es,e1,e2⟩ | ⟨e1,e2⟩
 ·simp only [e1,e2]
 split
 ·rename_i es he; exact absurd he (e1 es)
 first | rfl | (split<;>first | rfl | (rename_i es he; exact absurd he (e2 es)))
theorem Fz.appended {h h':Heap} (k:Fz h h') (z:Nat) (x:AV):appended h z x=appended h' z x:=by
 unfold Am.appended
 split
 ·rfl
 rw [k.rows]
theorem Fz.nop {h h':Heap} (k:Fz h h') (q:NOp) (xs:List AV):q.ob xs h=q.ob xs h':=by
 unfold NOp.ob
 split<;>first | rfl | simp only [k.appended]
theorem ny {h h':Heap} (k:Fz h h') {z:Nat} {s:AV} {new:List AV} {n:Nat} {v:AV} {g':Heap} (hr:bl h' z s new n=some (v,g')):∃ g,bl h z s new n=some (v,g)∧Fz g g':=by
 unfold bl at hr ⊢
 split at hr
 ·split at hr
  ·rename_i hn; cases hr; exact ⟨h,by rw [if_pos hn],k⟩
  rename_i hn; cases hr; exact ⟨_,by rw [if_neg hn,k.n],k.push _⟩
 ·rename_i o ver off len esz
  split at hr
  ·rename_i cs ver' wr hg
   split at hr
   ·rename_i hc
    have hwr:wr=true:=hc.2.2.2
    have hg0:h.get o=some (.row cs ver' wr):=by
     rcases k.get o with e | ⟨cs',v',e1,e2⟩
     ·rw [e]; exact hg
     rw [e2] at hg; cases hg; cases hwr
    have ho:o < h.n:=by
     rcases Nat.lt_or_ge o h.n with hh | hh
     ·exact hh
     rw [Heap.get_ge h (by omega)] at hg0; cases hg0
    simp only [hg0,if_pos hc]
    split at hr
    ·rename_i hn; cases hr; exact ⟨h,by rw [if_pos hn],k⟩
    rename_i hn; cases hr; exact ⟨_,by rw [if_neg hn],k.set ho _⟩
   cases hr
  cases hr
 cases hr
theorem rZ {h h':Heap} (k:Fz h h') {q:EOp} {xs:List AV} {v:AV} {g':Heap} (hr:q.ev xs h'=some (v,g')):∃ g,q.ev xs h=some (v,g)∧Fz g g':=by
 have lt:∀ {o x},h.get o=some x→o < h.n:=fun {o x} hg=>by
  rcases Nat.lt_or_ge o h.n with hh | hh
  ·exact hh
  rw [Heap.get_ge h (by omega)] at hg; cases hg
 unfold EOp.ev at hr ⊢
 split at hr
 ·rename_i n o ver off x
  split at hr
  ·rename_i cs ver' wr hg
   split at hr
   ·rename_i hc
    cases hr
    have hwr:wr=true:=hc.2.2.1
    have hg0:h.get o=some (.row cs ver' wr):=by
     rcases k.get o with e | ⟨cs',v',e1,e2⟩
     ·rw [e]; exact hg
     rw [e2] at hg; cases hg; cases hwr
    simp only [hg0,if_pos hc]
    exact ⟨_,rfl,k.set (lt hg0) _⟩
   cases hr
  cases hr
 ·rename_i z b s x
  rw [k.appended]
  split at hr
  ·rename_i cs n ha
   try simp only [ha]
   split at hr
   ·rename_i hc
    rw [if_pos hc]; exact ny k hr
   cases hr
  cases hr
 ·rename_i kq o key val
  split at hr
  ·rename_i es hg
   have hg0:=(k.map o es).2 hg
   simp only [hg0]
   split at hr
   ·rename_i hc
    rw [if_pos hc]
    split at hr
    ·rename_i es' he; cases hr; try simp only [he]
     exact ⟨_,rfl,k.set (lt hg0) _⟩
    cases hr
   cases hr
  cases hr
 ·rename_i o
  split at hr
  ·rename_i s pos hg
   have hg0:h.get o=some (.iter s pos):=by
    rcases k.get o with e | ⟨cs',v',e1,e2⟩
    ·rw [e]; exact hg
    rw [e2] at hg; cases hg
   simp only [hg0]
   split at hr
   ·rename_i hc; cases hr; rw [if_pos hc]; exact ⟨_,rfl,k.set (lt hg0) _⟩
   rename_i hc; cases hr; rw [if_neg hc]; exact ⟨_,rfl,k⟩
  cases hr
 ·rename_i o v0 off n z
  split at hr
  ·rename_i cs ver hg
   have hg0:h.get o=some (.row cs ver true):=by
    rcases k.get o with e | ⟨cs',v',e1,e2⟩
    ·rw [e]; exact hg
    rw [e2] at hg; cases hg
   simp only [hg0]
   split at hr
   ·rename_i hc; cases hr; rw [if_pos hc]; exact ⟨_,rfl,k⟩
   cases hr
  cases hr
 ·rename_i zero o ver off n z
  split at hr
  ·rename_i cs ver' wr hg
   split at hr
   ·rename_i hc
    cases hr
    have hwr:wr=true:=hc.2.2.1
    have hg0:h.get o=some (.row cs ver' wr):=by
     rcases k.get o with e | ⟨cs',v',e1,e2⟩
     ·rw [e]; exact hg
     rw [e2] at hg; cases hg; cases hwr
    simp only [hg0,if_pos hc]
    exact ⟨_,rfl,k.set (lt hg0) _⟩
   cases hr
  cases hr
 ·rename_i z o v0 off n z1 o2 v2 off2 n2 z2
  split at hr
  ·rename_i cs2 ver2 wr2 hg2
   split at hr
   ·rename_i cs ver' wr hg
    split at hr
    ·rename_i hc
     cases hr
     have hwr:wr=true:=hc.2.2.2.2.1
     have hg0:h.get o=some (.row cs ver' wr):=by
      rcases k.get o with e | ⟨cs',v',e1,e2⟩
      ·rw [e]; exact hg
      rw [e2] at hg; cases hg; cases hwr
     obtain ⟨w3,hg3⟩:∃ w3,h.get o2=some (.row cs2 ver2 w3):=by
      rcases k.get o2 with e | ⟨cs',v',e1,e2⟩
      ·exact ⟨wr2,by rw [e]; exact hg2⟩
      rw [e2] at hg2; cases hg2; exact ⟨true,e1⟩
     simp only [hg3,hg0,if_pos hc]
     exact ⟨_,rfl,k.set (lt hg0) _⟩
    cases hr
   cases hr
  cases hr
 cases hr
def CN (c:aZ):Prop:=∀ f xs h h' v g',Fz h h'→c f xs h'=some (v,g')→∃ g,c f xs h=some (v,g)∧Fz g g'
theorem CC {c:aZ} (hc:CN c) {q:AK} {xs:List AV} {h h':Heap} (k:Fz h h') {v:AV} {g':Heap} (hr:q.ev c xs h'=some (v,g')):∃ g,q.ev c xs h=some (v,g)∧Fz g g':=by
 cases q with
 | p q=>
  simp only [AK.ev] at hr ⊢
  split at hr
  ·cases hr; exact ⟨h,rfl,k⟩
  cases hr
 | r q=>
  simp only [AK.ev,k.rop] at hr ⊢
  split at hr
  ·cases hr; exact ⟨h,rfl,k⟩
  cases hr
 | n q=>
  simp only [AK.ev] at hr ⊢
  split at hr
  ·rename_i ob ho; cases hr; rw [k.nop,ho,k.n]; exact ⟨_,rfl,k.push _⟩
  cases hr
 | e q=>exact rZ k hr
 | call f=>
  simp only [AK.ev,target] at hr ⊢
  exact hc _ _ _ _ _ _ k hr
 | callV=>
  simp only [AK.ev] at hr ⊢
  split at hr
  ·exact hc _ _ _ _ _ _ k hr
  cases hr
 | callM tb=>
  simp only [AK.ev] at hr ⊢
  split at hr
  ·exact hc _ _ _ _ _ _ k hr
  cases hr
theorem zn {c:aZ} (hc:CN c) {ao:AOper} {e:Env} {h h':Heap} (k:Fz h h') {e1:Env} {g':Heap} (hr:aP c ao e h'=some (e1,g')):∃ g,aP c ao e h=some (e1,g)∧Fz g g':=by
 unfold aP at hr ⊢
 split at hr
 ·cases hr
 ·cases hr; exact ⟨h,rfl,k⟩
 split at hr
 ·cases hr
 split at hr
 ·cases hr
 rename_i v g hv
 cases hr
 obtain ⟨g2,h1,h2⟩:=CC hc k hv
 exact ⟨g2,by simp only [h1],h2⟩
inductive TrFz:List (Env×Heap)→List (Env×Heap)→Prop where
 | nil:TrFz [] []
 | cons {e:Env} {h h':Heap} {l m:List (Env×Heap)}:Fz h h'→TrFz l m→TrFz ((e,h)::l) ((e,h')::m)
theorem cx {c:aZ} (hc:CN c):∀ (as:List AOper) {e:Env} {h h':Heap} {e1:Env} {g':Heap},Fz h h'→aG c as e h'=some (e1,g')→(∃ g,aG c as e h=some (e1,g)∧Fz g g')∧TrFz (trace c as e h) (trace c as e h')
 | [],e,h,h',e1,g',k,hr=>by cases hr; exact ⟨⟨h,rfl,k⟩,.cons k .nil⟩
 | ao::as,e,h,h',e1,g',k,hr=>by
  simp only [aG] at hr ⊢
  cases hs:aP c ao e h' with
  | none=>rw [hs] at hr; cases hr
  | some p=>
   obtain ⟨e2,g2⟩:=p
   rw [hs] at hr
   obtain ⟨g3,q1,q2⟩:=zn hc k hs
   obtain ⟨q3,q4⟩:=cx hc as q2 hr
   simp only [trace,q1,hs]
   exact ⟨q3,.cons k q4⟩
theorem TrFz.get:∀ {l m:List (Env×Heap)},TrFz l m→∀ i:Nat,(l[i]? = none∧m[i]? = none)∨∃ e h h',l[i]? = some (e,h)∧m[i]? = some (e,h')∧Fz h h'
 | _,_,.nil,i=>.inl ⟨rfl,rfl⟩
 | _,_,.cons k t,0=>.inr ⟨_,_,_,rfl,rfl,k⟩
 | _,_,.cons k t,i+1=>by
  simp only [List.getElem?_cons_succ]
  exact t.get i
theorem Fz.iter {h h':Heap} (k:Fz h h') {o:Nat} {s:List UInt8} {p:Nat} (hg:h'.get o=some (.iter s p)):h.get o=some (.iter s p):=by
 rcases k.get o with e | ⟨cs,v,e1,e2⟩
 ·rw [e]; exact hg
 rw [e2] at hg; cases hg
theorem Fz.rowT {h h':Heap} (k:Fz h h') {o:Nat} {cs:List AV} {v:Nat} (hg:h'.get o=some (.row cs v true)):h.get o=some (.row cs v true):=by
 rcases k.get o with e | ⟨cs,v,e1,e2⟩
 ·rw [e]; exact hg
 rw [e2] at hg; cases hg
theorem jY {h1 h1' h2 h2':Heap} (a:Fz h1 h1') (b:Fz h2 h2') {o:Nat} (h:br (h1'.get o) (h2'.get o)=true):br (h1.get o) (h2.get o)=true:=by
 cases e1:h1'.get o with
 | none=>rw [e1] at h; cases h
 | some x=>
  cases e2:h2'.get o with
  | none=>rw [e1,e2] at h; cases x<;>simp [br] at h
  | some y=>
   rw [e1,e2] at h
   cases x with
   | map es=>simp [br] at h
   | row cs v w=>
    cases w with
    | false=>simp [br] at h
    | true=>
     cases y with
     | map es=>simp [br] at h
     | iter s p=>simp [br] at h
     | row cs' v' w'=>
      cases w' with
      | false=>simp [br] at h
      | true=>rw [a.rowT e1,b.rowT e2]; exact h
   | iter s p=>
    cases y with
    | map es=>simp [br] at h
    | row cs v w=>cases w<;>simp [br] at h
    | iter s' p'=>rw [a.iter e1,b.iter e2]; exact h
theorem Dl {ops:List AOper} {l m:List (Env×Heap)} (t:TrFz l m) (p:Nat×Nat) (hm:aY ops m p=true):aY ops l p=true:=by
 unfold aY at hm ⊢
 rcases t.get p.1 with ⟨a1,a2⟩ | ⟨e,h,h',a1,a2,a3⟩
 ·rw [a2] at hm; rw [a1]; cases ho:ops[p.1]?<;>rw [ho] at hm<;>exact hm
 rw [a2] at hm; rw [a1]
 rcases t.get p.2 with ⟨b1,b2⟩ | ⟨e1,h1,h1',b1,b2,b3⟩
 ·rw [b2] at hm; rw [b1]; cases ho:ops[p.1]?<;>rw [ho] at hm<;>exact hm
 rw [b2] at hm; rw [b1]
 rcases t.get (p.2+1) with ⟨c1,c2⟩ | ⟨e2,h2,h2',c1,c2,c3⟩
 ·rw [c2] at hm; rw [c1]; cases ho:ops[p.1]?<;>rw [ho] at hm<;>exact hm
 rw [c2] at hm; rw [c1]
 cases ho:ops[p.1]? with
 | none=>rw [ho] at hm; exact hm
 | some o=>
  rw [ho] at hm
  simp only at hm ⊢
  cases hw:ak e o.guard with
  | none=>rw [hw] at hm; exact hm
  | some b=>
   rw [hw] at hm
   cases b with
   | false=>exact hm
   | true=>
    simp only at hm ⊢
    cases hk:o.k with
    | r q=>
     rw [hk] at hm
     cases hx:evs e o.xs with
     | none=>rw [hx] at hm; cases hm
     | some xs=>
      rw [hx] at hm
      simp only [a3.rop,b3.rop,c3.rop] at hm ⊢
      exact hm
    | n q=>
     rw [hk] at hm
     simp only at hm ⊢
     rw [← a3.n] at hm
     exact jY b3 c3 hm
    | p q=>rw [hk] at hm; exact hm
    | e q=>rw [hk] at hm; exact hm
    | call f=>rw [hk] at hm; exact hm
    | callV=>rw [hk] at hm; exact hm
    | callM tb=>rw [hk] at hm; exact hm
theorem Fz.res {h h':Heap} (k:Fz h h') (e:Env) (r:ARes):resOne e h r=resOne e h' r:=by
 cases r<;>simp only [resOne,k.rop]
theorem Fz.resAll {h h':Heap} (k:Fz h h') (e:Env):∀ rs:List ARes,Am.resAll e h rs=Am.resAll e h' rs
 | []=>rfl
 | r::rs=>by simp only [Am.resAll,k.res,k.resAll e rs]
theorem Fz.resOf {h h':Heap} (k:Fz h h') (e:Env) (rs:List ARes):Am.resOf e h rs=Am.resOf e h' rs:=by unfold Am.resOf; rw [k.resAll]
variable {F:Nat→Option AFn}
theorem iP {n:Nat} (ih:∀ (c:ACode) (e:Env) (h h':Heap) (x:AX) (e1:Env) (g':Heap),Fz h h'→run F n c e h'=some (x,e1,g')→∃ g,run F n c e h=some (x,e1,g)∧Fz g g'):CN (aQ F n):=by
 intro f xs h h' v g' k hc
 unfold aQ at hc ⊢
 split at hc
 ·cases hc
 rename_i fn hF
 split at hc
 ·rename_i hl
  simp only [if_pos hl]
  cases hr:run F n fn.code (cY 0 xs .nil) h' with
  | none=>rw [hr] at hc; cases hc
  | some q=>
   obtain ⟨x,e1,g2⟩:=q
   rw [hr] at hc
   obtain ⟨g,q1,q2⟩:=ih _ _ _ _ _ _ _ k hr
   simp only [q1]
   cases x with
   | normal=>
    simp only at hc
    split at hc
    ·rename_i u hu; cases hc; simp only [q2.resOf,hu]; exact ⟨g,rfl,q2⟩
    cases hc
   | ret=>
    simp only at hc
    split at hc
    ·rename_i u hu; cases hc; simp only [q2.resOf,hu]; exact ⟨g,rfl,q2⟩
    cases hc
   | exit i=>cases hc
 cases hc
theorem ml:∀ (n:Nat) (c:ACode) (e:Env) (h h':Heap) (x:AX) (e1:Env) (g':Heap),Fz h h'→run F n c e h'=some (x,e1,g')→∃ g,run F n c e h=some (x,e1,g)∧Fz g g'
 | 0,c,e,h,h',x,e1,g',k,hr=>by cases hr
 | n+1,c,e,h,h',x,e1,g',k,hr=>by
  have ih:=ml n
  have hcf:=iP ih
  rw [az] at hr
  rw [az]
  cases c with
  | skip=>cases hr; exact ⟨h,rfl,k⟩
  | exit id=>cases hr; exact ⟨h,rfl,k⟩
  | ret=>cases hr; exact ⟨h,rfl,k⟩
  | seq a b=>
   simp only at hr ⊢
   cases h1:run F n a e h' with
   | none=>rw [h1] at hr; cases hr
   | some q=>
    obtain ⟨y,e2,g2⟩:=q
    rw [h1] at hr
    obtain ⟨g3,q1,q2⟩:=ih _ _ _ _ _ _ _ k h1
    simp only [q1]
    cases y with
    | normal=>exact ih _ _ _ _ _ _ _ q2 hr
    | exit id=>cases hr; exact ⟨g3,rfl,q2⟩
    | ret=>cases hr; exact ⟨g3,rfl,q2⟩
  | cond c t f=>
   simp only at hr ⊢
   split at hr
   ·rename_i b hb
    cases b
    ·exact ih _ _ _ _ _ _ _ k hr
    exact ih _ _ _ _ _ _ _ k hr
   cases hr
  | block id b=>
   simp only at hr ⊢
   cases h1:run F n b e h' with
   | none=>rw [h1] at hr; cases hr
   | some q=>
    obtain ⟨y,e2,g2⟩:=q
    rw [h1] at hr
    obtain ⟨g3,q1,q2⟩:=ih _ _ _ _ _ _ _ k h1
    simp only [q1]
    cases y with
    | normal=>cases hr; exact ⟨g3,rfl,q2⟩
    | exit i=>
     simp only at hr ⊢
     split at hr
     ·rename_i hi; cases hr; rw [if_pos hi]; exact ⟨g3,rfl,q2⟩
     rename_i hi; cases hr; rw [if_neg hi]; exact ⟨g3,rfl,q2⟩
    | ret=>cases hr; exact ⟨g3,rfl,q2⟩
  | loop b=>
   simp only at hr ⊢
   cases h1:run F n b e h' with
   | none=>rw [h1] at hr; cases hr
   | some q=>
    obtain ⟨y,e2,g2⟩:=q
    rw [h1] at hr
    obtain ⟨g3,q1,q2⟩:=ih _ _ _ _ _ _ _ k h1
    simp only [q1]
    cases y with
    | normal=>exact ih _ _ _ _ _ _ _ q2 hr
    | exit id=>cases hr; exact ⟨g3,rfl,q2⟩
    | ret=>cases hr; exact ⟨g3,rfl,q2⟩
  | region ops=>
   simp only at hr ⊢
   cases h1:aG (aQ F n) ops e h' with
   | none=>rw [h1] at hr; cases hr
   | some q=>
    obtain ⟨e2,g2⟩:=q
    rw [h1] at hr
    cases hr
    obtain ⟨⟨g3,q1,q2⟩,_⟩:=cx hcf ops k h1
    rw [q1]; exact ⟨g3,rfl,q2⟩
  | dregion ops ps=>
   simp only at hr ⊢
   cases h1:aG (aQ F n) ops e h' with
   | none=>rw [h1] at hr; cases hr
   | some q=>
    obtain ⟨e2,g2⟩:=q
    rw [h1] at hr
    obtain ⟨⟨g3,q1,q2⟩,q3⟩:=cx hcf ops k h1
    simp only [q1]
    cases hb:ps.all (aY ops (trace (aQ F n) ops e h')) with
    | true=>
     have hch:ps.all (aY ops (trace (aQ F n) ops e h))=true:=by
      rw [List.all_eq_true] at hb ⊢
      exact fun p hp=>Dl q3 p (hb p hp)
     rw [hb] at hr; simp only [hch,cond_true] at hr ⊢; cases hr; exact ⟨g3,rfl,q2⟩
    | false=>rw [hb] at hr; cases hr
theorem c7 (n:Nat):CN (aQ F n):=iP (ml n)
def ZC (F:Nat→Option AFn) (f:Nat) (xs:List AV) (h:Heap) (K:AV→Heap→Prop):Prop:=∃ n v g h',aQ F n f xs h=some (v,g)∧Fz g h'∧K v h'
theorem ZC.mono {f:Nat} {xs:List AV} {h:Heap} {K K':AV→Heap→Prop} (hc:ZC F f xs h K) (hk:∀ v h',K v h'→K' v h'):ZC F f xs h K':=
 let ⟨n,v,g,h',h1,h2,h3⟩:=hc; ⟨n,v,g,h',h1,h2,hk _ _ h3⟩
theorem ZC.frz {f:Nat} {xs:List AV} {h:Heap} {K K':AV→Heap→Prop} (hc:ZC F f xs h K) (hk:∀ v h',K v h'→∃ h2,Fz h' h2∧K' v h2):ZC F f xs h K':=
 let ⟨n,v,g,h',h1,h2,h3⟩:=hc; let ⟨h4,h5,h6⟩:=hk _ _ h3; ⟨n,v,g,h4,h1,h2.trans h5,h6⟩
theorem ZC.of {f:Nat} {xs:List AV} {h:Heap} {K:AV→Heap→Prop} (hc:dx F f xs h K):ZC F f xs h K:=
 let ⟨n,v,h',h1,h2⟩:=hc; ⟨n,v,h',h',h1,Fz.refl _,h2⟩
theorem ZC.val {f:Nat} {xs:List AV} {h:Heap} {K:AV→Heap→Prop} {P:AV→Prop} (hc:ZC F f xs h K) (hk:∀ v h',K v h'→P v):dx F f xs h fun v _=>P v:=
 let ⟨n,v,g,h',h1,h2,h3⟩:=hc; ⟨n,v,g,h1,hk _ _ h3⟩
end Go.Am
namespace Go.Am
open Go
inductive Ty where
 | any
 | int (k:IntKind)
 | bool
 | str
@[reducible] def Ty.T:Ty→Type
 | .any=>AV
 | .int _=>Int
 | .bool=>Bool
 | .str=>List UInt8
def Ty.mk:(t:Ty)→t.T→AV
 | .any,v=>v
 | .int k,n=>.int k n
 | .bool,b=>.bool b
 | .str,s=>.str s
def Ty.un:(t:Ty)→AV→Option t.T
 | .any,v=>some v
 | .int k,v=>match v with
  | .int k' n=>if k'=k then some n else none
  | _=>none
 | .bool,v=>match v with
  | .bool b=>some b
  | _=>none
 | .str,v=>match v with
  | .str s=>some s
  | _=>none
theorem Ty.un_mk {t:Ty} {v:AV} {x:t.T} (h:t.un v=some x):v=t.mk x:=by
 cases t with
 | any=>cases h; rfl
 | int k=>
  simp only [Ty.un] at h
  split at h
  ·split at h
   ·rename_i hk; cases h; subst hk; rfl
   cases h
  cases h
 | bool=>
  simp only [Ty.un] at h
  split at h
  ·cases h; rfl
  cases h
 | str=>
  simp only [Ty.un] at h
  split at h
  ·cases h; rfl
  cases h
abbrev eY:=List (Nat×Ty)
@[reducible] def Cur:eY→Type→Type
 | [],R=>R
 | (_,t)::l,R=>t.T→Cur l R
def uI {R:Type}:(l:eY)→(List (Nat×AV)→R)→Cur l R
 | [],g=>g []
 | (s,t)::l,g=>fun x=>uI l fun r=>g ((s,t.mk x)::r)
def ku:(l:eY)→Cur l (Heap→Prop)→Env→Heap→Prop
 | [],f,_,h=>f h
 | (s,t)::l,f,e,h=>match e.get s with
  | some v=>match t.un v with
   | some x=>ku l (f x) e h
   | none=>False
  | none=>False
inductive SO where
 | nil
 | op (dst:Option Nat) (k:AK) (xs:List Opd) (ty:Ty) (rest:SO)
 | grd (t:Nat) (w:Bool) (body rest:SO)
 | fz (rest:SO)
inductive SC where
 | skip
 | seq (a b:SC)
 | cond (c:Opd) (t f:SC)
 | block (id:Nat) (b:SC)
 | loop (live:eY) (xs:List Nat) (hr:Bool) (b:SC)
 | exit (id:Nat)
 | ret
 | region (s:SO)
 | dreg (s:SO)
 | dregp (s:SO) (ps:List (Nat×Nat))
 | fz (b:SC)
def SO.er:SO→Option (Nat×Bool)→List AOper
 | .nil,_=>[]
 | .op d k xs _ r,g=>⟨d,g,k,xs⟩::r.er g
 | .grd t w b r,g=>b.er (some (t,w))++r.er g
 | .fz r,g=>r.er g
def SC.er:SC→ACode
 | .skip=>.skip
 | .seq a b=>.seq a.er b.er
 | .cond c t f=>.cond c t.er f.er
 | .block id b=>.block id b.er
 | .loop _ _ _ b=>.loop b.er
 | .exit id=>.exit id
 | .ret=>.ret
 | .region s=>.region (s.er none)
 | .dreg s=>.dregion (s.er none) []
 | .dregp s ps=>.dregion (s.er none) ps
 | .fz b=>b.er
abbrev Opd.t (n:Nat):Opd:=.tmp n
abbrev Opd.i (n:Int):Opd:=.const (.int .i64 n)
abbrev SO.v (d s:Nat) (r:SO):SO:=.op (some d) (.p .mv) [.tmp s] .any r
abbrev SO.q (d:Nat) (k:POp) (xs:List Opd) (r:SO):SO:=.op (some d) (.p k) xs .any r
abbrev SO.l (d s:Nat) (y:Ty) (r:SO):SO:=.op (some d) (.r .load1) [.tmp s] y r
abbrev SO.a (d s off:Nat) (r:SO):SO:=.op (some d) (.p (.fieldAddr off)) [.tmp s] .any r
abbrev SO.n (d s:Nat) (r:SO):SO:=.op (some d) (.p .nilCheck) [.tmp s] .any r
abbrev SO.k (d f:Nat) (xs:List Opd) (y:Ty) (r:SO):SO:=.fz (.op (some d) (.call f) xs y r)
abbrev SO.w (n p x:Nat) (r:SO):SO:=.op none (.e (.store n)) [.tmp p,.tmp x] .any r
abbrev SC.sr (s:SO) (b:SC):SC:=.seq (.region s) b
abbrev SC.g (s:SO):SC:=.region s
def SO.noW (t:Nat):SO→Bool
 | .nil=>true
 | .op d _ _ _ r=>(match d with
  | some d=>!Nat.beq d t
  | none=>true)&&r.noW t
 | .grd _ _ b r=>b.noW t&&r.noW t
 | .fz r=>r.noW t
def BM (t:Nat):List Nat→Bool
 | []=>false
 | x::xs=>Nat.beq x t||BM t xs
def SO.skips:SO→List Nat→Bool
 | .nil,_=>true
 | .op d _ _ _ r,u=>r.skips (match d with
  | some d=>d::u
  | none=>u)
 | .grd t _ b r,u=>BM t u&&b.skips u&&r.skips u
 | .fz r,u=>r.skips u
def SO.undefE:SO→Env→Env
 | .nil,e=>e
 | .op d _ _ _ r,e=>r.undefE (putE e d .undef)
 | .grd _ _ b r,e=>r.undefE (b.undefE e)
 | .fz r,e=>r.undefE e
def oP {α:Type} (o:Option α) (K:α→Prop):Prop:=match o with
 | some v=>K v
 | none=>False
theorem a7 {α:Type} {o:Option α} {K:α→Prop} (h:oP o K):∃ a,o=some a∧K a:=by
 cases o with
 | none=>exact h.elim
 | some a=>exact ⟨a,rfl,h⟩
theorem oI {α:Type} {o:Option α} {K:α→Prop} (a:α) (h:o=some a) (hk:K a):oP o K:=by rw [h]; exact hk
def ifP (c:Bool) (P:Prop):Prop:=match c with
 | true=>P
 | false=>False
theorem iI {c:Bool} {P:Prop}:ifP c P↔c=true∧P:=by cases c<;>simp [ifP]
def bP (c:Bool) (A B:Prop):Prop:=match c with
 | true=>A
 | false=>B
theorem ft {c:Bool} {A B:Prop} (ha:c=true→A) (hb:c=false→B):bP c A B:=by
 cases c with
 | true=>exact ha rfl
 | false=>exact hb rfl
def AV.isPtr:AV→Bool
 | .ptr _ _ _=>true
 | _=>false
def AV.padd (off:Nat):AV→AV
 | .ptr o v f=>.ptr o v (f+off)
 | p=>p
def tyW:Ty→AV→(AV→Prop)→Prop
 | .any,v,K=>K v
 | .int k,v,K=>∃ n,v=.int k n∧K (.int k n)
 | .bool,v,K=>∃ b,v=.bool b∧K (.bool b)
 | .str,v,K=>∃ s,v=.str s∧K (.str s)
theorem me {t:Ty} {v:AV} {K:AV→Prop} (h:tyW t v K):K v:=by
 cases t with
 | any=>exact h
 | _=>obtain ⟨x,rfl,h⟩:=h; exact h
def exL:Nat→(List AV→Prop)→Prop
 | 0,P=>P []
 | n+1,P=>∃ c,exL n fun cs=>P (c::cs)
theorem tA:∀ {n:Nat} {P:List AV→Prop},exL n P→∃ cs,P cs
 | 0,_,h=>⟨[],h⟩
 | n+1,_,⟨c,h⟩=>let ⟨cs,k⟩:=tA h; ⟨c::cs,k⟩
def Heap.rd1 (h:Heap) (p:AV):Option AV:=ROp.ev .load1 [p] h
def Heap.rdN (h:Heap) (p:AV) (n:Nat):Option (List AV):=match p with
 | .ptr o v off=>h.cells o v off n
 | _=>none
def EH (q:POp) (x:AV) (K:AV→Prop):Prop:=
 match q with
 | .mv=>K x
 | .lenSl=>ifP x.isSlice (K (.int .i64 x.slen))
 | .fieldAddr off=>ifP x.isPtr (K (x.padd off))
 | q=>oP (q.ev [x]) K
def FZ (q:POp) (x y:AV) (K:AV→Prop):Prop:=
 match q with
 | .indexAddr esz=>match y with
  | .int _ i=>ifP x.isSlice (0≤i∧i < x.slen∧K (x.at (i.toNat * esz)))
  | _=>False
 | q=>oP (q.ev [x,y]) K
def pwp (q:POp) (xs:List AV) (K:AV→Prop):Prop:=
 match xs with
 | [x]=>EH q x K
 | [x,y]=>FZ q x y K
 | xs=>oP (q.ev xs) K
def rwp (q:ROp) (xs:List AV) (h:Heap) (ty:Ty) (K:AV→Prop):Prop:=
 match q with
 | .load1=>match xs with
  | [p]=>∃ x:ty.T,h.rd1 p=some (ty.mk x)∧K (ty.mk x)
  | _=>False
 | .loadN n=>match xs with
  | [p]=>exL n fun cs=>h.rdN p n=some cs∧K (.agg cs)
  | _=>False
 | q=>∃ v,q.ev xs h=some v∧tyW ty v K
def nwp (q:NOp) (xs:List AV) (h:Heap) (K:AV→Heap→Prop):Prop:=
 match q with
 | .box=>match xs with
  | [x]=>ifP (!x.isTup) (K (.ptr h.n 0 0) (h.push (.row x.cells 0 true)))
  | _=>False
 | .mkSlice esz bytes zero=>match xs with
  | [x,y]=>match x,y with
   | .int _ l,.int _ c=>(0≤l∧l≤c∧c * bytes≤aE∧c≤aE)∧K (.slice h.n 0 0 l.toNat esz) (h.push (.row (d7 zero l.toNat) 0 true))
   | _,_=>False
  | _=>False
 | q=>oP (q.ob xs h) fun ob=>K (q.mk xs h.n) (h.push ob)
def ewp (q:EOp) (xs:List AV) (h:Heap) (K:AV→Heap→Prop):Prop:=
 match q with
 | .store n=>∃ h',EOp.ev (.store n) xs h=some (.undef,h')∧K .undef h'
 | .copy z=>∃ (n:Int) (h':Heap),EOp.ev (.copy z) xs h=some (.int .i64 n,h')∧K (.int .i64 n) h'
 | q=>∃ v h',q.ev xs h=some (v,h')∧K v h'
section
variable (F:Nat→Option AFn)
def mL (x:AV) (xs:List AV) (h:Heap) (K:AV→Heap→Prop):Prop:=match x with
 | .func f caps=>ZC F f (xs++caps) h K
 | _=>False
def wv (tb:List (Nat×Nat)) (x:AV) (xs:List AV) (h:Heap) (K:AV→Heap→Prop):Prop:=match x with
 | .iface t v=>oP (eG tb t) fun f=>ZC F f (v::xs) h K
 | _=>False
def xl (k:AK) (xs:List AV) (ty:Ty) (K:AV→Heap→Prop) (h:Heap):Prop:=
 match k with
 | .p q=>pwp q xs fun v=>tyW ty v fun v=>K v h
 | .r q=>rwp q xs h ty fun v=>K v h
 | .n q=>nwp q xs h K
 | .e q=>ewp q xs h K
 | .call f=>ZC F f xs h fun v h=>tyW ty v fun v=>K v h
 | .callV=>match xs with
  | x::xs=>mL F x xs h fun v h=>tyW ty v fun v=>K v h
  | _=>False
 | .callM tb=>match xs with
  | x::xs=>wv F tb x xs h fun v h=>tyW ty v fun v=>K v h
  | _=>False
def na:SO→(Env→Heap→Prop)→Env→Heap→Prop
 | .nil,K,e,h=>K e h
 | .op d k xs ty r,K,e,h=>oP (evs e xs) fun vs=>xl F k vs ty (fun v h=>na r K (putE e d v) h) h
 | .grd t w b r,K,e,h=>oP (e.get t) fun v=>match v with
  | .bool c=>ifP (b.noW t&&b.skips []) (bP c
    (bP w (na b (fun e h=>na r K e h) (e.set t (.bool true)) h) (na r K (b.undefE (e.set t (.bool true))) h))
    (bP w (na r K (b.undefE (e.set t (.bool false))) h) (na b (fun e h=>na r K e h) (e.set t (.bool false)) h)))
  | _=>False
 | .fz r,K,e,h=>∃ hz,Fz h hz∧na r K e hz
def m8:SO→Option (Nat×Bool)→List (Env×Heap)→(List (Env×Heap)→Env→Heap→Prop)→Env→Heap→Prop
 | .nil,_,tr,K,e,h=>K tr e h
 | .op d k xs ty r,g,tr,K,e,h=>match g with
  | none=>oP (evs e xs) fun vs=>xl F k vs ty (fun v h'=>m8 r g (tr++[(e,h)]) K (putE e d v) h') h
  | some (t,w)=>oP (e.get t) fun v=>match v with
   | .bool c=>bP c
    (bP w (oP (evs (e.set t (.bool true)) xs) fun vs=>xl F k vs ty (fun v h'=>m8 r g (tr++[(e.set t (.bool true),h)]) K (putE (e.set t (.bool true)) d v) h') h)
     (m8 r g (tr++[(e.set t (.bool true),h)]) K (putE (e.set t (.bool true)) d .undef) h))
    (bP w (m8 r g (tr++[(e.set t (.bool false),h)]) K (putE (e.set t (.bool false)) d .undef) h)
     (oP (evs (e.set t (.bool false)) xs) fun vs=>xl F k vs ty (fun v h'=>m8 r g (tr++[(e.set t (.bool false),h)]) K (putE (e.set t (.bool false)) d v) h') h))
   | _=>m8 r g (tr++[(e,h)]) K (putE e d .undef) h
 | .grd t w b r,g,tr,K,e,h=>m8 b (some (t,w)) tr (fun tr e h=>m8 r g tr K e h) e h
 | .fz _,_,_,_,_,_=>False
def sM (o:AOper) (s s1 s2:Env×Heap):Prop:=match o.k with
 | .r q=>oP (evs s.1 o.xs) fun xs=>∃ v,q.ev xs s.2=some v∧q.ev xs s1.2=some v∧q.ev xs s2.2=some v
 | .n _=>br (s1.2.get s.2.n) (s2.2.get s.2.n)=true
 | _=>False
def BQ (ops:List AOper) (tr:List (Env×Heap)) (p:Nat×Nat):Prop:=
 oP ops[p.1]? fun o=>oP tr[p.1]? fun s=>oP tr[p.2]? fun s1=>oP tr[p.2+1]? fun s2=>match o.guard with
  | none=>sM o s s1 s2
  | some (t,w)=>oP (s.1.get t) fun v=>match v with
   | .bool c=>bP c (bP w (sM o s s1 s2) True) (bP w True (sM o s s1 s2))
   | _=>True
def sI (ops:List AOper) (tr:List (Env×Heap)):List (Nat×Nat)→Prop→Prop
 | [],P=>P
 | p::ps,P=>BQ ops tr p∧sI ops tr ps P
def fI {α:Type}:List Nat→List α→Nat→Option α
 | x::xs,y::ys,n=>if x=n then some y else fI xs ys n
 | _,_,_=>none
def pA (live:eY) (xs:List Nat) (R:Cur live (Heap→Prop)) (X:List (Cur live (Heap→Prop))) (x:AX) (e:Env) (h:Heap):Prop:=
 match x with
 | .normal=>False
 | .ret=>ku live R e h
 | .exit i=>oP (fI xs X i) fun f=>ku live f e h
def jK (live:eY) (xs:List Nat) (b:SC) (R:Cur live (Heap→Prop)) (X:List (Cur live (Heap→Prop))):Cur live (Heap→Prop):=
 uI live fun l h=>∀ e',Sub (E l) e'→∃ n x e1 h1 hz,run F n (.loop b.er) e' h=some (x,e1,h1)∧Fz h1 hz∧pA live xs R X x e1 hz
def sG:SC→(N R:Env→Heap→Prop)→(X:Nat→Env→Heap→Prop)→Env→Heap→Prop
 | .skip,N,_,_,e,h=>N e h
 | .seq a b,N,R,X,e,h=>sG a (fun e h=>sG b N R X e h) R X e h
 | .cond c t f,N,R,X,e,h=>oP (c.ev e) fun v=>match v with
  | .bool b=>bP b (sG t N R X e h) (sG f N R X e h)
  | _=>False
 | .block id b,N,R,X,e,h=>sG b N R (fun i e h=>bP (Nat.beq i id) (N e h) (X i e h)) e h
 | .loop live xs hr b,N,R,X,e,h=>ku live (jK F live xs b (uI live fun l h=>bP hr (R (E l) h) False) (xs.map fun i=>uI live fun l h=>X i (E l) h)) e h
 | .exit i,_,_,X,e,h=>X i e h
 | .ret,_,R,_,e,h=>R e h
 | .region s,N,_,_,e,h=>na F s N e h
 | .dreg s,N,_,_,e,h=>na F s N e h
 | .dregp s ps,N,_,_,e,h=>m8 F s none [] (fun tr e h=>sI (s.er none) (tr++[(e,h)]) ps (N e h)) e h
 | .fz b,N,R,X,e,h=>∃ hz,Fz h hz∧sG b N R X e hz
def tl:List ARes→(List AV→Prop)→Env→Heap→Prop
 | [],K,_,_=>K []
 | .tmp t::rs,K,e,h=>oP (e.get t) fun v=>tl rs (fun vs=>K (v::vs)) e h
 | .cell1 t::rs,K,e,h=>oP (e.get t) fun p=>∃ x,h.rd1 p=some x∧tl rs (fun vs=>K (x::vs)) e h
 | .cellN t n::rs,K,e,h=>oP (e.get t) fun p=>exL n fun cs=>h.rdN p n=some cs∧tl rs (fun vs=>K (.agg cs::vs)) e h
def one (vs:List AV):AV:=match vs with
 | [v]=>v
 | vs=>.tuple vs
def D1 (rs:List ARes) (K:AV→Heap→Prop) (e:Env) (h:Heap):Prop:=tl rs (fun vs=>K (one vs) h) e h
end
theorem yo {q:POp} {x:AV} {K:AV→Prop} (hw:EH q x K):∃ v,q.ev [x]=some v∧K v:=by
 cases q<;>simp only [EH] at hw<;>first
  | exact a7 hw
  | exact ⟨_,rfl,hw⟩
  | skip
 ·rename_i off
  rw [iI] at hw
  obtain ⟨h1,h2⟩:=hw
  cases x<;>first | cases h1 | skip
  exact ⟨_,rfl,h2⟩
 rw [iI] at hw
 exact ⟨_,by simp only [POp.ev,if_pos hw.1],hw.2⟩
theorem AG {q:POp} {x y:AV} {K:AV→Prop} (hw:FZ q x y K):∃ v,q.ev [x,y]=some v∧K v:=by
 cases q<;>simp only [FZ] at hw<;>first
  | exact a7 hw
  | skip
 rename_i esz
 cases y<;>first | exact hw.elim | skip
 obtain ⟨h1,h2,h3,h4⟩:=iI.1 hw
 exact ⟨_,by simp only [POp.ev,if_pos (And.intro h1 (And.intro h2 h3))],h4⟩
theorem DE {q:POp} {xs:List AV} {K:AV→Prop} (hw:pwp q xs K):∃ v,q.ev xs=some v∧K v:=by
 unfold pwp at hw
 split at hw
 ·exact yo hw
 ·exact AG hw
 exact a7 hw
theorem Dh {q:ROp} {xs:List AV} {h:Heap} {ty:Ty} {K:AV→Prop} (hw:rwp q xs h ty K):∃ v,q.ev xs h=some v∧K v:=by
 unfold rwp at hw
 split at hw
 ·split at hw
  ·obtain ⟨x,hx,hk⟩:=hw; exact ⟨_,hx,hk⟩
  exact hw.elim
 ·split at hw
  ·rename_i n p
   obtain ⟨cs,hc,hk⟩:=tA hw
   unfold Heap.rdN at hc
   split at hc
   ·exact ⟨_,by simp only [ROp.ev,hc],hk⟩
   cases hc
  exact hw.elim
 obtain ⟨v,hv,hk⟩:=hw; exact ⟨v,hv,me hk⟩
theorem CY {q:NOp} {xs:List AV} {h:Heap} {K:AV→Heap→Prop} (hw:nwp q xs h K):∃ ob,q.ob xs h=some ob∧K (q.mk xs h.n) (h.push ob):=by
 unfold nwp at hw
 split at hw
 ·split at hw
  ·rename_i x
   rw [iI] at hw
   obtain ⟨h1,h2⟩:=hw
   have h1:x.isTup=false:=by cases hx:x.isTup<;>rw [hx] at h1<;>first | rfl | cases h1
   exact ⟨_,by simp only [NOp.ob,h1,Bool.false_eq_true,if_false],h2⟩
  exact hw.elim
 ·split at hw
  ·split at hw
   ·obtain ⟨h1,h2⟩:=hw
    exact ⟨_,by simp only [NOp.ob,if_pos h1],h2⟩
   exact hw.elim
  exact hw.elim
 exact a7 hw
theorem C1 {q:EOp} {xs:List AV} {h:Heap} {K:AV→Heap→Prop} (hw:ewp q xs h K):∃ v h',q.ev xs h=some (v,h')∧K v h':=by
 unfold ewp at hw
 split at hw
 ·obtain ⟨h',h1,h2⟩:=hw; exact ⟨_,h',h1,h2⟩
 ·obtain ⟨n,h',h1,h2⟩:=hw; exact ⟨_,h',h1,h2⟩
 exact hw
variable {F:Nat→Option AFn}
theorem sk {k:AK} {xs:List AV} {ty:Ty} {K:AV→Heap→Prop} {h:Heap} (hw:xl F k xs ty K h):kwp F k xs (fun v h=>∃ hz,Fz h hz∧K v hz) h:=by
 unfold xl at hw
 split at hw
 ·obtain ⟨v,h1,h2⟩:=DE hw; exact ⟨v,h1,_,Fz.refl _,me h2⟩
 ·obtain ⟨v,h1,h2⟩:=Dh hw; exact ⟨v,h1,_,Fz.refl _,h2⟩
 ·obtain ⟨v,h1,h2⟩:=CY hw; exact ⟨v,h1,_,Fz.refl _,h2⟩
 ·obtain ⟨v,h',h1,h2⟩:=C1 hw; exact ⟨(v,h'),h1,_,Fz.refl _,h2⟩
 ·obtain ⟨n,v,g,h',h1,h2,h3⟩:=hw
  exact ⟨n,v,g,h1,h',h2,me h3⟩
 ·split at hw
  ·unfold mL at hw
   split at hw
   ·obtain ⟨n,v,g,h',h1,h2,h3⟩:=hw
    exact ⟨_,rfl,n,v,g,h1,h',h2,me h3⟩
   exact hw.elim
  exact hw.elim
 split at hw
 ·unfold wv at hw
  split at hw
  ·obtain ⟨f,hf,n,v,g,h',h1,h2,h3⟩:=a7 hw
   exact ⟨(f,_),by simp only [target,hf],n,v,g,h1,h',h2,me h3⟩
  exact hw.elim
 exact hw.elim
theorem pK {t:Nat}:∀ {l:List Nat},BM t l=true↔t∈l
 | []=>by simp [BM]
 | x::xs=>by
  simp only [BM,Bool.or_eq_true,pK (l:=xs),List.mem_cons]
  constructor
  ·rintro (h | h)
   ·exact .inl (Nat.eq_of_beq_eq_true h).symm
   exact .inr h
  rintro (h | h)
  ·exact .inl (by rw [h]; exact Nat.beq_refl x)
  exact .inr h
theorem Has.mem {e:Env}:∀ {l:List (Nat×AV)},Has e l→Sub (E l) e:=fun h=>h.sub
theorem cw {t:Nat}:∀ (b:SO) {e:Env},e.get t=some .undef→(b.undefE e).get t=some .undef
 | .nil,e,h=>h
 | .op d k xs ty r,e,h=>cw r (by rw [dB]; split<;>first | rfl | exact h)
 | .grd _ _ b r,e,h=>cw r (cw b h)
 | .fz r,e,h=>cw r h
theorem dq:∀ (b:SO) {e e':Env},Sub e e'→Sub (b.undefE e) (b.undefE e')
 | .nil,_,_,h=>h
 | .op d _ _ _ r,_,_,h=>dq r (h.putE d _)
 | .grd _ _ b r,_,_,h=>dq r (dq b h)
 | .fz r,_,_,h=>dq r h
theorem wW {d:Option Nat} {t:Nat} (h:(match d with
  | some d=>!Nat.beq d t
  | none=>true)=true):d≠some t:=by
 intro hd
 rw [hd] at h
 simp [Nat.beq_refl] at h
theorem du {t:Nat}:∀ (b:SO) {e:Env},b.noW t=true→(b.undefE e).get t=e.get t
 | .nil,e,h=>rfl
 | .op d k xs ty r,e,h=>by
  simp only [SO.noW,Bool.and_eq_true] at h
  rw [SO.undefE,du r h.2,dB,if_neg (wW h.1)]
 | .grd _ _ b r,e,h=>by
  simp only [SO.noW,Bool.and_eq_true] at h
  rw [SO.undefE,du r h.2,du b h.1]
 | .fz r,e,h=>du r h
theorem cI (cf:aZ):∀ (a b:List AOper) (e:Env) (h:Heap) {e1:Env} {h1:Heap},aG cf a e h=some (e1,h1)→aG cf (a++b) e h=aG cf b e1 h1
 | [],b,e,h,e1,h1,hr=>by cases hr; rfl
 | o::a,b,e,h,e1,h1,hr=>by
  simp only [aG,List.cons_append] at hr ⊢
  split at hr
  ·cases hr
  rename_i e2 h2 hs
  exact cI cf a b e2 h2 hr
theorem ki {e e':Env} {g:Nat×Bool} (h:e'.get g.1=e.get g.1):ak e' (some g)=ak e (some g):=by
 obtain ⟨t,w⟩:=g
 simp only [ak]
 rw [h]
theorem gV {e:Env} {g:Nat×Bool} (d:Option Nat) (h:ak e (some g)=some false):ak (putE e d .undef) (some g)=some false:=by
 obtain ⟨t,w⟩:=g
 simp only [ak] at h ⊢
 rw [dB]
 by_cases hd:d=some t
 ·rw [if_pos hd]; rfl
 rw [if_neg hd]; exact h
theorem bZ {g:Nat×Bool}:∀ (b:SO) {e:Env},ak e (some g)=some false→ak (b.undefE e) (some g)=some false
 | .nil,_,h=>h
 | .op d _ _ _ r,_,h=>bZ r (gV d h)
 | .grd _ _ b r,_,h=>bZ r (bZ b h)
 | .fz r,_,h=>bZ r h
theorem fy (cf:aZ):∀ (b:SO) (g:Nat×Bool) (u:List Nat) (e:Env) (h:Heap),b.skips u=true→(∀ t,t∈u→e.get t=some .undef)→ak e (some g)=some false→
  aG cf (b.er (some g)) e h=some (b.undefE e,h)
 | .nil,_,_,_,_,_,_,_=>rfl
 | .op d k xs ty r,g,u,e,h,hs,hu,hg=>by
  simp only [SO.er,aG,aP,hg,SO.undefE]
  refine fy cf r g _ _ h hs ?_ (gV d hg)
  intro t ht
  rw [dB]
  split
  ·rfl
  rename_i hd
  apply hu
  cases d with
  | none=>exact ht
  | some d=>
   rcases List.mem_cons.1 ht with hh | hh
   ·exact absurd (by rw [hh]) hd
   exact hh
 | .grd t w b r,g,u,e,h,hs,hu,hg=>by
  simp only [SO.skips,Bool.and_eq_true,pK] at hs
  have ht:=hu t hs.1.1
  have h1:aG cf (b.er (some (t,w))) e h=some (b.undefE e,h):=
   fy cf b (t,w) u e h hs.1.2 hu (by simp only [ak,ht]; rfl)
  rw [SO.er,cI cf _ _ _ _ h1,SO.undefE]
  exact fy cf r g u _ h hs.2 (fun t ht=>cw b (hu t ht)) (bZ b hg)
 | .fz r,g,u,e,h,hs,hu,hg=>fy cf r g u e h hs hu hg
theorem uL {cf:aZ} {o:AOper} {e e1:Env} {h h1:Heap} (hs:aP cf o e h=some (e1,h1)):∃ v,e1=putE e o.dst v:=by
 unfold aP at hs
 split at hs
 ·cases hs
 ·cases hs; exact ⟨_,rfl⟩
 split at hs
 ·cases hs
 split at hs
 ·cases hs
 cases hs; exact ⟨_,rfl⟩
theorem Sub.setL {e e':Env} (h:Sub e e') {t:Nat} {v:AV} (hv:e'.get t=some v):Sub (e.set t v) e':=by
 intro s u hs
 rw [T.get_set] at hs
 by_cases he:s=t
 ·rw [if_pos he] at hs; cases hs; rw [he]; exact hv
 rw [if_neg he] at hs; exact h s u hs
theorem gB:∀ (s:SO) {K:Env→Heap→Prop} {e:Env} {h:Heap} (g:Option (Nat×Bool)),na F s K e h→∀ e',Sub e e'→ak e' g=some true→(∀ t w,g=some (t,w)→s.noW t=true)→
  ∃ n e1 h1 e0 h0,aG (aQ F n) (s.er g) e' h=some (e1,h1)∧Sub e0 e1∧Fz h1 h0∧K e0 h0∧∀ t,s.noW t=true→e1.get t=e'.get t
 | .nil,K,e,h,g,hw,e',hs,hg,hn=>⟨0,e',h,e,h,rfl,hs,Fz.refl _,hw,fun _ _=>rfl⟩
 | .op d k xs ty r,K,e,h,g,hw,e',hs,hg,hn=>by
  obtain ⟨vs,h1,h2⟩:=a7 hw
  have hk:=sk h2
  have hsw:swp F ⟨d,none,k,xs⟩ (fun e h=>∃ hz,Fz h hz∧na F r K e hz) e h:=by
   refine ⟨true,rfl,?_⟩
   simp only [if_true]
   exact ⟨vs,h1,hk⟩
  obtain ⟨n,e1,h1',e0,g1,g2,hz,gz,g3⟩:=ww hsw e' hs
  have g1':aP (aQ F n) ⟨d,g,k,xs⟩ e' h=some (e1,h1'):=by
   rw [← g1]; simp only [aP,hg,show ak e' none=some true from rfl]
  obtain ⟨v,hv⟩:=uL g1
  have keep:∀ t,(SO.op d k xs ty r).noW t=true→e1.get t=e'.get t:=by
   intro t ht
   simp only [SO.noW,Bool.and_eq_true] at ht
   rw [hv,dB,if_neg (wW ht.1)]
  have hg1:ak e1 g=some true:=by
   cases g with
   | none=>rfl
   | some g=>rw [ki (keep g.1 (hn g.1 g.2 rfl))]; exact hg
  obtain ⟨m,e2,h2',e3,h3',k1,k2,kz,k3,k4⟩:=gB r g g3 e1 g2 hg1 (fun t w ht=>by
   have:=hn t w ht
   simp only [SO.noW,Bool.and_eq_true] at this
   exact this.2)
  obtain ⟨⟨h4',q1,q2⟩,_⟩:=cx (c7 m) _ gz k1
  refine ⟨max n m,e2,h4',e3,h3',?_,k2,q2.trans kz,k3,fun t ht=>?_⟩
  ·have a1:=gk (bx (F:=F) (Nat.le_max_left n m)) g1'
   have a2:=(bp (bx (F:=F) (Nat.le_max_right n m)) _ q1).1
   simp only [SO.er,aG,a1,a2]
  have h3:=keep t ht
  simp only [SO.noW,Bool.and_eq_true] at ht
  rw [k4 t ht.2,h3]
 | .grd t w b r,K,e,h,g,hw,e',hs,hg,hn=>by
  obtain ⟨v,h1,h2⟩:=a7 hw
  cases v<;>first | exact h2.elim | skip
  rename_i c
  simp only [iI,Bool.and_eq_true] at h2
  obtain ⟨⟨hnb,hsb⟩,h2⟩:=h2
  have he':=hs t _ h1
  have hor:(c=w∧na F b (fun e h=>na F r K e h) (e.set t (.bool c)) h)∨(c≠w∧na F r K (b.undefE (e.set t (.bool c))) h):=by
   cases c<;>cases w<;>simp only [bP] at h2
   ·exact .inl ⟨rfl,h2⟩
   ·exact .inr ⟨by decide,h2⟩
   ·exact .inr ⟨by decide,h2⟩
   exact .inl ⟨rfl,h2⟩
  have hs':=hs.setL he'
  have keepG:∀ e1:Env,(∀ t',b.noW t'=true→e1.get t'=e'.get t')→ak e1 g=some true:=by
   intro e1 hk
   cases g with
   | none=>rfl
   | some g=>
    have:=hn g.1 g.2 rfl
    simp only [SO.noW,Bool.and_eq_true] at this
    rw [ki (hk g.1 this.1)]; exact hg
  have hnr:∀ t' w',g=some (t',w')→r.noW t'=true:=by
   intro t' w' hh
   have:=hn t' w' hh
   simp only [SO.noW,Bool.and_eq_true] at this
   exact this.2
  have fin:∀ n1 e1 h1 e0 h0,aG (aQ F n1) (b.er (some (t,w))) e' h=some (e1,h1)→Sub e0 e1→Fz h1 h0→na F r K e0 h0→(∀ t',b.noW t'=true→e1.get t'=e'.get t')→
    ∃ n e2 h2 e3 h3,aG (aQ F n) ((SO.grd t w b r).er g) e' h=some (e2,h2)∧Sub e3 e2∧Fz h2 h3∧K e3 h3∧∀ t',(SO.grd t w b r).noW t'=true→e2.get t'=e'.get t':=by
   intro n1 e1 h1 e0 h0 q1 q2 qz q3 q4
   obtain ⟨m,e2,h2',e3,h3',k1,k2,kz,k3,k4⟩:=gB r g q3 e1 q2 (keepG e1 q4) hnr
   obtain ⟨⟨h4',u1,u2⟩,_⟩:=cx (c7 m) _ qz k1
   refine ⟨max n1 m,e2,h4',e3,h3',?_,k2,u2.trans kz,k3,fun t' ht=>?_⟩
   ·have a1:=(bp (bx (F:=F) (Nat.le_max_left n1 m)) _ q1).1
    have a2:=(bp (bx (F:=F) (Nat.le_max_right n1 m)) _ u1).1
    rw [SO.er,cI _ _ _ _ _ a1]; exact a2
   simp only [SO.noW,Bool.and_eq_true] at ht
   rw [k4 t' ht.2,q4 t' ht.1]
  rcases hor with ⟨hc,h3⟩ | ⟨hc,h3⟩
  ·subst hc
   obtain ⟨n1,e1,h1',e0,h0',q1,q2,qz,q3,q4⟩:=gB b (some (t,c)) h3 e' hs' (by simp only [ak,he',beq_self_eq_true]) (fun t' w' hh=>by cases hh; exact hnb)
   exact fin n1 e1 h1' e0 h0' q1 q2 qz q3 q4
  refine fin 0 (b.undefE e') h _ h (fy _ b (t,w) [] e' h hsb (fun t ht=>by cases ht) ?_) (dq b hs') (Fz.refl _) h3 (fun t' ht=>du b ht)
  simp only [ak,he']
  cases c<;>cases w<;>first | rfl | exact absurd rfl hc
 | .fz r,K,e,h,g,hw,e',hs,hg,hn=>by
  obtain ⟨hz,kz,hw⟩:=hw
  obtain ⟨n,e1,h1,e0,h0,k1,k2,k3,k4,k5⟩:=gB r g hw e' hs hg hn
  obtain ⟨⟨h4,q1,q2⟩,_⟩:=cx (c7 n) _ kz k1
  exact ⟨n,e1,h4,e0,h0,q1,k2,q2.trans k3,k4,k5⟩
mutual
theorem AV.beq_self:∀ v:AV,AV.beq v v=true
 | .bool b=>by simp [AV.beq]
 | .int k n=>by simp [AV.beq]
 | .str s=>by simp [AV.beq]
 | .nilPtr=>by simp [AV.beq]
 | .ptr _ _ _=>by simp [AV.beq]
 | .nilSlice=>by simp [AV.beq]
 | .slice _ _ _ _ _=>by simp [AV.beq]
 | .nilMap=>by simp [AV.beq]
 | .map _=>by simp [AV.beq]
 | .nilFunc=>by simp [AV.beq]
 | .func f cs=>by simp [AV.beq,AV.beqs_self cs]
 | .nilIface=>by simp [AV.beq]
 | .iface t v=>by simp [AV.beq,AV.beq_self v]
 | .agg cs=>by simp [AV.beq,AV.beqs_self cs]
 | .tuple cs=>by simp [AV.beq,AV.beqs_self cs]
 | .iter _=>by simp [AV.beq]
theorem AV.beqs_self:∀ vs:List AV,AV.beqs vs vs=true
 | []=>by simp [AV.beqs]
 | v::vs=>by simp [AV.beqs,AV.beq_self v,AV.beqs_self vs]
end
theorem iq:∀ {rs:List ARes} {K:List AV→Prop} {e:Env} {h:Heap},tl rs K e h→∃ vs,resAll e h rs=some vs∧K vs
 | [],_,_,_,hw=>⟨[],rfl,hw⟩
 | .tmp t::rs,K,e,h,hw=>by
  obtain ⟨v,h1,h2⟩:=a7 hw
  obtain ⟨vs,h3,h4⟩:=iq h2
  exact ⟨v::vs,by simp only [resAll,resOne,h1,h3],h4⟩
 | .cell1 t::rs,K,e,h,hw=>by
  obtain ⟨v,h1,x,h5,h2⟩:=a7 hw
  obtain ⟨vs,h3,h4⟩:=iq h2
  exact ⟨x::vs,by simp only [resAll,resOne,h1,show ROp.ev .load1 [v] h=some x from h5,h3],h4⟩
 | .cellN t n::rs,K,e,h,hw=>by
  obtain ⟨v,h1,h2⟩:=a7 hw
  obtain ⟨cs,h5,h2⟩:=tA h2
  obtain ⟨vs,h3,h4⟩:=iq h2
  have h6:ROp.ev (.loadN n) [v] h=some (.agg cs):=by
   unfold Heap.rdN at h5
   split at h5
   ·simp only [ROp.ev,h5]
   cases h5
  exact ⟨.agg cs::vs,by simp only [resAll,resOne,h1,h6,h3],h4⟩
theorem ra {rs:List ARes} {K:AV→Heap→Prop} {e:Env} {h:Heap} (hw:D1 rs K e h):∃ v,resOf e h rs=some v∧K v h:=by
 obtain ⟨vs,h1,h2⟩:=iq hw
 refine ⟨one vs,?_,h2⟩
 unfold resOf one
 rw [h1]
 split<;>first | contradiction | skip
 ·rename_i v hv; cases hv; rfl
 rename_i v hv hne; cases hne
 split
 ·exact absurd rfl (hv _)
 rfl
inductive All2 {α β:Type} (P:α→β→Prop):List α→List β→Prop where
 | nil:All2 P [] []
 | cons {a:α} {b:β} {l:List α} {m:List β}:P a b→All2 P l m→All2 P (a::l) (b::m)
theorem TrFz.rel {l m:List (Env×Heap)} (t:TrFz l m):∀ {tr:List (Env×Heap)},All2 (fun a b=>Sub a.1 b.1∧Fz b.2 a.2) tr m→All2 (fun a b=>Sub a.1 b.1∧Fz b.2 a.2) tr l:=by
 induction t with
 | nil=>intro tr h; exact h
 | cons k t ih=>
  intro tr h
  cases h with
  | cons hp hr=>exact .cons ⟨hp.1,k.trans hp.2⟩ (ih hr)
theorem All2.snoc {α β:Type} {P:α→β→Prop}:∀ {l:List α} {x:α} {m:List β},All2 P (l++[x]) m→∃ m' y,m=m'++[y]∧All2 P l m'∧P x y
 | [],x,_,.cons hp .nil=>⟨[],_,rfl,.nil,hp⟩
 | a::l,x,_,.cons hp hr=>by
  obtain ⟨m',y,e,h1,h2⟩:=All2.snoc (l:=l) hr
  exact ⟨_::m',y,by rw [e]; rfl,.cons hp h1,h2⟩
theorem All2.app {α β:Type} {P:α→β→Prop}:∀ {l:List α} {m:List β} {l':List α} {m':List β},All2 P l m→All2 P l' m'→All2 P (l++l') (m++m')
 | _,_,_,_,.nil,k=>k
 | _,_,_,_,.cons h t,k=>.cons h (All2.app t k)
theorem gN (cf:aZ) (b:List AOper):∀ (a:List AOper) (e:Env) (h:Heap) {e1:Env} {h1:Heap} {m:List (Env×Heap)} {y:Env×Heap},aG cf a e h=some (e1,h1)→trace cf a e h=m++[y]→trace cf (a++b) e h=m++trace cf b e1 h1
 | [],e,h,e1,h1,m,y,hr,ht=>by
  cases hr
  have ht:[(e,h)]=m++[y]:=ht
  cases m with
  | nil=>rfl
  | cons c m=>cases m<;>cases ht
 | o::a,e,h,e1,h1,m,y,hr,ht=>by
  simp only [aG] at hr
  split at hr
  ·cases hr
  rename_i e2 h2 hs
  simp only [trace,List.cons_append,hs] at ht ⊢
  cases m with
  | nil=>
   have:∀ (a:List AOper) (e:Env) (h:Heap),aG cf a e h=some (e1,h1)→trace cf a e h≠[]:=by
    intro a e h hr ht
    cases a with
    | nil=>cases ht
    | cons o a=>simp only [trace] at ht; cases ht
   simp only [List.nil_append,List.cons.injEq] at ht
   exact absurd ht.2 (this _ _ _ hr)
  | cons c m=>
   simp only [List.cons_append,List.cons.injEq] at ht ⊢
   exact ⟨ht.1,gN cf b a e2 h2 hr ht.2⟩
theorem jo {d:Option Nat} {k:AK} {xs:List Opd} {ty:Ty} {r:SO} {g:Option (Nat×Bool)} {tr:List (Env×Heap)} {K:List (Env×Heap)→Env→Heap→Prop} {e:Env} {h:Heap}
  (ih:∀ (tr:List (Env×Heap)) {e:Env} {h:Heap},m8 F r g tr K e h→∀ e',Sub e e'→∃ n e1 h1 e0 h0 tr2,aG (aQ F n) (r.er g) e' h=some (e1,h1)∧Sub e0 e1∧Fz h1 h0∧K (tr++tr2) e0 h0∧All2 (fun a b=>Sub a.1 b.1∧Fz b.2 a.2) (tr2++[(e0,h0)]) (trace (aQ F n) (r.er g) e' h))
  (hw:oP (evs e xs) fun vs=>xl F k vs ty (fun v h'=>m8 F r g (tr++[(e,h)]) K (putE e d v) h') h) (e':Env) (hs:Sub e e') (hg:ak e' g=some true) :
  ∃ n e1 h1 e0 h0 tr2,aG (aQ F n) ((SO.op d k xs ty r).er g) e' h=some (e1,h1)∧Sub e0 e1∧Fz h1 h0∧K (tr++tr2) e0 h0∧All2 (fun a b=>Sub a.1 b.1∧Fz b.2 a.2) (tr2++[(e0,h0)]) (trace (aQ F n) ((SO.op d k xs ty r).er g) e' h):=by
 obtain ⟨vs,h1,h2⟩:=a7 hw
 have hk:=sk h2
 have hsw:swp F ⟨d,none,k,xs⟩ (fun e1 h1=>∃ hz,Fz h1 hz∧m8 F r g (tr++[(e,h)]) K e1 hz) e h:=by
  refine ⟨true,rfl,?_⟩
  simp only [if_true]
  exact ⟨vs,h1,hk⟩
 obtain ⟨n,e1,h1',e0,g1,g2,hz,gz,g3⟩:=ww hsw e' hs
 have g1':aP (aQ F n) ⟨d,g,k,xs⟩ e' h=some (e1,h1'):=by
  rw [← g1]; simp only [aP,hg,show ak e' none=some true from rfl]
 obtain ⟨m,e2,h2',e3,h3',tr2,k1,k2,kz,k3,k4⟩:=ih _ g3 e1 g2
 obtain ⟨⟨h4',q1,q2⟩,q3⟩:=cx (c7 m) _ gz k1
 have a1:=gk (bx (F:=F) (Nat.le_max_left n m)) g1'
 have a2:=bp (bx (F:=F) (Nat.le_max_right n m)) _ q1
 refine ⟨max n m,e2,h4',e3,h3',(e,h)::tr2,?_,k2,q2.trans kz,?_,?_⟩
 ·simp only [SO.er,aG,a1,a2.1]
 ·rw [List.append_assoc] at k3; exact k3
 simp only [SO.er,trace,a1,a2.2]
 exact .cons ⟨hs,Fz.refl _⟩ (q3.rel k4)
theorem iW {d:Option Nat} {k:AK} {xs:List Opd} {ty:Ty} {r:SO} {g:Option (Nat×Bool)} {tr:List (Env×Heap)} {K:List (Env×Heap)→Env→Heap→Prop} {e:Env} {h:Heap}
  (ih:∀ (tr:List (Env×Heap)) {e:Env} {h:Heap},m8 F r g tr K e h→∀ e',Sub e e'→∃ n e1 h1 e0 h0 tr2,aG (aQ F n) (r.er g) e' h=some (e1,h1)∧Sub e0 e1∧Fz h1 h0∧K (tr++tr2) e0 h0∧All2 (fun a b=>Sub a.1 b.1∧Fz b.2 a.2) (tr2++[(e0,h0)]) (trace (aQ F n) (r.er g) e' h))
  (hw:m8 F r g (tr++[(e,h)]) K (putE e d .undef) h) (e':Env) (hs:Sub e e') (hg:ak e' g=some false) :
  ∃ n e1 h1 e0 h0 tr2,aG (aQ F n) ((SO.op d k xs ty r).er g) e' h=some (e1,h1)∧Sub e0 e1∧Fz h1 h0∧K (tr++tr2) e0 h0∧All2 (fun a b=>Sub a.1 b.1∧Fz b.2 a.2) (tr2++[(e0,h0)]) (trace (aQ F n) ((SO.op d k xs ty r).er g) e' h):=by
 obtain ⟨m,e2,h2',e3,h3',tr2,k1,k2,kz,k3,k4⟩:=ih _ hw _ (hs.putE d _)
 have g1:aP (aQ F m) ⟨d,g,k,xs⟩ e' h=some (putE e' d .undef,h):=by simp only [aP,hg]
 refine ⟨m,e2,h2',e3,h3',(e,h)::tr2,?_,k2,kz,?_,?_⟩
 ·simp only [SO.er,aG,g1,k1]
 ·rw [List.append_assoc] at k3; exact k3
 simp only [SO.er,trace,g1]
 exact .cons ⟨hs,Fz.refl _⟩ k4
theorem iT:∀ (s:SO) (g:Option (Nat×Bool)) (tr:List (Env×Heap)) {K:List (Env×Heap)→Env→Heap→Prop} {e:Env} {h:Heap},m8 F s g tr K e h→∀ e',Sub e e'→
  ∃ n e1 h1 e0 h0 tr2,aG (aQ F n) (s.er g) e' h=some (e1,h1)∧Sub e0 e1∧Fz h1 h0∧K (tr++tr2) e0 h0∧All2 (fun a b=>Sub a.1 b.1∧Fz b.2 a.2) (tr2++[(e0,h0)]) (trace (aQ F n) (s.er g) e' h)
 | .nil,g,tr,K,e,h,hw,e',hs=>⟨0,e',h,e,h,[],rfl,hs,Fz.refl _,by rw [List.append_nil]; exact hw,.cons ⟨hs,Fz.refl _⟩ .nil⟩
 | .op d k xs ty r,none,tr,K,e,h,hw,e',hs=>jo (fun tr=>iT r none tr) hw e' hs rfl
 | .op d k xs ty r,some (t,w),tr,K,e,h,hw,e',hs=>by
  obtain ⟨v,h1,h2⟩:=a7 hw
  have he':=hs t _ h1
  have ih:=fun tr {e:Env} {h:Heap}=>iT (K:=K) (e:=e) (h:=h) r (some (t,w)) tr
  cases v with
  | bool c=>
   have hs':=hs.setL he'
   cases c<;>cases w<;>simp only [bP] at h2
   ·exact jo ih h2 e' hs' (by simp only [ak,he']; rfl)
   ·exact iW ih h2 e' hs' (by simp only [ak,he']; rfl)
   ·exact iW ih h2 e' hs' (by simp only [ak,he']; rfl)
   exact jo ih h2 e' hs' (by simp only [ak,he']; rfl)
  | _=>exact iW ih h2 e' hs (by simp only [ak,he'])
 | .grd t w b r,g,tr,K,e,h,hw,e',hs=>by
  obtain ⟨n1,e1,h1,e0,h0,tr2,q1,q2,qz,q3,q4⟩:=iT b (some (t,w)) tr (K:=fun tr e h=>m8 F r g tr K e h) hw e' hs
  obtain ⟨m,e2,h2',e3,h3',tr3,k1,k2,kz,k3,k4⟩:=iT r g _ q3 e1 q2
  obtain ⟨⟨h4',u1,u2⟩,u3⟩:=cx (c7 m) _ qz k1
  have a1:=bp (bx (F:=F) (Nat.le_max_left n1 m)) _ q1
  have a2:=bp (bx (F:=F) (Nat.le_max_right n1 m)) _ u1
  obtain ⟨m',y,j1,j2,j3⟩:=All2.snoc q4
  refine ⟨max n1 m,e2,h4',e3,h3',tr2++tr3,?_,k2,u2.trans kz,?_,?_⟩
  ·rw [SO.er,cI _ _ _ _ _ a1.1]; exact a2.1
  ·rw [List.append_assoc] at k3; exact k3
  rw [SO.er,gN _ _ _ _ _ a1.1 (a1.2.trans j1),List.append_assoc,a2.2]
  exact j2.app (u3.rel k4)
 | .fz _,_,_,_,_,_,hw,_,_=>hw.elim
theorem bj {α β:Type} {P:α→β→Prop}:∀ {l:List α} {m:List β},All2 P l m→∀ {i:Nat} {a:α},l[i]? = some a→∃ b,m[i]? = some b∧P a b
 | _,_,.nil,i,a,h=>by simp at h
 | _,_,.cons hp hr,0,a,h=>by simp at h; subst h; exact ⟨_,by simp,hp⟩
 | _,_,.cons hp hr,i+1,a,h=>by
  simp only [List.getElem?_cons_succ] at h ⊢
  exact bj hr h
theorem lK {ops:List AOper} {tr':List (Env×Heap)} {p:Nat×Nat} {o:AOper} {s s1 s2 t t1 t2:Env×Heap} (h1:ops[p.1]? = some o) (q2:tr'[p.1]? = some t) (q3:tr'[p.2]? = some t1) (q4:tr'[p.2+1]? = some t2)
  (r0:Sub s.1 t.1∧Fz t.2 s.2) (r1:Sub s1.1 t1.1∧Fz t1.2 s1.2) (r2:Sub s2.1 t2.1∧Fz t2.2 s2.2) (hp:sM o s s1 s2) (hg:ak t.1 o.guard=some true):aY ops tr' p=true:=by
 obtain ⟨e,h⟩:=s
 obtain ⟨ea,ha⟩:=s1
 obtain ⟨eb,hb⟩:=s2
 obtain ⟨e',h'⟩:=t
 obtain ⟨ea',ha'⟩:=t1
 obtain ⟨eb',hb'⟩:=t2
 obtain ⟨s2,t2⟩:=r0
 obtain ⟨s3,t3⟩:=r1
 obtain ⟨s4,t4⟩:=r2
 simp only at t2 t3 t4 s2 hg
 unfold sM at hp
 split at hp
 ·rename_i q hq
  obtain ⟨xs,h5,v,k1,k2,k3⟩:=a7 hp
  simp only at h5 k1 k2 k3
  simp only [aY,h1,q2,q3,q4,hg,hq,s2.evs h5,t2.rop,t3.rop,t4.rop,k1,k2,k3,jx,AV.beq_self,Bool.and_self]
 ·rename_i q hq
  simp only at hp
  simp only [aY,h1,q2,q3,q4,hg,hq]
  rw [t2.n]
  exact jY t3 t4 hp
 exact hp.elim
theorem vk {ops:List AOper} {tr tr':List (Env×Heap)} {p:Nat×Nat} (ht:All2 (fun a b=>Sub a.1 b.1∧Fz b.2 a.2) tr tr') (hp:BQ ops tr p):aY ops tr' p=true:=by
 obtain ⟨o,h1,hp⟩:=a7 hp
 obtain ⟨s,h2,hp⟩:=a7 hp
 obtain ⟨s1,h3,hp⟩:=a7 hp
 obtain ⟨s2,h4,hp⟩:=a7 hp
 obtain ⟨t,q2,r0⟩:=bj ht h2
 obtain ⟨t1,q3,r1⟩:=bj ht h3
 obtain ⟨t2,q4,r2⟩:=bj ht h4
 have skip:ak t.1 o.guard=some false→aY ops tr' p=true:=fun hg=>by
  obtain ⟨e',h'⟩:=t
  obtain ⟨ea',ha'⟩:=t1
  obtain ⟨eb',hb'⟩:=t2
  simp only at hg
  simp only [aY,h1,q2,q3,q4,hg]
 split at hp
 ·rename_i hg
  exact lK h1 q2 q3 q4 r0 r1 r2 hp (by rw [hg]; rfl)
 rename_i t' w hg
 obtain ⟨v,hv,hp⟩:=a7 hp
 have hv':=r0.1 t' _ hv
 cases v with
 | bool c=>
  cases c<;>cases w<;>simp only [bP] at hp
  ·exact lK h1 q2 q3 q4 r0 r1 r2 hp (by simp only [hg,ak,hv']; rfl)
  ·exact skip (by simp only [hg,ak,hv']; rfl)
  ·exact skip (by simp only [hg,ak,hv']; rfl)
  exact lK h1 q2 q3 q4 r0 r1 r2 hp (by simp only [hg,ak,hv']; rfl)
 | _=>exact skip (by simp only [hg,ak,hv'])
theorem mq {ops:List AOper} {tr tr':List (Env×Heap)} (ht:All2 (fun a b=>Sub a.1 b.1∧Fz b.2 a.2) tr tr'):∀ {ps:List (Nat×Nat)} {P:Prop},sI ops tr ps P→ps.all (aY ops tr')=true∧P
 | [],P,h=>⟨rfl,h⟩
 | p::ps,P,h=>by
  obtain ⟨h1,h2⟩:=h
  obtain ⟨h3,h4⟩:=mq ht h2
  exact ⟨by simp only [List.all_cons,vk ht h1,h3,Bool.and_self],h4⟩
end Go.Am
namespace Go.Am
open Go
def zN (N R:Env→Heap→Prop) (X:Nat→Env→Heap→Prop):AX→Env→Heap→Prop
 | .normal,e,h=>N e h
 | .ret,e,h=>R e h
 | .exit i,e,h=>X i e h
theorem fh:∀ {live:eY} {G:List (Nat×AV)→Heap→Prop} {e:Env} {h:Heap},ku live (uI live G) e h→∃ l,Has e l∧G l h
 | [],G,e,h,ha=>⟨[],trivial,ha⟩
 | (s,t)::live,G,e,h,ha=>by
  simp only [ku] at ha
  split at ha
  ·rename_i v hv
   split at ha
   ·rename_i x hx
    obtain ⟨l,h1,h2⟩:=fh (G:=fun r=>G ((s,t.mk x)::r)) ha
    exact ⟨(s,t.mk x)::l,⟨by rw [hv,Ty.un_mk hx],h1⟩,h2⟩
   exact ha.elim
  exact ha.elim
theorem kr {α:Type} {f:Nat→α}:∀ {xs:List Nat} {i:Nat} {g:α},fI xs (xs.map f) i=some g→g=f i
 | [],_,_,h=>by cases h
 | x::xs,i,g,h=>by
  simp only [List.map,fI] at h
  split at h
  ·rename_i hx; cases h; rw [hx]
  exact kr h
variable {F:Nat→Option AFn}
theorem ue:∀ {c:SC} {N R:Env→Heap→Prop} {X:Nat→Env→Heap→Prop} {e:Env} {h:Heap},sG F c N R X e h→∀ e',Sub e e'→∃ n x e1 h1 e0 h0,run F n c.er e' h=some (x,e1,h1)∧Sub e0 e1∧Fz h1 h0∧zN N R X x e0 h0:=by
 intro c
 induction c with
 | skip=>intro N R X e h hw e' hs; exact ⟨1,.normal,e',h,e,h,rfl,hs,Fz.refl _,hw⟩
 | exit id=>intro N R X e h hw e' hs; exact ⟨1,.exit id,e',h,e,h,rfl,hs,Fz.refl _,hw⟩
 | ret=>intro N R X e h hw e' hs; exact ⟨1,.ret,e',h,e,h,rfl,hs,Fz.refl _,hw⟩
 | fz b ih=>
  intro N R X e h hw e' hs
  obtain ⟨hz,k,hw⟩:=hw
  obtain ⟨n,x,e1,h1,e0,h0,g1,g2,gz,g3⟩:=ih hw e' hs
  obtain ⟨h2,q1,q2⟩:=ml n _ _ _ _ _ _ _ k g1
  exact ⟨n,x,e1,h2,e0,h0,q1,g2,q2.trans gz,g3⟩
 | seq a b iha ihb=>
  intro N R X e h hw e' hs
  obtain ⟨n,x,e1,h1,e0,h0,g1,g2,gz,g3⟩:=iha hw e' hs
  cases x with
  | normal=>
   obtain ⟨m,y,e2,h2,e3,h3,k1,k2,kz,k3⟩:=ihb g3 e1 g2
   obtain ⟨h4,q1,q2⟩:=ml m _ _ _ _ _ _ _ gz k1
   refine ⟨max n m+1,y,e2,h4,e3,h3,?_,k2,q2.trans kz,k3⟩
   rw [az,SC.er]
   simp only [dP (Nat.le_max_left n m) g1,dP (Nat.le_max_right n m) q1]
  | exit id=>exact ⟨n+1,.exit id,e1,h1,e0,h0,by rw [az,SC.er]; simp only [g1],g2,gz,g3⟩
  | ret=>exact ⟨n+1,.ret,e1,h1,e0,h0,by rw [az,SC.er]; simp only [g1],g2,gz,g3⟩
 | cond c t f iht ihf=>
  intro N R X e h hw e' hs
  obtain ⟨v,hv,hw⟩:=a7 hw
  cases v<;>first | exact hw.elim | skip
  rename_i b
  have hv':=hs.ev hv
  cases b with
  | true=>
   obtain ⟨n,x,e1,h1,e0,h0,g1,g2,gz,g3⟩:=iht hw e' hs
   exact ⟨n+1,x,e1,h1,e0,h0,by rw [az,SC.er]; simp only [hv',cond_true,g1],g2,gz,g3⟩
  | false=>
   obtain ⟨n,x,e1,h1,e0,h0,g1,g2,gz,g3⟩:=ihf hw e' hs
   exact ⟨n+1,x,e1,h1,e0,h0,by rw [az,SC.er]; simp only [hv',cond_false,g1],g2,gz,g3⟩
 | block id b ih=>
  intro N R X e h hw e' hs
  obtain ⟨n,x,e1,h1,e0,h0,g1,g2,gz,g3⟩:=ih hw e' hs
  cases x with
  | normal=>exact ⟨n+1,.normal,e1,h1,e0,h0,by rw [az,SC.er]; simp only [g1],g2,gz,g3⟩
  | ret=>exact ⟨n+1,.ret,e1,h1,e0,h0,by rw [az,SC.er]; simp only [g1],g2,gz,g3⟩
  | exit id'=>
   by_cases hid:id'=id
   ·have g3:N e0 h0:=by
     subst hid
     have:=g3
     simp only [zN,Nat.beq_refl,bP] at this
     exact this
    exact ⟨n+1,.normal,e1,h1,e0,h0,by rw [az,SC.er]; simp only [g1,if_pos hid],g2,gz,g3⟩
   have g3:X id' e0 h0:=by
    have:=g3
    have hb:Nat.beq id' id=false:=by
     cases hq:Nat.beq id' id with
     | false=>rfl
     | true=>exact absurd (Nat.eq_of_beq_eq_true hq) hid
    simp only [zN,hb,bP] at this
    exact this
   exact ⟨n+1,.exit id',e1,h1,e0,h0,by rw [az,SC.er]; simp only [g1,if_neg hid],g2,gz,g3⟩
 | loop live xs hr b ih=>
  intro N R X e h hw e' hs
  obtain ⟨l,h1,h2⟩:=fh hw
  obtain ⟨n,x,e1,h1',hz,k1,kz,k2⟩:=h2 e' (h1.sub.trans hs)
  cases x with
  | normal=>exact k2.elim
  | ret=>
   obtain ⟨r,q1,q2⟩:=fh k2
   cases hr with
   | true=>exact ⟨n,.ret,e1,h1',E r,hz,k1,q1.sub,kz,q2⟩
   | false=>exact q2.elim
  | exit i=>
   obtain ⟨f,hf,k3⟩:=a7 k2
   rw [kr hf] at k3
   obtain ⟨r,q1,q2⟩:=fh k3
   exact ⟨n,.exit i,e1,h1',E r,hz,k1,q1.sub,kz,q2⟩
 | region s=>
  intro N R X e h hw e' hs
  obtain ⟨n,e1,h1,e0,h0,g1,g2,gz,g3,_⟩:=gB s none hw e' hs rfl (fun _ _ hh=>by cases hh)
  exact ⟨n+1,.normal,e1,h1,e0,h0,by rw [az,SC.er]; simp only [g1],g2,gz,g3⟩
 | dreg s=>
  intro N R X e h hw e' hs
  obtain ⟨n,e1,h1,e0,h0,g1,g2,gz,g3,_⟩:=gB s none hw e' hs rfl (fun _ _ hh=>by cases hh)
  exact ⟨n+1,.normal,e1,h1,e0,h0,by rw [az,SC.er]; simp only [g1,List.all_nil,cond_true],g2,gz,g3⟩
 | dregp s ps=>
  intro N R X e h hw e' hs
  obtain ⟨n,e1,h1,e0,h0,tr2,g1,g2,gz,g3,g4⟩:=iT s none [] hw e' hs
  obtain ⟨k1,k2⟩:=mq g4 g3
  exact ⟨n+1,.normal,e1,h1,e0,h0,by rw [az,SC.er]; simp only [g1,k1,cond_true],g2,gz,k2⟩
theorem yX {f:Nat} {fn:AFn} {s:SC} {xs:List AV} {h:Heap} {K:AV→Heap→Prop} (hF:F f=some fn) (hc:fn.code=s.er) (hl:xs.length=fn.np)
  (hw:sG F s (D1 fn.res K) (D1 fn.res K) (fun _ _ _=>False) (E (AO 0 xs)) h):ZC F f xs h K:=by
 obtain ⟨n,x,e1,h1,e0,h0,g1,g2,gz,g3⟩:=ue hw _ (vD xs)
 cases x with
 | exit id=>exact g3.elim
 | normal=>
  obtain ⟨v,g4,g5⟩:=ra g3
  refine ⟨n,v,h1,h0,?_,gz,g5⟩
  unfold aQ
  rw [hF]
  simp only [if_pos hl,hc,g1,gz.resOf,g2.resOf g4]
 | ret=>
  obtain ⟨v,g4,g5⟩:=ra g3
  refine ⟨n,v,h1,h0,?_,gz,g5⟩
  unfold aQ
  rw [hF]
  simp only [if_pos hl,hc,g1,gz.resOf,g2.resOf g4]
def EB:(live:eY)→Cur live (Heap→Prop)→(List (Nat×AV)→Heap→Prop)→Prop
 | [],P,G=>∀ h,P h→G [] h
 | (s,t)::l,P,G=>∀ x:t.T,EB l (P x) fun r h=>G ((s,t.mk x)::r) h
def jG:(live:eY)→Cur live (Heap→Prop)→Cur live (Heap→Prop)→Prop
 | [],P,Q=>∀ h,P h→Q h
 | (_,t)::l,P,Q=>∀ x:t.T,jG l (P x) (Q x)
def low:(live:eY)→(Nat→Cur live (Heap→Prop))→Nat→Cur live (Heap→Prop)
 | [],I,m=>fun h=>∃ m',m' < m∧I m' h
 | (_,_)::l,I,m=>fun x=>low l (fun m=>I m x) m
def atL:(live:eY)→Cur live (Heap→Prop)→List (Nat×AV)→Heap→Prop
 | [],P,l,h=>l=[]∧P h
 | (s,t)::live,P,l,h=>∃ x r,l=(s,t.mk x)::r∧atL live (P x) r h
theorem t8:∀ {live:eY} {P:Cur live (Heap→Prop)} {G:List (Nat×AV)→Heap→Prop},EB live P G→∀ l h,atL live P l h→G l h
 | [],P,G,ha,l,h,⟨hl,hp⟩=>by rw [hl]; exact ha h hp
 | (s,t)::live,P,G,ha,l,h,⟨x,r,hl,hp⟩=>by rw [hl]; exact t8 (ha x) r h hp
theorem mr:∀ {live:eY} {P:Cur live (Heap→Prop)} {G:List (Nat×AV)→Heap→Prop},(∀ l h,atL live P l h→G l h)→jG live P (uI live G)
 | [],P,G,ha=>fun h hp=>ha [] h ⟨rfl,hp⟩
 | (s,t)::live,P,G,ha=>fun x=>mr (G:=fun r=>G ((s,t.mk x)::r)) fun l h hp=>ha _ h ⟨x,l,rfl,hp⟩
theorem wR:∀ {live:eY} {I:Nat→Cur live (Heap→Prop)} {m:Nat} {e:Env} {h:Heap},ku live (low live I m) e h→∃ m' l,m' < m∧Has e l∧atL live (I m') l h
 | [],I,m,e,h,⟨m',h1,h2⟩=>⟨m',[],h1,trivial,rfl,h2⟩
 | (s,t)::live,I,m,e,h,ha=>by
  simp only [ku] at ha
  split at ha
  ·rename_i v hv
   split at ha
   ·rename_i x hx
    obtain ⟨m',l,h1,h2,h3⟩:=wR (I:=fun m=>I m x) ha
    exact ⟨m',(s,t.mk x)::l,h1,⟨by rw [hv,Ty.un_mk hx],h2⟩,x,l,rfl,h3⟩
   exact ha.elim
  exact ha.elim
theorem kW:∀ {live:eY} {P:Cur live (Heap→Prop)} {e e':Env} {h:Heap},Sub e e'→ku live P e h→ku live P e' h
 | [],P,e,e',h,hs,ha=>ha
 | (s,t)::live,P,e,e',h,hs,ha=>by
  simp only [ku] at ha ⊢
  split at ha
  ·rename_i v hv
   rw [hs _ _ hv]
   simp only
   split at ha
   ·rename_i x hx
    exact kW hs ha
   exact ha.elim
  exact ha.elim
theorem sR {live:eY} {xs:List Nat} {b:SC} {R:Cur live (Heap→Prop)} {X:List (Cur live (Heap→Prop))} (I:Nat→Cur live (Heap→Prop))
  (body:∀ m,EB live (I m) fun l h=>sG F b (ku live (low live I m)) (ku live R) (fun i e h=>oP (fI xs X i) fun f=>ku live f e h) (E l) h) (m:Nat):jG live (I m) (jK F live xs b R X):=by
 refine mr ?_
 have key:∀ k m l h,m < k→atL live (I m) l h→∀ e',Sub (E l) e'→∃ n x e1 h1 hz,run F n (.loop b.er) e' h=some (x,e1,h1)∧Fz h1 hz∧pA live xs R X x e1 hz:=by
  intro k
  induction k with
  | zero=>intro m l h hm; omega
  | succ k ih=>
   intro m l h hm hI e' hs
   obtain ⟨n,x,e1,h1,e0,h0,g1,g2,gz,g3⟩:=ue (t8 (body m) l h hI) e' hs
   cases x with
   | normal=>
    obtain ⟨m',l',q1,q2,q3⟩:=wR g3
    obtain ⟨n',x,e2,h2,h3,k1,kz,k2⟩:=ih m' l' h0 (by omega) q3 e1 (q2.sub.trans g2)
    obtain ⟨h4,u1,u2⟩:=ml n' _ _ _ _ _ _ _ gz k1
    refine ⟨max n n'+1,x,e2,h4,h3,?_,u2.trans kz,k2⟩
    rw [az]
    simp only [dP (Nat.le_max_left n n') g1,dP (Nat.le_max_right n n') u1]
   | exit id=>
    refine ⟨n+1,.exit id,e1,h1,h0,by rw [az]; simp only [g1],gz,?_⟩
    obtain ⟨f,hf,k2⟩:=a7 g3
    exact oI f hf (kW g2 k2)
   | ret=>exact ⟨n+1,.ret,e1,h1,h0,by rw [az]; simp only [g1],gz,kW g2 g3⟩
 exact fun l h hI=>key (m+1) m l h (Nat.lt_succ_self m) hI
def JU:(live:eY)→Cur live (Heap→Prop)→Cur live (Heap→Prop)→Prop:=jG
theorem kD:∀ {live:eY} {P Q:Cur live (Heap→Prop)} {e:Env} {h:Heap},jG live P Q→ku live P e h→ku live Q e h
 | [],P,Q,e,h,hi,ha=>hi h ha
 | (s,t)::live,P,Q,e,h,hi,ha=>by
  simp only [ku] at ha ⊢
  split at ha
  ·split at ha
   ·rename_i x hx
    exact kD (hi x) ha
   exact ha.elim
  exact ha.elim
theorem i6 {live:eY}:∀ {xs:List Nat} {X Y:List (Cur live (Heap→Prop))} {i:Nat} {f:Cur live (Heap→Prop)},All2 (jG live) X Y→fI xs X i=some f→∃ g,fI xs Y i=some g∧jG live f g
 | [],_,_,_,_,_,h=>by cases h
 | _::_,_,_,_,_,.nil,h=>by cases h
 | x::xs,_,_,i,f,.cons hp hr,h=>by
  simp only [fI] at h ⊢
  split at h
  ·rename_i hx; cases h; exact ⟨_,by rw [if_pos hx],hp⟩
  rename_i hx; rw [if_neg hx]; exact i6 hr h
theorem lX:∀ {live:eY} {G G':List (Nat×AV)→Heap→Prop},(∀ l h,G l h→G' l h)→jG live (uI live G) (uI live G')
 | [],G,G',hi=>fun h hg=>hi [] h hg
 | (s,t)::live,G,G',hi=>fun x=>lX (G:=fun r=>G ((s,t.mk x)::r)) (G':=fun r=>G' ((s,t.mk x)::r)) fun l h hg=>hi _ h hg
theorem sL {live:eY} {xs:List Nat} {b:SC} {R R':Cur live (Heap→Prop)} {X X':List (Cur live (Heap→Prop))} (hR:jG live R R') (hX:All2 (jG live) X X'):jG live (jK F live xs b R X) (jK F live xs b R' X'):=by
 unfold jK
 refine lX fun l h hg e' hs=>?_
 obtain ⟨n,x,e1,h1,hz,k1,kz,k2⟩:=hg e' hs
 refine ⟨n,x,e1,h1,hz,k1,kz,?_⟩
 cases x with
 | normal=>exact k2
 | ret=>exact kD hR k2
 | exit i=>
  obtain ⟨f,hf,k3⟩:=a7 k2
  obtain ⟨g,hg,hi⟩:=i6 hX hf
  exact oI g hg (kD hi k3)
end Go.Am
namespace Go.Am
open Go
def sTy (P:Program) (t:TypeId):Ty:=match P.underlying t with
 | some (.int k)=>.int k
 | some .bool=>.bool
 | some .string=>.str
 | _=>.any
def Gv (P:Program):List Oper→List (Nat×Ty)→List (Nat×Ty)
 | [],l=>l
 | o::os,l=>Gv P os (match o.dst with
  | some d=>bif Nat.beq o.type 0 then l else (d,sTy P o.type)::l
  | none=>l)
def xp (P:Program):Code→List (Nat×Ty)→List (Nat×Ty)
 | .region _ ops _,l=>Gv P ops.toList l
 | .seq a b,l=>xp P b (xp P a l)
 | .cond _ a b,l=>xp P b (xp P a l)
 | .block _ b,l=>xp P b l
 | .loop b,l=>xp P b l
 | _,l=>l
def Gi (P:Program):Nat→List TypeId→List (Nat×Ty)
 | _,[]=>[]
 | i,t::ts=>(i,sTy P t)::Gi P (i+1) ts
def lkT:List (Nat×Ty)→Nat→Ty
 | [],_=>.any
 | (s,t)::l,d=>bif Nat.beq s d then t else lkT l d
def opT (T:List (Nat×Ty)):Opd→Ty
 | .tmp t=>lkT T t
 | .const (.int k _)=>.int k
 | .const (.bool _)=>.bool
 | .const (.str _)=>.str
 | _=>.any
def isI:Ty→Bool
 | .int _=>true
 | _=>false
def stk (T:List (Nat×Ty)):POp→List Opd→Bool
 | .extract _,_=>true
 | .field1 _,_=>true
 | .indexStr,_=>true
 | .sliceStr _ _,_=>true
 | .eqAgg _ _,_=>true
 | .indexArr1 _,_=>true
 | .ext _,_=>true
 | .conv _,x::_=>!isI (opT T x)
 | .bin .shl,_=>true
 | .bin .shr,_=>true
 | .bin .quo,[_,.const (.int _ n)]=>n==0
 | .bin .rem,[_,.const (.int _ n)]=>n==0
 | .bin .quo,_=>true
 | .bin .rem,_=>true
 | .bin o,x::_=>match opT T x with
  | .str=>match o with
   | .add=>true
   | _=>false
  | .int _=>false
  | _=>true
 | .eql _ q,_=>!Nat.beq q 0
 | _,_=>false
def tyO (T:List (Nat×Ty)) (o:AOper):Ty:=match o.dst with
 | none=>.any
 | some d=>match o.k with
  | .p q=>bif stk T q o.xs then lkT T d else .any
  | .r _=>lkT T d
  | .call _=>lkT T d
  | .callV=>lkT T d
  | .callM _=>lkT T d
  | _=>.any
def B3:Option (Nat×Bool)→Option (Nat×Bool)→Bool
 | none,none=>true
 | some (a,b),some (c,d)=>Nat.beq a c&&(b==d)
 | _,_=>false
def BA (g:Option (Nat×Bool)):List AOper→List AOper×List AOper
 | []=>([],[])
 | o::os=>bif B3 o.guard g then ([],o::os) else match BA g os with
  | (a,b)=>(o::a,b)
def JF:AK→Bool
 | .call _=>true
 | .callV=>true
 | .callM _=>true
 | _=>false
def wt (T:List (Nat×Ty)) (fz:Bool):Nat→Option (Nat×Bool)→List AOper→SO
 | 0,_,_=>.nil
 | _,_,[]=>.nil
 | n+1,g,o::os=>bif B3 o.guard g then
   (bif fz&&JF o.k then .fz (.op o.dst o.k o.xs (tyO T o) (wt T fz n g os)) else .op o.dst o.k o.xs (tyO T o) (wt T fz n g os))
  else match o.guard,BA g (o::os) with
   | some (t,w),(a,b)=>.grd t w (wt T fz n (some (t,w)) a) (wt T fz n g b)
   | none,_=>.nil
abbrev LI:=eY×List Nat×Bool
def C7:List AOper→Bool
 | []=>false
 | o::os=>(match o.k with
  | .call _=>true
  | _=>false)||C7 os
def zd (T:List (Nat×Ty)):ACode→List LI→SC×List LI
 | .skip,l=>(.skip,l)
 | .ret,l=>(.ret,l)
 | .exit i,l=>(.exit i,l)
 | .seq a b,l=>match zd T a l with
  | (x,l)=>match zd T b l with
   | (y,l)=>(.seq x y,l)
 | .cond c a b,l=>match zd T a l with
  | (x,l)=>match zd T b l with
   | (y,l)=>(.cond c x y,l)
 | .block i b,l=>match zd T b l with
  | (x,l)=>(.block i x,l)
 | .loop b,l=>match zd T b l with
  | (x,(lv,xs,hr)::l)=>(.loop lv xs hr x,l)
  | (x,[])=>(.skip,[])
 | .region os,l=>(.region (wt T true 1000 none os),l)
 | .dregion os [],l=>(.dreg (wt T true 1000 none os),l)
 | .dregion os (p::ps),l=>(bif C7 os then .fz (.dregp (wt T false 1000 none os) (p::ps)) else .dregp (wt T false 1000 none os) (p::ps),l)
noncomputable def ann (P:Program) (f:Func) (L:List LI):SC:=match f.body with
 | none=>.skip
 | some c=>match bc P f.ntmps c with
  | some a=>(zd (xp P c (Gi P 0 f.params.toList)) a L).1
  | none=>.skip
def lps:SC→List SC
 | .seq a b=>lps a++lps b
 | .cond _ a b=>lps a++lps b
 | .block _ b=>lps b
 | .loop _ _ _ b=>lps b++[b]
 | .fz b=>lps b
 | _=>[]
noncomputable def lb (s:SC) (i:Nat):SC:=(lps s).getD i .skip
noncomputable def ax (P:Program) (f:Func):ACode:=match f.body with
 | none=>.skip
 | some c=>match bc P f.ntmps c with
  | some a=>a
  | none=>.skip
def aR (P:Program) (f:Func):List ARes:=match i0 P f.results.toList with
 | some r=>r
 | none=>[]
end Go.Am
namespace Go.Am
open Go
def Rnd (F:Nat→Option AFn) (live:eY) (xs:List Nat) (b:SC) (N R:Cur live (Heap→Prop)) (X:List (Cur live (Heap→Prop))):Cur live (Heap→Prop):=
 uI live fun l h=>sG F b (ku live N) (ku live R) (fun i e h=>oP (fI xs X i) fun f=>ku live f e h) (E l) h
theorem mN:∀ {live:eY} {P:Cur live (Heap→Prop)} {G:List (Nat×AV)→Heap→Prop},jG live P (uI live G)→EB live P G
 | [],P,G,hi=>hi
 | (s,t)::live,P,G,hi=>fun x=>mN (G:=fun r h=>G ((s,t.mk x)::r) h) (hi x)
theorem iR:∀ (live:eY) (P:Cur live (Heap→Prop)),jG live P P
 | [],P=>fun h hp=>hp
 | (_,t)::live,P=>fun x=>iR live (P x)
theorem FN {F:Nat→Option AFn} {live:eY} {xs:List Nat} {b:SC} {R:Cur live (Heap→Prop)} {X:List (Cur live (Heap→Prop))} {B:Cur live (Heap→Prop)→Cur live (Heap→Prop)} (hB:∀ N,B N=Rnd F live xs b N R X) (I:Nat→Cur live (Heap→Prop))
  (hb:∀ m,jG live (I m) (B (low live I m))) (m:Nat):jG live (I m) (jK F live xs b R X):=
 sR I (fun m=>mN (by have:=hb m; rw [hB] at this; exact this)) m
theorem kf:∀ (live:eY) {P Q R:Cur live (Heap→Prop)},jG live P Q→jG live Q R→jG live P R
 | [],_,_,_,a,b=>fun h hp=>b h (a h hp)
 | (_,_)::live,_,_,_,a,b=>fun x=>kf live (a x) (b x)
theorem slp {F:Nat→Option AFn} {live:eY} {xs:List Nat} {b:SC} {R R':Cur live (Heap→Prop)} {X X':List (Cur live (Heap→Prop))} {B:Cur live (Heap→Prop)→Cur live (Heap→Prop)} (hR:jG live R R') (hX:All2 (jG live) X X') (hB:∀ N,B N=Rnd F live xs b N R X) (I:Nat→Cur live (Heap→Prop)) (hb:∀ m,jG live (I m) (B (low live I m))) (m:Nat):jG live (I m) (jK F live xs b R' X'):=
 kf live (FN hB I hb m) (sL hR hX)
theorem Je {F:Nat→Option AFn} {f:Nat} {fn:AFn} {s:SC} {xs:List AV} {h:Heap} {K:AV→Heap→Prop} {W:Prop} (hF:F f=some fn) (hc:fn.code=s.er) (hl:xs.length=fn.np) (hW:W=sG F s (D1 fn.res K) (D1 fn.res K) (fun _ _ _=>False) (E (AO 0 xs)) h) (hw:W):ZC F f xs h K:=
 yX hF hc hl (hW▸hw)
end Go.Am
