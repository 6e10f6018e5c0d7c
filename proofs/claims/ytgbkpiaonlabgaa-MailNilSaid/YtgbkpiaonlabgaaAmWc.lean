/- The abstract machine's code with notes: types of what is loaded, groups behind one guard, what a loop carries; and what it does, as a proposition that has no environment left. Own work. -/
import Derived.Test.YtgbkpiaonlabgaaAmWa
namespace Go.Am
set_option linter.unusedVariables false
set_option linter.unusedSimpArgs false
open Go
inductive Ty where
  | any
  | int (k : IntKind)
  | bool
  | str
@[reducible] def Ty.T : Ty → Type
  | .any => AV
  | .int _ => Int
  | .bool => Bool
  | .str => List UInt8
def Ty.mk : (t : Ty) → t.T → AV
  | .any, v => v
  | .int k, n => .int k n
  | .bool, b => .bool b
  | .str, s => .str s
def Ty.un : (t : Ty) → AV → Option t.T
  | .any, v => some v
  | .int k, v => match v with
    | .int k' n => if k' = k then some n else none
    | _ => none
  | .bool, v => match v with
    | .bool b => some b
    | _ => none
  | .str, v => match v with
    | .str s => some s
    | _ => none
theorem Ty.un_mk {t : Ty} {v : AV} {x : t.T} (h : t.un v = some x) : v = t.mk x := by
  cases t with
  | any => cases h; rfl
  | int k =>
    simp only [Ty.un] at h
    split at h
    · split at h
      · rename_i hk; cases h; subst hk; rfl
      · cases h
    · cases h
  | bool =>
    simp only [Ty.un] at h
    split at h
    · cases h; rfl
    · cases h
  | str =>
    simp only [Ty.un] at h
    split at h
    · cases h; rfl
    · cases h
theorem Ty.mk_un (t : Ty) (x : t.T) : t.un (t.mk x) = some x := by
  cases t with
  | int k => simp only [Ty.un, Ty.mk, if_true]
  | _ => rfl
abbrev Live := List (Nat × Ty)
@[reducible] def Cur : Live → Type → Type
  | [], R => R
  | (_, t) :: l, R => t.T → Cur l R
def curE {R : Type} : (l : Live) → (List (Nat × AV) → R) → Cur l R
  | [], g => g []
  | (s, t) :: l, g => fun x => curE l fun r => g ((s, t.mk x) :: r)
def appE : (l : Live) → Cur l (Heap → Prop) → Env → Heap → Prop
  | [], f, _, h => f h
  | (s, t) :: l, f, e, h => match e.get s with
    | some v => match t.un v with
      | some x => appE l (f x) e h
      | none => False
    | none => False
inductive SO where
  | nil
  | op (dst : Option Nat) (k : AK) (xs : List Opd) (ty : Ty) (rest : SO)
  | grd (t : Nat) (w : Bool) (body rest : SO)
inductive SC where
  | skip
  | seq (a b : SC)
  | cond (c : Opd) (t f : SC)
  | block (id : Nat) (b : SC)
  | loop (live : Live) (xs : List Nat) (hr : Bool) (b : SC)
  | exit (id : Nat)
  | ret
  | region (s : SO)
  | dreg (s : SO)
  | dregp (s : SO) (ps : List (Nat × Nat))
def SO.er : SO → Option (Nat × Bool) → List AOper
  | .nil, _ => []
  | .op d k xs _ r, g => ⟨d, g, k, xs⟩ :: r.er g
  | .grd t w b r, g => b.er (some (t, w)) ++ r.er g
def SC.er : SC → ACode
  | .skip => .skip
  | .seq a b => .seq a.er b.er
  | .cond c t f => .cond c t.er f.er
  | .block id b => .block id b.er
  | .loop _ _ _ b => .loop b.er
  | .exit id => .exit id
  | .ret => .ret
  | .region s => .region (s.er none)
  | .dreg s => .dregion (s.er none) []
  | .dregp s ps => .dregion (s.er none) ps
/-- A slot isn't written. -/
def SO.noW (t : Nat) : SO → Bool
  | .nil => true
  | .op d _ _ _ r => (match d with
    | some d => !Nat.beq d t
    | none => true) && r.noW t
  | .grd _ _ b r => b.noW t && r.noW t
def memN (t : Nat) : List Nat → Bool
  | [] => false
  | x :: xs => Nat.beq x t || memN t xs
/-- Behind a guard that doesn't hold: groups within are skipped, too. -/
def SO.skips : SO → List Nat → Bool
  | .nil, _ => true
  | .op d _ _ _ r, u => r.skips (match d with
    | some d => d :: u
    | none => u)
  | .grd t _ b r, u => memN t u && b.skips u && r.skips u
def SO.undefE : SO → Env → Env
  | .nil, e => e
  | .op d _ _ _ r, e => r.undefE (putE e d .undef)
  | .grd _ _ b r, e => r.undefE (b.undefE e)
def oP {α : Type} (o : Option α) (K : α → Prop) : Prop := match o with
  | some v => K v
  | none => False
theorem oP_some {α : Type} {o : Option α} {K : α → Prop} (h : oP o K) : ∃ a, o = some a ∧ K a := by
  cases o with
  | none => exact h.elim
  | some a => exact ⟨a, rfl, h⟩
theorem oP_intro {α : Type} {o : Option α} {K : α → Prop} (a : α) (h : o = some a) (hk : K a) : oP o K := by rw [h]; exact hk
def ifP (c : Bool) (P : Prop) : Prop := match c with
  | true => P
  | false => False
theorem ifP_iff {c : Bool} {P : Prop} : ifP c P ↔ c = true ∧ P := by cases c <;> simp [ifP]
def bP (c : Bool) (A B : Prop) : Prop := match c with
  | true => A
  | false => B
theorem bP_intro {c : Bool} {A B : Prop} (ha : c = true → A) (hb : c = false → B) : bP c A B := by
  cases c with
  | true => exact ha rfl
  | false => exact hb rfl
def AV.isPtr : AV → Bool
  | .ptr _ _ _ => true
  | _ => false
def AV.padd (off : Nat) : AV → AV
  | .ptr o v f => .ptr o v (f + off)
  | p => p
def tyW : Ty → AV → (AV → Prop) → Prop
  | .any, v, K => K v
  | .int k, v, K => ∃ n, v = .int k n ∧ K (.int k n)
  | .bool, v, K => ∃ b, v = .bool b ∧ K (.bool b)
  | .str, v, K => ∃ s, v = .str s ∧ K (.str s)
theorem tyW_ok {t : Ty} {v : AV} {K : AV → Prop} (h : tyW t v K) : K v := by
  cases t with
  | any => exact h
  | _ => obtain ⟨x, rfl, h⟩ := h; exact h
def exL : Nat → (List AV → Prop) → Prop
  | 0, P => P []
  | n + 1, P => ∃ c, exL n fun cs => P (c :: cs)
theorem exL_ok : ∀ {n : Nat} {P : List AV → Prop}, exL n P → ∃ cs, P cs
  | 0, _, h => ⟨[], h⟩
  | n + 1, _, ⟨c, h⟩ => let ⟨cs, k⟩ := exL_ok h; ⟨c :: cs, k⟩
def Heap.rd1 (h : Heap) (p : AV) : Option AV := ROp.ev .load1 [p] h
def Heap.rdN (h : Heap) (p : AV) (n : Nat) : Option (List AV) := match p with
  | .ptr o v off => h.cells o v off n
  | _ => none
def pwp1 (q : POp) (x : AV) (K : AV → Prop) : Prop :=
  match q with
  | .mv => K x
  | .lenSl => ifP x.isSlice (K (.int .i64 x.slen))
  | .fieldAddr off => ifP x.isPtr (K (x.padd off))
  | q => oP (q.ev [x]) K
def pwp2 (q : POp) (x y : AV) (K : AV → Prop) : Prop :=
  match q with
  | .indexAddr esz => match y with
    | .int _ i => ifP x.isSlice (0 ≤ i ∧ i < x.slen ∧ K (x.at (i.toNat * esz)))
    | _ => False
  | q => oP (q.ev [x, y]) K
def pwp (q : POp) (xs : List AV) (K : AV → Prop) : Prop :=
  match xs with
  | [x] => pwp1 q x K
  | [x, y] => pwp2 q x y K
  | xs => oP (q.ev xs) K
def rwp (q : ROp) (xs : List AV) (h : Heap) (ty : Ty) (K : AV → Prop) : Prop :=
  match q with
  | .load1 => match xs with
    | [p] => ∃ x : ty.T, h.rd1 p = some (ty.mk x) ∧ K (ty.mk x)
    | _ => False
  | .loadN n => match xs with
    | [p] => exL n fun cs => h.rdN p n = some cs ∧ K (.agg cs)
    | _ => False
  | q => ∃ v, q.ev xs h = some v ∧ tyW ty v K
def nwp (q : NOp) (xs : List AV) (h : Heap) (K : AV → Heap → Prop) : Prop :=
  match q with
  | .box => match xs with
    | [x] => ifP (!x.isTup) (K (.ptr h.n 0 0) (h.push (.row x.cells 0 true)))
    | _ => False
  | .mkSlice esz bytes zero => match xs with
    | [x, y] => match x, y with
      | .int _ l, .int _ c => (0 ≤ l ∧ l ≤ c ∧ c * bytes ≤ roomCells ∧ c ≤ roomCells) ∧ K (.slice h.n 0 0 l.toNat esz) (h.push (.row (reps zero l.toNat) 0 true))
      | _, _ => False
    | _ => False
  | q => oP (q.ob xs h) fun ob => K (q.mk xs h.n) (h.push ob)
def ewp (q : EOp) (xs : List AV) (h : Heap) (K : AV → Heap → Prop) : Prop :=
  match q with
  | .store n => ∃ h', EOp.ev (.store n) xs h = some (.undef, h') ∧ K .undef h'
  | q => ∃ v h', q.ev xs h = some (v, h') ∧ K v h'
section
variable (F : Nat → Option AFn)
def callW (x : AV) (xs : List AV) (h : Heap) (K : AV → Heap → Prop) : Prop := match x with
  | .func f caps => ACalls F f (xs ++ caps) h K
  | _ => False
def kwp2 (k : AK) (xs : List AV) (ty : Ty) (K : AV → Heap → Prop) (h : Heap) : Prop :=
  match k with
  | .p q => pwp q xs fun v => tyW ty v fun v => K v h
  | .r q => rwp q xs h ty fun v => K v h
  | .n q => nwp q xs h K
  | .e q => ewp q xs h K
  | .call f => ACalls F f xs h fun v h => tyW ty v fun v => K v h
  | .callV => match xs with
    | x :: xs => callW F x xs h fun v h => tyW ty v fun v => K v h
    | _ => False
def owp2 : SO → (Env → Heap → Prop) → Env → Heap → Prop
  | .nil, K, e, h => K e h
  | .op d k xs ty r, K, e, h => oP (evs e xs) fun vs => kwp2 F k vs ty (fun v h => owp2 r K (putE e d v) h) h
  | .grd t w b r, K, e, h => oP (e.get t) fun v => match v with
    | .bool c => ifP (b.noW t && b.skips []) (bP c
        (bP w (owp2 b (fun e h => owp2 r K e h) (e.set t (.bool true)) h) (owp2 r K (b.undefE (e.set t (.bool true))) h))
        (bP w (owp2 r K (b.undefE (e.set t (.bool false))) h) (owp2 b (fun e h => owp2 r K e h) (e.set t (.bool false)) h)))
    | _ => False
/-- The same, with the states ahead of each operation, and behind all. -/
def owp3 : SO → List (Env × Heap) → (List (Env × Heap) → Env → Heap → Prop) → Env → Heap → Prop
  | .nil, tr, K, e, h => K (tr ++ [(e, h)]) e h
  | .op d k xs ty r, tr, K, e, h => oP (evs e xs) fun vs => kwp2 F k vs ty (fun v h' => owp3 r (tr ++ [(e, h)]) K (putE e d v) h') h
  | .grd _ _ _ _, _, _, _, _ => False
/-- A read that is the same ahead of an operation and behind it. -/
def pairP (ops : List AOper) (tr : List (Env × Heap)) (p : Nat × Nat) : Prop :=
  oP ops[p.1]? fun o => oP tr[p.1]? fun s => oP tr[p.2]? fun s1 => oP tr[p.2 + 1]? fun s2 => match o.guard, o.k with
    | none, .r q => oP (evs s.1 o.xs) fun xs => ∃ v, q.ev xs s.2 = some v ∧ q.ev xs s1.2 = some v ∧ q.ev xs s2.2 = some v
    | _, _ => False
def pairsP (ops : List AOper) (tr : List (Env × Heap)) : List (Nat × Nat) → Prop → Prop
  | [], P => P
  | p :: ps, P => pairP ops tr p ∧ pairsP ops tr ps P
def exitAt {α : Type} : List Nat → List α → Nat → Option α
  | x :: xs, y :: ys, n => if x = n then some y else exitAt xs ys n
  | _, _, _ => none
def loopPost (live : Live) (xs : List Nat) (R : Cur live (Heap → Prop)) (X : List (Cur live (Heap → Prop))) (x : AX) (e : Env) (h : Heap) : Prop :=
  match x with
  | .normal => False
  | .ret => appE live R e h
  | .exit i => oP (exitAt xs X i) fun f => appE live f e h
/-- What a loop does: from the slots that it carries it comes to its exits, and so that what is asked there holds. -/
def SLoop (live : Live) (xs : List Nat) (b : SC) (R : Cur live (Heap → Prop)) (X : List (Cur live (Heap → Prop))) : Cur live (Heap → Prop) :=
  curE live fun l h => ∀ e', Sub (E l) e' → ∃ n x e1 h1, run F n (.loop b.er) e' h = some (x, e1, h1) ∧ loopPost live xs R X x e1 h1
def awp2 : SC → (N R : Env → Heap → Prop) → (X : Nat → Env → Heap → Prop) → Env → Heap → Prop
  | .skip, N, _, _, e, h => N e h
  | .seq a b, N, R, X, e, h => awp2 a (fun e h => awp2 b N R X e h) R X e h
  | .cond c t f, N, R, X, e, h => oP (c.ev e) fun v => match v with
    | .bool b => bP b (awp2 t N R X e h) (awp2 f N R X e h)
    | _ => False
  | .block id b, N, R, X, e, h => awp2 b N R (fun i e h => bP (Nat.beq i id) (N e h) (X i e h)) e h
  | .loop live xs hr b, N, R, X, e, h => appE live (SLoop F live xs b (curE live fun l h => bP hr (R (E l) h) False) (xs.map fun i => curE live fun l h => X i (E l) h)) e h
  | .exit i, _, _, X, e, h => X i e h
  | .ret, _, R, _, e, h => R e h
  | .region s, N, _, _, e, h => owp2 F s N e h
  | .dreg s, N, _, _, e, h => owp2 F s N e h
  | .dregp s ps, N, _, _, e, h => owp3 F s [] (fun tr e h => pairsP (s.er none) tr ps (N e h)) e h
/-- A function's results, read behind its code. -/
def resGo : List ARes → (List AV → Prop) → Env → Heap → Prop
  | [], K, _, _ => K []
  | .tmp t :: rs, K, e, h => oP (e.get t) fun v => resGo rs (fun vs => K (v :: vs)) e h
  | .cell1 t :: rs, K, e, h => oP (e.get t) fun p => ∃ x, h.rd1 p = some x ∧ resGo rs (fun vs => K (x :: vs)) e h
  | .cellN t n :: rs, K, e, h => oP (e.get t) fun p => exL n fun cs => h.rdN p n = some cs ∧ resGo rs (fun vs => K (.agg cs :: vs)) e h
def one (vs : List AV) : AV := match vs with
  | [v] => v
  | vs => .tuple vs
def resW (rs : List ARes) (K : AV → Heap → Prop) (e : Env) (h : Heap) : Prop := resGo rs (fun vs => K (one vs) h) e h
end
theorem pwp1_ok {q : POp} {x : AV} {K : AV → Prop} (hw : pwp1 q x K) : ∃ v, q.ev [x] = some v ∧ K v := by
  cases q <;> simp only [pwp1] at hw <;> first
    | exact oP_some hw
    | exact ⟨_, rfl, hw⟩
    | skip
  · rename_i off
    rw [ifP_iff] at hw
    obtain ⟨h1, h2⟩ := hw
    cases x <;> first | cases h1 | skip
    exact ⟨_, rfl, h2⟩
  · rw [ifP_iff] at hw
    exact ⟨_, by simp only [POp.ev, if_pos hw.1], hw.2⟩
theorem pwp2_ok {q : POp} {x y : AV} {K : AV → Prop} (hw : pwp2 q x y K) : ∃ v, q.ev [x, y] = some v ∧ K v := by
  cases q <;> simp only [pwp2] at hw <;> first
    | exact oP_some hw
    | skip
  rename_i esz
  cases y <;> first | exact hw.elim | skip
  obtain ⟨h1, h2, h3, h4⟩ := ifP_iff.1 hw
  exact ⟨_, by simp only [POp.ev, if_pos (And.intro h1 (And.intro h2 h3))], h4⟩
theorem pwp_ok {q : POp} {xs : List AV} {K : AV → Prop} (hw : pwp q xs K) : ∃ v, q.ev xs = some v ∧ K v := by
  unfold pwp at hw
  split at hw
  · exact pwp1_ok hw
  · exact pwp2_ok hw
  · exact oP_some hw
theorem rwp_ok {q : ROp} {xs : List AV} {h : Heap} {ty : Ty} {K : AV → Prop} (hw : rwp q xs h ty K) : ∃ v, q.ev xs h = some v ∧ K v := by
  unfold rwp at hw
  split at hw
  · split at hw
    · obtain ⟨x, hx, hk⟩ := hw; exact ⟨_, hx, hk⟩
    · exact hw.elim
  · split at hw
    · rename_i n p
      obtain ⟨cs, hc, hk⟩ := exL_ok hw
      unfold Heap.rdN at hc
      split at hc
      · exact ⟨_, by simp only [ROp.ev, hc], hk⟩
      · cases hc
    · exact hw.elim
  · obtain ⟨v, hv, hk⟩ := hw; exact ⟨v, hv, tyW_ok hk⟩
theorem nwp_ok {q : NOp} {xs : List AV} {h : Heap} {K : AV → Heap → Prop} (hw : nwp q xs h K) : ∃ ob, q.ob xs h = some ob ∧ K (q.mk xs h.n) (h.push ob) := by
  unfold nwp at hw
  split at hw
  · split at hw
    · rename_i x
      rw [ifP_iff] at hw
      obtain ⟨h1, h2⟩ := hw
      have h1 : x.isTup = false := by cases hx : x.isTup <;> rw [hx] at h1 <;> first | rfl | cases h1
      exact ⟨_, by simp only [NOp.ob, h1, Bool.false_eq_true, if_false], h2⟩
    · exact hw.elim
  · split at hw
    · split at hw
      · obtain ⟨h1, h2⟩ := hw
        exact ⟨_, by simp only [NOp.ob, if_pos h1], h2⟩
      · exact hw.elim
    · exact hw.elim
  · exact oP_some hw
theorem ewp_ok {q : EOp} {xs : List AV} {h : Heap} {K : AV → Heap → Prop} (hw : ewp q xs h K) : ∃ v h', q.ev xs h = some (v, h') ∧ K v h' := by
  unfold ewp at hw
  split at hw
  · obtain ⟨h', h1, h2⟩ := hw; exact ⟨_, h', h1, h2⟩
  · exact hw
variable {F : Nat → Option AFn}
theorem kwp2_ok {k : AK} {xs : List AV} {ty : Ty} {K : AV → Heap → Prop} {h : Heap} (hw : kwp2 F k xs ty K h) : kwp F k xs K h := by
  unfold kwp2 at hw
  split at hw
  · obtain ⟨v, h1, h2⟩ := pwp_ok hw; exact ⟨v, h1, tyW_ok h2⟩
  · obtain ⟨v, h1, h2⟩ := rwp_ok hw; exact ⟨v, h1, h2⟩
  · obtain ⟨v, h1, h2⟩ := nwp_ok hw; exact ⟨v, h1, h2⟩
  · obtain ⟨v, h', h1, h2⟩ := ewp_ok hw; exact ⟨(v, h'), h1, h2⟩
  · exact hw.mono fun v h' hk => tyW_ok hk
  · split at hw
    · unfold callW at hw
      split at hw
      · exact ⟨_, rfl, hw.mono fun v h' hk => tyW_ok hk⟩
      · exact hw.elim
    · exact hw.elim
theorem memN_iff {t : Nat} : ∀ {l : List Nat}, memN t l = true ↔ t ∈ l
  | [] => by simp [memN]
  | x :: xs => by
    simp only [memN, Bool.or_eq_true, memN_iff (l := xs), List.mem_cons]
    constructor
    · rintro (h | h)
      · exact .inl (Nat.eq_of_beq_eq_true h).symm
      · exact .inr h
    · rintro (h | h)
      · exact .inl (by rw [h]; exact Nat.beq_refl x)
      · exact .inr h
theorem Has.mem {e : Env} : ∀ {l : List (Nat × AV)}, Has e l → Sub (E l) e := fun h => h.sub
theorem undefE_keeps {t : Nat} : ∀ (b : SO) {e : Env}, e.get t = some .undef → (b.undefE e).get t = some .undef
  | .nil, e, h => h
  | .op d k xs ty r, e, h => undefE_keeps r (by rw [putE_get]; split <;> first | rfl | exact h)
  | .grd _ _ b r, e, h => undefE_keeps r (undefE_keeps b h)
theorem undefE_sub : ∀ (b : SO) {e e' : Env}, Sub e e' → Sub (b.undefE e) (b.undefE e')
  | .nil, _, _, h => h
  | .op d _ _ _ r, _, _, h => undefE_sub r (h.putE d _)
  | .grd _ _ b r, _, _, h => undefE_sub r (undefE_sub b h)
theorem op_noW {d : Option Nat} {t : Nat} (h : (match d with
    | some d => !Nat.beq d t
    | none => true) = true) : d ≠ some t := by
  intro hd
  rw [hd] at h
  simp [Nat.beq_refl] at h
theorem undefE_noW {t : Nat} : ∀ (b : SO) {e : Env}, b.noW t = true → (b.undefE e).get t = e.get t
  | .nil, e, h => rfl
  | .op d k xs ty r, e, h => by
    simp only [SO.noW, Bool.and_eq_true] at h
    rw [SO.undefE, undefE_noW r h.2, putE_get, if_neg (op_noW h.1)]
  | .grd _ _ b r, e, h => by
    simp only [SO.noW, Bool.and_eq_true] at h
    rw [SO.undefE, undefE_noW r h.2, undefE_noW b h.1]
theorem runOps_append (cf : CallF) : ∀ (a b : List AOper) (e : Env) (h : Heap) {e1 : Env} {h1 : Heap}, runOps cf a e h = some (e1, h1) → runOps cf (a ++ b) e h = runOps cf b e1 h1
  | [], b, e, h, e1, h1, hr => by cases hr; rfl
  | o :: a, b, e, h, e1, h1, hr => by
    simp only [runOps, List.cons_append] at hr ⊢
    split at hr
    · cases hr
    · rename_i e2 h2 hs
      exact runOps_append cf a b e2 h2 hr
theorem wanted_get {e e' : Env} {g : Nat × Bool} (h : e'.get g.1 = e.get g.1) : wantedE e' (some g) = wantedE e (some g) := by
  obtain ⟨t, w⟩ := g
  simp only [wantedE]
  rw [h]
theorem wanted_undef {e : Env} {g : Nat × Bool} (d : Option Nat) (h : wantedE e (some g) = some false) : wantedE (putE e d .undef) (some g) = some false := by
  obtain ⟨t, w⟩ := g
  simp only [wantedE] at h ⊢
  rw [putE_get]
  by_cases hd : d = some t
  · rw [if_pos hd]; rfl
  · rw [if_neg hd]; exact h
theorem wanted_undefE {g : Nat × Bool} : ∀ (b : SO) {e : Env}, wantedE e (some g) = some false → wantedE (b.undefE e) (some g) = some false
  | .nil, _, h => h
  | .op d _ _ _ r, _, h => wanted_undefE r (wanted_undef d h)
  | .grd _ _ b r, _, h => wanted_undefE r (wanted_undefE b h)
/-- A group behind a guard that doesn't hold does nothing but take its slots' values away. -/
theorem skips_ok (cf : CallF) : ∀ (b : SO) (g : Nat × Bool) (u : List Nat) (e : Env) (h : Heap), b.skips u = true → (∀ t, t ∈ u → e.get t = some .undef) → wantedE e (some g) = some false →
    runOps cf (b.er (some g)) e h = some (b.undefE e, h)
  | .nil, _, _, _, _, _, _, _ => rfl
  | .op d k xs ty r, g, u, e, h, hs, hu, hg => by
    simp only [SO.er, runOps, stepOp, hg, SO.undefE]
    refine skips_ok cf r g _ _ h hs ?_ (wanted_undef d hg)
    intro t ht
    rw [putE_get]
    split
    · rfl
    · rename_i hd
      apply hu
      cases d with
      | none => exact ht
      | some d =>
        rcases List.mem_cons.1 ht with hh | hh
        · exact absurd (by rw [hh]) hd
        · exact hh
  | .grd t w b r, g, u, e, h, hs, hu, hg => by
    simp only [SO.skips, Bool.and_eq_true, memN_iff] at hs
    have ht := hu t hs.1.1
    have h1 : runOps cf (b.er (some (t, w))) e h = some (b.undefE e, h) :=
      skips_ok cf b (t, w) u e h hs.1.2 hu (by simp only [wantedE, ht]; rfl)
    rw [SO.er, runOps_append cf _ _ _ _ h1, SO.undefE]
    exact skips_ok cf r g u _ h hs.2 (fun t ht => undefE_keeps b (hu t ht)) (wanted_undefE b hg)
theorem step_env {cf : CallF} {o : AOper} {e e1 : Env} {h h1 : Heap} (hs : stepOp cf o e h = some (e1, h1)) : ∃ v, e1 = putE e o.dst v := by
  unfold stepOp at hs
  split at hs
  · cases hs
  · cases hs; exact ⟨_, rfl⟩
  · split at hs
    · cases hs
    · split at hs
      · cases hs
      · cases hs; exact ⟨_, rfl⟩
theorem Sub.setL {e e' : Env} (h : Sub e e') {t : Nat} {v : AV} (hv : e'.get t = some v) : Sub (e.set t v) e' := by
  intro s u hs
  rw [T.get_set] at hs
  by_cases he : s = t
  · rw [if_pos he] at hs; cases hs; rw [he]; exact hv
  · rw [if_neg he] at hs; exact h s u hs
theorem owp2_ok : ∀ (s : SO) {K : Env → Heap → Prop} {e : Env} {h : Heap} (g : Option (Nat × Bool)), owp2 F s K e h → ∀ e', Sub e e' → wantedE e' g = some true → (∀ t w, g = some (t, w) → s.noW t = true) →
    ∃ n e1 h1 e0, runOps (callN F n) (s.er g) e' h = some (e1, h1) ∧ Sub e0 e1 ∧ K e0 h1 ∧ ∀ t, s.noW t = true → e1.get t = e'.get t
  | .nil, K, e, h, g, hw, e', hs, hg, hn => ⟨0, e', h, e, rfl, hs, hw, fun _ _ => rfl⟩
  | .op d k xs ty r, K, e, h, g, hw, e', hs, hg, hn => by
    obtain ⟨vs, h1, h2⟩ := oP_some hw
    have hk := kwp2_ok h2
    have hsw : swp F ⟨d, none, k, xs⟩ (fun e h => owp2 F r K e h) e h := by
      refine ⟨true, rfl, ?_⟩
      simp only [if_true]
      exact ⟨vs, h1, hk⟩
    obtain ⟨n, e1, h1', e0, g1, g2, g3⟩ := swp_ok hsw e' hs
    have g1' : stepOp (callN F n) ⟨d, g, k, xs⟩ e' h = some (e1, h1') := by
      rw [← g1]; simp only [stepOp, hg, show wantedE e' none = some true from rfl]
    obtain ⟨v, hv⟩ := step_env g1
    have keep : ∀ t, (SO.op d k xs ty r).noW t = true → e1.get t = e'.get t := by
      intro t ht
      simp only [SO.noW, Bool.and_eq_true] at ht
      rw [hv, putE_get, if_neg (op_noW ht.1)]
    have hg1 : wantedE e1 g = some true := by
      cases g with
      | none => rfl
      | some g => rw [wanted_get (keep g.1 (hn g.1 g.2 rfl))]; exact hg
    obtain ⟨m, e2, h2', e3, k1, k2, k3, k4⟩ := owp2_ok r g g3 e1 g2 hg1 (fun t w ht => by
      have := hn t w ht
      simp only [SO.noW, Bool.and_eq_true] at this
      exact this.2)
    refine ⟨max n m, e2, h2', e3, ?_, k2, k3, fun t ht => ?_⟩
    · have a1 := step_le (callN_le (F := F) (Nat.le_max_left n m)) g1'
      have a2 := (runOps_le (callN_le (F := F) (Nat.le_max_right n m)) _ k1).1
      simp only [SO.er, runOps, a1, a2]
    · have h3 := keep t ht
      simp only [SO.noW, Bool.and_eq_true] at ht
      rw [k4 t ht.2, h3]
  | .grd t w b r, K, e, h, g, hw, e', hs, hg, hn => by
    obtain ⟨v, h1, h2⟩ := oP_some hw
    cases v <;> first | exact h2.elim | skip
    rename_i c
    simp only [ifP_iff, Bool.and_eq_true] at h2
    obtain ⟨⟨hnb, hsb⟩, h2⟩ := h2
    have he' := hs t _ h1
    have hor : (c = w ∧ owp2 F b (fun e h => owp2 F r K e h) (e.set t (.bool c)) h) ∨ (c ≠ w ∧ owp2 F r K (b.undefE (e.set t (.bool c))) h) := by
      cases c <;> cases w <;> simp only [bP] at h2
      · exact .inl ⟨rfl, h2⟩
      · exact .inr ⟨by decide, h2⟩
      · exact .inr ⟨by decide, h2⟩
      · exact .inl ⟨rfl, h2⟩
    have hs' := hs.setL he'
    have keepG : ∀ e1 : Env, (∀ t', b.noW t' = true → e1.get t' = e'.get t') → wantedE e1 g = some true := by
      intro e1 hk
      cases g with
      | none => rfl
      | some g =>
        have := hn g.1 g.2 rfl
        simp only [SO.noW, Bool.and_eq_true] at this
        rw [wanted_get (hk g.1 this.1)]; exact hg
    have hnr : ∀ t' w', g = some (t', w') → r.noW t' = true := by
      intro t' w' hh
      have := hn t' w' hh
      simp only [SO.noW, Bool.and_eq_true] at this
      exact this.2
    have fin : ∀ n1 e1 h1 e0, runOps (callN F n1) (b.er (some (t, w))) e' h = some (e1, h1) → Sub e0 e1 → owp2 F r K e0 h1 → (∀ t', b.noW t' = true → e1.get t' = e'.get t') →
        ∃ n e2 h2 e3, runOps (callN F n) ((SO.grd t w b r).er g) e' h = some (e2, h2) ∧ Sub e3 e2 ∧ K e3 h2 ∧ ∀ t', (SO.grd t w b r).noW t' = true → e2.get t' = e'.get t' := by
      intro n1 e1 h1 e0 q1 q2 q3 q4
      obtain ⟨m, e2, h2', e3, k1, k2, k3, k4⟩ := owp2_ok r g q3 e1 q2 (keepG e1 q4) hnr
      refine ⟨max n1 m, e2, h2', e3, ?_, k2, k3, fun t' ht => ?_⟩
      · have a1 := (runOps_le (callN_le (F := F) (Nat.le_max_left n1 m)) _ q1).1
        have a2 := (runOps_le (callN_le (F := F) (Nat.le_max_right n1 m)) _ k1).1
        rw [SO.er, runOps_append _ _ _ _ _ a1]; exact a2
      · simp only [SO.noW, Bool.and_eq_true] at ht
        rw [k4 t' ht.2, q4 t' ht.1]
    rcases hor with ⟨hc, h3⟩ | ⟨hc, h3⟩
    · subst hc
      obtain ⟨n1, e1, h1', e0, q1, q2, q3, q4⟩ := owp2_ok b (some (t, c)) h3 e' hs' (by simp only [wantedE, he', beq_self_eq_true]) (fun t' w' hh => by cases hh; exact hnb)
      exact fin n1 e1 h1' e0 q1 q2 q3 q4
    · refine fin 0 (b.undefE e') h _ (skips_ok _ b (t, w) [] e' h hsb (fun t ht => by cases ht) ?_) (undefE_sub b hs') h3 (fun t' ht => undefE_noW b ht)
      simp only [wantedE, he']
      cases c <;> cases w <;> first | rfl | exact absurd rfl hc
mutual
theorem AV.beq_self : ∀ v : AV, AV.beq v v = true
  | .bool b => by simp [AV.beq]
  | .int k n => by simp [AV.beq]
  | .str s => by simp [AV.beq]
  | .nilPtr => by simp [AV.beq]
  | .ptr _ _ _ => by simp [AV.beq]
  | .nilSlice => by simp [AV.beq]
  | .slice _ _ _ _ _ => by simp [AV.beq]
  | .nilMap => by simp [AV.beq]
  | .map _ => by simp [AV.beq]
  | .nilFunc => by simp [AV.beq]
  | .func f cs => by simp [AV.beq, AV.beqs_self cs]
  | .nilIface => by simp [AV.beq]
  | .iface t v => by simp [AV.beq, AV.beq_self v]
  | .agg cs => by simp [AV.beq, AV.beqs_self cs]
  | .tuple cs => by simp [AV.beq, AV.beqs_self cs]
  | .iter _ => by simp [AV.beq]
theorem AV.beqs_self : ∀ vs : List AV, AV.beqs vs vs = true
  | [] => by simp [AV.beqs]
  | v :: vs => by simp [AV.beqs, AV.beq_self v, AV.beqs_self vs]
end
theorem resGo_ok : ∀ {rs : List ARes} {K : List AV → Prop} {e : Env} {h : Heap}, resGo rs K e h → ∃ vs, resAll e h rs = some vs ∧ K vs
  | [], _, _, _, hw => ⟨[], rfl, hw⟩
  | .tmp t :: rs, K, e, h, hw => by
    obtain ⟨v, h1, h2⟩ := oP_some hw
    obtain ⟨vs, h3, h4⟩ := resGo_ok h2
    exact ⟨v :: vs, by simp only [resAll, resOne, h1, h3], h4⟩
  | .cell1 t :: rs, K, e, h, hw => by
    obtain ⟨v, h1, x, h5, h2⟩ := oP_some hw
    obtain ⟨vs, h3, h4⟩ := resGo_ok h2
    exact ⟨x :: vs, by simp only [resAll, resOne, h1, show ROp.ev .load1 [v] h = some x from h5, h3], h4⟩
  | .cellN t n :: rs, K, e, h, hw => by
    obtain ⟨v, h1, h2⟩ := oP_some hw
    obtain ⟨cs, h5, h2⟩ := exL_ok h2
    obtain ⟨vs, h3, h4⟩ := resGo_ok h2
    have h6 : ROp.ev (.loadN n) [v] h = some (.agg cs) := by
      unfold Heap.rdN at h5
      split at h5
      · simp only [ROp.ev, h5]
      · cases h5
    exact ⟨.agg cs :: vs, by simp only [resAll, resOne, h1, h6, h3], h4⟩
theorem resW_ok {rs : List ARes} {K : AV → Heap → Prop} {e : Env} {h : Heap} (hw : resW rs K e h) : ∃ v, resOf e h rs = some v ∧ K v h := by
  obtain ⟨vs, h1, h2⟩ := resGo_ok hw
  refine ⟨one vs, ?_, h2⟩
  unfold resOf one
  rw [h1]
  split <;> first | contradiction | skip
  · rename_i v hv; cases hv; rfl
  · rename_i v hv hne; cases hne
    split
    · exact absurd rfl (hv _)
    · rfl
inductive All2 {α β : Type} (P : α → β → Prop) : List α → List β → Prop where
  | nil : All2 P [] []
  | cons {a : α} {b : β} {l : List α} {m : List β} : P a b → All2 P l m → All2 P (a :: l) (b :: m)
theorem owp3_ok : ∀ (s : SO) (tr : List (Env × Heap)) {K : List (Env × Heap) → Env → Heap → Prop} {e : Env} {h : Heap}, owp3 F s tr K e h → ∀ e', Sub e e' →
    ∃ n e1 h1 e0 tr2, runOps (callN F n) (s.er none) e' h = some (e1, h1) ∧ Sub e0 e1 ∧ K (tr ++ tr2) e0 h1 ∧ All2 (fun a b => Sub a.1 b.1 ∧ a.2 = b.2) tr2 (trace (callN F n) (s.er none) e' h)
  | .nil, tr, K, e, h, hw, e', hs => ⟨0, e', h, e, [(e, h)], rfl, hs, hw, .cons ⟨hs, rfl⟩ .nil⟩
  | .op d k xs ty r, tr, K, e, h, hw, e', hs => by
    obtain ⟨vs, h1, h2⟩ := oP_some hw
    have hk := kwp2_ok h2
    have hsw : swp F ⟨d, none, k, xs⟩ (fun e1 h1 => owp3 F r (tr ++ [(e, h)]) K e1 h1) e h := by
      refine ⟨true, rfl, ?_⟩
      simp only [if_true]
      exact ⟨vs, h1, hk⟩
    obtain ⟨n, e1, h1', e0, g1, g2, g3⟩ := swp_ok hsw e' hs
    obtain ⟨m, e2, h2', e3, tr2, k1, k2, k3, k4⟩ := owp3_ok r _ g3 e1 g2
    have a1 := step_le (callN_le (F := F) (Nat.le_max_left n m)) g1
    have a2 := runOps_le (callN_le (F := F) (Nat.le_max_right n m)) _ k1
    refine ⟨max n m, e2, h2', e3, (e, h) :: tr2, ?_, k2, ?_, ?_⟩
    · simp only [SO.er, runOps, a1, a2.1]
    · rw [List.append_assoc] at k3; exact k3
    · simp only [SO.er, trace, a1, a2.2]
      exact .cons ⟨hs, rfl⟩ k4
theorem pair_get {α β : Type} {P : α → β → Prop} : ∀ {l : List α} {m : List β}, All2 P l m → ∀ {i : Nat} {a : α}, l[i]? = some a → ∃ b, m[i]? = some b ∧ P a b
  | _, _, .nil, i, a, h => by simp at h
  | _, _, .cons hp hr, 0, a, h => by simp at h; subst h; exact ⟨_, by simp, hp⟩
  | _, _, .cons hp hr, i + 1, a, h => by
    simp only [List.getElem?_cons_succ] at h ⊢
    exact pair_get hr h
theorem pairP_ok {ops : List AOper} {tr tr' : List (Env × Heap)} {p : Nat × Nat} (ht : All2 (fun a b => Sub a.1 b.1 ∧ a.2 = b.2) tr tr') (hp : pairP ops tr p) : chkPair ops tr' p = true := by
  obtain ⟨o, h1, hp⟩ := oP_some hp
  obtain ⟨⟨e, h⟩, h2, hp⟩ := oP_some hp
  obtain ⟨⟨ea, ha⟩, h3, hp⟩ := oP_some hp
  obtain ⟨⟨eb, hb⟩, h4, hp⟩ := oP_some hp
  obtain ⟨⟨e', h'⟩, q2, s2, t2⟩ := pair_get ht h2
  obtain ⟨⟨ea', ha'⟩, q3, s3, t3⟩ := pair_get ht h3
  obtain ⟨⟨eb', hb'⟩, q4, s4, t4⟩ := pair_get ht h4
  simp only at t2 t3 t4 s2
  subst t2 t3 t4
  split at hp
  · rename_i q hg hq
    obtain ⟨xs, h5, v, k1, k2, k3⟩ := oP_some hp
    simp only at h5 k1 k2 k3
    simp only [chkPair, h1, q2, q3, q4, hg, wantedE, hq, s2.evs h5, k1, k2, k3, sameAt, AV.beq_self, Bool.and_self]
  · exact hp.elim
theorem pairsP_ok {ops : List AOper} {tr tr' : List (Env × Heap)} (ht : All2 (fun a b => Sub a.1 b.1 ∧ a.2 = b.2) tr tr') : ∀ {ps : List (Nat × Nat)} {P : Prop}, pairsP ops tr ps P → ps.all (chkPair ops tr') = true ∧ P
  | [], P, h => ⟨rfl, h⟩
  | p :: ps, P, h => by
    obtain ⟨h1, h2⟩ := h
    obtain ⟨h3, h4⟩ := pairsP_ok ht h2
    exact ⟨by simp only [List.all_cons, pairP_ok ht h1, h3, Bool.and_self], h4⟩
end Go.Am
