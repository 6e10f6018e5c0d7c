/- Regions that draw their order: any order comes to what the text's order comes to. Own work. -/
import Derived.Test.YtgbkpiaonlabgaaAmU
namespace Go.Am
set_option linter.unusedVariables false
set_option linter.unusedSimpArgs false
open Go Go.RowKit
theorem rop_push {q : ROp} {xs : List AV} {h : Heap} {v : AV} {y : AObj} (hq : q.ev xs h = some v) : q.ev xs (h.push y) = some v := by
  unfold ROp.ev at hq ⊢
  split at hq
  · split at hq
    · rename_i x hc; rw [cells_push hc]; exact hq
    · cases hq
  · split at hq
    · rename_i cs hc; rw [cells_push hc]; exact hq
    · cases hq
  · split at hq
    · rename_i cs hc; rw [rows_push hc]; exact hq
    · cases hq
  · exact hq
  · split at hq
    · rename_i es hg; rw [get_push_some hg]; exact hq
    · cases hq
  · exact hq
  · split at hq
    · rename_i es hg; rw [get_push_some hg]; exact hq
    · cases hq
  · cases hq
theorem get_unpush {h : Heap} {o : Nat} {y : AObj} (hn : o ≠ h.n) : (h.push y).get o = h.get o := by
  rw [Heap.get_push, if_neg hn]
theorem ref_ne {K : KM} {n : Nat} (hK : K n = none) {o : Nat} {i : Info} (h : K o = some i) : o ≠ n := fun e => by rw [e, hK] at h; cases h
theorem rop_unpush {K : KM} {q : ROp} {xs : List AV} {ys : List Value} {h : Heap} {v : AV} {y : AObj} (hx : VRs K xs ys) (hK : K h.n = none) (hq : q.ev xs (h.push y) = some v) : q.ev xs h = some v := by
  unfold ROp.ev at hq ⊢
  split at hq
  · obtain ⟨x, _, hx⟩ := hx.one
    simp only [VR] at hx
    obtain ⟨_, i, _, hKo, _⟩ := hx
    unfold Heap.cells at hq ⊢
    rw [get_unpush (ref_ne hK hKo)] at hq; exact hq
  · obtain ⟨x, _, hx⟩ := hx.one
    simp only [VR] at hx
    obtain ⟨_, i, _, hKo, _⟩ := hx
    unfold Heap.cells at hq ⊢
    rw [get_unpush (ref_ne hK hKo)] at hq; exact hq
  · rename_i s
    obtain ⟨x, _, hx⟩ := hx.one
    cases s <;> simp only [Heap.rows] at hq ⊢ <;> first | exact hq | skip
    simp only [VR] at hx
    obtain ⟨_, _, i, _, hKo, _⟩ := hx
    unfold Heap.cells at hq ⊢
    rw [get_unpush (ref_ne hK hKo)] at hq; exact hq
  · exact hq
  · obtain ⟨x, _, _, hx, _⟩ := hx.two
    simp only [VR] at hx
    obtain ⟨_, i, _, hKo, _⟩ := hx
    rw [get_unpush (ref_ne hK hKo)] at hq; exact hq
  · exact hq
  · obtain ⟨x, _, hx⟩ := hx.one
    simp only [VR] at hx
    obtain ⟨_, i, _, hKo, _⟩ := hx
    rw [get_unpush (ref_ne hK hKo)] at hq; exact hq
  · cases hq
theorem compOp_opds {P : Program} {op : Op} {k : AK} {xs : List Opd} (h : compOp P op = some (k, xs)) : ∃ l, compOpds l = some xs := by
  cases op with
  | call c =>
    obtain ⟨callee, args, argTypes⟩ := c
    simp only [compOp] at h
    split at h
    · split at h
      · exact ⟨_, (withOpds_some h).2⟩
      · exact ⟨_, (withOpds_some h).2⟩
    · exact ⟨_, (withOpds_some h).2⟩
    · exact ⟨_, (withOpds_some h).2⟩
    · exact ⟨_, (withOpds_some h).2⟩
    · cases h
  | makeMap t r =>
    cases r with
    | none => simp only [compOp] at h; exact ⟨_, (withOpds_some h).2⟩
    | some x => cases h
  | slice t x lo hi mx =>
    cases mx with
    | some m => cases h
    | none => exact ⟨_, (withOpds_some h).2⟩
  | next it s =>
    cases s with
    | true => exact ⟨_, (withOpds_some h).2⟩
    | false => cases h
  | move x | assign x | pick c x y | box t x | nilCheck x | unOp op t x | extract t i | alloc t | load t x | lookup t x i ok | build t ps | buildSlice t len ps | store t x y | makeInterface t x | makeFunc fn first caps | makeSlice t l c | fieldAddr t x f | field t x f | indexAddr t x i | index t x i | mapUpdate t m k x | insert t m k x | range t x | convert s d x | binOp op t x y yt =>
    exact ⟨_, (withOpds_some h).2⟩
  | _ => cases h
/-- A step of an operation, its value told. -/
def StepIs (cf : CallF) (ao : AOper) (s : Env × Heap) (v : AV) (s' : Env × Heap) : Prop :=
  (wantedE s.1 ao.guard = some false ∧ s'.1 = putE s.1 ao.dst v ∧ v = .undef ∧ s'.2 = s.2) ∨
  (wantedE s.1 ao.guard = some true ∧ ∃ xs, evs s.1 ao.xs = some xs ∧ ao.k.ev cf xs s.2 = some (v, s'.2) ∧ s'.1 = putE s.1 ao.dst v)
theorem stepIs {cf : CallF} {ao : AOper} {s s' : Env × Heap} (h : stepOp cf ao s.1 s.2 = some s') : ∃ v, StepIs cf ao s v s' := by
  rcases step_cases (show stepOp cf ao s.1 s.2 = some (s'.1, s'.2) from h) with ⟨h1, h2, h3⟩ | ⟨h1, xs, v, h2, h3, h4⟩
  · exact ⟨.undef, .inl ⟨h1, h2, rfl, h3⟩⟩
  · exact ⟨v, .inr ⟨h1, xs, h2, h3, h4⟩⟩
/-- All that is known of a region. -/
structure DC (P : Program) (cf : CallF) (nt : Nat) (ops : Array Oper) (as : List AOper) (st : Nat → Env × Heap) (V : Nat → AV) : Prop where
  cfOk : CfOk P cf
  len : as.length = ops.size
  co : ∀ (i : Nat) (o : Oper), ops[i]? = some o → ∃ ao, as[i]? = some ao ∧ compOper P nt ops.toList o = some ao
  step : ∀ (i : Nat) (ao : AOper), as[i]? = some ao → StepIs cf ao (st i) (V i) (st (i + 1))
  mono : ∀ (i : Nat) (ao : AOper), as[i]? = some ao → (st i).2.n ≤ (st (i + 1)).2.n
  quiet : ∀ (i : Nat) (ao : AOper), as[i]? = some ao → ao.k.isE = false → (st (i + 1)).2 = (st i).2 ∨ (ao.k.isN = true ∧ ∃ ob, (st (i + 1)).2 = (st i).2.push ob)
  pair : ∀ i j, i < j → j < ops.size → okPair (befores ops.toList) as i j = true
  edge : ∀ (i : Nat) (o : Oper), ops[i]? = some o → ∀ e ∈ o.after, Region.binds .any e = true → e.on < i
  chk : ∀ r x, (r, x) ∈ openPairs (befores ops.toList) as → ∀ ao q xs v, as[r]? = some ao → wantedE (st r).1 ao.guard = some true → ao.k = .r q → evs (st r).1 ao.xs = some xs → q.ev xs (st r).2 = some v →
    q.ev xs (st x).2 = some v ∧ q.ev xs (st (x + 1)).2 = some v
section
variable {P : Program} {cf : CallF} {nt : Nat} {ops : Array Oper} {as : List AOper} {st : Nat → Env × Heap} {V : Nat → AV} {B : Nat}
theorem DC.lt (_d : DC P cf nt ops as st V) {i : Nat} {ao : AOper} (h : as[i]? = some ao) : i < as.length := by
  rcases Nat.lt_or_ge i as.length with hh | hh
  · exact hh
  · rw [List.getElem?_eq_none hh] at h; cases h
/-- What every push keeps, is kept where nothing acts. -/
theorem DC.forward (d : DC P cf nt ops as st V) {Φ : Heap → Prop} (hΦ : ∀ h ob, Φ h → Φ (h.push ob)) : ∀ (m k : Nat), k + m ≤ ops.size → (∀ j ao, k ≤ j → j < k + m → as[j]? = some ao → ao.k.isE = false) → Φ (st k).2 → Φ (st (k + m)).2
  | 0, _, _, _, h => h
  | m + 1, k, hle, hq, h => by
    have hk : k + m < as.length := by rw [d.len]; omega
    have h1 := d.forward hΦ m k (by omega) (fun j ao h1 h2 => hq j ao h1 (by omega)) h
    have h2 := List.getElem?_eq_getElem hk
    rcases d.quiet _ _ h2 (hq _ _ (by omega) (by omega) h2) with h3 | ⟨_, ob, h3⟩
    · rw [show k + (m + 1) = k + m + 1 by omega, h3]; exact h1
    · rw [show k + (m + 1) = k + m + 1 by omega, h3]; exact hΦ _ _ h1
/-- The next operation that acts. -/
theorem DC.next (d : DC P cf nt ops as st V) : ∀ (m k : Nat), k + m = ops.size → ∃ p, k ≤ p ∧ p ≤ ops.size ∧ (∀ j ao, k ≤ j → j < p → as[j]? = some ao → ao.k.isE = false) ∧ (∀ ao, as[p]? = some ao → ao.k.isE = true)
  | 0, k, h => ⟨k, Nat.le_refl _, by omega, fun j _ h1 h2 => by omega, fun ao ha => by have := d.lt ha; have := d.len; omega⟩
  | m + 1, k, h => by
    have hk : k < as.length := by rw [d.len]; omega
    have h2 := List.getElem?_eq_getElem hk
    cases hE : as[k].k.isE with
    | true => exact ⟨k, Nat.le_refl _, by omega, fun j _ h1 h2 => by omega, fun ao ha => by rw [h2] at ha; cases ha; exact hE⟩
    | false =>
      obtain ⟨p, p1, p2, p3, p4⟩ := d.next m (k + 1) (by omega)
      refine ⟨p, by omega, p2, fun j ao h1 h3 h4 => ?_, p4⟩
      by_cases e : j = k
      · subst e; rw [h2] at h4; cases h4; exact hE
      · exact p3 j ao (by omega) h3 h4
structure Inv (B : Nat) (ops : Array Oper) (as : List AOper) (st : Nat → Env × Heap) (V : Nat → AV) (K0 : KM) (a0 : Act) (w0 : World) (listed : Array Bool) (K : KM) (a : Act) (w : World) : Prop where
  size : listed.size = ops.size
  closed : ∀ i j, bef (befores ops.toList) i j = true → listed.getD j false = true → listed.getD i false = true
  env : ∀ t v, mixAt (fun i => listed.getD i false) V t as 0 ((st 0).1.get t) = some v → ∃ x, a.tmps[t]? = some x ∧ VR K v x
  sim : ∃ p, p ≤ ops.size ∧ (∀ (j : Nat) (ao : AOper), j < p → as[j]? = some ao → ao.k.isE = true → listed.getD j false = true) ∧ (∀ ao, as[p]? = some ao → ao.k.isE = true ∧ listed.getD p false = false) ∧ Sim B K (st p).2 w
  fresh : ∀ (i : Nat) (ao : AOper), as[i]? = some ao → ao.k.isN = true → wantedE (st i).1 ao.guard = some true → listed.getD i false = false → K (st i).2.n = none
  below : Below B w0 w
  le : KLe K0 K
  defers : a.defers = a0.defers
  tsize : a.tmps.size = a0.tmps.size
  old : ∀ x, x < (st 0).2.n → K0 x = none → K x = none
theorem getD_set {l : Array Bool} {i j : Nat} (hi : i < l.size) (d : Bool) : (l.setIfInBounds i true).getD j d = if j = i then true else l.getD j d := by
  simp only [Array.getD_eq_getD_getElem?, Array.getElem?_setIfInBounds]
  by_cases h : i = j
  · subst h; simp [hi]
  · rw [if_neg h, if_neg (fun e => h e.symm)]
/-- The frame's part at which an operation looks. -/
def restrict (e : Env) : List Nat → Env
  | [] => .nil
  | t :: ts => match e.get t with
    | some v => (restrict e ts).set t v
    | none => restrict e ts
theorem restrict_get (e : Env) : ∀ (l : List Nat) (t : Nat) (v : AV), (restrict e l).get t = some v → t ∈ l ∧ e.get t = some v
  | [], t, v, h => by rw [restrict, T.get_nil] at h; cases h
  | s :: ts, t, v, h => by
    unfold restrict at h
    split at h
    · rename_i u hu
      rw [T.get_set] at h
      by_cases e' : t = s
      · rw [if_pos e'] at h; cases h; subst e'; exact ⟨by simp, hu⟩
      · rw [if_neg e'] at h
        obtain ⟨h1, h2⟩ := restrict_get e ts t v h
        exact ⟨by simp [h1], h2⟩
    · obtain ⟨h1, h2⟩ := restrict_get e ts t v h
      exact ⟨by simp [h1], h2⟩
theorem restrict_mem (e : Env) : ∀ (l : List Nat) (t : Nat), t ∈ l → (restrict e l).get t = e.get t
  | s :: ts, t, h => by
    unfold restrict
    split
    · rename_i u hu
      rw [T.get_set]
      by_cases e' : t = s
      · rw [if_pos e', e', hu]
      · rw [if_neg e']
        exact restrict_mem e ts t (by simpa [e'] using h)
    · rename_i hu
      by_cases e' : t = s
      · subst e'
        by_cases hm : t ∈ ts
        · exact restrict_mem e ts t hm
        · cases hr : (restrict e ts).get t with
          | none => exact hu.symm
          | some v => exact absurd (restrict_get e ts t v hr).1 hm
      · exact restrict_mem e ts t (by simpa [e'] using h)
theorem evs_congr {e e' : Env} : ∀ (l : List Opd), (∀ t, Opd.tmp t ∈ l → e.get t = e'.get t) → evs e l = evs e' l
  | [], _ => rfl
  | x :: xs, h => by
    have h1 : x.ev e = x.ev e' := by
      cases x with
      | tmp t => exact h t (by simp)
      | const v => rfl
    simp only [evs, h1, evs_congr xs fun t ht => h t (by simp [ht])]
theorem reads_xs {ao : AOper} {t : Nat} (h : Opd.tmp t ∈ ao.xs) : t ∈ readsOf ao := by
  unfold readsOf
  refine List.mem_append.2 (.inr (List.mem_filterMap.2 ⟨_, h, rfl⟩))
theorem restrict_evs (e : Env) (ao : AOper) : evs (restrict e (readsOf ao)) ao.xs = evs e ao.xs :=
  evs_congr _ fun t ht => restrict_mem e _ t (reads_xs ht)
theorem restrict_wanted (e : Env) (ao : AOper) : wantedE (restrict e (readsOf ao)) ao.guard = wantedE e ao.guard := by
  unfold wantedE
  cases hg : ao.guard with
  | none => rfl
  | some p =>
    obtain ⟨t, want⟩ := p
    simp only
    rw [restrict_mem e _ t (by unfold readsOf; rw [hg]; simp)]
theorem dstIn_false {d : Option Nat} {l : List Nat} (h : dstIn d l = false) {t : Nat} (hd : d = some t) : t ∉ l := by
  subst hd
  unfold dstIn at h
  intro hm
  have : l.any (Nat.beq t) = true := List.any_eq_true.2 ⟨t, hm, by simp⟩
  simp only at h
  rw [this] at h; cases h
theorem sameDst_false {a b : Option Nat} (h : sameDst a b = false) {t : Nat} (ha : a = some t) : b ≠ some t := by
  intro hb
  subst ha; subst hb
  simp [sameDst] at h
/-- What a pair says. -/
theorem DC.pairs (d : DC P cf nt ops as st V) {i j : Nat} {a b : AOper} (hi : as[i]? = some a) (hj : as[j]? = some b) (hij : i < j) :
    bef (befores ops.toList) i j = true ∨ (bef (befores ops.toList) i j = false ∧ (∀ t, a.dst = some t → t ∉ readsOf b) ∧ (∀ t, b.dst = some t → t ∉ readsOf a) ∧ (∀ t, a.dst = some t → b.dst ≠ some t) ∧ ¬ (a.k.isE = true ∧ b.k.isE = true) ∧ ¬ (a.k.isE = true ∧ b.k.isN = true) ∧ ¬ (a.k.isN = true ∧ b.k.isE = true)) := by
  have h := d.pair i j hij (by have := d.lt hj; have := d.len; omega)
  unfold okPair at h
  rw [hi, hj] at h
  simp only at h
  cases hb : bef (befores ops.toList) i j with
  | true => exact .inl rfl
  | false =>
    right
    rw [hb] at h
    simp only [Bool.false_or, apartS, Bool.and_eq_true, Bool.not_eq_true', Bool.and_eq_false_iff] at h
    obtain ⟨⟨⟨⟨⟨h1, h2⟩, h3⟩, h4⟩, h5⟩, h6⟩ := h
    refine ⟨rfl, fun t ht => dstIn_false h1 ht, fun t ht => dstIn_false h2 ht, fun t ht => sameDst_false h3 ht, ?_, ?_, ?_⟩
    · rintro ⟨k1, k2⟩; rcases h4 with h | h <;> simp_all
    · rintro ⟨k1, k2⟩; rcases h5 with h | h <;> simp_all
    · rintro ⟨k1, k2⟩; rcases h6 with h | h <;> simp_all
theorem DC.mono' (d : DC P cf nt ops as st V) : ∀ (m k : Nat), k + m ≤ ops.size → (st k).2.n ≤ (st (k + m)).2.n
  | 0, k, _ => Nat.le_refl _
  | m + 1, k, hk => by
    have h1 := d.mono' m k (by omega)
    have hkl : k + m < as.length := by rw [d.len]; omega
    exact Nat.le_trans h1 (d.mono (k + m) _ (List.getElem?_eq_getElem hkl))
theorem DC.grows (d : DC P cf nt ops as st V) {i : Nat} {ao : AOper} (h : as[i]? = some ao) (hN : ao.k.isN = true) (hw : wantedE (st i).1 ao.guard = some true) : (st (i + 1)).2.n = (st i).2.n + 1 := by
  rcases d.step i ao h with ⟨h1, _⟩ | ⟨_, xs, _, hv, _⟩
  · rw [hw] at h1; cases h1
  · cases hk : ao.k <;> rw [hk] at hN <;> simp [AK.isN] at hN
    rw [hk] at hv
    simp only [AK.ev] at hv
    split at hv
    · simp only [Option.some.injEq, Prod.mk.injEq] at hv
      rw [← hv.2, Heap.n_push]
    · cases hv
theorem DC.ids (d : DC P cf nt ops as st V) {i j : Nat} {ai aj : AOper} (hi : as[i]? = some ai) (hj : as[j]? = some aj) (hNi : ai.k.isN = true) (hwi : wantedE (st i).1 ai.guard = some true) (hNj : aj.k.isN = true) (hwj : wantedE (st j).1 aj.guard = some true) (hne : i ≠ j) : (st i).2.n ≠ (st j).2.n := by
  have l1 := d.lt hi; have l2 := d.lt hj; have l3 := d.len
  rcases Nat.lt_or_ge i j with h | h
  · have h1 := d.mono' (j - (i + 1)) (i + 1) (by omega)
    rw [show i + 1 + (j - (i + 1)) = j by omega, d.grows hi hNi hwi] at h1
    omega
  · have h1 := d.mono' (i - (j + 1)) (j + 1) (by omega)
    rw [show j + 1 + (i - (j + 1)) = i by omega, d.grows hj hNj hwj] at h1
    omega
/-- The text's frame ahead of an operation. -/
theorem DC.env_text (d : DC P cf nt ops as st V) (t : Nat) : ∀ (i : Nat), i ≤ as.length → (st i).1.get t = mixAt (fun j => decide (j < i)) V t as 0 ((st 0).1.get t)
  | 0, _ => by rw [mixAt_none as 0 _ fun j ao _ _ => by simp]
  | i + 1, hi => by
    have h2 := List.getElem?_eq_getElem (show i < as.length by omega)
    have hput : (st (i + 1)).1 = putE (st i).1 as[i].dst (V i) := by
      rcases d.step i _ h2 with ⟨_, h, _⟩ | ⟨_, _, _, _, h⟩ <;> exact h
    rw [hput, putE_get]
    by_cases hd : as[i].dst = some t
    · rw [if_pos hd]
      rw [mixAt_last as 0 i _ _ h2 hd (by simp) fun j ao hj _ _ => by simp; omega]
      simp
    · rw [if_neg hd, d.env_text t i (by omega)]
      refine mixAt_congr as 0 _ fun j ao hj hdj => ?_
      by_cases e : j = i
      · subst e; rw [h2] at hj; cases hj; exact absurd hdj hd
      · simp; omega
end
end Go.Am
