/- An abstract machine for the model's code, and that the model does what it does. No condition. Own work. -/
import Derived.Test.YtloaoofdbilpeaaAm3
import Derived.Deep.LoopGhost
/- Regions that draw their order: any order comes to what the text's order comes to. Plain parts. Own work. -/
namespace Go.Am
set_option linter.unusedVariables false
set_option linter.unusedSimpArgs false
open Go Go.RowKit
theorem befores_snoc (l : List Oper) (o : Oper) : befores (l ++ [o]) = befores l ++ [(List.range (befores l).length).map fun i => o.after.any fun e => Region.binds .any e && (Nat.beq e.on i || (((befores l).getD e.on []).getD i false))] := by
  simp [befores, List.foldl_append]
theorem befores_length : ∀ (n : Nat) (l : List Oper), l.length = n → (befores l).length = n
  | 0, l, h => by
    have : l = [] := List.eq_nil_of_length_eq_zero h
    subst this; rfl
  | n + 1, l, h => by
    rcases List.eq_nil_or_concat l with e | ⟨L, b, e⟩
    · subst e; simp at h
    · rw [List.concat_eq_append] at e; subst e
      rw [befores_snoc]
      simp at h
      simp [befores_length n L h]
theorem bef_spec : ∀ (n : Nat) (l : List Oper), l.length = n → ∀ i j, bef (befores l) i j = true → ∃ o e, l[j]? = some o ∧ e ∈ o.after ∧ Region.binds .any e = true ∧ (e.on = i ∨ bef (befores l) i e.on = true)
  | 0, l, h, i, j, hb => by
    have : l = [] := List.eq_nil_of_length_eq_zero h
    subst this
    simp [bef, befores] at hb
  | n + 1, l, h, i, j, hb => by
    rcases List.eq_nil_or_concat l with e | ⟨L, b, e⟩
    · subst e; simp at h
    · rw [List.concat_eq_append] at e; subst e
      simp at h
      have hlen := befores_length n L h
      have old : ∀ i j, j < n → bef (befores (L ++ [b])) i j = bef (befores L) i j := by
        intro i j hj
        unfold bef
        have e1 : (befores (L ++ [b])).getD j [] = (befores L).getD j [] := by
          rw [befores_snoc, List.getD_eq_getElem?_getD, List.getElem?_append_left (by omega), ← List.getD_eq_getElem?_getD]
        rw [e1]
      by_cases hj : j < n
      · rw [old i j hj] at hb
        obtain ⟨o, e, h1, h2, h3, h4⟩ := bef_spec n L h i j hb
        refine ⟨o, e, by rw [List.getElem?_append_left (by omega)]; exact h1, h2, h3, ?_⟩
        rcases h4 with h4 | h4
        · exact .inl h4
        · right
          have : e.on < n := by
            rcases Nat.lt_or_ge e.on n with hh | hh
            · exact hh
            · unfold bef at h4
              have e1 : (befores L).getD e.on [] = [] := by rw [List.getD_eq_getElem?_getD, List.getElem?_eq_none (by omega)]; rfl
              rw [e1] at h4
              simp at h4
          rw [old _ _ this]; exact h4
      · have hj2 : j = n := by
          rcases Nat.lt_or_ge j (n + 1) with hh | hh
          · omega
          · unfold bef at hb
            have e1 : (befores (L ++ [b])).getD j [] = [] := by rw [List.getD_eq_getElem?_getD, List.getElem?_eq_none (by rw [befores_length (n + 1) _ (by simp [h])]; exact hh)]; rfl
            rw [e1] at hb
            simp at hb
        subst hj2
        unfold bef at hb
        have e1 : (befores (L ++ [b])).getD j [] = (List.range j).map fun i => b.after.any fun e => Region.binds .any e && (Nat.beq e.on i || (((befores L).getD e.on []).getD i false)) := by
          rw [befores_snoc, List.getD_eq_getElem?_getD, List.getElem?_append_right (by omega), hlen, Nat.sub_self]; rfl
        rw [e1] at hb
        rw [List.getD_eq_getElem?_getD, List.getElem?_map] at hb
        cases hr : (List.range j)[i]? with
        | none => rw [hr] at hb; simp at hb
        | some x =>
          have hi : i < j := by
            rcases Nat.lt_or_ge i j with hh | hh
            · exact hh
            · rw [List.getElem?_eq_none (by simpa using hh)] at hr; cases hr
          rw [List.getElem?_range hi] at hr
          cases hr
          rw [List.getElem?_range hi] at hb
          simp only [Option.map_some, Option.getD_some, Array.any_eq_true] at hb
          obtain ⟨k, hk, hb⟩ := hb
          simp only [Bool.and_eq_true, Bool.or_eq_true] at hb
          refine ⟨b, b.after[k], by rw [List.getElem?_append_right (by omega), h, Nat.sub_self]; rfl, Array.getElem_mem hk, hb.1, ?_⟩
          rcases hb.2 with h4 | h4
          · exact .inl (Nat.eq_of_beq_eq_true h4)
          · right
            have : (b.after[k]).on < j := by
              rcases Nat.lt_or_ge (b.after[k]).on j with hh | hh
              · exact hh
              · have e1 : (befores L).getD (b.after[k]).on [] = [] := by rw [List.getD_eq_getElem?_getD, List.getElem?_eq_none (by rw [hlen]; exact hh)]; rfl
                rw [e1] at h4
                simp at h4
            rw [old _ _ this]; exact h4
theorem allPairs_spec {n : Nat} {f : Nat → Nat → Bool} (h : allPairs n f = true) {i j : Nat} (hi : i < j) (hj : j < n) : f i j = true := by
  unfold allPairs at h
  have h1 := List.all_eq_true.1 h j (List.mem_range.2 hj)
  exact List.all_eq_true.1 h1 i (List.mem_range.2 hi)
theorem openPairs_mem {B : List (List Bool)} {as : List AOper} {i j : Nat} {a b : AOper} (hi : as[i]? = some a) (hj : as[j]? = some b) (hij : i < j) (hn : bef B i j = false) :
    (a.k.isR = true → b.k.isE = true → (i, j) ∈ openPairs B as) ∧ (a.k.isE = true → b.k.isR = true → (j, i) ∈ openPairs B as) := by
  have hjn : j < as.length := by
    rcases Nat.lt_or_ge j as.length with hh | hh
    · exact hh
    · rw [List.getElem?_eq_none hh] at hj; cases hj
  constructor
  · intro h1 h2
    unfold openPairs
    refine List.mem_flatMap.2 ⟨j, List.mem_range.2 hjn, List.mem_filterMap.2 ⟨i, List.mem_range.2 hij, ?_⟩⟩
    simp only [hi, hj, hn, cond_false, h1, h2, Bool.and_self, cond_true]
  · intro h1 h2
    unfold openPairs
    refine List.mem_flatMap.2 ⟨j, List.mem_range.2 hjn, List.mem_filterMap.2 ⟨i, List.mem_range.2 hij, ?_⟩⟩
    have h3 : (a.k.isR && b.k.isE) = false := by
      cases hk : a.k <;> rw [hk] at h1 <;> simp [AK.isE, AK.isR] at h1 ⊢
    simp only [hi, hj, hn, cond_false, h3, h1, h2, Bool.and_self, cond_true]
/-- The values of a slot behind some operations, in the text's order. -/
def mixAt (S : Nat → Bool) (V : Nat → AV) (t : Nat) : List AOper → Nat → Option AV → Option AV
  | [], _, x => x
  | ao :: as, i, x => mixAt S V t as (i + 1) (if S i = true ∧ ao.dst = some t then some (V i) else x)
theorem mixAt_congr {S S' : Nat → Bool} {V : Nat → AV} {t : Nat} : ∀ (as : List AOper) (i : Nat) (x : Option AV), (∀ j ao, as[j]? = some ao → ao.dst = some t → S (i + j) = S' (i + j)) → mixAt S V t as i x = mixAt S' V t as i x
  | [], _, _, _ => rfl
  | ao :: as, i, x, h => by
    have h0 : (if S i = true ∧ ao.dst = some t then some (V i) else x) = (if S' i = true ∧ ao.dst = some t then some (V i) else x) := by
      by_cases hd : ao.dst = some t
      · have := h 0 ao rfl hd
        simp only [Nat.add_zero] at this
        rw [this]
      · simp [hd]
    rw [mixAt, mixAt, h0]
    exact mixAt_congr as (i + 1) _ fun j ao' hj hd => by
      have := h (j + 1) ao' (by simpa using hj) hd
      rw [show i + 1 + j = i + (j + 1) by omega]; exact this
theorem mixAt_none {S : Nat → Bool} {V : Nat → AV} {t : Nat} : ∀ (as : List AOper) (i : Nat) (x : Option AV), (∀ j ao, as[j]? = some ao → ao.dst = some t → S (i + j) = false) → mixAt S V t as i x = x
  | [], _, _, _ => rfl
  | ao :: as, i, x, h => by
    rw [mixAt, mixAt_none as (i + 1) _ fun j ao' hj hd => by
      have := h (j + 1) ao' (by simpa using hj) hd
      rw [show i + 1 + j = i + (j + 1) by omega]; exact this]
    by_cases hd : ao.dst = some t
    · have := h 0 ao rfl hd
      simp only [Nat.add_zero] at this
      simp [this]
    · simp [hd]
theorem mixAt_last {S : Nat → Bool} {V : Nat → AV} {t : Nat} : ∀ (as : List AOper) (i k : Nat) (x : Option AV) (ao : AOper), as[k]? = some ao → ao.dst = some t → S (i + k) = true → (∀ j ao, k < j → as[j]? = some ao → ao.dst = some t → S (i + j) = false) → mixAt S V t as i x = some (V (i + k))
  | [], _, _, _, _, h, _, _, _ => by simp at h
  | ao0 :: as, i, 0, x, ao, h, hd, hS, hl => by
    simp at h; subst h
    simp only [Nat.add_zero] at hS
    rw [mixAt, if_pos ⟨hS, hd⟩]
    exact mixAt_none as (i + 1) _ fun j ao' hj hd' => by
      have := hl (j + 1) ao' (by omega) (by simpa using hj) hd'
      rw [show i + 1 + j = i + (j + 1) by omega]; exact this
  | ao0 :: as, i, k + 1, x, ao, h, hd, hS, hl => by
    rw [mixAt]
    rw [mixAt_last as (i + 1) k _ ao (by simpa using h) hd (by rw [show i + 1 + k = i + (k + 1) by omega]; exact hS) fun j ao' hj hj' hd' => by
      have := hl (j + 1) ao' (by omega) (by simpa using hj') hd'
      rw [show i + 1 + j = i + (j + 1) by omega]; exact this]
    congr 2; omega
/-- What a step was. -/
theorem step_cases {cf : CallF} {ao : AOper} {e e1 : Env} {h h1 : Heap} (hs : stepOp cf ao e h = some (e1, h1)) :
    (wantedE e ao.guard = some false ∧ e1 = putE e ao.dst .undef ∧ h1 = h) ∨ (wantedE e ao.guard = some true ∧ ∃ xs v, evs e ao.xs = some xs ∧ ao.k.ev cf xs h = some (v, h1) ∧ e1 = putE e ao.dst v) := by
  unfold stepOp at hs
  split at hs
  · cases hs
  · rename_i hw; cases hs; exact .inl ⟨hw, rfl, rfl⟩
  · rename_i hw
    right
    split at hs
    · cases hs
    · rename_i xs hx
      split at hs
      · cases hs
      · rename_i v h' hv; cases hs; exact ⟨hw, xs, v, hx, hv, rfl⟩
/-- A step of what doesn't act: the heap as it was, or one object more. -/
theorem heap_of_quiet {cf : CallF} {ao : AOper} {e e1 : Env} {h h1 : Heap} (hs : stepOp cf ao e h = some (e1, h1)) (hE : ao.k.isE = false) : h1 = h ∨ (ao.k.isN = true ∧ ∃ ob, h1 = h.push ob) := by
  rcases step_cases hs with ⟨_, _, rfl⟩ | ⟨_, xs, v, _, hv, _⟩
  · exact .inl rfl
  · cases hk : ao.k with
    | p q =>
      rw [hk] at hv
      simp only [AK.ev] at hv
      split at hv <;> cases hv
      exact .inl rfl
    | r q =>
      rw [hk] at hv
      simp only [AK.ev] at hv
      split at hv <;> cases hv
      exact .inl rfl
    | n q =>
      rw [hk] at hv
      simp only [AK.ev] at hv
      split at hv
      · rename_i ob hob; cases hv; exact .inr ⟨rfl, ob, rfl⟩
      · cases hv
    | e q => rw [hk] at hE; cases hE
    | call f => rw [hk] at hE; cases hE
    | callV => rw [hk] at hE; cases hE
theorem eop_n {q : EOp} {vs : List AV} {h h1 : Heap} {v : AV} (hv : q.ev vs h = some (v, h1)) : h.n ≤ h1.n := by
  unfold EOp.ev at hv
  split at hv
  · split at hv
    · split at hv
      · cases hv; exact Nat.le_refl _
      · cases hv
    · cases hv
  · split at hv
    · split at hv
      · rename_i s x _ cs k _ _
        unfold appendTo at hv
        split at hv
        · split at hv <;> cases hv
          · exact Nat.le_refl _
          · simp [Heap.n_push]
        · split at hv
          · split at hv
            · split at hv <;> cases hv <;> exact Nat.le_refl _
            · cases hv
          · cases hv
        · cases hv
      · cases hv
    · cases hv
  · split at hv
    · split at hv
      · split at hv <;> cases hv
        exact Nat.le_refl _
      · cases hv
    · cases hv
  · split at hv
    · split at hv <;> cases hv <;> exact Nat.le_refl _
    · cases hv
  · split at hv
    · split at hv <;> cases hv
      exact Nat.le_refl _
    · cases hv
  · cases hv
end Go.Am

/- Regions that draw their order: any order comes to what the text's order comes to. Own work. -/
namespace Go.Am
set_option linter.unusedVariables false
set_option linter.unusedSimpArgs false
open Go Go.RowKit
theorem rop_push {q : ROp} {xs : List AV} {h : Heap} {v : AV} {y : AObj} (hq : q.ev xs h = some v) : q.ev xs (h.push y) = some v := by
  unfold ROp.ev at hq ⊢
  split at hq
  · split at hq
    · rename_i x hc; rw [cells_push hc]; exact hq
    · cases hq
  · split at hq
    · rename_i cs hc; rw [cells_push hc]; exact hq
    · cases hq
  · split at hq
    · rename_i cs hc; rw [rows_push hc]; exact hq
    · cases hq
  · exact hq
  · split at hq
    · rename_i es hg; rw [get_push_some hg]; exact hq
    · cases hq
  · exact hq
  · split at hq
    · rename_i es hg; rw [get_push_some hg]; exact hq
    · cases hq
  · cases hq
theorem get_unpush {h : Heap} {o : Nat} {y : AObj} (hn : o ≠ h.n) : (h.push y).get o = h.get o := by
  rw [Heap.get_push, if_neg hn]
theorem ref_ne {K : KM} {n : Nat} (hK : K n = none) {o : Nat} {i : Info} (h : K o = some i) : o ≠ n := fun e => by rw [e, hK] at h; cases h
theorem rop_unpush {K : KM} {q : ROp} {xs : List AV} {ys : List Value} {h : Heap} {v : AV} {y : AObj} (hx : VRs K xs ys) (hK : K h.n = none) (hq : q.ev xs (h.push y) = some v) : q.ev xs h = some v := by
  unfold ROp.ev at hq ⊢
  split at hq
  · obtain ⟨x, _, hx⟩ := hx.one
    simp only [VR] at hx
    obtain ⟨_, i, _, hKo, _⟩ := hx
    unfold Heap.cells at hq ⊢
    rw [get_unpush (ref_ne hK hKo)] at hq; exact hq
  · obtain ⟨x, _, hx⟩ := hx.one
    simp only [VR] at hx
    obtain ⟨_, i, _, hKo, _⟩ := hx
    unfold Heap.cells at hq ⊢
    rw [get_unpush (ref_ne hK hKo)] at hq; exact hq
  · rename_i s
    obtain ⟨x, _, hx⟩ := hx.one
    cases s <;> simp only [Heap.rows] at hq ⊢ <;> first | exact hq | skip
    simp only [VR] at hx
    obtain ⟨_, _, i, _, hKo, _⟩ := hx
    unfold Heap.cells at hq ⊢
    rw [get_unpush (ref_ne hK hKo)] at hq; exact hq
  · exact hq
  · obtain ⟨x, _, _, hx, _⟩ := hx.two
    simp only [VR] at hx
    obtain ⟨_, i, _, hKo, _⟩ := hx
    rw [get_unpush (ref_ne hK hKo)] at hq; exact hq
  · exact hq
  · obtain ⟨x, _, hx⟩ := hx.one
    simp only [VR] at hx
    obtain ⟨_, i, _, hKo, _⟩ := hx
    rw [get_unpush (ref_ne hK hKo)] at hq; exact hq
  · cases hq
theorem compOp_opds {P : Program} {op : Op} {k : AK} {xs : List Opd} (h : compOp P op = some (k, xs)) : ∃ l, compOpds l = some xs := by
  cases op with
  | call c =>
    obtain ⟨callee, args, argTypes⟩ := c
    simp only [compOp] at h
    split at h
    · split at h
      · exact ⟨_, (withOpds_some h).2⟩
      · exact ⟨_, (withOpds_some h).2⟩
    · exact ⟨_, (withOpds_some h).2⟩
    · exact ⟨_, (withOpds_some h).2⟩
    · exact ⟨_, (withOpds_some h).2⟩
    · cases h
  | makeMap t r =>
    cases r with
    | none => simp only [compOp] at h; exact ⟨_, (withOpds_some h).2⟩
    | some x => cases h
  | slice t x lo hi mx =>
    cases mx with
    | some m => cases h
    | none => exact ⟨_, (withOpds_some h).2⟩
  | next it s =>
    cases s with
    | true => exact ⟨_, (withOpds_some h).2⟩
    | false => cases h
  | move x | assign x | pick c x y | box t x | nilCheck x | unOp op t x | extract t i | alloc t | load t x | lookup t x i ok | build t ps | buildSlice t len ps | store t x y | makeInterface t x | makeFunc fn first caps | makeSlice t l c | fieldAddr t x f | field t x f | indexAddr t x i | index t x i | mapUpdate t m k x | insert t m k x | range t x | convert s d x | binOp op t x y yt =>
    exact ⟨_, (withOpds_some h).2⟩
  | _ => cases h
/-- A step of an operation, its value told. -/
def StepIs (cf : CallF) (ao : AOper) (s : Env × Heap) (v : AV) (s' : Env × Heap) : Prop :=
  (wantedE s.1 ao.guard = some false ∧ s'.1 = putE s.1 ao.dst v ∧ v = .undef ∧ s'.2 = s.2) ∨
  (wantedE s.1 ao.guard = some true ∧ ∃ xs, evs s.1 ao.xs = some xs ∧ ao.k.ev cf xs s.2 = some (v, s'.2) ∧ s'.1 = putE s.1 ao.dst v)
theorem stepIs {cf : CallF} {ao : AOper} {s s' : Env × Heap} (h : stepOp cf ao s.1 s.2 = some s') : ∃ v, StepIs cf ao s v s' := by
  rcases step_cases (show stepOp cf ao s.1 s.2 = some (s'.1, s'.2) from h) with ⟨h1, h2, h3⟩ | ⟨h1, xs, v, h2, h3, h4⟩
  · exact ⟨.undef, .inl ⟨h1, h2, rfl, h3⟩⟩
  · exact ⟨v, .inr ⟨h1, xs, h2, h3, h4⟩⟩
/-- All that is known of a region. -/
structure DC (P : Program) (cf : CallF) (nt : Nat) (ops : Array Oper) (as : List AOper) (st : Nat → Env × Heap) (V : Nat → AV) : Prop where
  cfOk : CfOk P cf
  len : as.length = ops.size
  co : ∀ (i : Nat) (o : Oper), ops[i]? = some o → ∃ ao, as[i]? = some ao ∧ compOper P nt ops.toList o = some ao
  step : ∀ (i : Nat) (ao : AOper), as[i]? = some ao → StepIs cf ao (st i) (V i) (st (i + 1))
  mono : ∀ (i : Nat) (ao : AOper), as[i]? = some ao → (st i).2.n ≤ (st (i + 1)).2.n
  quiet : ∀ (i : Nat) (ao : AOper), as[i]? = some ao → ao.k.isE = false → (st (i + 1)).2 = (st i).2 ∨ (ao.k.isN = true ∧ ∃ ob, (st (i + 1)).2 = (st i).2.push ob)
  pair : ∀ i j, i < j → j < ops.size → okPair (befores ops.toList) as i j = true
  edge : ∀ (i : Nat) (o : Oper), ops[i]? = some o → ∀ e ∈ o.after, Region.binds .any e = true → e.on < i
  chk : ∀ r x, (r, x) ∈ openPairs (befores ops.toList) as → ∀ ao q xs v, as[r]? = some ao → wantedE (st r).1 ao.guard = some true → ao.k = .r q → evs (st r).1 ao.xs = some xs → q.ev xs (st r).2 = some v →
    q.ev xs (st x).2 = some v ∧ q.ev xs (st (x + 1)).2 = some v
section
variable {P : Program} {cf : CallF} {nt : Nat} {ops : Array Oper} {as : List AOper} {st : Nat → Env × Heap} {V : Nat → AV} {B : Nat}
theorem DC.lt (_d : DC P cf nt ops as st V) {i : Nat} {ao : AOper} (h : as[i]? = some ao) : i < as.length := by
  rcases Nat.lt_or_ge i as.length with hh | hh
  · exact hh
  · rw [List.getElem?_eq_none hh] at h; cases h
/-- What every push keeps, is kept where nothing acts. -/
theorem DC.forward (d : DC P cf nt ops as st V) {Φ : Heap → Prop} (hΦ : ∀ h ob, Φ h → Φ (h.push ob)) : ∀ (m k : Nat), k + m ≤ ops.size → (∀ j ao, k ≤ j → j < k + m → as[j]? = some ao → ao.k.isE = false) → Φ (st k).2 → Φ (st (k + m)).2
  | 0, _, _, _, h => h
  | m + 1, k, hle, hq, h => by
    have hk : k + m < as.length := by rw [d.len]; omega
    have h1 := d.forward hΦ m k (by omega) (fun j ao h1 h2 => hq j ao h1 (by omega)) h
    have h2 := List.getElem?_eq_getElem hk
    rcases d.quiet _ _ h2 (hq _ _ (by omega) (by omega) h2) with h3 | ⟨_, ob, h3⟩
    · rw [show k + (m + 1) = k + m + 1 by omega, h3]; exact h1
    · rw [show k + (m + 1) = k + m + 1 by omega, h3]; exact hΦ _ _ h1
/-- The next operation that acts. -/
theorem DC.next (d : DC P cf nt ops as st V) : ∀ (m k : Nat), k + m = ops.size → ∃ p, k ≤ p ∧ p ≤ ops.size ∧ (∀ j ao, k ≤ j → j < p → as[j]? = some ao → ao.k.isE = false) ∧ (∀ ao, as[p]? = some ao → ao.k.isE = true)
  | 0, k, h => ⟨k, Nat.le_refl _, by omega, fun j _ h1 h2 => by omega, fun ao ha => by have := d.lt ha; have := d.len; omega⟩
  | m + 1, k, h => by
    have hk : k < as.length := by rw [d.len]; omega
    have h2 := List.getElem?_eq_getElem hk
    cases hE : as[k].k.isE with
    | true => exact ⟨k, Nat.le_refl _, by omega, fun j _ h1 h2 => by omega, fun ao ha => by rw [h2] at ha; cases ha; exact hE⟩
    | false =>
      obtain ⟨p, p1, p2, p3, p4⟩ := d.next m (k + 1) (by omega)
      refine ⟨p, by omega, p2, fun j ao h1 h3 h4 => ?_, p4⟩
      by_cases e : j = k
      · subst e; rw [h2] at h4; cases h4; exact hE
      · exact p3 j ao (by omega) h3 h4
structure Inv (B : Nat) (ops : Array Oper) (as : List AOper) (st : Nat → Env × Heap) (V : Nat → AV) (K0 : KM) (a0 : Act) (w0 : World) (listed : Array Bool) (K : KM) (a : Act) (w : World) : Prop where
  size : listed.size = ops.size
  closed : ∀ i j, bef (befores ops.toList) i j = true → listed.getD j false = true → listed.getD i false = true
  env : ∀ t v, mixAt (fun i => listed.getD i false) V t as 0 ((st 0).1.get t) = some v → ∃ x, a.tmps[t]? = some x ∧ VR K v x
  sim : ∃ p, p ≤ ops.size ∧ (∀ (j : Nat) (ao : AOper), j < p → as[j]? = some ao → ao.k.isE = true → listed.getD j false = true) ∧ (∀ ao, as[p]? = some ao → ao.k.isE = true ∧ listed.getD p false = false) ∧ Sim B K (st p).2 w
  fresh : ∀ (i : Nat) (ao : AOper), as[i]? = some ao → ao.k.isN = true → wantedE (st i).1 ao.guard = some true → listed.getD i false = false → K (st i).2.n = none
  below : Below B w0 w
  le : KLe K0 K
  defers : a.defers = a0.defers
  tsize : a.tmps.size = a0.tmps.size
  old : ∀ x, x < (st 0).2.n → K0 x = none → K x = none
theorem getD_set {l : Array Bool} {i j : Nat} (hi : i < l.size) (d : Bool) : (l.setIfInBounds i true).getD j d = if j = i then true else l.getD j d := by
  simp only [Array.getD_eq_getD_getElem?, Array.getElem?_setIfInBounds]
  by_cases h : i = j
  · subst h; simp [hi]
  · rw [if_neg h, if_neg (fun e => h e.symm)]
/-- The frame's part at which an operation looks. -/
def restrict (e : Env) : List Nat → Env
  | [] => .nil
  | t :: ts => match e.get t with
    | some v => (restrict e ts).set t v
    | none => restrict e ts
theorem restrict_get (e : Env) : ∀ (l : List Nat) (t : Nat) (v : AV), (restrict e l).get t = some v → t ∈ l ∧ e.get t = some v
  | [], t, v, h => by rw [restrict, T.get_nil] at h; cases h
  | s :: ts, t, v, h => by
    unfold restrict at h
    split at h
    · rename_i u hu
      rw [T.get_set] at h
      by_cases e' : t = s
      · rw [if_pos e'] at h; cases h; subst e'; exact ⟨by simp, hu⟩
      · rw [if_neg e'] at h
        obtain ⟨h1, h2⟩ := restrict_get e ts t v h
        exact ⟨by simp [h1], h2⟩
    · obtain ⟨h1, h2⟩ := restrict_get e ts t v h
      exact ⟨by simp [h1], h2⟩
theorem restrict_mem (e : Env) : ∀ (l : List Nat) (t : Nat), t ∈ l → (restrict e l).get t = e.get t
  | s :: ts, t, h => by
    unfold restrict
    split
    · rename_i u hu
      rw [T.get_set]
      by_cases e' : t = s
      · rw [if_pos e', e', hu]
      · rw [if_neg e']
        exact restrict_mem e ts t (by simpa [e'] using h)
    · rename_i hu
      by_cases e' : t = s
      · subst e'
        by_cases hm : t ∈ ts
        · exact restrict_mem e ts t hm
        · cases hr : (restrict e ts).get t with
          | none => exact hu.symm
          | some v => exact absurd (restrict_get e ts t v hr).1 hm
      · exact restrict_mem e ts t (by simpa [e'] using h)
theorem evs_congr {e e' : Env} : ∀ (l : List Opd), (∀ t, Opd.tmp t ∈ l → e.get t = e'.get t) → evs e l = evs e' l
  | [], _ => rfl
  | x :: xs, h => by
    have h1 : x.ev e = x.ev e' := by
      cases x with
      | tmp t => exact h t (by simp)
      | const v => rfl
    simp only [evs, h1, evs_congr xs fun t ht => h t (by simp [ht])]
theorem reads_xs {ao : AOper} {t : Nat} (h : Opd.tmp t ∈ ao.xs) : t ∈ readsOf ao := by
  unfold readsOf
  refine List.mem_append.2 (.inr (List.mem_filterMap.2 ⟨_, h, rfl⟩))
theorem restrict_evs (e : Env) (ao : AOper) : evs (restrict e (readsOf ao)) ao.xs = evs e ao.xs :=
  evs_congr _ fun t ht => restrict_mem e _ t (reads_xs ht)
theorem restrict_wanted (e : Env) (ao : AOper) : wantedE (restrict e (readsOf ao)) ao.guard = wantedE e ao.guard := by
  unfold wantedE
  cases hg : ao.guard with
  | none => rfl
  | some p =>
    obtain ⟨t, want⟩ := p
    simp only
    rw [restrict_mem e _ t (by unfold readsOf; rw [hg]; simp)]
theorem dstIn_false {d : Option Nat} {l : List Nat} (h : dstIn d l = false) {t : Nat} (hd : d = some t) : t ∉ l := by
  subst hd
  unfold dstIn at h
  intro hm
  have : l.any (Nat.beq t) = true := List.any_eq_true.2 ⟨t, hm, by simp⟩
  simp only at h
  rw [this] at h; cases h
theorem sameDst_false {a b : Option Nat} (h : sameDst a b = false) {t : Nat} (ha : a = some t) : b ≠ some t := by
  intro hb
  subst ha; subst hb
  simp [sameDst] at h
/-- What a pair says. -/
theorem DC.pairs (d : DC P cf nt ops as st V) {i j : Nat} {a b : AOper} (hi : as[i]? = some a) (hj : as[j]? = some b) (hij : i < j) :
    bef (befores ops.toList) i j = true ∨ (bef (befores ops.toList) i j = false ∧ (∀ t, a.dst = some t → t ∉ readsOf b) ∧ (∀ t, b.dst = some t → t ∉ readsOf a) ∧ (∀ t, a.dst = some t → b.dst ≠ some t) ∧ ¬ (a.k.isE = true ∧ b.k.isE = true) ∧ ¬ (a.k.isE = true ∧ b.k.isN = true) ∧ ¬ (a.k.isN = true ∧ b.k.isE = true)) := by
  have h := d.pair i j hij (by have := d.lt hj; have := d.len; omega)
  unfold okPair at h
  rw [hi, hj] at h
  simp only at h
  cases hb : bef (befores ops.toList) i j with
  | true => exact .inl rfl
  | false =>
    right
    rw [hb] at h
    simp only [Bool.false_or, apartS, Bool.and_eq_true, Bool.not_eq_true', Bool.and_eq_false_iff] at h
    obtain ⟨⟨⟨⟨⟨h1, h2⟩, h3⟩, h4⟩, h5⟩, h6⟩ := h
    refine ⟨rfl, fun t ht => dstIn_false h1 ht, fun t ht => dstIn_false h2 ht, fun t ht => sameDst_false h3 ht, ?_, ?_, ?_⟩
    · rintro ⟨k1, k2⟩; rcases h4 with h | h <;> simp_all
    · rintro ⟨k1, k2⟩; rcases h5 with h | h <;> simp_all
    · rintro ⟨k1, k2⟩; rcases h6 with h | h <;> simp_all
theorem DC.mono' (d : DC P cf nt ops as st V) : ∀ (m k : Nat), k + m ≤ ops.size → (st k).2.n ≤ (st (k + m)).2.n
  | 0, k, _ => Nat.le_refl _
  | m + 1, k, hk => by
    have h1 := d.mono' m k (by omega)
    have hkl : k + m < as.length := by rw [d.len]; omega
    exact Nat.le_trans h1 (d.mono (k + m) _ (List.getElem?_eq_getElem hkl))
theorem DC.grows (d : DC P cf nt ops as st V) {i : Nat} {ao : AOper} (h : as[i]? = some ao) (hN : ao.k.isN = true) (hw : wantedE (st i).1 ao.guard = some true) : (st (i + 1)).2.n = (st i).2.n + 1 := by
  rcases d.step i ao h with ⟨h1, _⟩ | ⟨_, xs, _, hv, _⟩
  · rw [hw] at h1; cases h1
  · cases hk : ao.k <;> rw [hk] at hN <;> simp [AK.isN] at hN
    rw [hk] at hv
    simp only [AK.ev] at hv
    split at hv
    · simp only [Option.some.injEq, Prod.mk.injEq] at hv
      rw [← hv.2, Heap.n_push]
    · cases hv
theorem DC.ids (d : DC P cf nt ops as st V) {i j : Nat} {ai aj : AOper} (hi : as[i]? = some ai) (hj : as[j]? = some aj) (hNi : ai.k.isN = true) (hwi : wantedE (st i).1 ai.guard = some true) (hNj : aj.k.isN = true) (hwj : wantedE (st j).1 aj.guard = some true) (hne : i ≠ j) : (st i).2.n ≠ (st j).2.n := by
  have l1 := d.lt hi; have l2 := d.lt hj; have l3 := d.len
  rcases Nat.lt_or_ge i j with h | h
  · have h1 := d.mono' (j - (i + 1)) (i + 1) (by omega)
    rw [show i + 1 + (j - (i + 1)) = j by omega, d.grows hi hNi hwi] at h1
    omega
  · have h1 := d.mono' (i - (j + 1)) (j + 1) (by omega)
    rw [show j + 1 + (i - (j + 1)) = i by omega, d.grows hj hNj hwj] at h1
    omega
/-- The text's frame ahead of an operation. -/
theorem DC.env_text (d : DC P cf nt ops as st V) (t : Nat) : ∀ (i : Nat), i ≤ as.length → (st i).1.get t = mixAt (fun j => decide (j < i)) V t as 0 ((st 0).1.get t)
  | 0, _ => by rw [mixAt_none as 0 _ fun j ao _ _ => by simp]
  | i + 1, hi => by
    have h2 := List.getElem?_eq_getElem (show i < as.length by omega)
    have hput : (st (i + 1)).1 = putE (st i).1 as[i].dst (V i) := by
      rcases d.step i _ h2 with ⟨_, h, _⟩ | ⟨_, _, _, _, h⟩ <;> exact h
    rw [hput, putE_get]
    by_cases hd : as[i].dst = some t
    · rw [if_pos hd]
      rw [mixAt_last as 0 i _ _ h2 hd (by simp) fun j ao hj _ _ => by simp; omega]
      simp
    · rw [if_neg hd, d.env_text t i (by omega)]
      refine mixAt_congr as 0 _ fun j ao hj hdj => ?_
      by_cases e : j = i
      · subst e; rw [h2] at hj; cases hj; exact absurd hdj hd
      · simp; omega
end
end Go.Am

/- Regions that draw their order: the step, and the whole. Own work. -/
namespace Go.Am
set_option linter.unusedVariables false
set_option linter.unusedSimpArgs false
open Go Go.RowKit
section
variable {P : Program} {cf : CallF} {nt : Nat} {ops : Array Oper} {as : List AOper} {st : Nat → Env × Heap} {V : Nat → AV} {B : Nat}
theorem DC.step_ok (d : DC P cf nt ops as st V) {K0 K : KM} {a0 a : Act} {w0 w : World} {listed : Array Bool} (hnt : nt ≤ a0.tmps.size) (I : Inv B ops as st V K0 a0 w0 listed K a w) {i : Nat} (hi : i ∈ Region.ready .any ops listed) (Q : Exit → Act → World → Prop) :
    wpOp P ops Q i (fun a' w' => ∃ K', Inv B ops as st V K0 a0 w0 (listed.setIfInBounds i true) K' a' w') a w := by
  unfold Region.ready at hi
  obtain ⟨hir, hcond⟩ := List.mem_filter.1 hi
  have hin : i < ops.size := List.mem_range.1 hir
  have hisz : i < listed.size := by rw [I.size]; exact hin
  have ho := Array.getElem?_eq_getElem hin
  simp only [Bool.and_eq_true, Bool.not_eq_true'] at hcond
  obtain ⟨hnot, hafter⟩ := hcond
  rw [ho] at hafter
  simp only [Option.map_some, Option.getD_some, Array.all_eq_true, Bool.or_eq_true, Bool.not_eq_true'] at hafter
  have hnotf : listed.getD i false = false := by
    rw [Array.getD_eq_getD_getElem?, Array.getElem?_eq_getElem hisz] at hnot ⊢
    simpa using hnot
  obtain ⟨ao, hao, hco⟩ := d.co i _ ho
  obtain ⟨c1, c2, c3, c4⟩ := compOper_inv hco
  have hil : i < as.length := d.lt hao
  -- what must come ahead has come
  have hbef : ∀ k, bef (befores ops.toList) k i = true → listed.getD k false = true := by
    intro k hk
    obtain ⟨o, e, e1, e2, e3, e4⟩ := bef_spec _ ops.toList rfl k i hk
    rw [Array.getElem?_toList, ho] at e1
    cases e1
    have hon : listed.getD e.on false = true := by
      obtain ⟨j, hj, rfl⟩ := Array.mem_iff_getElem.1 e2
      rcases hafter j hj with h | h
      · rw [e3] at h; cases h
      · exact h
    rcases e4 with e4 | e4
    · rw [← e4]; exact hon
    · exact I.closed k e.on e4 hon
  have hclosed : ∀ k j, bef (befores ops.toList) k j = true → (listed.setIfInBounds i true).getD j false = true → (listed.setIfInBounds i true).getD k false = true := by
    intro k j hk hj
    rw [getD_set hisz] at hj ⊢
    by_cases e : j = i
    · subst e
      by_cases e' : k = j
      · rw [if_pos e']
      · rw [if_neg e']; exact hbef k hk
    · rw [if_neg e] at hj
      by_cases e' : k = i
      · rw [if_pos e']
      · rw [if_neg e']; exact I.closed k j hk hj
  have notbef : ∀ j, listed.getD j false = true → bef (befores ops.toList) i j = false := by
    intro j hj
    cases hb : bef (befores ops.toList) i j with
    | false => rfl
    | true => rw [I.closed i j hb hj] at hnotf; cases hnotf
  -- at what it looks, all is as in the text's order
  have hreads : ∀ t, t ∈ readsOf ao → mixAt (fun j => listed.getD j false) V t as 0 ((st 0).1.get t) = (st i).1.get t := by
    intro t ht
    rw [d.env_text t i (by omega)]
    refine mixAt_congr as 0 _ fun j aj hj hdj => ?_
    rw [Nat.zero_add]
    rcases Nat.lt_trichotomy j i with h | h | h
    · have : listed.getD j false = true := by
        rcases d.pairs hj hao h with hp | hp
        · exact hbef j hp
        · exact absurd ht (hp.2.1 t hdj)
      rw [this]; simp [h]
    · subst h; rw [hnotf]; simp
    · have : listed.getD j false = false := by
        cases hl : listed.getD j false with
        | false => rfl
        | true =>
          rcases d.pairs hao hj h with hp | hp
          · rw [notbef j hl] at hp; cases hp
          · exact absurd ht (hp.2.2.1 t hdj)
      rw [this]; simp; omega
  have hER : ER K (restrict (st i).1 (readsOf ao)) a.tmps := by
    intro t v htv
    obtain ⟨h1, h2⟩ := restrict_get _ _ _ _ htv
    exact I.env t v (by rw [hreads t h1]; exact h2)
  have hntA : nt ≤ a.tmps.size := by rw [I.tsize]; exact hnt
  -- the frame behind it
  have henv : ∀ (K' : KM) (v' : Value), KLe K K' → VR K' (V i) v' → ∀ t v, mixAt (fun j => (listed.setIfInBounds i true).getD j false) V t as 0 ((st 0).1.get t) = some v → ∃ x, (a.put (ops[i]).dst v').tmps[t]? = some x ∧ VR K' v x := by
    intro K' v' hle hv' t v hm
    by_cases hd : ao.dst = some t
    · have : mixAt (fun j => (listed.setIfInBounds i true).getD j false) V t as 0 ((st 0).1.get t) = some (V (0 + i)) := by
        refine mixAt_last as 0 i _ ao hao hd (by rw [Nat.zero_add, getD_set hisz, if_pos rfl]) fun j aj hij hj hdj => ?_
        rw [Nat.zero_add, getD_set hisz, if_neg (by omega)]
        cases hl : listed.getD j false with
        | false => rfl
        | true =>
          rcases d.pairs hao hj hij with hp | hp
          · rw [notbef j hl] at hp; cases hp
          · exact absurd hdj (hp.2.2.2.1 t hd)
      rw [this, Nat.zero_add] at hm
      cases hm
      rw [c3] at hd
      have hlt : t < a.tmps.size := by
        have : t < nt := by rw [hd] at c4; exact Nat.le_of_ble_eq_true c4
        omega
      exact ⟨v', by rw [hd]; simp [Act.put, hlt], hv'⟩
    · have : mixAt (fun j => (listed.setIfInBounds i true).getD j false) V t as 0 ((st 0).1.get t) = mixAt (fun j => listed.getD j false) V t as 0 ((st 0).1.get t) := by
        refine mixAt_congr as 0 _ fun j aj hj hdj => ?_
        rw [Nat.zero_add, getD_set hisz]
        by_cases e : j = i
        · subst e; rw [hao] at hj; cases hj; exact absurd hdj hd
        · rw [if_neg e]
      rw [this] at hm
      obtain ⟨x, h1, h2⟩ := I.env t v hm
      refine ⟨x, ?_, VR.mono hle _ _ h2⟩
      rw [c3] at hd
      cases hdst : (ops[i]).dst with
      | none => simp [Act.put, h1]
      | some t' =>
        have : t' ≠ t := fun e => hd (by rw [hdst, e])
        simp [Act.put, this, h1]
  obtain ⟨p, p1, p2, p3, hsim⟩ := I.sim
  -- what doesn't act
  have quiet_inv : ∀ (K' : KM) (v' : Value) (w' : World), Below B w w' → KLe K K' → (K' = K ∨ (ao.k.isN = true ∧ wantedE (st i).1 ao.guard = some true ∧ ∀ x, x ≠ (st i).2.n → K' x = K x)) → Sim B K' (st p).2 w' → VR K' (V i) v' →
      (ao.k.isE = true → i ≠ p) → ∃ K', Inv B ops as st V K0 a0 w0 (listed.setIfInBounds i true) K' (a.put (ops[i]).dst v') w' := by
    intro K' v' w' b1 b2 b3 b5 b6 hEf
    refine ⟨K', ⟨by simp [I.size], hclosed, henv K' v' b2 b6, ⟨p, p1, fun j aj hj haj hE => ?_, fun aj haj => ?_, b5⟩, fun j aj haj hN hwj hl => ?_, I.below.trans b1, I.le.trans b2, by rw [put_defers, I.defers], by rw [put_size, I.tsize], fun x hx hn => ?_⟩⟩
    · rw [getD_set hisz]
      by_cases e : j = i
      · rw [if_pos e]
      · rw [if_neg e]; exact p2 j aj hj haj hE
    · obtain ⟨q1, q2⟩ := p3 aj haj
      refine ⟨q1, ?_⟩
      rw [getD_set hisz]
      by_cases e : p = i
      · subst e; rw [hao] at haj; cases haj; exact absurd rfl (hEf q1)
      · rw [if_neg e]; exact q2
    · rw [getD_set hisz] at hl
      by_cases e : j = i
      · rw [if_pos e] at hl; cases hl
      · rw [if_neg e] at hl
        have hold := I.fresh j aj haj hN hwj hl
        rcases b3 with b3 | ⟨hNi, hwi, b3⟩
        · rw [b3]; exact hold
        · rw [b3 _ (d.ids haj hao hN hwj hNi hwi e)]; exact hold
    · have hx' := I.old x hx hn
      rcases b3 with b3 | ⟨hNi, hwi, b3⟩
      · rw [b3]; exact hx'
      · have := d.mono' i 0 (by omega)
        rw [Nat.zero_add] at this
        rw [b3 _ (by omega)]; exact hx'
  unfold wpOp
  rw [ho]
  simp only
  have hwg : ∀ b, wantedE (st i).1 ao.guard = some b → Region.wanted ops[i] (yielded ops a.tmps) = b := fun b hb => wanted_ok hER c1 (by rw [restrict_wanted]; exact hb)
  rcases d.step i ao hao with ⟨hw, s1, s2, s3⟩ | ⟨hw, xs, s2, s3, s4⟩
  · -- it isn't asked for
    rw [hwg false hw]
    simp only [Bool.false_eq_true, if_false]
    by_cases hE : ao.k.isE = true ∧ i = p
    · -- an acting one that isn't asked for: the next one that acts
      obtain ⟨hE, rfl⟩ := hE
      obtain ⟨p', q1, q2, q3, q4⟩ := d.next (ops.size - (i + 1)) (i + 1) (by omega)
      have hs1 : Sim B K (st (i + 1)).2 w := by rw [s3]; exact hsim
      have hs2 : Sim B K (st p').2 w := by
        have := d.forward (Φ := fun h => Sim B K h w) (fun h ob hh => hh.push ob) (p' - (i + 1)) (i + 1) (by omega) (fun j aj h1 h2 h3 => q3 j aj h1 (by omega) h3) hs1
        rwa [show i + 1 + (p' - (i + 1)) = p' by omega] at this
      refine ⟨K, ⟨by simp [I.size], hclosed, henv K _ (KLe.refl _) (by rw [s2]; exact VR.undef), ⟨p', q2, fun j aj hj haj hE' => ?_, fun aj haj => ⟨q4 aj haj, ?_⟩, hs2⟩, fun j aj haj hN hwj hl => ?_, I.below, I.le, by rw [put_defers, I.defers], by rw [put_size, I.tsize], I.old⟩⟩
      · rw [getD_set hisz]
        by_cases e : j = i
        · rw [if_pos e]
        · rw [if_neg e]
          rcases Nat.lt_or_ge j i with h | h
          · exact p2 j aj h haj hE'
          · rw [q3 j aj (by omega) hj haj] at hE'; cases hE'
      · rw [getD_set hisz, if_neg (by omega)]
        cases hl : listed.getD p' false with
        | false => rfl
        | true =>
          rcases d.pairs hao haj (by omega) with hp | hp
          · rw [notbef p' hl] at hp; cases hp
          · exact absurd ⟨hE, q4 aj haj⟩ hp.2.2.2.2.1
      · rw [getD_set hisz] at hl
        by_cases e : j = i
        · rw [if_pos e] at hl; cases hl
        · rw [if_neg e] at hl; exact I.fresh j aj haj hN hwj hl
    · exact quiet_inv K _ w (Below.refl _ _) (KLe.refl _) (.inl rfl) hsim (by rw [s2]; exact VR.undef) (fun h e => hE ⟨h, e⟩)
  · rw [hwg true hw]
    simp only [if_true]
    left
    have hev : evs (restrict (st i).1 (readsOf ao)) ao.xs = some xs := by rw [restrict_evs]; exact s2
    -- what acts, of what isn't listed
    have hEp : ao.k.isE = true → i = p := by
      intro hE
      rcases Nat.lt_trichotomy i p with h | h | h
      · rw [p2 i ao h hao hE] at hnotf; cases hnotf
      · exact h
      · have hpl : p < as.length := by omega
        have hp0 := List.getElem?_eq_getElem hpl
        obtain ⟨q1, q2⟩ := p3 _ hp0
        rcases d.pairs hp0 hao h with hp | hp
        · rw [hbef p hp] at q2; cases q2
        · exact absurd ⟨q1, hE⟩ hp.2.2.2.2.1
    by_cases hE : ao.k.isE = true
    · have hip := hEp hE
      subst hip
      refine eff_ok d.cfOk hER hsim hco hntA hev hE s3 (fun K' v' w' k1 k2 k3 k4 k5 => ?_)
      obtain ⟨p', q1, q2, q3, q4⟩ := d.next (ops.size - (i + 1)) (i + 1) (by omega)
      have hs2 : Sim B K' (st p').2 w' := by
        have := d.forward (Φ := fun h => Sim B K' h w') (fun h ob hh => hh.push ob) (p' - (i + 1)) (i + 1) (by omega) (fun j aj h1 h2 h3 => q3 j aj h1 (by omega) h3) k3
        rwa [show i + 1 + (p' - (i + 1)) = p' by omega] at this
      refine ⟨K', ⟨by simp [I.size], hclosed, henv K' v' k2 k4, ⟨p', q2, fun j aj hj haj hE' => ?_, fun aj haj => ⟨q4 aj haj, ?_⟩, hs2⟩, fun j aj haj hN hwj hl => ?_, I.below.trans k1, I.le.trans k2, by rw [put_defers, I.defers], by rw [put_size, I.tsize], fun x hx hn => ?_⟩⟩
      · rw [getD_set hisz]
        by_cases e : j = i
        · rw [if_pos e]
        · rw [if_neg e]
          rcases Nat.lt_or_ge j i with h | h
          · exact p2 j aj h haj hE'
          · rw [q3 j aj (by omega) hj haj] at hE'; cases hE'
      · rw [getD_set hisz, if_neg (by omega)]
        cases hl : listed.getD p' false with
        | false => rfl
        | true =>
          rcases d.pairs hao haj (by omega) with hp | hp
          · rw [notbef p' hl] at hp; cases hp
          · exact absurd ⟨hE, q4 aj haj⟩ hp.2.2.2.2.1
      · rw [getD_set hisz] at hl
        by_cases e : j = i
        · rw [if_pos e] at hl; cases hl
        · rw [if_neg e] at hl
          rcases Nat.lt_or_ge j i with h | h
          · rcases d.pairs haj hao h with hp | hp
            · rw [hbef j hp] at hl; cases hl
            · exact absurd ⟨hN, hE⟩ hp.2.2.2.2.2.2
          · have h1 := d.mono' (j - (i + 1)) (i + 1) (by have := d.lt haj; have := d.len; omega)
            rw [show i + 1 + (j - (i + 1)) = j by omega] at h1
            cases hk : K' (st j).2.n with
            | none => rfl
            | some inf => have := k3.dom _ _ hk; omega
      · have := d.mono' i 0 (by omega)
        rw [Nat.zero_add] at this
        exact k5 x (by omega) (I.old x hx hn)
    · -- nothing that acts stands between
      have hEf : ao.k.isE = false := by simpa using hE
      cases hk : ao.k with
      | p q =>
        rw [hk] at s3 c2
        simp only [AK.ev] at s3
        split at s3
        · rename_i u hu
          simp only [Option.some.injEq, Prod.mk.injEq] at s3
          obtain ⟨s5, s6⟩ := s3
          obtain ⟨v', k1, k2⟩ := pop_ok (P := P) (w := w) hER c2 hev hu
          exact wp_of_runs (.inl k1) (quiet_inv K v' w (Below.refl _ _) (KLe.refl _) (.inl rfl) hsim (by rw [← s5]; exact k2) (fun h => absurd h hE))
        · cases s3
      | r q =>
        rw [hk] at s3 c2
        simp only [AK.ev] at s3
        split at s3
        · rename_i u hu
          simp only [Option.some.injEq, Prod.mk.injEq] at s3
          obtain ⟨s5, s6⟩ := s3
          obtain ⟨l, hl⟩ := compOp_opds c2
          have hops := opds_ok hER hl hev
          have hR : ao.k.isR = true := by rw [hk]; rfl
          have hchk := fun x hx => d.chk i x hx ao q xs u hao hw hk s2 hu
          have hval : q.ev xs (st p).2 = some u := by
            rcases Nat.lt_or_ge i p with hip | hip
            · have up : ∀ m, i + m ≤ p → q.ev xs (st (i + m)).2 = some u := by
                intro m
                induction m with
                | zero => intro _; exact hu
                | succ m ih =>
                  intro hm
                  have h1 := ih (by omega)
                  have hkl : i + m < as.length := by rw [d.len]; omega
                  have h2 := List.getElem?_eq_getElem hkl
                  cases hEk : as[i + m].k.isE with
                  | true =>
                    have hlst := p2 (i + m) _ (by omega) h2 hEk
                    have hm0 : m ≠ 0 := fun e => by
                      subst e
                      simp only [Nat.add_zero] at h2 hEk
                      rw [hao] at h2
                      have := Option.some.inj h2
                      rw [← this] at hEk
                      exact hE hEk
                    have := (openPairs_mem (B := befores ops.toList) hao h2 (by omega) (notbef _ hlst)).1 hR hEk
                    exact (hchk _ this).2
                  | false =>
                    rcases d.quiet _ _ h2 hEk with h3 | ⟨_, ob, h3⟩
                    · rw [show i + (m + 1) = i + m + 1 by omega, h3]; exact h1
                    · rw [show i + (m + 1) = i + m + 1 by omega, h3]; exact rop_push h1
              have := up (p - i) (by omega)
              rwa [show i + (p - i) = p by omega] at this
            · have down : ∀ m k, k + m = i → p ≤ k → q.ev xs (st k).2 = some u := by
                intro m
                induction m with
                | zero => intro k hk' _; rw [show k = i by omega]; exact hu
                | succ m ih =>
                  intro k hk' hpk
                  have h1 := ih (k + 1) (by omega) (by omega)
                  have hkl : k < as.length := by omega
                  have h2 := List.getElem?_eq_getElem hkl
                  have hpl : p < as.length := by omega
                  have hp0 := List.getElem?_eq_getElem hpl
                  obtain ⟨q1, q2⟩ := p3 _ hp0
                  have hnl : as[k].k.isE = true ∨ as[k].k.isN = true → listed.getD k false = false := by
                    intro hEN
                    cases hlk : listed.getD k false with
                    | false => rfl
                    | true =>
                      rcases Nat.lt_or_ge p k with h | h
                      · rcases d.pairs hp0 h2 h with hp | hp
                        · rw [I.closed p k hp hlk] at q2; cases q2
                        · rcases hEN with hEN | hEN
                          · exact absurd ⟨q1, hEN⟩ hp.2.2.2.2.1
                          · exact absurd ⟨q1, hEN⟩ hp.2.2.2.2.2.1
                      · have : k = p := by omega
                        subst this
                        rw [q2] at hlk; cases hlk
                  cases hEk : as[k].k.isE with
                  | true =>
                    have hnk := hnl (.inl hEk)
                    have hnb : bef (befores ops.toList) k i = false := by
                      cases hb : bef (befores ops.toList) k i with
                      | false => rfl
                      | true => rw [hbef k hb] at hnk; cases hnk
                    have := (openPairs_mem (B := befores ops.toList) h2 hao (by omega) hnb).2 hEk hR
                    exact (hchk _ this).1
                  | false =>
                    rcases d.quiet _ _ h2 hEk with h3 | ⟨hNk, ob, h3⟩
                    · rw [h3] at h1; exact h1
                    · rw [h3] at h1
                      have hwk : wantedE (st k).1 as[k].guard = some true := by
                        rcases d.step k _ h2 with ⟨_, _, _, h4⟩ | ⟨h4, _⟩
                        · rw [h4] at h3
                          have : (st k).2.n = ((st k).2.push ob).n := by rw [← h3]
                          rw [Heap.n_push] at this
                          omega
                        · exact h4
                      exact rop_unpush hops (I.fresh k _ h2 hNk hwk (hnl (.inr hNk))) h1
              exact down (i - p) p (by omega) (Nat.le_refl _)
          obtain ⟨v', k1, k2⟩ := rop_ok (P := P) hsim hER c2 hev hval
          exact wp_of_runs (.inl k1) (quiet_inv K v' w (Below.refl _ _) (KLe.refl _) (.inl rfl) hsim (by rw [← s5]; exact k2) (fun h => absurd h hE))
        · cases s3
      | n q =>
        rw [hk] at s3 c2
        simp only [AK.ev] at s3
        split at s3
        · rename_i ob hob
          simp only [Option.some.injEq, Prod.mk.injEq] at s3
          obtain ⟨s5, s6⟩ := s3
          have hN : ao.k.isN = true := by rw [hk]; rfl
          have hip : i < p := by
            rcases Nat.lt_or_ge i p with h | h
            · exact h
            · exfalso
              have hpl : p < as.length := by omega
              have hp0 := List.getElem?_eq_getElem hpl
              obtain ⟨q1, q2⟩ := p3 _ hp0
              have hne : p ≠ i := fun e => by subst e; rw [hao] at hp0; cases hp0; exact hE q1
              rcases d.pairs hp0 hao (by omega) with hp | hp
              · rw [hbef p hp] at q2; cases q2
              · exact hp.2.2.2.2.2.1 ⟨q1, hN⟩
          have hbetween : ∀ j aj, i < j → j < p → as[j]? = some aj → aj.k.isE = false := by
            intro j aj h1 h2 h3
            cases hEj : aj.k.isE with
            | false => rfl
            | true =>
              have hl := p2 j aj h2 h3 hEj
              rcases d.pairs hao h3 h1 with hp | hp
              · rw [notbef j hl] at hp; cases hp
              · exact absurd ⟨hN, hEj⟩ hp.2.2.2.2.2.2
          have hget : (st p).2.get (st i).2.n = some ob := by
            have h0 : (st (i + 1)).2.get (st i).2.n = some ob := by rw [← s6, Heap.get_push, if_pos rfl]
            have := d.forward (Φ := fun h => h.get (st i).2.n = some ob) (fun h ob' hh => get_push_some hh) (p - (i + 1)) (i + 1) (by omega) (fun j aj h1 h2 h3 => hbetween j aj (by omega) (by omega) h3) h0
            rwa [show i + 1 + (p - (i + 1)) = p by omega] at this
          have hobp : q.ob xs (st p).2 = some ob := by
            have := d.forward (Φ := fun h => q.ob xs h = some ob) (fun h ob' hh => nob_push hh) (p - i) i (by omega) (fun j aj h1 h2 h3 => by
              by_cases e : j = i
              · subst e; rw [hao] at h3; cases h3; exact hEf
              · exact hbetween j aj (by omega) (by omega) h3) hob
            rwa [show i + (p - i) = p by omega] at this
          have hlt : (st i).2.n < (st p).2.n := by
            have h1 := d.mono' (p - (i + 1)) (i + 1) (by omega)
            rw [show i + 1 + (p - (i + 1)) = p by omega, ← s6, Heap.n_push] at h1
            omega
          obtain ⟨v', w', K', k1, k2, k3, k4, k5, k6⟩ := nop_ok (P := P) (id := (st i).2.n) hsim hER c2 hev hobp (I.fresh i ao hao hN hw hnotf) hget hlt
          exact wp_of_runs k1 (quiet_inv K' v' w' k2 k3 (.inr ⟨hN, hw, k4⟩) k5 (by rw [← s5]; exact k6) (fun h => absurd h hE))
        · cases s3
      | e q => rw [hk] at hE; exact absurd rfl hE
      | call f => rw [hk] at hE; exact absurd rfl hE
      | callV => rw [hk] at hE; exact absurd rfl hE
end
end Go.Am

/- Whole regions; code; functions: what the abstract machine's run comes to, the model's run comes to. Own work. -/
namespace Go.Am
set_option linter.unusedVariables false
set_option linter.unusedSimpArgs false
open Go Go.RowKit
def CfMono (cf : CallF) : Prop := ∀ (f : Nat) (xs : List AV) (h : Heap) (v : AV) (h' : Heap), cf f xs h = some (v, h') → h.n ≤ h'.n
theorem step_mono {cf : CallF} (hm : CfMono cf) {ao : AOper} {e e1 : Env} {h h1 : Heap} (hs : stepOp cf ao e h = some (e1, h1)) : h.n ≤ h1.n := by
  rcases step_cases hs with ⟨_, _, rfl⟩ | ⟨_, xs, v, _, hv, _⟩
  · exact Nat.le_refl _
  · have hc : (∃ f ys, cf f ys h = some (v, h1)) → h.n ≤ h1.n := fun ⟨f, ys, hh⟩ => hm f ys h v h1 hh
    cases hk : ao.k with
    | p q =>
      rw [hk] at hv
      simp only [AK.ev] at hv
      split at hv <;> cases hv
      exact Nat.le_refl _
    | r q =>
      rw [hk] at hv
      simp only [AK.ev] at hv
      split at hv <;> cases hv
      exact Nat.le_refl _
    | n q =>
      rw [hk] at hv
      simp only [AK.ev] at hv
      split at hv <;> cases hv
      simp [Heap.n_push]
    | e q => rw [hk] at hv; exact eop_n hv
    | call f =>
      rw [hk] at hv
      simp only [AK.ev] at hv
      split at hv
      · exact hc ⟨_, _, hv⟩
      · cases hv
    | callV =>
      rw [hk] at hv
      simp only [AK.ev] at hv
      split at hv
      · exact hc ⟨_, _, hv⟩
      · cases hv
theorem runOps_mono {cf : CallF} (hm : CfMono cf) : ∀ (as : List AOper) {e e1 : Env} {h h1 : Heap}, runOps cf as e h = some (e1, h1) → h.n ≤ h1.n
  | [], e, e1, h, h1, hr => by cases hr; exact Nat.le_refl _
  | ao :: as, e, e1, h, h1, hr => by
    simp only [runOps] at hr
    split at hr
    · cases hr
    · rename_i e' h' hs
      exact Nat.le_trans (step_mono hm hs) (runOps_mono hm as hr)
section
variable {P : Program} {B : Nat}
theorem After.trans {K K1 K2 : KM} {a a1 a2 : Act} {w w1 w2 : World} {e1 e2 : Env} {H H1 H2 : Heap} (h : After B K a w e1 H H1 K1 a1 w1) (k : After B K1 a1 w1 e2 H1 H2 K2 a2 w2) (hm : H.n ≤ H1.n) : After B K a w e2 H H2 K2 a2 w2 :=
  ⟨h.below.trans k.below, h.le.trans k.le, k.er, k.sim, k.defers.trans h.defers, k.size.trans h.size, fun x hx hn => k.fresh x (by omega) (h.fresh x hx hn)⟩
theorem After.refl {K : KM} {a : Act} {w : World} {e : Env} {H : Heap} (he : ER K e a.tmps) (hs : Sim B K H w) : After B K a w e H H K a w :=
  ⟨Below.refl _ _, KLe.refl _, he, hs, rfl, rfl, fun _ _ h => h⟩
theorem seq_ok {cf : CallF} (hcf : CfOk P cf) (hm : CfMono cf) {nt : Nat} {ops : Array Oper} : ∀ (l : List Oper) (as : List AOper) {e e1 : Env} {H H1 : Heap} {K : KM} {a : Act} {w : World} {Q : Exit → Act → World → Prop}, compOps P nt ops.toList l = some as → runOps cf as e H = some (e1, H1) →
    ER K e a.tmps → Sim B K H w → nt ≤ a.tmps.size → (∀ K' a' w', After B K a w e1 H H1 K' a' w' → Q .normal a' w') → wpList P ops Q l a w
  | [], as, e, e1, H, H1, K, a, w, Q, hc, hr, he, hs, _, hQ => by
    cases hc; cases hr
    exact hQ K a w (After.refl he hs)
  | o :: l, as, e, e1, H, H1, K, a, w, Q, hc, hr, he, hs, hnt, hQ => by
    simp only [compOps] at hc
    split at hc
    · cases hc
    · rename_i ao hao
      split at hc
      · cases hc
      · rename_i as' has
        cases hc
        simp only [runOps] at hr
        split at hr
        · cases hr
        · rename_i e' h' hst
          unfold wpList
          exact step_ok hcf he hs hao hnt hst (fun K' a' w' hA => seq_ok hcf hm l as' has hr hA.er hA.sim (by rw [hA.size]; exact hnt) (fun K'' a'' w'' hA' => hQ K'' a'' w'' (hA.trans hA' (step_mono hm hst))))
theorem compOps_get {nt : Nat} {opsL : List Oper} : ∀ (l : List Oper) (as : List AOper), compOps P nt opsL l = some as → as.length = l.length ∧ ∀ (i : Nat) (o : Oper), l[i]? = some o → ∃ ao, as[i]? = some ao ∧ compOper P nt opsL o = some ao
  | [], as, h => by cases h; exact ⟨rfl, fun i o hi => by simp at hi⟩
  | o :: l, as, h => by
    simp only [compOps] at h
    split at h
    · cases h
    · rename_i ao hao
      split at h
      · cases h
      · rename_i as' has
        cases h
        obtain ⟨h1, h2⟩ := compOps_get l as' has
        refine ⟨by simp [h1], fun i o' hi => ?_⟩
        cases i with
        | zero => simp at hi; subst hi; exact ⟨ao, rfl, hao⟩
        | succ i => exact h2 i o' (by simpa using hi)
theorem trace_spec {cf : CallF} : ∀ (as : List AOper) {e e1 : Env} {h h1 : Heap}, runOps cf as e h = some (e1, h1) →
    (trace cf as e h)[0]? = some (e, h) ∧ (trace cf as e h)[as.length]? = some (e1, h1) ∧ ∀ (i : Nat) (ao : AOper), as[i]? = some ao → ∃ s s', (trace cf as e h)[i]? = some s ∧ (trace cf as e h)[i + 1]? = some s' ∧ stepOp cf ao s.1 s.2 = some s'
  | [], e, e1, h, h1, hr => by cases hr; exact ⟨rfl, rfl, fun i ao hi => by simp at hi⟩
  | ao :: as, e, e1, h, h1, hr => by
    simp only [runOps] at hr
    split at hr
    · cases hr
    · rename_i e' h' hs
      obtain ⟨t1, t2, t3⟩ := trace_spec as hr
      simp only [trace, hs]
      refine ⟨rfl, by simpa using t2, fun i ao' hi => ?_⟩
      cases i with
      | zero =>
        simp at hi; subst hi
        exact ⟨(e, h), (e', h'), rfl, by simpa using t1, hs⟩
      | succ i =>
        obtain ⟨s, s', g1, g2, g3⟩ := t3 i ao' (by simpa using hi)
        exact ⟨s, s', by simpa using g1, by simpa using g2, g3⟩
theorem sameAt_true {v : AV} {x : Option AV} (h : sameAt v x = true) : x = some v := by
  cases x with
  | none => cases h
  | some u => rw [AV.eq_of_beq v u h]
/-- **A region that draws its order.** -/
theorem draw_ok {cf : CallF} (hcf : CfOk P cf) (hm : CfMono cf) (hfol : P.follows .mixedOrders = true) {nt id : Nat} {ops : Array Oper} {as : List AOper} {ps : List (Nat × Nat)} {e e1 : Env} {H H1 : Heap} {K : KM} {a : Act} {w : World} {Q : Exit → Act → World → Prop}
    (hc : compD P nt ops.toList = some (.dregion as ps)) (hr : runOps cf as e H = some (e1, H1)) (hchk : ps.all (chkPair as (trace cf as e H)) = true)
    (he : ER K e a.tmps) (hs : Sim B K H w) (hnt : nt ≤ a.tmps.size) (hQ : ∀ K' a' w', After B K a w e1 H H1 K' a' w' → Q .normal a' w') : (Code.region id ops true).wp P Q a w := by
  unfold compD at hc
  split at hc
  · cases hc
  · rename_i as' has
    split at hc
    · rename_i hb
      cases hc
      simp only [Bool.and_eq_true] at hb
      obtain ⟨hedge, hpair⟩ := hb
      obtain ⟨l1, l2⟩ := compOps_get _ _ has
      obtain ⟨t1, t2, t3⟩ := trace_spec as hr
      let st : Nat → Env × Heap := fun i => ((trace cf as e H)[i]?).getD (e, H)
      have hst : ∀ (i : Nat) (ao : AOper), as[i]? = some ao → stepOp cf ao (st i).1 (st i).2 = some (st (i + 1)) := by
        intro i ao hi
        obtain ⟨s, s', g1, g2, g3⟩ := t3 i ao hi
        simp only [st, g1, g2, Option.getD_some]; exact g3
      have hV : ∀ i, ∃ v, ∀ ao, as[i]? = some ao → StepIs cf ao (st i) v (st (i + 1)) := by
        intro i
        cases hi : as[i]? with
        | none => exact ⟨.undef, fun ao h => by cases h⟩
        | some ao =>
          obtain ⟨v, hv⟩ := stepIs (hst i ao hi)
          exact ⟨v, fun ao' h => by cases h; exact hv⟩
      obtain ⟨V, hV⟩ := Classical.axiomOfChoice hV
      have hlen : as.length = ops.size := by rw [l1]; simp
      have hst0 : st 0 = (e, H) := by simp only [st, t1, Option.getD_some]
      have hstn : st ops.size = (e1, H1) := by rw [← hlen]; simp only [st, t2, Option.getD_some]
      have d : DC P cf nt ops as st V := {
        cfOk := hcf
        len := hlen
        co := fun i o ho => l2 i o (by rw [Array.getElem?_toList]; exact ho)
        step := fun i ao hi => hV i ao hi
        mono := fun i ao hi => step_mono hm (show stepOp cf ao (st i).1 (st i).2 = some ((st (i + 1)).1, (st (i + 1)).2) from hst i ao hi)
        quiet := fun i ao hi hE => heap_of_quiet (show stepOp cf ao (st i).1 (st i).2 = some ((st (i + 1)).1, (st (i + 1)).2) from hst i ao hi) hE
        pair := fun i j hij hj => allPairs_spec hpair hij (by omega)
        edge := fun i o ho ed hed hbd => by
          have hi : i < ops.toList.length := by
            rcases Nat.lt_or_ge i ops.size with h | h
            · simpa using h
            · rw [Array.getElem?_eq_none h] at ho; cases ho
          have h1 := List.all_eq_true.1 hedge i (List.mem_range.2 hi)
          rw [Array.getElem?_toList, ho] at h1
          simp only at h1
          obtain ⟨j, hj, rfl⟩ := Array.mem_iff_getElem.1 hed
          have h2 := Array.all_eq_true.1 h1 j hj
          rw [hbd] at h2
          simp only [Bool.not_true, Bool.false_or] at h2
          exact Nat.le_of_ble_eq_true h2
        chk := fun r x hrx ao q xs v hao hw hk hev hv => by
          have h1 := List.all_eq_true.1 hchk (r, x) hrx
          obtain ⟨s, s', g1, g2, g3⟩ := t3 r ao hao
          have hsr : st r = s := by simp only [st, g1, Option.getD_some]
          rw [hsr] at hw hev hv
          obtain ⟨se, sh⟩ := s
          unfold chkPair at h1
          simp only [hao, g1] at h1
          cases hx1 : (trace cf as e H)[x]? with
          | none => rw [hx1] at h1; cases h1
          | some sx =>
            cases hx2 : (trace cf as e H)[x + 1]? with
            | none => rw [hx1, hx2] at h1; cases h1
            | some sx' =>
              have e1 : st x = sx := by simp only [st, hx1, Option.getD_some]
              have e2 : st (x + 1) = sx' := by simp only [st, hx2, Option.getD_some]
              rw [e1, e2]
              rw [hx1, hx2] at h1
              simp only at hw hev hv h1
              rw [hw] at h1
              simp only at h1
              rw [hk, hev] at h1
              simp only at h1
              rw [hv] at h1
              simp only [Bool.and_eq_true] at h1
              exact ⟨sameAt_true h1.1, sameAt_true h1.2⟩ }
      have fin : ∀ (listed : Array Bool) (K' : KM) (a' : Act) (w' : World), Inv B ops as st V K a w listed K' a' w' → Region.ready .any ops listed = [] → Q .normal a' w' := by
        intro listed K' a' w' I hready
        have hall : ∀ m i, i < m → i < ops.size → listed.getD i false = true := by
          intro m
          induction m with
          | zero => intro i hi _; omega
          | succ m ih =>
            intro i hi hin
            cases hl : listed.getD i false with
            | true => rfl
            | false =>
              exfalso
              have ho := Array.getElem?_eq_getElem hin
              have hisz : i < listed.size := by rw [I.size]; exact hin
              have hm : i ∈ Region.ready .any ops listed := by
                unfold Region.ready
                refine List.mem_filter.2 ⟨List.mem_range.2 hin, ?_⟩
                simp only [Bool.and_eq_true, Bool.not_eq_true']
                constructor
                · rw [Array.getD_eq_getD_getElem?, Array.getElem?_eq_getElem hisz] at hl ⊢
                  simpa using hl
                · rw [ho]
                  simp only [Option.map_some, Option.getD_some, Array.all_eq_true, Bool.or_eq_true, Bool.not_eq_true']
                  intro j hj
                  cases hb : Region.binds .any (ops[i].after[j]) with
                  | false => exact .inl rfl
                  | true =>
                    right
                    have := d.edge i _ ho _ (Array.getElem_mem hj) hb
                    exact ih _ (by omega) (by omega)
              rw [hready] at hm
              cases hm
        obtain ⟨p, p1, p2, p3, hsim⟩ := I.sim
        have hpn : p = ops.size := by
          rcases Nat.lt_or_ge p ops.size with h | h
          · have hp0 := List.getElem?_eq_getElem (show p < as.length by omega)
            have := (p3 _ hp0).2
            rw [hall (p + 1) p (by omega) h] at this
            cases this
          · omega
        subst hpn
        rw [hstn] at hsim
        refine hQ K' a' w' ⟨I.below, I.le, fun t v ht => ?_, hsim, I.defers, I.tsize, fun x hx hn => I.old x (by rw [hst0]; exact hx) hn⟩
        refine I.env t v ?_
        have h1 : (st ops.size).1.get t = some v := by rw [hstn]; exact ht
        rw [d.env_text t ops.size (by omega)] at h1
        rw [← h1]
        refine mixAt_congr as 0 _ fun j aj hj _ => ?_
        have := d.lt hj
        rw [Nat.zero_add, hall (j + 1) j (by omega) (by omega)]
        simp; omega
      have all : ∀ (fuel : Nat) (listed : Array Bool) (K' : KM) (a' : Act) (w' : World), Inv B ops as st V K a w listed K' a' w' → (List.range ops.size).countP (fun i => !listed.getD i false) ≤ fuel → wpAny P .any ops Q fuel listed a' w' := by
        intro fuel
        induction fuel with
        | zero =>
          intro listed K' a' w' I hcnt
          have hready : Region.ready .any ops listed = [] := by
            rw [List.eq_nil_iff_forall_not_mem]
            intro i hi
            unfold Region.ready at hi
            obtain ⟨h1, h2⟩ := List.mem_filter.1 hi
            have h3 : (List.range ops.size).countP (fun i => !listed.getD i false) = 0 := by omega
            rw [List.countP_eq_zero] at h3
            have h4 := h3 i h1
            simp only [Bool.and_eq_true, Bool.not_eq_true'] at h2
            have hin := List.mem_range.1 h1
            have hisz : i < listed.size := by rw [I.size]; exact hin
            have h5 := h2.1
            rw [Array.getD_eq_getD_getElem?, Array.getElem?_eq_getElem hisz] at h5 h4
            simp at h5 h4
            rw [h5] at h4; cases h4
          exact ⟨hready, fin listed K' a' w' I hready⟩
        | succ fuel ih =>
          intro listed K' a' w' I hcnt
          refine ⟨fun hready => fin listed K' a' w' I hready, fun i hi => ?_⟩
          refine wpOp_mono (fun a2 w2 h2 => ?_) (d.step_ok hnt I hi Q)
          obtain ⟨K2, I2⟩ := h2
          refine ih _ K2 a2 w2 I2 ?_
          unfold Region.ready at hi
          obtain ⟨h1, h2⟩ := List.mem_filter.1 hi
          have hin := List.mem_range.1 h1
          have hisz : i < listed.size := by rw [I.size]; exact hin
          simp only [Bool.and_eq_true, Bool.not_eq_true'] at h2
          have hnl : listed.getD i false = false := by
            have h5 := h2.1
            rw [Array.getD_eq_getD_getElem?, Array.getElem?_eq_getElem hisz] at h5 ⊢
            simpa using h5
          have key : ∀ (l : List Nat), i ∈ l → l.countP (fun j => !(listed.setIfInBounds i true).getD j false) < l.countP (fun j => !listed.getD j false) := by
            intro l
            induction l with
            | nil => intro h; cases h
            | cons x l ihl =>
              intro hm
              simp only [List.countP_cons]
              have hle : l.countP (fun j => !(listed.setIfInBounds i true).getD j false) ≤ l.countP (fun j => !listed.getD j false) := by
                refine List.countP_mono_left fun j _ hj => ?_
                rw [getD_set hisz] at hj
                by_cases e : j = i
                · rw [if_pos e] at hj; cases hj
                · rw [if_neg e] at hj; exact hj
              by_cases e : x = i
              · subst e
                rw [getD_set hisz, if_pos rfl, hnl]
                simp only [Bool.not_true, Bool.not_false, Bool.false_eq_true, if_false, if_true]
                omega
              · have := ihl (by
                  rcases List.mem_cons.1 hm with h | h
                  · exact absurd h.symm e
                  · exact h)
                rw [getD_set hisz, if_neg e]
                omega
          have := key _ h1
          omega
      have hs' : Sim B K H { w with drawn := w.drawn + 1 } := hs.drew rfl
      obtain ⟨p0, q1, q2, q3, q4⟩ := d.next ops.size 0 (by omega)
      have hs0 : Sim B K (st p0).2 { w with drawn := w.drawn + 1 } := by
        have := d.forward (Φ := fun h => Sim B K h { w with drawn := w.drawn + 1 }) (fun h ob hh => hh.push ob) p0 0 (by omega) (fun j aj h1 h2 h3 => q3 j aj h1 (by omega) h3) (by rw [hst0]; exact hs')
        rwa [Nat.zero_add] at this
      have hrep : ∀ j, (Array.replicate ops.size false).getD j false = false := by
        intro j
        rw [Array.getD_eq_getD_getElem?, Array.getElem?_replicate]
        split <;> rfl
      refine wp_region_any hfol (all _ _ K a _ ⟨by simp, (fun i j _ hj => by rw [hrep] at hj; cases hj), fun t v hm => ?_, ⟨p0, q2, (fun j aj hj haj hE => by rw [q3 j aj (by omega) hj haj] at hE; cases hE), fun aj haj => ⟨q4 aj haj, hrep _⟩, hs0⟩, fun i ai hi _ _ _ => ?_, ⟨rfl, rfl, rfl, Nat.le_refl _, fun _ _ => rfl⟩, KLe.refl _, rfl, rfl, fun _ _ h => h⟩ ?_)
      · rw [mixAt_none as 0 _ (fun j aj _ _ => by rw [Nat.zero_add]; exact hrep j), hst0] at hm
        exact he t v hm
      · cases hk : K (st i).2.n with
        | none => rfl
        | some inf =>
          have h1 := hs.dom _ _ hk
          have h2 := d.mono' i 0 (by have := d.lt hi; omega)
          rw [Nat.zero_add, hst0] at h2
          simp only at h2
          omega
      · exact Nat.le_trans List.countP_le_length (by simp)
    · cases hc
end
end Go.Am

/- Code and functions: what the abstract machine's run comes to, the model's run comes to. Own work. -/
namespace Go.Am
set_option linter.unusedVariables false
set_option linter.unusedSimpArgs false
open Go Go.RowKit
def AX.exit? : AX → Exit
  | .normal => .normal
  | .exit id => .exit id
  | .ret => .ret
/-- A function of the table is the program's. -/
structure FnOk (P : Program) (f : Nat) (fn : AFn) : Prop where
  ok : ∃ func c, P.funcs[f]? = some func ∧ func.body = some c ∧ compFn P func = some fn
  enters : ∀ (ys : Array Value) (w : World), (callFunc f ys).run P w = .ok (.enter f ys) w
structure TabOk (P : Program) (F : Nat → Option AFn) : Prop where
  follows : P.follows .mixedOrders = true
  fns : ∀ f fn, F f = some fn → FnOk P f fn
section
variable {P : Program} {B : Nat} {F : Nat → Option AFn}
theorem callN_of {n f : Nat} {xs : List AV} {h h' : Heap} {v : AV} (hc : callN F n f xs h = some (v, h')) : ∃ fn x e', F f = some fn ∧ xs.length = fn.np ∧ (x = .normal ∨ x = .ret) ∧ run F n fn.code (envOf 0 xs .nil) h = some (x, e', h') ∧ resOf e' h' fn.res = some v := by
  unfold callN at hc
  split at hc
  · cases hc
  · rename_i fn hF
    split at hc
    · rename_i hl
      split at hc
      · rename_i e' h2 hr
        split at hc
        · rename_i u hu; cases hc; exact ⟨fn, _, e', hF, hl, .inl rfl, hr, hu⟩
        · cases hc
      · rename_i e' h2 hr
        split at hc
        · rename_i u hu; cases hc; exact ⟨fn, _, e', hF, hl, .inr rfl, hr, hu⟩
        · cases hc
      · cases hc
    · cases hc
theorem run_cf (n : Nat) : (fun f xs h => match F f with
      | none => none
      | some fn => if xs.length = fn.np then match run F n fn.code (envOf 0 xs .nil) h with
        | some (.normal, e', h') => match resOf e' h' fn.res with
          | some v => some (v, h')
          | none => none
        | some (.ret, e', h') => match resOf e' h' fn.res with
          | some v => some (v, h')
          | none => none
        | _ => none else none : CallF) = callN F n := rfl
/-- The run's equations. -/
theorem run_succ (n : Nat) (c : ACode) (e : Env) (h : Heap) : run F (n + 1) c e h = match c with
    | .skip => some (.normal, e, h)
    | .seq a b => match run F n a e h with
      | some (.normal, e', h') => run F n b e' h'
      | r => r
    | .cond c t f => match c.ev e with
      | some (.bool b) => bif b then run F n t e h else run F n f e h
      | _ => none
    | .block id b => match run F n b e h with
      | some (.exit id', e', h') => if id' = id then some (.normal, e', h') else some (.exit id', e', h')
      | r => r
    | .loop b => match run F n b e h with
      | some (.normal, e', h') => run F n (.loop b) e' h'
      | r => r
    | .exit id => some (.exit id, e, h)
    | .ret => some (.ret, e, h)
    | .region ops => match runOps (callN F n) ops e h with
      | some (e', h') => some (.normal, e', h')
      | none => none
    | .dregion ops ps => match runOps (callN F n) ops e h with
      | some (e', h') => bif ps.all (chkPair ops (trace (callN F n) ops e h)) then some (.normal, e', h') else none
      | none => none := by cases c <;> rfl
theorem run_mono_n : ∀ (n : Nat) (c : ACode) (e : Env) (h : Heap) (x : AX) (e' : Env) (h' : Heap), run F n c e h = some (x, e', h') → h.n ≤ h'.n
  | 0, c, e, h, x, e', h', hr => by cases hr
  | n + 1, c, e, h, x, e', h', hr => by
    have hm : CfMono (callN F n) := by
      intro f xs h v h' hc
      obtain ⟨fn, x, e', _, _, _, hr, _⟩ := callN_of hc
      exact run_mono_n n _ _ _ _ _ _ hr
    rw [run_succ] at hr
    cases c with
    | skip => cases hr; exact Nat.le_refl _
    | seq a b =>
      simp only at hr
      split at hr
      · rename_i e1 h1 hr1
        exact Nat.le_trans (run_mono_n n _ _ _ _ _ _ hr1) (run_mono_n n _ _ _ _ _ _ hr)
      · exact run_mono_n n _ _ _ _ _ _ hr
    | cond c t f =>
      simp only at hr
      split at hr
      · rename_i b _
        cases b
        · exact run_mono_n n _ _ _ _ _ _ hr
        · exact run_mono_n n _ _ _ _ _ _ hr
      · cases hr
    | block id b =>
      simp only at hr
      split at hr
      · rename_i id' e1 h1 hr1
        split at hr <;> cases hr <;> exact run_mono_n n _ _ _ _ _ _ hr1
      · exact run_mono_n n _ _ _ _ _ _ hr
    | loop b =>
      simp only at hr
      split at hr
      · rename_i e1 h1 hr1
        exact Nat.le_trans (run_mono_n n _ _ _ _ _ _ hr1) (run_mono_n n _ _ _ _ _ _ hr)
      · exact run_mono_n n _ _ _ _ _ _ hr
    | exit id => cases hr; exact Nat.le_refl _
    | ret => cases hr; exact Nat.le_refl _
    | region ops =>
      simp only at hr
      split at hr
      · rename_i e1 h1 hr1; cases hr; exact runOps_mono hm _ hr1
      · cases hr
    | dregion ops ps =>
      simp only at hr
      split at hr
      · rename_i e1 h1 hr1
        cases hb : ps.all (chkPair ops (trace (callN F n) ops e h)) with
        | false => rw [hb] at hr; cases hr
        | true => rw [hb] at hr; cases hr; exact runOps_mono hm _ hr1
      · cases hr
theorem callN_mono (n : Nat) : CfMono (callN F n) := by
  intro f xs h v h' hc
  obtain ⟨fn, x, e', _, _, _, hr, _⟩ := callN_of hc
  exact run_mono_n n _ _ _ _ _ _ hr
theorem envOf_get : ∀ (xs : List AV) (i : Nat) (e : Env) (t : Nat), (envOf i xs e).get t = if i ≤ t ∧ t < i + xs.length then xs[t - i]? else e.get t
  | [], i, e, t => by simp [envOf]; intro h1 h2; omega
  | x :: xs, i, e, t => by
    rw [envOf, envOf_get xs (i + 1) _ t, T.get_set]
    by_cases h : t = i
    · subst h; rw [if_neg (by omega), if_pos rfl, if_pos (by simp), Nat.sub_self]; rfl
    · by_cases h2 : i + 1 ≤ t ∧ t < i + 1 + xs.length
      · rw [if_pos h2, if_pos (by simp; omega), show t - i = (t - (i + 1)) + 1 by omega]; simp
      · rw [if_neg h2, if_neg h, if_neg (by simp; omega)]
theorem res_ok {K : KM} {H : Heap} {w : World} {e : Env} {tmps : Array Value} (he : ER K e tmps) (hs : Sim B K H w) : ∀ {rs : List ResultVar} {as : List ARes} {vs : List AV}, compRes P rs = some as → resAll e H as = some vs →
    ∃ xs : List Value, (rs.mapM fun
      | .tmp t => pure (tmps.getD t Go.undef)
      | .cell a t => do loadVar t (← asAddr (tmps.getD a Go.undef)) : Sem (List Value)).run P w = .ok xs w ∧ VRs K vs xs
  | [], as, vs, hc, hv => by cases hc; cases hv; exact ⟨[], rfl, VRs.nil⟩
  | r :: rs, as, vs, hc, hv => by
    simp only [compRes] at hc
    split at hc
    · cases hc
    · rename_i as' has
      have rest : ∀ (a : ARes) (v : AV), as = a :: as' → resOne e H a = some v → (∃ x, (match r with
          | .tmp t => pure (tmps.getD t Go.undef)
          | .cell a t => do loadVar t (← asAddr (tmps.getD a Go.undef)) : Sem Value).run P w = .ok x w ∧ VR K v x) →
          ∃ xs : List Value, ((r :: rs).mapM fun
            | .tmp t => pure (tmps.getD t Go.undef)
            | .cell a t => do loadVar t (← asAddr (tmps.getD a Go.undef)) : Sem (List Value)).run P w = .ok xs w ∧ VRs K vs xs := by
        intro a v ha hone ⟨x, hx1, hx2⟩
        subst ha
        simp only [resAll, hone] at hv
        split at hv
        · cases hv
        · rename_i vs' hvs
          cases hv
          obtain ⟨xs, g1, g2⟩ := res_ok he hs has hvs
          refine ⟨x :: xs, ?_, VRs.cons hx2 g2⟩
          rw [List.mapM_cons, Sem.run_bind, hx1, Result.andThen_ok, Sem.run_bind, g1, Result.andThen_ok]
          rfl
      have one : ∀ a, as = a :: as' → ∃ v, resOne e H a = some v := by
        intro a ha
        subst ha
        simp only [resAll] at hv
        split at hv
        · cases hv
        · rename_i v hv1; exact ⟨v, hv1⟩
      have getd : ∀ t v, e.get t = some v → VR K v (tmps.getD t Go.undef) := by
        intro t v ht
        obtain ⟨x, h1, h2⟩ := he t v ht
        rw [Array.getD_eq_getD_getElem?, h1]; exact h2
      split at hc
      · rename_i t
        cases hc
        obtain ⟨v, hv1⟩ := one _ rfl
        exact rest _ v rfl hv1 ⟨_, rfl, getd t v hv1⟩
      · rename_i a t
        have cellc : ∀ (q : ROp) (ar : ARes) (v : AV), as = ar :: as' → resOne e H ar = some v → (resOne e H ar = match e.get a with
            | some x => q.ev [x] H
            | none => none) → (∀ u x', VR K u x' → q.ev [u] H = some v → Yields P (Instr.loadAt t x') w K v) → ∃ xs : List Value, ((ResultVar.cell a t :: rs).mapM fun
            | .tmp t => pure (tmps.getD t Go.undef)
            | .cell a t => do loadVar t (← asAddr (tmps.getD a Go.undef)) : Sem (List Value)).run P w = .ok xs w ∧ VRs K vs xs := by
          intro q ar v ha hv1 heq hy
          rw [heq] at hv1
          cases hg : e.get a with
          | none => rw [hg] at hv1; cases hv1
          | some u =>
            rw [hg] at hv1
            have hu := getd a u hg
            obtain ⟨x, h1, h2⟩ := hy u _ hu hv1
            refine rest ar v ha (by rw [heq, hg]; exact hv1) ⟨x, ?_, h2⟩
            simp only
            unfold Instr.loadAt at h1
            generalize tmps.getD a Go.undef = z at h1
            simp only [Sem.run_bind] at h1 ⊢
            cases z <;> first | (simp only [Instr.sureAddr, run_stuck, Result.andThen_halt] at h1; cases h1; done) | skip
            rename_i ad
            cases ad with
            | none => simp only [Instr.sureAddr, run_stuck, Result.andThen_halt] at h1; cases h1
            | some ad => simpa only [Instr.sureAddr, asAddr] using h1
        split at hc
        · rename_i n ha hn
          cases hc
          obtain ⟨v, hv1⟩ := one _ rfl
          refine cellc (.loadN n) _ v rfl hv1 rfl fun u x' hu hq => ?_
          cases u <;> first | (simp only [ROp.ev] at hq; cases hq; done) | skip
          simp only [ROp.ev] at hq
          split at hq
          · rename_i cs hcs; cases hq; exact loadN_ok hs hu hcs ha hn
          · cases hq
        · rename_i n ha hn
          cases hc
          obtain ⟨v, hv1⟩ := one _ rfl
          refine cellc .load1 _ v rfl hv1 rfl fun u x' hu hq => ?_
          cases u <;> first | (simp only [ROp.ev] at hq; cases hq; done) | skip
          simp only [ROp.ev] at hq
          split at hq
          · rename_i x hcs; cases hq; exact load1_ok hs hu hcs ha
          · cases hq
        · cases hc
/-- One that answers more. -/
def CfLe (c c' : CallF) : Prop := ∀ (f : Nat) (xs : List AV) (h : Heap) (r : AV × Heap), c f xs h = some r → c' f xs h = some r
theorem ak_le {c c' : CallF} (hc : CfLe c c') {k : AK} {xs : List AV} {h : Heap} {r : AV × Heap} (hr : k.ev c xs h = some r) : k.ev c' xs h = some r := by
  cases k with
  | p q => exact hr
  | r q => exact hr
  | n q => exact hr
  | e q => exact hr
  | call f =>
    simp only [AK.ev] at hr ⊢
    split at hr
    · exact hc _ _ _ _ hr
    · cases hr
  | callV =>
    simp only [AK.ev] at hr ⊢
    split at hr
    · exact hc _ _ _ _ hr
    · cases hr
theorem step_le {c c' : CallF} (hc : CfLe c c') {ao : AOper} {e : Env} {h : Heap} {r : Env × Heap} (hr : stepOp c ao e h = some r) : stepOp c' ao e h = some r := by
  unfold stepOp at hr ⊢
  split at hr
  · cases hr
  · exact hr
  · split at hr
    · cases hr
    · split at hr
      · cases hr
      · rename_i v h' hv
        rw [ak_le hc hv]; exact hr
theorem runOps_le {c c' : CallF} (hc : CfLe c c') : ∀ (as : List AOper) {e : Env} {h : Heap} {r : Env × Heap}, runOps c as e h = some r → runOps c' as e h = some r ∧ trace c' as e h = trace c as e h
  | [], _, _, _, hr => ⟨hr, rfl⟩
  | ao :: as, e, h, r, hr => by
    simp only [runOps] at hr ⊢
    split at hr
    · cases hr
    · rename_i e' h' hs
      have hs' := step_le hc hs
      obtain ⟨g1, g2⟩ := runOps_le hc as hr
      simp only [trace, hs, hs', g2, and_true]
      exact g1
theorem callN_of_run {n m : Nat} (h : ∀ (c : ACode) (e : Env) (h : Heap) (r : AX × Env × Heap), run F n c e h = some r → run F m c e h = some r) : CfLe (callN F n) (callN F m) := by
  intro f xs hp r hc
  unfold callN at hc ⊢
  split at hc
  · cases hc
  · rename_i fn hF
    split at hc
    · rename_i hl
      rw [if_pos hl]
      cases hr : run F n fn.code (envOf 0 xs .nil) hp with
      | none => rw [hr] at hc; cases hc
      | some q => rw [hr] at hc; rw [h _ _ _ _ hr]; exact hc
    · cases hc
theorem run_fuel : ∀ (n : Nat) (c : ACode) (e : Env) (h : Heap) (r : AX × Env × Heap), run F n c e h = some r → run F (n + 1) c e h = some r
  | 0, c, e, h, r, hr => by cases hr
  | n + 1, c, e, h, r, hr => by
    have ih := run_fuel n
    have hcf := callN_of_run ih
    rw [run_succ] at hr
    rw [run_succ]
    cases c with
    | skip => exact hr
    | exit id => exact hr
    | ret => exact hr
    | seq a b =>
      simp only at hr ⊢
      cases h1 : run F n a e h with
      | none => rw [h1] at hr; cases hr
      | some q =>
        rw [h1] at hr
        rw [ih _ _ _ _ h1]
        obtain ⟨x, e', h'⟩ := q
        cases x with
        | normal => exact ih _ _ _ _ hr
        | exit id => exact hr
        | ret => exact hr
    | cond c t f =>
      simp only at hr ⊢
      split at hr
      · rename_i b hb
        cases b
        · exact ih _ _ _ _ hr
        · exact ih _ _ _ _ hr
      · cases hr
    | block id b =>
      simp only at hr ⊢
      cases h1 : run F n b e h with
      | none => rw [h1] at hr; cases hr
      | some q => rw [h1] at hr; rw [ih _ _ _ _ h1]; exact hr
    | loop b =>
      simp only at hr ⊢
      cases h1 : run F n b e h with
      | none => rw [h1] at hr; cases hr
      | some q =>
        rw [h1] at hr
        rw [ih _ _ _ _ h1]
        obtain ⟨x, e', h'⟩ := q
        cases x with
        | normal => exact ih _ _ _ _ hr
        | exit id => exact hr
        | ret => exact hr
    | region ops =>
      simp only at hr ⊢
      cases h1 : runOps (callN F n) ops e h with
      | none => rw [h1] at hr; cases hr
      | some q => rw [h1] at hr; rw [(runOps_le hcf ops h1).1]; exact hr
    | dregion ops ps =>
      simp only at hr ⊢
      cases h1 : runOps (callN F n) ops e h with
      | none => rw [h1] at hr; cases hr
      | some q =>
        rw [h1] at hr
        obtain ⟨g1, g2⟩ := runOps_le hcf ops h1
        rw [g1, g2]; exact hr
theorem run_le {n m : Nat} (hnm : n ≤ m) {c : ACode} {e : Env} {h : Heap} {r : AX × Env × Heap} (hr : run F n c e h = some r) : run F m c e h = some r := by
  obtain ⟨k, rfl⟩ := Nat.exists_eq_add_of_le hnm
  induction k with
  | zero => exact hr
  | succ k ih => exact run_fuel _ _ _ _ _ (ih (by omega))
theorem callN_le {n m : Nat} (hnm : n ≤ m) : CfLe (callN F n) (callN F m) := callN_of_run fun _ _ _ _ h => run_le hnm h
end
end Go.Am

/- The theorem of the abstract machine: a call that it answers, the model's call answers. Own work. -/
namespace Go.Am
set_option linter.unusedVariables false
set_option linter.unusedSimpArgs false
open Go Go.RowKit
/-- The codes' theorem, at every base. -/
theorem code_all {P : Program} {F : Nat → Option AFn} (hT : TabOk P F) : ∀ (n : Nat), CfOk P (callN F n) ∧ ∀ (B : Nat) (nt : Nat) (cd : Code) (c : ACode) (e e1 : Env) (H H1 : Heap) (x : AX) (K : KM) (a : Act) (w : World) (Q : Exit → Act → World → Prop), compCode P nt cd = some c → run F n c e H = some (x, e1, H1) → ER K e a.tmps → Sim B K H w → nt ≤ a.tmps.size →
    (∀ K' a' w', After B K a w e1 H H1 K' a' w' → Q x.exit? a' w') → cd.wp P Q a w
  | 0 => ⟨(fun f xs h v h' hc => by
      obtain ⟨fn, x, e', _, _, _, hr, _⟩ := callN_of hc
      exact absurd hr (by simp [run])), fun B nt cd c e e1 H H1 x K a w Q _ hr => absurd hr (by simp [run])⟩
  | n + 1 => by
    obtain ⟨ihc, ihr⟩ := code_all hT n
    have hcode : ∀ (B : Nat) (nt : Nat) (cd : Code) (c : ACode) (e e1 : Env) (H H1 : Heap) (x : AX) (K : KM) (a : Act) (w : World) (Q : Exit → Act → World → Prop), compCode P nt cd = some c → run F (n + 1) c e H = some (x, e1, H1) → ER K e a.tmps → Sim B K H w → nt ≤ a.tmps.size →
        (∀ K' a' w', After B K a w e1 H H1 K' a' w' → Q x.exit? a' w') → cd.wp P Q a w := by
      intro B nt cd c e e1 H H1 x K a w Q hc hr he hs hnt hQ
      rw [run_succ] at hr
      cases cd with
      | skip =>
        cases hc; cases hr
        exact wp_skip (hQ K a w (After.refl he hs))
      | ret =>
        cases hc; cases hr
        exact wp_ret (hQ K a w (After.refl he hs))
      | exit id =>
        cases hc; cases hr
        exact wp_exit (hQ K a w (After.refl he hs))
      | region id ops draw =>
        cases draw with
        | false =>
          simp only [compCode] at hc
          split at hc
          · rename_i as has
            cases hc
            simp only at hr
            split at hr
            · rename_i e2 h2 hr1
              cases hr
              exact wp_region_list (seq_ok ihc (callN_mono n) ops.toList as has hr1 he hs hnt hQ)
            · cases hr
          · cases hc
        | true =>
          simp only [compCode] at hc
          have hc' := hc
          unfold compD at hc'
          split at hc'
          · cases hc'
          · split at hc'
            · cases hc'
              simp only at hr
              split at hr
              · rename_i e2 h2 hr1
                rename_i as' _ _ _
                cases hb : (openPairs (befores ops.toList) as').all (chkPair as' (trace (callN F n) as' e H)) with
                | true =>
                  rw [hb] at hr
                  cases hr
                  exact draw_ok ihc (callN_mono n) hT.follows hc hr1 hb he hs hnt hQ
                | false => rw [hb] at hr; cases hr
              · cases hr
            · cases hc'
      | seq y z =>
        simp only [compCode] at hc
        split at hc
        · rename_i cy cz hy hz
          cases hc
          simp only at hr
          refine wp_seq ?_
          split at hr
          · rename_i e2 h2 hr1
            exact ihr B nt y cy e e2 H h2 .normal K a w _ hy hr1 he hs hnt (fun K' a' w' hA => ihr B nt z cz e2 e1 h2 H1 x K' a' w' Q hz hr hA.er hA.sim (by rw [hA.size]; exact hnt) (fun K'' a'' w'' hA' => hQ K'' a'' w'' (hA.trans hA' (run_mono_n n _ _ _ _ _ _ hr1))))
          · rename_i hne
            refine ihr B nt y cy e e1 H H1 x K a w _ hy hr he hs hnt (fun K' a' w' hA => ?_)
            cases x with
            | normal => exact absurd hr (hne _ _)
            | exit id => exact hQ K' a' w' hA
            | ret => exact hQ K' a' w' hA
        · cases hc
      | cond c' y z =>
        simp only [compCode] at hc
        split at hc
        · rename_i co cy cz hco hy hz
          cases hc
          simp only at hr
          split at hr
          · rename_i b hb
            have hv := opd_ok he hco hb
            simp only [VR] at hv
            refine wp_cond hv ?_
            cases b with
            | true => exact ihr B nt y cy e e1 H H1 x K a w Q hy hr he hs hnt hQ
            | false => exact ihr B nt z cz e e1 H H1 x K a w Q hz hr he hs hnt hQ
          · cases hr
        · cases hc
      | block id y =>
        simp only [compCode] at hc
        split at hc
        · rename_i cy hy
          cases hc
          simp only at hr
          refine wp_block ?_
          split at hr
          · rename_i id' e2 h2 hr1
            refine ihr B nt y cy e e2 H h2 (.exit id') K a w _ hy hr1 he hs hnt (fun K' a' w' hA => ?_)
            simp only [AX.exit?, Exit.inBlock]
            split at hr
            · rename_i hid
              cases hr
              rw [if_pos hid]
              exact hQ K' a' w' hA
            · rename_i hid
              cases hr
              rw [if_neg hid]
              exact hQ K' a' w' hA
          · rename_i hne
            refine ihr B nt y cy e e1 H H1 x K a w _ hy hr he hs hnt (fun K' a' w' hA => ?_)
            cases x with
            | normal => exact hQ K' a' w' hA
            | exit id' => exact absurd hr (hne _ _ _)
            | ret => exact hQ K' a' w' hA
        · cases hc
      | loop y =>
        simp only [compCode] at hc
        split at hc
        · rename_i cy hy
          cases hc
          have hr0 : run F (n + 1) (.loop cy) e H = some (x, e1, H1) := by rw [run_succ]; exact hr
          refine wp_loop_ghost (fun m a' w' => m ≤ n + 1 ∧ ∃ e' H' K', H.n ≤ H'.n ∧ run F m (.loop cy) e' H' = some (x, e1, H1) ∧ After B K a w e' H H' K' a' w') (n + 1) ⟨Nat.le_refl _, e, H, K, Nat.le_refl _, hr0, After.refl he hs⟩ ?_
          rintro m a' w' ⟨hm, e', H', K', hle, hr', hA⟩
          cases m with
          | zero => cases hr'
          | succ m =>
            rw [run_succ] at hr'
            simp only at hr'
            cases h1 : run F m cy e' H' with
            | none => rw [h1] at hr'; cases hr'
            | some q =>
              rw [h1] at hr'
              obtain ⟨x2, e2, h2⟩ := q
              have h1' : run F n cy e' H' = some (x2, e2, h2) := run_le (by omega) h1
              have hHn : H.n ≤ H'.n := hle
              refine ihr B nt y cy e' e2 H' h2 x2 K' a' w' _ hy h1' hA.er hA.sim (by rw [hA.size]; exact hnt) (fun K2 a2 w2 hA2 => ?_)
              have hA3 := hA.trans hA2 hHn
              cases x2 with
              | normal => exact ⟨m, by omega, by omega, e2, h2, K2, Nat.le_trans hHn (run_mono_n _ _ _ _ _ _ _ h1), hr', hA3⟩
              | exit id => cases hr'; exact hQ K2 a2 w2 hA3
              | ret => cases hr'; exact hQ K2 a2 w2 hA3
        · cases hc
      | _ => cases hc
    refine ⟨?_, hcode⟩
    intro f xs h v h' hcall B K w ys hxs hs
    obtain ⟨fn, x, e', hF, hl, hx, hr, hres⟩ := callN_of hcall
    obtain ⟨⟨func, c, h1, h2, h3⟩, henter⟩ := hT.fns f fn hF
    refine ⟨henter _ _, callN_mono _ _ _ _ _ _ hcall, ?_⟩
    unfold compFn at h3
    rw [h2] at h3
    simp only at h3
    split at h3
    · rename_i ac rs hac hrs
      cases h3
      refine calls_of_wp h1 h2 ?_
      have hys : ys.toArray.size = xs.length := by rw [hxs.length]; simp
      refine hcode B func.ntmps c ac (envOf 0 xs .nil) e' h h' x K _ w _ hac hr (fun t u ht => ?_) hs (by simp; omega) (fun K' a' w' hA => ?_)
      · rw [envOf_get] at ht
        split at ht
        · rename_i hb
          rw [Nat.sub_zero] at ht
          obtain ⟨y, g1, g2⟩ := hxs.get t u ht
          refine ⟨y, ?_, g2⟩
          simp only
          rw [Array.getElem?_append_left (by omega)]
          simpa using g1
        · rw [T.get_nil] at ht; cases ht
      · have hres' : ∃ v', (results func a'.tmps).run P w' = .ok v' w' ∧ VR K' v v' := by
          cases hall : resAll e' h' rs with
          | none => unfold resOf at hres; rw [hall] at hres; cases hres
          | some vs =>
            obtain ⟨zs, g1, g2⟩ := res_ok (P := P) hA.er hA.sim hrs hall
            have hrun : (results func a'.tmps).run P w' = .ok (if h : zs.toArray.size = 1 then zs.toArray[0] else .tuple zs.toArray) w' := by
              unfold results
              rw [Array.mapM_eq_mapM_toList]
              simp only [Sem.run_bind, Sem.run_map]
              exact congrArg (fun r => Result.andThen (Result.andThen r (fun (a : List Value) w' => Result.ok a.toArray w')) (fun (a : Array Value) w' => Sem.run P (pure (if h : a.size = 1 then a[0] else Value.tuple a)) w')) g1
            refine ⟨_, hrun, ?_⟩
            unfold resOf at hres
            rw [hall] at hres
            match vs, hres, g2 with
            | [], hres, g2 =>
              cases hres
              simp only [VRs] at g2
              subst g2
              simp only [List.size_toArray, List.length_nil, Nat.zero_ne_one, dite_false, VR]
              exact ⟨_, rfl, VRs.nil⟩
            | [v0], hres, g2 =>
              cases hres
              obtain ⟨z, rfl, hz⟩ := g2.one
              exact hz
            | v0 :: v1 :: vs', hres, g2 =>
              cases hres
              have hl := g2.length
              rw [dif_neg (by simp at hl ⊢; omega)]
              simp only [VR]
              exact ⟨_, rfl, g2⟩
        obtain ⟨v', g1, g2⟩ := hres'
        rcases hx with rfl | rfl
        · exact ⟨hA.defers, v', g1, v', K', rfl, hA.below, hA.le, hA.fresh, hA.sim, g2⟩
        · exact ⟨hA.defers, v', g1, v', K', rfl, hA.below, hA.le, hA.fresh, hA.sim, g2⟩
    · cases h3
theorem fnOk_of {P : Program} {f : Nat} {func : Func} {fn : AFn} (h1 : P.funcs[f]? = some func) (h2 : compFn P func = some fn) (h3 : (func.name == "runtime.NumGoroutine") = false) : FnOk P f fn := by
  obtain ⟨c, hc⟩ : ∃ c, func.body = some c := by
    unfold compFn at h2
    cases hb : func.body with
    | none => rw [hb] at h2; cases h2
    | some c => exact ⟨c, rfl⟩
  refine ⟨⟨func, c, h1, hc, h2⟩, fun ys w => ?_⟩
  unfold callFunc
  have h4 : ¬ (func.body.isNone = true) := by rw [hc]; simp
  simp only [Sem.run_bind, run_program, Result.andThen_ok, h1, h3, Bool.false_eq_true, if_false, if_neg h4]
  rfl
end Go.Am
