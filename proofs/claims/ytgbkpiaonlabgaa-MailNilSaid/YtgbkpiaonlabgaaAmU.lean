/- Regions that draw their order: any order comes to what the text's order comes to. Plain parts. Own work. -/
import Derived.Test.YtgbkpiaonlabgaaAmT
namespace Go.Am
set_option linter.unusedVariables false
set_option linter.unusedSimpArgs false
open Go Go.RowKit
theorem befores_snoc (l : List Oper) (o : Oper) : befores (l ++ [o]) = befores l ++ [(List.range (befores l).length).map fun i => o.after.any fun e => Region.binds .any e && (Nat.beq e.on i || (((befores l).getD e.on []).getD i false))] := by
  simp [befores, List.foldl_append]
theorem befores_length : ∀ (n : Nat) (l : List Oper), l.length = n → (befores l).length = n
  | 0, l, h => by
    have : l = [] := List.eq_nil_of_length_eq_zero h
    subst this; rfl
  | n + 1, l, h => by
    rcases List.eq_nil_or_concat l with e | ⟨L, b, e⟩
    · subst e; simp at h
    · rw [List.concat_eq_append] at e; subst e
      rw [befores_snoc]
      simp at h
      simp [befores_length n L h]
theorem bef_spec : ∀ (n : Nat) (l : List Oper), l.length = n → ∀ i j, bef (befores l) i j = true → ∃ o e, l[j]? = some o ∧ e ∈ o.after ∧ Region.binds .any e = true ∧ (e.on = i ∨ bef (befores l) i e.on = true)
  | 0, l, h, i, j, hb => by
    have : l = [] := List.eq_nil_of_length_eq_zero h
    subst this
    simp [bef, befores] at hb
  | n + 1, l, h, i, j, hb => by
    rcases List.eq_nil_or_concat l with e | ⟨L, b, e⟩
    · subst e; simp at h
    · rw [List.concat_eq_append] at e; subst e
      simp at h
      have hlen := befores_length n L h
      have old : ∀ i j, j < n → bef (befores (L ++ [b])) i j = bef (befores L) i j := by
        intro i j hj
        unfold bef
        have e1 : (befores (L ++ [b])).getD j [] = (befores L).getD j [] := by
          rw [befores_snoc, List.getD_eq_getElem?_getD, List.getElem?_append_left (by omega), ← List.getD_eq_getElem?_getD]
        rw [e1]
      by_cases hj : j < n
      · rw [old i j hj] at hb
        obtain ⟨o, e, h1, h2, h3, h4⟩ := bef_spec n L h i j hb
        refine ⟨o, e, by rw [List.getElem?_append_left (by omega)]; exact h1, h2, h3, ?_⟩
        rcases h4 with h4 | h4
        · exact .inl h4
        · right
          have : e.on < n := by
            rcases Nat.lt_or_ge e.on n with hh | hh
            · exact hh
            · unfold bef at h4
              have e1 : (befores L).getD e.on [] = [] := by rw [List.getD_eq_getElem?_getD, List.getElem?_eq_none (by omega)]; rfl
              rw [e1] at h4
              simp at h4
          rw [old _ _ this]; exact h4
      · have hj2 : j = n := by
          rcases Nat.lt_or_ge j (n + 1) with hh | hh
          · omega
          · unfold bef at hb
            have e1 : (befores (L ++ [b])).getD j [] = [] := by rw [List.getD_eq_getElem?_getD, List.getElem?_eq_none (by rw [befores_length (n + 1) _ (by simp [h])]; exact hh)]; rfl
            rw [e1] at hb
            simp at hb
        subst hj2
        unfold bef at hb
        have e1 : (befores (L ++ [b])).getD j [] = (List.range j).map fun i => b.after.any fun e => Region.binds .any e && (Nat.beq e.on i || (((befores L).getD e.on []).getD i false)) := by
          rw [befores_snoc, List.getD_eq_getElem?_getD, List.getElem?_append_right (by omega), hlen, Nat.sub_self]; rfl
        rw [e1] at hb
        rw [List.getD_eq_getElem?_getD, List.getElem?_map] at hb
        cases hr : (List.range j)[i]? with
        | none => rw [hr] at hb; simp at hb
        | some x =>
          have hi : i < j := by
            rcases Nat.lt_or_ge i j with hh | hh
            · exact hh
            · rw [List.getElem?_eq_none (by simpa using hh)] at hr; cases hr
          rw [List.getElem?_range hi] at hr
          cases hr
          rw [List.getElem?_range hi] at hb
          simp only [Option.map_some, Option.getD_some, Array.any_eq_true] at hb
          obtain ⟨k, hk, hb⟩ := hb
          simp only [Bool.and_eq_true, Bool.or_eq_true] at hb
          refine ⟨b, b.after[k], by rw [List.getElem?_append_right (by omega), h, Nat.sub_self]; rfl, Array.getElem_mem hk, hb.1, ?_⟩
          rcases hb.2 with h4 | h4
          · exact .inl (Nat.eq_of_beq_eq_true h4)
          · right
            have : (b.after[k]).on < j := by
              rcases Nat.lt_or_ge (b.after[k]).on j with hh | hh
              · exact hh
              · have e1 : (befores L).getD (b.after[k]).on [] = [] := by rw [List.getD_eq_getElem?_getD, List.getElem?_eq_none (by rw [hlen]; exact hh)]; rfl
                rw [e1] at h4
                simp at h4
            rw [old _ _ this]; exact h4
theorem allPairs_spec {n : Nat} {f : Nat → Nat → Bool} (h : allPairs n f = true) {i j : Nat} (hi : i < j) (hj : j < n) : f i j = true := by
  unfold allPairs at h
  have h1 := List.all_eq_true.1 h j (List.mem_range.2 hj)
  exact List.all_eq_true.1 h1 i (List.mem_range.2 hi)
theorem openPairs_mem {B : List (List Bool)} {as : List AOper} {i j : Nat} {a b : AOper} (hi : as[i]? = some a) (hj : as[j]? = some b) (hij : i < j) (hn : bef B i j = false) :
    (a.k.isR = true → b.k.isE = true → (i, j) ∈ openPairs B as) ∧ (a.k.isE = true → b.k.isR = true → (j, i) ∈ openPairs B as) := by
  have hjn : j < as.length := by
    rcases Nat.lt_or_ge j as.length with hh | hh
    · exact hh
    · rw [List.getElem?_eq_none hh] at hj; cases hj
  constructor
  · intro h1 h2
    unfold openPairs
    refine List.mem_flatMap.2 ⟨j, List.mem_range.2 hjn, List.mem_filterMap.2 ⟨i, List.mem_range.2 hij, ?_⟩⟩
    simp only [hi, hj, hn, cond_false, h1, h2, Bool.and_self, cond_true]
  · intro h1 h2
    unfold openPairs
    refine List.mem_flatMap.2 ⟨j, List.mem_range.2 hjn, List.mem_filterMap.2 ⟨i, List.mem_range.2 hij, ?_⟩⟩
    have h3 : (a.k.isR && b.k.isE) = false := by
      cases hk : a.k <;> rw [hk] at h1 <;> simp [AK.isE, AK.isR] at h1 ⊢
    simp only [hi, hj, hn, cond_false, h3, h1, h2, Bool.and_self, cond_true]
/-- The values of a slot behind some operations, in the text's order. -/
def mixAt (S : Nat → Bool) (V : Nat → AV) (t : Nat) : List AOper → Nat → Option AV → Option AV
  | [], _, x => x
  | ao :: as, i, x => mixAt S V t as (i + 1) (if S i = true ∧ ao.dst = some t then some (V i) else x)
theorem mixAt_congr {S S' : Nat → Bool} {V : Nat → AV} {t : Nat} : ∀ (as : List AOper) (i : Nat) (x : Option AV), (∀ j ao, as[j]? = some ao → ao.dst = some t → S (i + j) = S' (i + j)) → mixAt S V t as i x = mixAt S' V t as i x
  | [], _, _, _ => rfl
  | ao :: as, i, x, h => by
    have h0 : (if S i = true ∧ ao.dst = some t then some (V i) else x) = (if S' i = true ∧ ao.dst = some t then some (V i) else x) := by
      by_cases hd : ao.dst = some t
      · have := h 0 ao rfl hd
        simp only [Nat.add_zero] at this
        rw [this]
      · simp [hd]
    rw [mixAt, mixAt, h0]
    exact mixAt_congr as (i + 1) _ fun j ao' hj hd => by
      have := h (j + 1) ao' (by simpa using hj) hd
      rw [show i + 1 + j = i + (j + 1) by omega]; exact this
theorem mixAt_none {S : Nat → Bool} {V : Nat → AV} {t : Nat} : ∀ (as : List AOper) (i : Nat) (x : Option AV), (∀ j ao, as[j]? = some ao → ao.dst = some t → S (i + j) = false) → mixAt S V t as i x = x
  | [], _, _, _ => rfl
  | ao :: as, i, x, h => by
    rw [mixAt, mixAt_none as (i + 1) _ fun j ao' hj hd => by
      have := h (j + 1) ao' (by simpa using hj) hd
      rw [show i + 1 + j = i + (j + 1) by omega]; exact this]
    by_cases hd : ao.dst = some t
    · have := h 0 ao rfl hd
      simp only [Nat.add_zero] at this
      simp [this]
    · simp [hd]
theorem mixAt_last {S : Nat → Bool} {V : Nat → AV} {t : Nat} : ∀ (as : List AOper) (i k : Nat) (x : Option AV) (ao : AOper), as[k]? = some ao → ao.dst = some t → S (i + k) = true → (∀ j ao, k < j → as[j]? = some ao → ao.dst = some t → S (i + j) = false) → mixAt S V t as i x = some (V (i + k))
  | [], _, _, _, _, h, _, _, _ => by simp at h
  | ao0 :: as, i, 0, x, ao, h, hd, hS, hl => by
    simp at h; subst h
    simp only [Nat.add_zero] at hS
    rw [mixAt, if_pos ⟨hS, hd⟩]
    exact mixAt_none as (i + 1) _ fun j ao' hj hd' => by
      have := hl (j + 1) ao' (by omega) (by simpa using hj) hd'
      rw [show i + 1 + j = i + (j + 1) by omega]; exact this
  | ao0 :: as, i, k + 1, x, ao, h, hd, hS, hl => by
    rw [mixAt]
    rw [mixAt_last as (i + 1) k _ ao (by simpa using h) hd (by rw [show i + 1 + k = i + (k + 1) by omega]; exact hS) fun j ao' hj hj' hd' => by
      have := hl (j + 1) ao' (by omega) (by simpa using hj') hd'
      rw [show i + 1 + j = i + (j + 1) by omega]; exact this]
    congr 2; omega
/-- What a step was. -/
theorem step_cases {cf : CallF} {ao : AOper} {e e1 : Env} {h h1 : Heap} (hs : stepOp cf ao e h = some (e1, h1)) :
    (wantedE e ao.guard = some false ∧ e1 = putE e ao.dst .undef ∧ h1 = h) ∨ (wantedE e ao.guard = some true ∧ ∃ xs v, evs e ao.xs = some xs ∧ ao.k.ev cf xs h = some (v, h1) ∧ e1 = putE e ao.dst v) := by
  unfold stepOp at hs
  split at hs
  · cases hs
  · rename_i hw; cases hs; exact .inl ⟨hw, rfl, rfl⟩
  · rename_i hw
    right
    split at hs
    · cases hs
    · rename_i xs hx
      split at hs
      · cases hs
      · rename_i v h' hv; cases hs; exact ⟨hw, xs, v, hx, hv, rfl⟩
/-- A step of what doesn't act: the heap as it was, or one object more. -/
theorem heap_of_quiet {cf : CallF} {ao : AOper} {e e1 : Env} {h h1 : Heap} (hs : stepOp cf ao e h = some (e1, h1)) (hE : ao.k.isE = false) : h1 = h ∨ (ao.k.isN = true ∧ ∃ ob, h1 = h.push ob) := by
  rcases step_cases hs with ⟨_, _, rfl⟩ | ⟨_, xs, v, _, hv, _⟩
  · exact .inl rfl
  · cases hk : ao.k with
    | p q =>
      rw [hk] at hv
      simp only [AK.ev] at hv
      split at hv <;> cases hv
      exact .inl rfl
    | r q =>
      rw [hk] at hv
      simp only [AK.ev] at hv
      split at hv <;> cases hv
      exact .inl rfl
    | n q =>
      rw [hk] at hv
      simp only [AK.ev] at hv
      split at hv
      · rename_i ob hob; cases hv; exact .inr ⟨rfl, ob, rfl⟩
      · cases hv
    | e q => rw [hk] at hE; cases hE
    | call f => rw [hk] at hE; cases hE
    | callV => rw [hk] at hE; cases hE
theorem eop_n {q : EOp} {vs : List AV} {h h1 : Heap} {v : AV} (hv : q.ev vs h = some (v, h1)) : h.n ≤ h1.n := by
  unfold EOp.ev at hv
  split at hv
  · split at hv
    · split at hv
      · cases hv; exact Nat.le_refl _
      · cases hv
    · cases hv
  · split at hv
    · split at hv
      · rename_i s x _ cs k _ _
        unfold appendTo at hv
        split at hv
        · split at hv <;> cases hv
          · exact Nat.le_refl _
          · simp [Heap.n_push]
        · split at hv
          · split at hv
            · split at hv <;> cases hv <;> exact Nat.le_refl _
            · cases hv
          · cases hv
        · cases hv
      · cases hv
    · cases hv
  · split at hv
    · split at hv
      · split at hv <;> cases hv
        exact Nat.le_refl _
      · cases hv
    · cases hv
  · split at hv
    · split at hv <;> cases hv <;> exact Nat.le_refl _
    · cases hv
  · cases hv
end Go.Am
