/- The law LoopsTail: its pure function answers true, whatever it is called with; so does the machine's function. No condition. Own work. -/
import Derived.Test.YtgbkpiaonlabgaaPLoopsTail
import Derived.Test.YtgbkpiaonlabgaaPm1
/- The loops' layer, plainly: what its pure functions answer. Own work. -/
namespace Go.Proofs.Ytgbkpiaonlabgaa
open Go Go.Am
set_option linter.unusedVariables false
set_option linter.unusedSimpArgs false
theorem any_take {α : Type} {p : α → Bool} {l : List α} {k : Nat} (h : (l.take k).any p = false) (hk : k < l.length) : (l.take (k + 1)).any p = p l[k] := by
  rw [List.take_succ_eq_append_getElem hk, List.any_append, h]; simp
/-- Gives: is there an arc to that place? -/
theorem p18_eq {t : TTrans} {q : Int} (h : t.Out.length ≤ 1000000000) : p18 t q = some (t.Out.any fun a => decide (a.Place = q)) := by
  unfold p18
  obtain ⟨r, h1, h2⟩ := loop_up0 (f := p18_l0 t q) t.Out.length h (fun k => (t.Out.take k).any (fun a => decide (a.Place = q)) = false)
    (fun r => match r with
      | .inl _ => t.Out.any (fun a => decide (a.Place = q)) = true
      | .inr _ => t.Out.any (fun a => decide (a.Place = q)) = false)
    (fun k hk hI => by
      unfold p18_l0
      rw [if_pos (by omega), idx_get hk]
      simp only [Option.bind_some]
      by_cases hq : t.Out[k].Place = q
      · rw [if_pos hq]
        exact .inr ⟨_, rfl, List.any_eq_true.2 ⟨t.Out[k], List.getElem_mem hk, by simpa using hq⟩⟩
      · rw [if_neg hq]
        refine .inl ⟨rfl, ?_⟩
        rw [any_take hI hk]; simpa using hq)
    (fun hI => by
      unfold p18_l0
      rw [if_neg (by omega)]
      exact ⟨_, rfl, by rw [List.take_length] at hI; exact hI⟩)
    (by simp)
  rw [h1]
  cases r with
  | inl u => simp only [Option.bind_some]; rw [h2]
  | inr u => simp only [Option.bind_some]; rw [h2]
theorem p19_eq {t : TTrans} {q : Int} (h : t.In.length ≤ 1000000000) : p19 t q = some (t.In.any fun a => decide (a.Place = q)) := by
  unfold p19
  obtain ⟨r, h1, h2⟩ := loop_up0 (f := p19_l0 t q) t.In.length h (fun k => (t.In.take k).any (fun a => decide (a.Place = q)) = false)
    (fun r => match r with
      | .inl _ => t.In.any (fun a => decide (a.Place = q)) = true
      | .inr _ => t.In.any (fun a => decide (a.Place = q)) = false)
    (fun k hk hI => by
      unfold p19_l0
      rw [if_pos (by omega), idx_get hk]
      simp only [Option.bind_some]
      by_cases hq : t.In[k].Place = q
      · rw [if_pos hq]
        exact .inr ⟨_, rfl, List.any_eq_true.2 ⟨t.In[k], List.getElem_mem hk, by simpa using hq⟩⟩
      · rw [if_neg hq]
        refine .inl ⟨rfl, ?_⟩
        rw [any_take hI hk]; simpa using hq)
    (fun hI => by
      unfold p19_l0
      rw [if_neg (by omega)]
      exact ⟨_, rfl, by rw [List.take_length] at hI; exact hI⟩)
    (by simp)
  rw [h1]
  cases r with
  | inl u => simp only [Option.bind_some]; rw [h2]
  | inr u => simp only [Option.bind_some]; rw [h2]
/-- put: one more arc, if its place isn't there. -/
theorem p39_eq {l : List TArc} {q n : Int} (h : l.length ≤ 100000000) : p39 l q n = some (if l.any (fun a => decide (a.Place = q)) = true then l else l ++ [⟨q, n⟩]) := by
  unfold p39
  obtain ⟨r, h1, h2⟩ := loop_up0 (f := p39_l0 l q) l.length (by omega) (fun k => (l.take k).any (fun a => decide (a.Place = q)) = false)
    (fun r => match r with
      | .inl _ => l.any (fun a => decide (a.Place = q)) = true
      | .inr _ => l.any (fun a => decide (a.Place = q)) = false)
    (fun k hk hI => by
      unfold p39_l0
      rw [if_pos (by omega), idx_get hk]
      simp only [Option.bind_some]
      by_cases hq : l[k].Place = q
      · rw [if_pos hq]
        exact .inr ⟨_, rfl, List.any_eq_true.2 ⟨l[k], List.getElem_mem hk, by simpa using hq⟩⟩
      · rw [if_neg hq]
        refine .inl ⟨rfl, ?_⟩
        rw [any_take hI hk]; simpa using hq)
    (fun hI => by
      unfold p39_l0
      rw [if_neg (by omega)]
      exact ⟨_, rfl, by rw [List.take_length] at hI; exact hI⟩)
    (by simp)
  rw [h1]
  cases r with
  | inl u => simp only [Option.bind_some]; rw [if_pos h2]
  | inr u => simp only [Option.bind_some]; rw [if_neg (by rw [h2]; decide), app_ok (by simp; omega)]; rfl
/-- SameInts, Same: are two lists one? -/
theorem p41_eq {a b : List Int} (h : a.length ≤ 1000000000) : p41 a b = some (decide (a = b)) := by
  unfold p41
  by_cases hl : (a.length : Int) = (b.length : Int)
  · rw [if_neg (by simp [hl])]
    have hl' : a.length = b.length := by omega
    obtain ⟨r, h1, h2⟩ := loop_up0 (f := p41_l0 a b) a.length h (fun k => a.take k = b.take k)
      (fun r => match r with
        | .inl _ => a ≠ b
        | .inr _ => a = b)
      (fun k hk hI => by
        unfold p41_l0
        have hk2 : k < b.length := by omega
        rw [if_pos (by omega), idx_get hk, idx_get hk2]
        simp only [Option.bind_some]
        by_cases hq : a[k] = b[k]
        · rw [if_neg (by simp [hq])]
          refine .inl ⟨rfl, ?_⟩
          rw [List.take_succ_eq_append_getElem hk, List.take_succ_eq_append_getElem hk2, hI, hq]
        · rw [if_pos (by simp [hq])]
          refine .inr ⟨_, rfl, fun e => hq ?_⟩
          subst e; rfl)
      (fun hI => by
        unfold p41_l0
        rw [if_neg (by omega)]
        refine ⟨_, rfl, ?_⟩
        rw [List.take_length, hl', List.take_length] at hI
        exact hI)
      (by simp)
    rw [h1]
    cases r with
    | inl u => simp only [Option.bind_some]; rw [decide_eq_false h2]
    | inr u => simp only [Option.bind_some]; rw [decide_eq_true h2]
  · rw [if_pos (by simp [hl])]
    rw [decide_eq_false (fun e => hl (by rw [e]))]
theorem p21_eq {a b : List (List Int)} (h : a.length ≤ 1000000000) (ha : ∀ x, x ∈ a → x.length ≤ 1000000000) : p21 a b = some (decide (a = b)) := by
  unfold p21
  by_cases hl : (a.length : Int) = (b.length : Int)
  · rw [if_neg (by simp [hl])]
    have hl' : a.length = b.length := by omega
    obtain ⟨r, h1, h2⟩ := loop_up0 (f := p21_l0 a b) a.length h (fun k => a.take k = b.take k)
      (fun r => match r with
        | .inl _ => a ≠ b
        | .inr _ => a = b)
      (fun k hk hI => by
        unfold p21_l0
        have hk2 : k < b.length := by omega
        rw [if_pos (by omega), idx_get hk, idx_get hk2]
        simp only [Option.bind_some]
        rw [p41_eq (ha _ (List.getElem_mem hk))]
        simp only [Option.bind_some]
        by_cases hq : a[k] = b[k]
        · rw [if_neg (by simp [hq])]
          refine .inl ⟨rfl, ?_⟩
          rw [List.take_succ_eq_append_getElem hk, List.take_succ_eq_append_getElem hk2, hI, hq]
        · rw [if_pos (by simp [hq])]
          refine .inr ⟨_, rfl, fun e => hq ?_⟩
          subst e; rfl)
      (fun hI => by
        unfold p21_l0
        rw [if_neg (by omega)]
        refine ⟨_, rfl, ?_⟩
        rw [List.take_length, hl', List.take_length] at hI
        exact hI)
      (by simp)
    rw [h1]
    cases r with
    | inl u => simp only [Option.bind_some]; rw [decide_eq_false h2]
    | inr u => simp only [Option.bind_some]; rw [decide_eq_true h2]
  · rw [if_pos (by simp [hl])]
    rw [decide_eq_false (fun e => hl (by rw [e]))]
end Go.Proofs.Ytgbkpiaonlabgaa

/- The loops' layer, plainly: whom a transition gives to. Own work. -/
namespace Go.Proofs.Ytgbkpiaonlabgaa
open Go Go.Am
set_option linter.unusedVariables false
set_option linter.unusedSimpArgs false
structure NetOk (n : TNet) : Prop where
  np : n.Places.length ≤ 1000
  nt : n.Trans.length ≤ 1000
  ins : ∀ t, t ∈ n.Trans → t.In.length ≤ 1000 ∧ ∀ a, a ∈ t.In → 0 ≤ a.Place ∧ a.Place < n.Places.length
  outs : ∀ t, t ∈ n.Trans → t.Out.length ≤ 1000 ∧ ∀ a, a ∈ t.Out → 0 ≤ a.Place ∧ a.Place < n.Places.length
  delay : ∀ t, t ∈ n.Trans → 0 ≤ t.Delay
def takesB (t : TTrans) (q : Int) : Bool := t.In.any fun a => decide (a.Place = q)
/-- Does one transition give, without a delay, where another one takes? -/
def edgeB (n : TNet) (a b : Nat) : Bool := match n.Trans[a]?, n.Trans[b]? with
  | some ta, some tb => decide (ta.Delay = 0) && ta.Out.any fun x => takesB tb x.Place
  | _, _ => false
def rowOf (n : TNet) (a : Nat) : List Int := ((List.range n.Trans.length).filter fun b => edgeB n a b).map fun b : Nat => (b : Int)
def nextL (n : TNet) : List (List Int) := (List.range n.Trans.length).map fun a => rowOf n a
/-- The lists by places: who takes there. -/
def TkI (n : TNet) (k : Nat) (y : List (List Int)) : Prop :=
  y.length = n.Places.length ∧ ∀ (p : Nat) l, y[p]? = some l → l.length ≤ k * 1000 ∧ ∀ v, v ∈ l ↔ ∃ i : Nat, i < k ∧ v = i ∧ ∃ t, n.Trans[i]? = some t ∧ takesB t p = true
theorem p22_takes {n : TNet} (ok : NetOk n) : ∃ y, loopC (p22_l1 n) ((0 : Int), List.replicate n.Places.length []) = some y ∧ TkI n n.Trans.length y := by
  refine loop_up n.Trans.length (by have := ok.nt; omega) (TkI n) (TkI n n.Trans.length) ?_ ?_ ?_
  · intro k y hk ⟨hl, hy⟩
    left
    have hmem := List.getElem_mem hk
    obtain ⟨hin, hpl⟩ := ok.ins _ hmem
    unfold p22_l1
    simp only
    rw [if_pos (by omega), idx_get hk]
    simp only [Option.bind_some]
    generalize ht : n.Trans[k] = t at *
    obtain ⟨y2, h1, h2⟩ := loop_up (f := p22_l0 (k : Int) t) t.In.length (by omega)
      (fun j y => y.length = n.Places.length ∧ ∀ (p : Nat) l, y[p]? = some l → l.length ≤ k * 1000 + j ∧ ∀ v, v ∈ l ↔ (∃ i : Nat, i < k ∧ v = i ∧ ∃ t, n.Trans[i]? = some t ∧ takesB t p = true) ∨ (v = k ∧ (t.In.take j).any (fun a => decide (a.Place = (p : Int))) = true))
      (TkI n (k + 1))
      (by
        intro j y hj ⟨hl, hy⟩
        left
        unfold p22_l0
        simp only
        rw [if_pos (by omega), idx_get hj]
        simp only [Option.bind_some]
        obtain ⟨hp0, hp1⟩ := hpl _ (List.getElem_mem hj)
        generalize hq : t.In[j].Place = q at *
        obtain ⟨l, hl1, hl2⟩ := idx_int (l := y) hp0 (by rw [hl]; exact hp1)
        rw [hl1]
        simp only [Option.bind_some]
        obtain ⟨b1, b2⟩ := hy _ _ hl2
        rw [app_ok (by simp only [List.length_singleton]; have := ok.nt; omega)]
        simp only [Option.bind_some]
        refine ⟨_, rfl, by simpa using hl, fun p l' hp => ?_⟩
        rw [List.getElem?_set] at hp
        split at hp
        · rename_i hqp
          split at hp
          · cases hp
            refine ⟨by simp only [List.length_append, List.length_singleton]; omega, fun v => ?_⟩
            rw [List.mem_append, List.mem_singleton, b2, List.take_succ_eq_append_getElem hj, List.any_append]
            simp only [List.any_cons, List.any_nil, Bool.or_false, Bool.or_eq_true, decide_eq_true_eq, hq]
            have hqp' : q = (p : Int) := by omega
            subst hqp
            constructor
            · rintro ((h | ⟨h1, h2⟩) | h)
              · exact .inl h
              · exact .inr ⟨h1, .inl h2⟩
              · exact .inr ⟨h, .inr hqp'⟩
            · rintro (h | ⟨h1, h2 | h2⟩)
              · exact .inl (.inl h)
              · exact .inl (.inr ⟨h1, h2⟩)
              · exact .inr h1
          · cases hp
        · rename_i hqp
          obtain ⟨c1, c2⟩ := hy _ _ hp
          refine ⟨by omega, fun v => ?_⟩
          rw [c2, List.take_succ_eq_append_getElem hj, List.any_append]
          simp only [List.any_cons, List.any_nil, Bool.or_false, Bool.or_eq_true, decide_eq_true_eq, hq]
          have hqp' : ¬ q = (p : Int) := by omega
          constructor
          · rintro (h | ⟨h1, h2⟩)
            · exact .inl h
            · exact .inr ⟨h1, .inl h2⟩
          · rintro (h | ⟨h1, h2 | h2⟩)
            · exact .inl h
            · exact .inr ⟨h1, h2⟩
            · exact absurd h2 hqp')
      (by
        intro y ⟨hl, hy⟩
        unfold p22_l0
        simp only
        rw [if_neg (by omega)]
        refine ⟨_, rfl, hl, fun p l hp => ?_⟩
        obtain ⟨c1, c2⟩ := hy _ _ hp
        refine ⟨by omega, fun v => ?_⟩
        rw [c2, List.take_length]
        constructor
        · rintro (⟨i, h1, h2, h3⟩ | ⟨h1, h2⟩)
          · exact ⟨i, by omega, h2, h3⟩
          · exact ⟨k, by omega, h1, t, by rw [← ht]; exact List.getElem?_eq_getElem hk, h2⟩
        · rintro ⟨i, h1, h2, t', h3, h4⟩
          rcases Nat.lt_or_ge i k with hh | hh
          · exact .inl ⟨i, hh, h2, t', h3, h4⟩
          · obtain rfl : i = k := by omega
            rw [List.getElem?_eq_getElem hk, ht] at h3
            cases h3
            exact .inr ⟨h2, h4⟩)
      (s := y) (by
        refine ⟨hl, fun p l hp => ?_⟩
        obtain ⟨c1, c2⟩ := hy _ _ hp
        refine ⟨Nat.le_trans c1 (Nat.le_add_right _ _), fun v => ?_⟩
        rw [c2]; simp)
    rw [h1]
    exact ⟨y2, rfl, h2⟩
  · intro y hy
    unfold p22_l1
    simp only
    rw [if_neg (by omega)]
    exact ⟨_, rfl, hy⟩
  · refine ⟨by simp, fun p l hp => ?_⟩
    rw [List.getElem?_replicate] at hp
    split at hp
    · cases hp; simp
    · cases hp
/-- Marks: whom a transition's arcs, so far, give to. -/
def MkI (n : TNet) (ta : TTrans) (j : Nat) (m : List Bool) : Prop := m.length = n.Trans.length ∧ ∀ (b : Nat) tb, n.Trans[b]? = some tb → m[b]? = some ((ta.Out.take j).any fun x => takesB tb x.Place)
theorem p22_marks {n : TNet} (ok : NetOk n) {tk : List (List Int)} (hT : TkI n n.Trans.length tk) {ta : TTrans} (ha : ta ∈ n.Trans) :
    ∃ r, loopC (p22_l3 ta) ((0 : Int), tk, List.replicate n.Trans.length false) = some r ∧ r.1 = tk ∧ MkI n ta ta.Out.length r.2 := by
  obtain ⟨ho, hpl⟩ := ok.outs _ ha
  refine loop_up ta.Out.length (by omega) (fun j (s : List (List Int) × List Bool) => s.1 = tk ∧ MkI n ta j s.2) (fun (r : List (List Int) × List Bool) => r.1 = tk ∧ MkI n ta ta.Out.length r.2) ?_ ?_ ?_
  · rintro j ⟨tk', m⟩ hj ⟨h1, hm1, hm2⟩
    simp only at h1 hm1 hm2
    subst h1
    left
    unfold p22_l3
    simp only
    rw [if_pos (by omega), idx_get hj]
    simp only [Option.bind_some]
    obtain ⟨hp0, hp1⟩ := hpl _ (List.getElem_mem hj)
    generalize hq : ta.Out[j].Place = q at *
    obtain ⟨l, hl1, hl2⟩ := idx_int (l := tk') hp0 (by rw [hT.1]; exact hp1)
    rw [hl1]
    simp only [Option.bind_some]
    obtain ⟨c1, c2⟩ := hT.2 _ _ hl2
    have hnt := ok.nt
    have hlen : l.length ≤ 1000000000 := by
      have : n.Trans.length * 1000 ≤ 1000 * 1000 := Nat.mul_le_mul_right _ hnt
      omega
    have hb : ∀ v, v ∈ l → 0 ≤ v ∧ v < (n.Trans.length : Int) := fun v hv => by
      obtain ⟨i, h1, h2, _⟩ := (c2 v).1 hv
      omega
    obtain ⟨r, k1, k2, k3, k4⟩ := loop_up (f := p22_l2 tk' l) l.length hlen
      (fun i m' => m'.length = n.Trans.length ∧ ∀ (b : Nat) tb, n.Trans[b]? = some tb → m'[b]? = some (((ta.Out.take j).any fun x => takesB tb x.Place) || decide ((b : Int) ∈ l.take i)))
      (fun r => r.1 = tk' ∧ r.2.length = n.Trans.length ∧ ∀ (b : Nat) tb, n.Trans[b]? = some tb → r.2[b]? = some (((ta.Out.take j).any fun x => takesB tb x.Place) || decide ((b : Int) ∈ l)))
      (by
        intro i m' hi ⟨e1, e2⟩
        left
        unfold p22_l2
        simp only
        rw [if_pos (by omega), idx_get hi]
        simp only [Option.bind_some]
        obtain ⟨v0, v1⟩ := hb _ (List.getElem_mem hi)
        generalize hv : l[i] = v at *
        obtain ⟨x, hx1, hx2⟩ := idx_int (l := m') v0 (by rw [e1]; exact v1)
        rw [hx1]
        simp only [Option.bind_some]
        refine ⟨_, rfl, by simpa using e1, fun b tb hb => ?_⟩
        rw [List.getElem?_set]
        have ht : ((b : Int) ∈ l.take (i + 1)) ↔ ((b : Int) ∈ l.take i ∨ (b : Int) = v) := by
          rw [List.take_succ_eq_append_getElem hi, hv, List.mem_append, List.mem_singleton]
        split
        · rename_i hh
          rw [if_pos (by omega)]
          have : (b : Int) = v := by omega
          rw [decide_eq_true (ht.2 (.inr this)), Bool.or_true]
        · rename_i hh
          have : ¬ (b : Int) = v := by omega
          rw [e2 b tb hb]
          simp only [ht, this, or_false])
      (by
        intro m' ⟨e1, e2⟩
        unfold p22_l2
        simp only
        rw [if_neg (by omega)]
        refine ⟨_, rfl, rfl, e1, fun b tb hb => ?_⟩
        rw [e2 b tb hb, List.take_length])
      (s := m) ⟨hm1, fun b tb hb => by rw [hm2 b tb hb]; simp⟩
    rw [k1]
    obtain ⟨r1, r2⟩ := r
    simp only at k2 k3 k4
    subst k2
    refine ⟨_, rfl, rfl, k3, fun b tb hb => ?_⟩
    simp only
    rw [k4 b tb hb, List.take_succ_eq_append_getElem hj, List.any_append]
    simp only [List.any_cons, List.any_nil, Bool.or_false, hq]
    congr 2
    have hbl := (List.getElem?_eq_some_iff.1 hb).1
    have hiff : ((b : Int) ∈ l) ↔ takesB tb q = true := by
      rw [c2]
      constructor
      · rintro ⟨i, h1, h2, t, h3, h4⟩
        obtain rfl : b = i := by omega
        rw [hb] at h3
        cases h3
        rw [show q = ((q.toNat : Nat) : Int) by omega]; exact h4
      · intro h
        exact ⟨b, hbl, rfl, tb, hb, by rw [show ((q.toNat : Nat) : Int) = q by omega]; exact h⟩
    cases hc : takesB tb q with
    | true => exact decide_eq_true (hiff.2 hc)
    | false => exact decide_eq_false fun hh => by rw [hiff.1 hh] at hc; cases hc
  · rintro ⟨tk', m⟩ ⟨h1, hm⟩
    simp only at h1 hm
    subst h1
    unfold p22_l3
    simp only
    rw [if_neg (by omega)]
    exact ⟨_, rfl, rfl, hm⟩
  · refine ⟨rfl, by simp, fun b tb hb => ?_⟩
    have := (List.getElem?_eq_some_iff.1 hb).1
    simp only
    rw [List.getElem?_replicate, if_pos this]; simp
theorem p22_eq {n : TNet} (ok : NetOk n) : p22 n = some (nextL n) := by
  unfold p22
  have hnp := ok.np
  have hnt := ok.nt
  rw [mkS_ok (by omega) (by omega), mkS_ok (by omega) (by omega)]
  simp only [Option.bind_some, Int.toNat_natCast]
  obtain ⟨tk, h1, hT⟩ := p22_takes ok
  rw [h1]
  simp only [Option.bind_some]
  suffices key : ∃ r, loopC (p22_l5 n) ((0 : Int), tk, List.replicate n.Trans.length []) = some r ∧ r = nextL n by
    obtain ⟨r, k1, k2⟩ := key
    rw [k1, k2]; rfl
  refine loop_up (f := p22_l5 n) n.Trans.length (by omega)
    (fun a (s : List (List Int) × List (List Int)) => s.1 = tk ∧ s.2.length = n.Trans.length ∧ ∀ i : Nat, i < n.Trans.length → s.2[i]? = some (if i < a then rowOf n i else []))
    (fun r => r = nextL n) ?_ ?_ (s := (tk, List.replicate n.Trans.length [])) ⟨rfl, by simp, fun i hi => by simp [hi]⟩
  · rintro a ⟨tk', out⟩ ha ⟨e1, e2, e3⟩
    simp only at e1 e2 e3
    subst e1
    left
    unfold p22_l5
    simp only
    rw [if_pos (by omega), idx_get ha]
    simp only [Option.bind_some]
    have hm := List.getElem_mem ha
    have hget : n.Trans[a]? = some n.Trans[a] := List.getElem?_eq_getElem ha
    have hd := ok.delay _ hm
    generalize hta : n.Trans[a] = ta at *
    by_cases hdl : 0 < ta.Delay
    · rw [if_pos hdl]
      refine ⟨_, rfl, rfl, e2, fun i hi => ?_⟩
      simp only
      rw [e3 i hi]
      by_cases hia : i < a
      · rw [if_pos hia, if_pos (by omega)]
      · rw [if_neg hia]
        split
        · obtain rfl : i = a := by omega
          congr 1
          unfold rowOf
          have : (List.range n.Trans.length).filter (fun b => edgeB n i b) = [] := by
            rw [List.filter_eq_nil_iff]
            intro b _ hb
            unfold edgeB at hb
            rw [hget] at hb
            cases hb2 : n.Trans[b]? with
            | none => rw [hb2] at hb; cases hb
            | some tb =>
              rw [hb2] at hb
              simp only [Bool.and_eq_true, decide_eq_true_eq] at hb
              omega
          rw [this]; rfl
        · rfl
    · rw [if_neg hdl, mkS_ok (by omega) (by omega)]
      simp only [Option.bind_some, Int.toNat_natCast]
      obtain ⟨⟨tk2, mk⟩, m1, m2, m3, m4⟩ := p22_marks ok hT (ta := ta) (by rw [← hta]; exact List.getElem_mem ha)
      simp only at m2 m3 m4
      subst m2
      rw [m1]
      simp only [Option.bind_some]
      rw [List.take_length] at m4
      have hedge : ∀ b : Nat, b < n.Trans.length → mk[b]? = some (edgeB n a b) := fun b hb => by
        have hb' : n.Trans[b]? = some n.Trans[b] := List.getElem?_eq_getElem hb
        rw [m4 b _ hb']
        unfold edgeB
        rw [hget, hb']
        have : ta.Delay = 0 := by omega
        simp only [this, decide_true, Bool.true_and]
      obtain ⟨out2, o1, o2, o3⟩ := loop_up (f := p22_l4 (a : Int) mk) mk.length (by omega)
        (fun b s => s.length = n.Trans.length ∧ ∀ i : Nat, i < n.Trans.length → s[i]? = some (if i < a then rowOf n i else if i = a then ((List.range b).filter fun b => edgeB n a b).map (fun b : Nat => (b : Int)) else []))
        (fun s => s.length = n.Trans.length ∧ ∀ i : Nat, i < n.Trans.length → s[i]? = some (if i < a + 1 then rowOf n i else []))
        (by
          intro b s hb ⟨q1, q2⟩
          left
          unfold p22_l4
          simp only
          rw [if_pos (by omega), idx_ok (hedge b (by omega))]
          simp only [Option.bind_some]
          have hrange : (List.range (b + 1)).filter (fun b => edgeB n a b) = (List.range b).filter (fun b => edgeB n a b) ++ (if edgeB n a b = true then [b] else []) := by
            rw [List.range_succ, List.filter_append]; congr 1
            simp only [List.filter_cons, List.filter_nil]
          cases hE : edgeB n a b with
          | true =>
            rw [if_pos rfl, idx_ok (q2 a (by omega))]
            simp only [Option.bind_some, Nat.lt_irrefl, if_false, if_true]
            rw [app_ok (by
              simp only [List.length_singleton, List.length_map]
              have := List.length_filter_le (fun b => edgeB n a b) (List.range b)
              rw [List.length_range] at this
              omega)]
            simp only [Option.bind_some, p22_j0]
            refine ⟨_, rfl, by simpa using q1, fun i hi => ?_⟩
            rw [List.getElem?_set]
            simp only [Int.toNat_natCast]
            split
            · rename_i hai
              subst hai
              rw [if_pos (by omega)]
              simp only [Nat.lt_irrefl, if_false, if_true]
              rw [hrange, hE]; simp
            · rename_i hai
              rw [q2 i hi]
              split
              · rfl
              · rw [if_neg (by omega), if_neg (by omega)]
          | false =>
            rw [if_neg (by decide)]
            refine ⟨_, rfl, q1, fun i hi => ?_⟩
            rw [q2 i hi, hrange, hE]; simp)
        (by
          intro s ⟨q1, q2⟩
          unfold p22_l4
          simp only
          rw [if_neg (by omega)]
          refine ⟨_, rfl, q1, fun i hi => ?_⟩
          rw [q2 i hi, m3]
          by_cases h1 : i < a
          · rw [if_pos h1, if_pos (by omega)]
          · rw [if_neg h1]
            by_cases h2 : i = a
            · rw [if_pos h2, if_pos (by omega), h2]; rfl
            · rw [if_neg h2, if_neg (by omega)])
        (s := out) ⟨e2, fun i hi => by
          rw [e3 i hi]
          by_cases h1 : i < a
          · rw [if_pos h1, if_pos h1]
          · rw [if_neg h1, if_neg h1]
            split <;> simp⟩
      rw [o1]
      exact ⟨_, rfl, rfl, o2, o3⟩
  · rintro ⟨tk', out⟩ ⟨e1, e2, e3⟩
    simp only at e1 e2 e3
    unfold p22_l5
    simp only
    rw [if_neg (by omega)]
    refine ⟨_, rfl, ?_⟩
    apply List.ext_getElem?
    intro i
    unfold nextL
    rw [List.getElem?_map]
    rcases Nat.lt_or_ge i n.Trans.length with hh | hh
    · rw [e3 i hh, if_pos hh, List.getElem?_range hh]; rfl
    · rw [List.getElem?_eq_none (by omega), List.getElem?_eq_none (by simpa using hh)]; rfl
end Go.Proofs.Ytgbkpiaonlabgaa

/- The loops' layer, plainly: who comes to itself again. Own work. -/
namespace Go.Proofs.Ytgbkpiaonlabgaa
open Go Go.Am
set_option linter.unusedVariables false
set_option linter.unusedSimpArgs false
def Edge (n : TNet) (a b : Nat) : Prop := edgeB n a b = true
theorem edge_lt {n : TNet} {a b : Nat} (h : Edge n a b) : a < n.Trans.length ∧ b < n.Trans.length := by
  unfold Edge edgeB at h
  split at h
  · rename_i ta tb h1 h2
    exact ⟨(List.getElem?_eq_some_iff.1 h1).1, (List.getElem?_eq_some_iff.1 h2).1⟩
  · cases h
theorem edge_delay {n : TNet} {a b : Nat} (h : Edge n a b) {t : TTrans} (ht : n.Trans[a]? = some t) : t.Delay = 0 := by
  unfold Edge edgeB at h
  rw [ht] at h
  split at h
  · rename_i ta tb h1 h2
    cases h1
    simp only [Bool.and_eq_true, decide_eq_true_eq] at h
    exact h.1
  · cases h
theorem mem_rowOf {n : TNet} {a : Nat} {v : Int} : v ∈ rowOf n a ↔ ∃ b : Nat, v = b ∧ Edge n a b := by
  unfold rowOf
  simp only [List.mem_map, List.mem_filter, List.mem_range]
  constructor
  · rintro ⟨b, ⟨h1, h2⟩, rfl⟩; exact ⟨b, rfl, h2⟩
  · rintro ⟨b, rfl, h⟩; exact ⟨b, ⟨(edge_lt h).2, h⟩, rfl⟩
theorem rowOf_len {n : TNet} (a : Nat) : (rowOf n a).length ≤ n.Trans.length := by
  unfold rowOf
  rw [List.length_map]
  have := List.length_filter_le (fun b => edgeB n a b) (List.range n.Trans.length)
  rwa [List.length_range] at this
theorem nextL_get {n : TNet} {a : Nat} (h : a < n.Trans.length) : (nextL n)[a]? = some (rowOf n a) := by
  unfold nextL
  rw [List.getElem?_map, List.getElem?_range h]; rfl
theorem nextL_len (n : TNet) : (nextL n).length = n.Trans.length := by unfold nextL; simp
/-- How many are not marked yet. -/
def unseen (l : List Bool) : Nat := (l.filter fun b => !b).length
theorem unseen_set : ∀ {l : List Bool} {i : Nat}, l[i]? = some false → unseen (l.set i true) + 1 = unseen l
  | [], i, h => by simp at h
  | b :: l, 0, h => by
    simp at h
    subst h
    simp [unseen]
  | b :: l, i + 1, h => by
    simp only [List.getElem?_cons_succ] at h
    have := unseen_set h
    unfold unseen at *
    cases b <;> simp_all
/-- Does a walk lead from one to itself? -/
theorem p40_eq {n : TNet} (ok : NetOk n) {a : Nat} (ha : a < n.Trans.length) : ∃ r, p40 (nextL n) n (a : Int) = some r ∧ (r = true ↔ Walk (Edge n) a a) := by
  unfold p40
  have hnt := ok.nt
  rw [nextL_len, mkS_ok (by omega) (by omega), idx_ok (nextL_get ha)]
  simp only [Option.bind_some, Int.toNat_natCast]
  have hr := rowOf_len (n := n) a
  rw [app_ok (by simp only [List.length_nil, Nat.zero_add]; omega)]
  simp only [Option.bind_some, List.nil_append]
  -- what is handled: marked, or has no one to give to
  let H : List Bool → Nat → Prop := fun seen b => b ≠ a ∧ (seen[b]? = some true ∨ ∀ c, ¬ Edge n b c)
  suffices key : ∃ r, loopC (p40_l0 (nextL n) n (a : Int)) (List.replicate n.Trans.length false, rowOf n a) = some r ∧ (match r with
      | .inl _ => Walk (Edge n) a a
      | .inr _ => ¬ Walk (Edge n) a a) by
    obtain ⟨r, h1, h2⟩ := key
    rw [h1]
    cases r with
    | inl u => exact ⟨true, rfl, by simpa using h2⟩
    | inr u => exact ⟨false, rfl, by simpa using h2⟩
  refine loopC_rule
    (fun (s : List Bool × List Int) => s.1.length = n.Trans.length ∧ s.2.length ≤ (n.Trans.length - unseen s.1 + 1) * 1000 ∧ (∀ v : Int, v ∈ s.2 → ∃ b : Nat, v = b ∧ Walk (Edge n) a b) ∧ (∀ b : Nat, s.1[b]? = some true → Walk (Edge n) a b) ∧
      (∀ b, (b = a ∨ s.1[b]? = some true) → ∀ c, Edge n b c → (c : Int) ∈ s.2 ∨ H s.1 c))
    (fun (s : List Bool × List Int) => unseen s.1 * 1001 + s.2.length) _ ?_ ?_
  · rintro ⟨seen, work⟩ ⟨h1, h2, h3, h4, h5⟩
    simp only at h1 h2 h3 h4 h5
    unfold p40_l0
    simp only
    have hun : unseen seen ≤ n.Trans.length := by
      unfold unseen
      have := List.length_filter_le (fun b => !b) seen
      omega
    have hwl : work.length ≤ 1001 * 1000 := Nat.le_trans h2 (Nat.mul_le_mul_right _ (by omega))
    by_cases hw : (0 : Int) < (work.length : Int)
    · rw [if_pos hw, wrap64 (by omega) (by omega)]
      have hpos : 0 < work.length := by omega
      have hi : ((work.length : Int) - 1) = ((work.length - 1 : Nat) : Int) := by omega
      rw [hi, idx_get (show work.length - 1 < work.length by omega)]
      simp only [Option.bind_some]
      have hsl : slc work 0 ((work.length - 1 : Nat) : Int) = some (work.take (work.length - 1)) := by
        unfold slc
        rw [if_pos (by omega)]
        simp only [Int.toNat_natCast, Int.toNat_zero, List.drop_zero]
      rw [hsl]
      simp only [Option.bind_some]
      have hlast : work[work.length - 1] ∈ work := List.getElem_mem _
      have hsplit : work = work.take (work.length - 1) ++ [work[work.length - 1]] := by
        rw [← List.take_succ_eq_append_getElem, List.take_of_length_le (by omega)]
      obtain ⟨b, hb, hwb⟩ := h3 _ hlast
      generalize hv : work[work.length - 1] = v at *
      subst hb
      have hbn : b < n.Trans.length := by
        cases hwb with
        | one e => exact (edge_lt e).2
        | step _ e => exact (edge_lt e).2
      have hsub : ∀ x, x ∈ work.take (work.length - 1) → x ∈ work := fun x hx => List.mem_of_mem_take hx
      have hin : ∀ x, x ∈ work → x ∈ work.take (work.length - 1) ∨ x = (b : Int) := fun x hx => by
        rw [hsplit] at hx
        rcases List.mem_append.1 hx with hx | hx
        · exact .inl hx
        · exact .inr (List.mem_singleton.1 hx)
      have htl : (work.take (work.length - 1)).length = work.length - 1 := by rw [List.length_take]; omega
      by_cases hba : (b : Int) = (a : Int)
      · rw [if_pos hba]
        obtain rfl : b = a := by omega
        exact .inr ⟨_, rfl, hwb⟩
      · rw [if_neg hba]
        have hba' : b ≠ a := by omega
        have hsb : seen[b]? = some seen[b] := List.getElem?_eq_getElem (by omega)
        have htb : n.Trans[b]? = some n.Trans[b] := List.getElem?_eq_getElem hbn
        rw [idx_ok hsb]
        simp only [Option.bind_some]
        cases hsv : seen[b] with
        | true =>
          rw [hsv] at hsb
          rw [if_neg (by decide)]
          simp only [p40_j0, if_neg (show ¬ (false = true) by decide)]
          refine .inl ⟨_, rfl, ⟨h1, by simp only [htl]; omega, fun x hx => h3 x (hsub x hx), h4, fun x hx c hc => ?_⟩, by simp only [htl]; omega⟩
          rcases h5 x hx c hc with hh | hh
          · rcases hin _ hh with hh | hh
            · exact .inl hh
            · obtain rfl : c = b := by omega
              exact .inr ⟨hba', .inl hsb⟩
          · exact .inr hh
        | false =>
          rw [hsv] at hsb
          rw [if_pos (by decide), idx_ok htb]
          simp only [Option.bind_some]
          by_cases hd : n.Trans[b].Delay = 0
          · rw [decide_eq_true hd]
            simp only [p40_j0, if_true]
            rw [idx_ok hsb, idx_ok (nextL_get hbn)]
            simp only [Option.bind_some, Int.toNat_natCast]
            have hrb := rowOf_len (n := n) b
            rw [app_ok (by rw [htl]; omega)]
            simp only [Option.bind_some]
            have hus := unseen_set hsb
            refine .inl ⟨_, rfl, ⟨by simpa using h1, ?_, fun x hx => ?_, fun x hx => ?_, fun x hx c hc => ?_⟩, ?_⟩
            · simp only [List.length_append, htl]
              have e1 : n.Trans.length - unseen (seen.set b true) + 1 = (n.Trans.length - unseen seen + 1) + 1 := by omega
              rw [e1, Nat.add_mul]
              omega
            · rcases List.mem_append.1 hx with hx | hx
              · exact h3 x (hsub x hx)
              · obtain ⟨c, rfl, hc⟩ := mem_rowOf.1 hx
                exact ⟨c, rfl, .step hwb hc⟩
            · rw [List.getElem?_set] at hx
              split at hx
              · rename_i hh; subst hh; exact hwb
              · exact h4 x hx
            · have mono : ∀ c, H seen c → H (seen.set b true) c := fun c hH => ⟨hH.1, by
                rcases hH.2 with hh | hh
                · left
                  rw [List.getElem?_set]
                  split
                  · rw [if_pos (by omega)]
                  · exact hh
                · exact .inr hh⟩
              have old : (x = a ∨ seen[x]? = some true) → (c : Int) ∈ work.take (work.length - 1) ++ rowOf n b ∨ H (seen.set b true) c := fun hx => by
                rcases h5 x hx c hc with hh | hh
                · rcases hin _ hh with hh | hh
                  · exact .inl (List.mem_append_left _ hh)
                  · obtain rfl : c = b := by omega
                    refine .inr ⟨hba', .inl ?_⟩
                    rw [List.getElem?_set, if_pos rfl, if_pos (by omega)]
                · exact .inr (mono c hh)
              rcases hx with hx | hx
              · exact old (.inl hx)
              · simp only at hx
                rw [List.getElem?_set] at hx
                split at hx
                · rename_i hh
                  subst hh
                  exact .inl (List.mem_append_right _ (mem_rowOf.2 ⟨c, rfl, hc⟩))
                · exact old (.inr hx)
            · simp only [List.length_append, htl]
              have e1 : unseen seen * 1001 = unseen (seen.set b true) * 1001 + 1001 := by rw [← hus, Nat.add_mul]
              omega
          · rw [decide_eq_false hd]
            simp only [p40_j0, if_neg (show ¬ (false = true) by decide)]
            refine .inl ⟨_, rfl, ⟨h1, by simp only [htl]; omega, fun x hx => h3 x (hsub x hx), h4, fun x hx c hc => ?_⟩, by simp only [htl]; omega⟩
            rcases h5 x hx c hc with hh | hh
            · rcases hin _ hh with hh | hh
              · exact .inl hh
              · obtain rfl : c = b := by omega
                exact .inr ⟨hba', .inr fun c2 hc2 => hd (edge_delay hc2 htb)⟩
            · exact .inr hh
    · rw [if_neg hw]
      refine .inr ⟨_, rfl, fun hwalk => ?_⟩
      have hnil : work = [] := List.eq_nil_of_length_eq_zero (by omega)
      subst hnil
      have all : ∀ c, Walk (Edge n) a c → H seen c := by
        intro c hc
        induction hc with
        | one e =>
          rcases h5 a (.inl rfl) _ e with hh | hh
          · cases hh
          · exact hh
        | step _ e ih =>
          rcases ih.2 with hh | hh
          · rcases h5 _ (.inr hh) _ e with hh | hh
            · cases hh
            · exact hh
          · exact absurd e (hh _)
      exact (all a hwalk).1 rfl
  · refine ⟨by simp, ?_, fun v hv => ?_, fun b hb => ?_, fun b hb c hc => ?_⟩
    · simp only
      have : 1 * 1000 ≤ (n.Trans.length - unseen (List.replicate n.Trans.length false) + 1) * 1000 := Nat.mul_le_mul_right _ (by omega)
      omega
    · obtain ⟨b, rfl, hb⟩ := mem_rowOf.1 hv
      exact ⟨b, rfl, .one hb⟩
    · simp only at hb
      rw [List.getElem?_replicate] at hb
      split at hb <;> cases hb
    · rcases hb with rfl | hb
      · exact .inl (mem_rowOf.2 ⟨c, rfl, hc⟩)
      · simp only at hb
        rw [List.getElem?_replicate] at hb
        split at hb <;> cases hb
/-- Find: who stands on a circle. -/
theorem p20_eq {n : TNet} (ok : NetOk n) : ∃ on, p20 n = some on ∧ on.length = n.Trans.length ∧ ∀ a : Nat, a < n.Trans.length → ∃ r, on[a]? = some r ∧ (r = true ↔ Walk (Edge n) a a) := by
  unfold p20
  have hnt := ok.nt
  rw [p22_eq ok]
  simp only [Option.bind_some]
  rw [mkS_ok (by omega) (by omega)]
  simp only [Option.bind_some, Int.toNat_natCast]
  suffices key : ∃ on, loopC (p20_l0 n (nextL n)) ((0 : Int), List.replicate n.Trans.length false) = some on ∧ (on.length = n.Trans.length ∧ ∀ a : Nat, a < n.Trans.length → ∃ r, on[a]? = some r ∧ (r = true ↔ Walk (Edge n) a a)) by
    obtain ⟨on, h1, h2⟩ := key
    rw [h1]
    exact ⟨on, rfl, h2⟩
  refine loop_up (f := p20_l0 n (nextL n)) n.Trans.length (by omega) (fun k (s : List Bool) => s.length = n.Trans.length ∧ ∀ a : Nat, a < k → ∃ r, s[a]? = some r ∧ (r = true ↔ Walk (Edge n) a a)) _ ?_ ?_ ?_
  · intro k s hk ⟨h1, h2⟩
    left
    unfold p20_l0
    simp only
    rw [if_pos (by omega), idx_get hk]
    simp only [Option.bind_some]
    have fin : ∀ r, (r = true ↔ Walk (Edge n) k k) → ∃ s', p20_j0 (k : Int) s r = some (.inl (IntKind.wrap .i64 ((k : Int) + 1), s')) ∧ s'.length = n.Trans.length ∧ ∀ a : Nat, a < k + 1 → ∃ r, s'[a]? = some r ∧ (r = true ↔ Walk (Edge n) a a) := by
      intro r hr
      unfold p20_j0
      rw [idx_get (show k < s.length by omega)]
      simp only [Option.bind_some, Int.toNat_natCast]
      refine ⟨_, rfl, by simpa using h1, fun a ha => ?_⟩
      rw [List.getElem?_set]
      split
      · rename_i hh
        subst hh
        exact ⟨r, by rw [if_pos (by omega)], hr⟩
      · exact h2 a (by omega)
    by_cases hd : n.Trans[k].Delay = 0
    · rw [if_pos hd]
      obtain ⟨r, hr1, hr2⟩ := p40_eq ok hk
      rw [hr1]
      exact fin r hr2
    · rw [if_neg hd]
      refine fin false ⟨(by intro h; cases h), fun hw => ?_⟩
      exfalso
      have : ∃ c, Edge n k c := by
        have gen : ∀ x y, Walk (Edge n) x y → ∃ c, Edge n x c := by
          intro x y hxy
          induction hxy with
          | one e => exact ⟨_, e⟩
          | step _ _ ih => exact ih
        exact gen _ _ hw
      obtain ⟨c, hc⟩ := this
      exact hd (edge_delay hc (List.getElem?_eq_getElem hk))
  · intro s ⟨h1, h2⟩
    unfold p20_l0
    simp only
    rw [if_neg (by omega)]
    exact ⟨_, rfl, h1, h2⟩
  · exact ⟨by simp, fun a ha => by omega⟩
/-- An edge, by what the two transitions are. -/
theorem edge_iff {n : TNet} {a b : Nat} {ta tb : TTrans} (ha : n.Trans[a]? = some ta) (hb : n.Trans[b]? = some tb) : Edge n a b ↔ ta.Delay = 0 ∧ ∃ x, x ∈ ta.Out ∧ ∃ y, y ∈ tb.In ∧ y.Place = x.Place := by
  unfold Edge edgeB
  rw [ha, hb]
  simp only [Bool.and_eq_true, decide_eq_true_eq, List.any_eq_true, takesB]
end Go.Proofs.Ytgbkpiaonlabgaa

/- The nets that numbers make, plainly: they may be. Own work. -/
namespace Go.Proofs.Ytgbkpiaonlabgaa
open Go Go.Am
set_option linter.unusedVariables false
set_option linter.unusedSimpArgs false
/-- Numbers of a byte. -/
def B8 (n : Int) : Prop := 0 ≤ n ∧ n ≤ 255
structure ActOk (x : TAct) : Prop where
  D : B8 x.D
  P : B8 x.P
  I : B8 x.I
  J : B8 x.J
  N : B8 x.N
  O : B8 x.O
  Q : B8 x.Q
structure DraftOk (d : TDraft) : Prop where
  nt : d.Tokens.length ≤ 1000000000
  na : d.Acts.length ≤ 1000000000
  tok : ∀ v, v ∈ d.Tokens → B8 v
  act : ∀ x, x ∈ d.Acts → ActOk x
/-- A draft, of whatever size. -/
structure DraftIn (d : TDraft) : Prop where
  tok : ∀ v, v ∈ d.Tokens → B8 v
  act : ∀ x, x ∈ d.Acts → ActOk x
theorem DraftIn.ok {d : TDraft} (h : DraftIn d) (ht : d.Tokens.length ≤ 60) (ha : d.Acts.length ≤ 12) : DraftOk d := ⟨by omega, by omega, h.tok, h.act⟩
theorem wu8 {n : Int} : 0 ≤ IntKind.wrap .u8 n ∧ IntKind.wrap .u8 n ≤ 255 := by rw [IntKind.wrap_u8]; omega
theorem wu8_64 {n : Int} : IntKind.wrap .i64 (IntKind.wrap .u8 n) = IntKind.wrap .u8 n := by
  have := wu8 (n := n)
  exact wrap64 (by omega) (by omega)
theorem rem_nat {a : Int} {m : Nat} (ha : 0 ≤ a) (hm : 0 < m) : ∃ q : Int, remI .i64 a (m : Int) = some q ∧ 0 ≤ q ∧ q < m := by
  refine ⟨_, remI_ok (by omega), ?_, ?_⟩
  · exact Int.tmod_nonneg _ ha
  · exact Int.tmod_lt_of_pos _ (by omega)
/-- A list of arcs to places that are there. -/
def ArcsOk (m b : Nat) (l : List TArc) : Prop := l.length ≤ b ∧ ∀ a, a ∈ l → 0 ≤ a.Place ∧ a.Place < (m : Int)
theorem ArcsOk.nil (m b : Nat) : ArcsOk m b [] := ⟨Nat.zero_le _, fun _ h => by cases h⟩
theorem ArcsOk.le {m b c : Nat} {l : List TArc} (h : ArcsOk m b l) (hb : b ≤ c) : ArcsOk m c l := ⟨Nat.le_trans h.1 hb, h.2⟩
theorem put_ok {m b : Nat} {l : List TArc} {q n : Int} (h : ArcsOk m b l) (hb : b ≤ 1000) (h0 : 0 ≤ q) (h1 : q < m) : ∃ l', p39 l q n = some l' ∧ ArcsOk m (b + 1) l' := by
  refine ⟨_, p39_eq (by have := h.1; omega), ?_⟩
  split
  · exact h.le (Nat.le_succ _)
  · refine ⟨by rw [List.length_append, List.length_singleton]; have := h.1; omega, fun a ha => ?_⟩
    rcases List.mem_append.1 ha with ha | ha
    · exact h.2 a ha
    · rw [List.mem_singleton] at ha; subst ha; exact ⟨h0, h1⟩
structure TransOk (m : Nat) (t : TTrans) : Prop where
  ins : ArcsOk m 2 t.In
  nots : ArcsOk m 1 t.Not
  outs : ArcsOk m 2 t.Out
  delay : 0 ≤ t.Delay
  dle : t.Delay ≤ 4
def MkT (m k : Nat) (c : List TTrans) : Prop := c.length = k ∧ ∀ t, t ∈ c → TransOk m t
def Goes (m k : Nat) (o : Option ((Int × List TTrans) ⊕ List TTrans)) : Prop := ∃ s', o = some (.inl (IntKind.wrap .i64 ((k : Int) + 1), s')) ∧ MkT m (k + 1) s'
theorem j1_ok {m k : Nat} {c : List TTrans} (hk : k ≤ 9) (hc : MkT m k c) {x : TAct} {s : List UInt8} {a b o : List TArc} {d : Int} (ha : ArcsOk m 2 a) (hb : ArcsOk m 1 b) (ho : ArcsOk m 2 o) (hd : 0 ≤ d ∧ d ≤ 4) : Goes m k (p17_j1 (k : Int) c x s a b o d) := by
  unfold p17_j1
  rw [app_ok (by rw [hc.1]; simp; omega)]
  refine ⟨_, rfl, by rw [List.length_append, hc.1]; rfl, fun t ht => ?_⟩
  rcases List.mem_append.1 ht with ht | ht
  · exact hc.2 t ht
  · rw [List.mem_singleton] at ht; subst ht; exact ⟨ha, hb, ho, hd.1, hd.2⟩
theorem j3_ok {m k : Nat} {c : List TTrans} (hk : k ≤ 9) (hc : MkT m k c) {x : TAct} (hx : ActOk x) {s : List UInt8} {a b o : List TArc} (ha : ArcsOk m 2 a) (hb : ArcsOk m 1 b) (ho : ArcsOk m 2 o) : Goes m k (p17_j3 (k : Int) c x s a b o) := by
  have hD := hx.D
  unfold B8 at hD
  have hd : 0 ≤ IntKind.wrap .i64 (Int.tmod x.D 5) ∧ IntKind.wrap .i64 (Int.tmod x.D 5) ≤ 4 := by
    rw [IntWalk.rem_in _ _ hD.1, wrap64 (by omega) (by omega)]; omega
  have h2 : ∀ v, Goes m k (p17_j2 (k : Int) c x s a b o v) := fun v => by
    unfold p17_j2
    split
    · exact j1_ok hk hc ha hb ho (by decide)
    · exact j1_ok hk hc ha hb ho hd
  unfold p17_j3
  split <;> exact h2 _
theorem j4_ok {m k : Nat} {c : List TTrans} (hk : k ≤ 9) (hc : MkT m k c) {x : TAct} (hx : ActOk x) {s : List UInt8} {a b o : List TArc} {pl : List TPlace} (hpl : pl.length = m) (hm : 0 < m) (ha : ArcsOk m 2 a) (hb : ArcsOk m 1 b) (ho : ArcsOk m 1 o) : Goes m k (p17_j4 pl (k : Int) c x s a b o) := by
  unfold p17_j4
  split
  · rw [wu8_64, hpl]
    obtain ⟨q, h1, h2, h3⟩ := rem_nat (wu8 (n := x.Q.tdiv 3)).1 hm
    rw [h1]
    simp only [Option.bind_some]
    obtain ⟨l, h4, h5⟩ := put_ok (n := 1) ho (by omega) h2 h3
    rw [h4]
    exact j3_ok hk hc hx ha hb h5
  · exact j3_ok hk hc hx ha hb (ho.le (by omega))
theorem j5_ok {m k : Nat} {c : List TTrans} (hk : k ≤ 9) (hc : MkT m k c) {x : TAct} (hx : ActOk x) {s : List UInt8} {a b : List TArc} {pl : List TPlace} (hpl : pl.length = m) (hm : 0 < m) (ha : ArcsOk m 2 a) (hb : ArcsOk m 1 b) : Goes m k (p17_j5 pl (k : Int) c x s a b) := by
  unfold p17_j5
  split
  · rw [wu8_64, hpl]
    obtain ⟨q, h1, h2, h3⟩ := rem_nat (wu8 (n := x.O.tdiv 5)).1 hm
    rw [h1]
    simp only [Option.bind_some]
    obtain ⟨l, h4, h5⟩ := put_ok (l := []) (b := 0) (n := IntKind.wrap .i64 (1 + IntKind.wrap .i64 (IntKind.wrap .u8 (Int.tdiv x.O 128)))) (ArcsOk.nil _ _) (by omega) h2 h3
    rw [h4]
    exact j4_ok hk hc hx hpl hm ha hb h5
  · exact j4_ok hk hc hx hpl hm ha hb (ArcsOk.nil _ _)
theorem j6_ok {m k : Nat} {c : List TTrans} (hk : k ≤ 9) (hc : MkT m k c) {x : TAct} (hx : ActOk x) {s : List UInt8} {a : List TArc} {pl : List TPlace} (hpl : pl.length = m) (hm : 0 < m) (ha : ArcsOk m 2 a) : Goes m k (p17_j6 pl (k : Int) c x s a) := by
  unfold p17_j6
  split
  · rw [wu8_64, hpl]
    obtain ⟨q, h1, h2, h3⟩ := rem_nat (wu8 (n := x.N.tdiv 4)).1 hm
    rw [h1]
    simp only [Option.bind_some]
    obtain ⟨l, h4, h5⟩ := put_ok (l := []) (b := 0) (n := IntKind.wrap .i64 (1 + IntKind.wrap .i64 (IntKind.wrap .u8 (Int.tdiv x.N 64)))) (ArcsOk.nil _ _) (by omega) h2 h3
    rw [h4]
    exact j5_ok hk hc hx hpl hm ha h5
  · exact j5_ok hk hc hx hpl hm ha (ArcsOk.nil _ _)
theorem j7_ok {d : TDraft} (hd : DraftOk d) {m k : Nat} {c : List TTrans} (hk : k < 9) (hkl : k < d.Acts.length) (hc : MkT m k c) {pl : List TPlace} (hpl : pl.length = m) (hm : 0 < m) : Goes m k (p17_j7 d pl (k : Int) c true) := by
  unfold p17_j7
  rw [if_pos rfl, idx_get hkl]
  simp only [Option.bind_some]
  have hx := hd.act _ (List.getElem_mem hkl)
  generalize d.Acts[k] = x at *
  rw [catS_ok (by simp)]
  simp only [Option.bind_some]
  rw [catS_ok (by simp)]
  simp only [Option.bind_some]
  have hI := hx.I
  unfold B8 at hI
  rw [wrap64 (n := x.I) (by omega) (by omega), hpl]
  obtain ⟨q, h1, h2, h3⟩ := rem_nat hI.1 hm
  rw [h1]
  simp only [Option.bind_some]
  obtain ⟨l, h4, h5⟩ := put_ok (l := []) (b := 0) (n := IntKind.wrap .i64 (1 + Int.tmod (IntKind.wrap .i64 (IntKind.wrap .u8 (Int.tdiv x.I 64))) 2)) (ArcsOk.nil _ _) (by omega) h2 h3
  rw [h4]
  simp only [Option.bind_some]
  split
  · rw [wu8_64]
    obtain ⟨q, h1, h2, h3⟩ := rem_nat (wu8 (n := x.J.tdiv 3)).1 hm
    rw [h1]
    simp only [Option.bind_some]
    obtain ⟨l2, h6, h7⟩ := put_ok (n := 1) h5 (by omega) h2 h3
    rw [h6]
    exact j6_ok (by omega) hc hx hpl hm h7
  · exact j6_ok (by omega) hc hx hpl hm (h5.le (by omega))
theorem p17_places {d : TDraft} (hd : DraftOk d) : ∃ pl : List TPlace, loopC (p17_l0 d) ((0 : Int), []) = some pl ∧ (0 < pl.length ∧ pl.length ≤ 7) := by
  have hnt := hd.nt
  have hb : IntKind.wrap .i64 ((1 : Int) + Int.tmod (d.Tokens.length : Int) 7) = ((1 + d.Tokens.length % 7 : Nat) : Int) := by
    rw [IntWalk.rem_in _ _ (by omega), wrap64 (by omega) (by omega)]; omega
  refine loop_up (f := p17_l0 d) (1 + d.Tokens.length % 7) (by omega) (fun k (c : List TPlace) => c.length = k) _ ?_ ?_ rfl
  · intro k c hk hc
    left
    unfold p17_l0
    simp only
    rw [hb, if_pos (by omega)]
    have hj : ∀ v, ∃ s', p17_j0 (k : Int) c v = some (.inl (IntKind.wrap .i64 ((k : Int) + 1), s')) ∧ s'.length = k + 1 := fun v => by
      unfold p17_j0
      rw [catS_ok (by simp)]
      simp only [Option.bind_some]
      rw [app_ok (by simp; omega)]
      exact ⟨_, rfl, by simp [hc]⟩
    split
    · rename_i hlt
      rw [idx_get (show k < d.Tokens.length by omega)]
      exact hj _
    · exact hj _
  · intro c hc
    unfold p17_l0
    simp only
    rw [hb, if_neg (by omega)]
    exact ⟨_, rfl, by omega, by omega⟩
/-- Make: a net that may be. -/
theorem p17_ok {d : TDraft} (hd : DraftOk d) : ∃ n, p17 d = some n ∧ NetOk n ∧ 0 < n.Places.length ∧ n.Places.length ≤ 7 ∧ n.Trans.length ≤ 9 ∧ ∀ t, t ∈ n.Trans → TransOk n.Places.length t := by
  unfold p17
  obtain ⟨pl, h1, h2, h3⟩ := p17_places hd
  rw [h1]
  simp only [Option.bind_some]
  have hna := hd.na
  suffices key : ∃ c, loopC (p17_l1 d pl) ((0 : Int), []) = some c ∧ ∃ k, k ≤ 9 ∧ MkT pl.length k c by
    obtain ⟨c, h4, k, h5, h6, h7⟩ := key
    rw [h4]
    refine ⟨_, rfl, ⟨by simp only; omega, by simp only; omega, fun t ht => ?_, fun t ht => ?_, fun t ht => (h7 t ht).delay⟩, h2, h3, by simp only; omega, h7⟩
    · exact ⟨by have := (h7 t ht).ins.1; omega, (h7 t ht).ins.2⟩
    · exact ⟨by have := (h7 t ht).outs.1; omega, (h7 t ht).outs.2⟩
  refine loop_up (f := p17_l1 d pl) (min 9 d.Acts.length) (by omega) (fun k c => MkT pl.length k c) _ ?_ ?_ ⟨rfl, fun _ h => by cases h⟩
  · intro k c hk hc
    left
    unfold p17_l1
    simp only
    rw [if_pos (by omega), decide_eq_true (by omega)]
    exact j7_ok hd (by omega) (by omega) hc rfl h2
  · intro c hc
    unfold p17_l1
    simp only
    have e7 : p17_j7 d pl ((min 9 d.Acts.length : Nat) : Int) c false = some (.inr c) := by unfold p17_j7; rw [if_neg (by decide)]
    split
    · rename_i hlt
      rw [decide_eq_false (by omega), e7]
      exact ⟨_, rfl, _, Nat.min_le_left _ _, hc⟩
    · rw [e7]; exact ⟨_, rfl, _, Nat.min_le_left _ _, hc⟩
/-- Two transitions alike but for their names. -/
def Alike (a b : TTrans) : Prop := a.Delay = b.Delay ∧ a.Prio = b.Prio ∧ a.In = b.In ∧ a.Not = b.Not ∧ a.Out = b.Out
/-- Named: the same net, with other names. -/
theorem p23_ok {n : TNet} (hp : n.Places.length ≤ 1000000) (ht : n.Trans.length ≤ 1000000) : ∃ n', p23 n = some n' ∧ n'.Places.length = n.Places.length ∧ n'.Trans.length = n.Trans.length ∧ ∀ (i : Nat) t, n.Trans[i]? = some t → ∃ t', n'.Trans[i]? = some t' ∧ Alike t' t := by
  unfold p23
  suffices k1 : ∃ pl, loopC (p23_l0 n) ((0 : Int), []) = some pl ∧ pl.length = n.Places.length by
    obtain ⟨pl, h1, h2⟩ := k1
    rw [h1]
    simp only [Option.bind_some]
    suffices k2 : ∃ c, loopC (p23_l1 n) ((0 : Int), []) = some c ∧ (c.length = n.Trans.length ∧ ∀ (i : Nat) t, n.Trans[i]? = some t → ∃ t', c[i]? = some t' ∧ Alike t' t) by
      obtain ⟨c, h3, h4, h5⟩ := k2
      rw [h3]
      exact ⟨_, rfl, h2, h4, h5⟩
    refine loop_up (f := p23_l1 n) n.Trans.length (by omega) (fun k (c : List TTrans) => c.length = k ∧ ∀ (i : Nat) t, i < k → n.Trans[i]? = some t → ∃ t', c[i]? = some t' ∧ Alike t' t) _ ?_ ?_ ⟨rfl, fun i t hi => by omega⟩
    · intro k c hk ⟨e1, e2⟩
      left
      unfold p23_l1
      simp only
      rw [if_pos (by omega), idx_get hk]
      simp only [Option.bind_some]
      rw [catS_ok (by simp)]
      simp only [Option.bind_some]
      rw [app_ok (by simp; omega)]
      refine ⟨_, rfl, by simp [e1], fun i t hi hit => ?_⟩
      rw [List.getElem?_append]
      split
      · exact e2 i t (by omega) hit
      · obtain rfl : i = k := by omega
        rw [List.getElem?_eq_getElem hk] at hit
        cases hit
        rw [e1, Nat.sub_self]
        exact ⟨_, rfl, rfl, rfl, rfl, rfl, rfl⟩
    · intro c ⟨e1, e2⟩
      unfold p23_l1
      simp only
      rw [if_neg (by omega)]
      exact ⟨_, rfl, e1, fun i t hit => e2 i t (List.getElem?_eq_some_iff.1 hit).1 hit⟩
  refine loop_up (f := p23_l0 n) n.Places.length (by omega) (fun k (c : List TPlace) => c.length = k) _ ?_ ?_ rfl
  · intro k c hk e1
    left
    unfold p23_l0
    simp only
    rw [if_pos (by omega), idx_get hk]
    simp only [Option.bind_some]
    rw [catS_ok (by simp)]
    simp only [Option.bind_some]
    rw [app_ok (by simp; omega)]
    exact ⟨_, rfl, by simp [e1]⟩
  · intro c e1
    unfold p23_l0
    simp only
    rw [if_neg (by omega)]
    exact ⟨_, rfl, e1⟩
theorem named_ok {n n' : TNet} (ok : NetOk n) (h1 : n'.Places.length = n.Places.length) (h2 : n'.Trans.length = n.Trans.length) (h3 : ∀ (i : Nat) t, n.Trans[i]? = some t → ∃ t', n'.Trans[i]? = some t' ∧ Alike t' t) : NetOk n' ∧ ∀ a b, Edge n' a b ↔ Edge n a b := by
  have back : ∀ t', t' ∈ n'.Trans → ∃ t, t ∈ n.Trans ∧ Alike t' t := fun t' ht' => by
    obtain ⟨i, hi⟩ := List.getElem?_of_mem ht'
    have hlt := (List.getElem?_eq_some_iff.1 hi).1
    have hg : n.Trans[i]? = some (n.Trans[i]'(by omega)) := List.getElem?_eq_getElem (by omega)
    obtain ⟨t2, k1, k2⟩ := h3 _ _ hg
    rw [hi] at k1
    cases k1
    exact ⟨_, List.getElem_mem (by omega), k2⟩
  refine ⟨⟨by rw [h1]; exact ok.np, by rw [h2]; exact ok.nt, fun t' ht' => ?_, fun t' ht' => ?_, fun t' ht' => ?_⟩, fun a b => ?_⟩
  · obtain ⟨t, k1, k2⟩ := back t' ht'
    rw [k2.2.2.1, h1]; exact ok.ins t k1
  · obtain ⟨t, k1, k2⟩ := back t' ht'
    rw [k2.2.2.2.2, h1]; exact ok.outs t k1
  · obtain ⟨t, k1, k2⟩ := back t' ht'
    rw [k2.1]; exact ok.delay t k1
  · unfold Edge
    have : edgeB n' a b = edgeB n a b := by
      unfold edgeB
      cases ha : n.Trans[a]? with
      | none =>
        have : n'.Trans[a]? = none := by rw [List.getElem?_eq_none_iff] at ha ⊢; omega
        rw [this]
      | some ta =>
        obtain ⟨ta', k1, k2⟩ := h3 _ _ ha
        rw [k1]
        cases hb : n.Trans[b]? with
        | none =>
          have : n'.Trans[b]? = none := by rw [List.getElem?_eq_none_iff] at hb ⊢; omega
          rw [this]
        | some tb =>
          obtain ⟨tb', k3, k4⟩ := h3 _ _ hb
          rw [k3]
          simp only [takesB, k2.1, k2.2.2.2.2, k4.2.2.1]
    rw [this]
theorem p16_eq (d : TDraft) : ∃ b, p16 d = some b ∧ (b = true → d.Tokens.length ≤ 60 ∧ d.Acts.length ≤ 12) := by
  unfold p16 p16_j0
  split
  · refine ⟨_, rfl, fun h => ?_⟩
    have := of_decide_eq_true h
    omega
  · exact ⟨_, rfl, fun h => by cases h⟩
/-- The document's example. -/
theorem p15_eq : p15 = some true := by
  unfold p15
  let n0 : TNet := TNet.mk [(TPlace.mk ([] : List UInt8) (0 : Int))] [(TTrans.mk ([] : List UInt8) (0 : Int) (0 : Int) [(TArc.mk (0 : Int) (1 : Int))] [] [(TArc.mk (0 : Int) (1 : Int))])]
  have ok : NetOk n0 := by
    refine ⟨by decide, by decide, fun t ht => ?_, fun t ht => ?_, fun t ht => ?_⟩ <;> (rw [List.mem_singleton] at ht; subst ht)
    · refine ⟨by decide, fun a ha => ?_⟩; rw [List.mem_singleton] at ha; subst ha; decide
    · refine ⟨by decide, fun a ha => ?_⟩; rw [List.mem_singleton] at ha; subst ha; decide
    · decide
  obtain ⟨n', h1, h2, h3, h4⟩ := p23_ok (n := n0) (by decide) (by decide)
  rw [show p23 (TNet.mk [(TPlace.mk ([] : List UInt8) (0 : Int))] [(TTrans.mk ([] : List UInt8) (0 : Int) (0 : Int) [(TArc.mk (0 : Int) (1 : Int))] [] [(TArc.mk (0 : Int) (1 : Int))])]) = some n' from h1]
  simp only [Option.bind_some]
  obtain ⟨ok', hE⟩ := named_ok ok h2 h3 h4
  obtain ⟨on, k1, k2, k3⟩ := p20_eq ok'
  rw [k1]
  simp only [Option.bind_some]
  have hl : on.length = 1 := by rw [k2, h3]; rfl
  rw [if_pos (by omega)]
  obtain ⟨r, q1, q2⟩ := k3 0 (by rw [h3]; decide)
  have q1' : idx on (0 : Int) = some r := idx_ok (k := 0) q1
  rw [q1']
  simp only [Option.bind_some, p15_j0]
  have : r = true := q2.2 (.one ((hE 0 0).2 (by unfold Edge; decide)))
  rw [this]
end Go.Proofs.Ytgbkpiaonlabgaa

/- LoopsTail, plainly. Own work. -/
namespace Go.Proofs.Ytgbkpiaonlabgaa
open Go Go.Am
set_option linter.unusedVariables false
set_option linter.unusedSimpArgs false
def rowT (i : Nat) : TTrans := ⟨[], 0, 0, [⟨i, 1⟩], [], [⟨((i + 1 : Nat) : Int), 1⟩]⟩
theorem rowT_get {m i : Nat} (h : i < m) : ((List.range m).map rowT)[i]? = some (rowT i) := by rw [List.getElem?_map, List.getElem?_range h]; rfl
theorem p6_true {a b c : Int} (ha : B8 a) (hb : B8 b) (hc : B8 c) : p6 a b c = some true := by
  unfold B8 at ha hb hc
  have eX : IntKind.wrap .i64 (Int.tmod a 8) = ((a.toNat % 8 : Nat) : Int) := by rw [IntWalk.rem_in _ _ ha.1, wrap64 (by omega) (by omega)]; omega
  have eY : IntKind.wrap .i64 ((1 : Int) + IntKind.wrap .i64 (Int.tmod b 8)) = ((1 + b.toNat % 8 : Nat) : Int) := by rw [IntWalk.rem_in _ _ hb.1, wrap64 (n := b % 8) (by omega) (by omega), wrap64 (by omega) (by omega)]; omega
  have eZ : IntKind.wrap .i64 (Int.tmod c 8) = ((c.toNat % 8 : Nat) : Int) := by rw [IntWalk.rem_in _ _ hc.1, wrap64 (by omega) (by omega)]; omega
  have hX : a.toNat % 8 < 8 := Nat.mod_lt _ (by omega)
  have hY : 1 ≤ 1 + b.toNat % 8 ∧ 1 + b.toNat % 8 ≤ 8 := by omega
  have hZ : c.toNat % 8 < 8 := Nat.mod_lt _ (by omega)
  generalize a.toNat % 8 = X at *
  generalize 1 + b.toNat % 8 = Y at *
  generalize c.toNat % 8 = Z at *
  have eXY : IntKind.wrap .i64 ((X : Int) + (Y : Int)) = ((X + Y : Nat) : Int) := by rw [wrap64 (by omega) (by omega)]; omega
  have eS : IntKind.wrap .i64 (((X + Y : Nat) : Int) + (Z : Int)) = ((X + Y + Z : Nat) : Int) := by rw [wrap64 (by omega) (by omega)]; omega
  have eL : IntKind.wrap .i64 (((X + Y : Nat) : Int) - 1) = ((X + Y - 1 : Nat) : Int) := by rw [wrap64 (by omega) (by omega)]; omega
  have l0 : ∃ pl : List TPlace, loopC (p6_l0 a b c) ((0 : Int), []) = some pl ∧ pl.length = X + Y + Z + 1 := by
    refine loop_up (f := p6_l0 a b c) (X + Y + Z + 1) (by omega) (fun k (s : List TPlace) => s.length = k) _ ?_ ?_ rfl
    · intro k s hk hs
      left
      unfold p6_l0
      simp only
      rw [eX, eY, eZ, eXY, eS, if_pos (by omega), app_ok (by simp; omega)]
      exact ⟨_, rfl, by simp [hs]⟩
    · intro s hs
      unfold p6_l0
      simp only
      rw [eX, eY, eZ, eXY, eS, if_neg (by omega)]
      exact ⟨_, rfl, hs⟩
  have l1 : ∃ tl : List TTrans, loopC (p6_l1 a b c) ((0 : Int), []) = some tl ∧ tl = (List.range (X + Y + Z)).map rowT := by
    refine loop_up (f := p6_l1 a b c) (X + Y + Z) (by omega) (fun k (s : List TTrans) => s = (List.range k).map rowT) _ ?_ ?_ rfl
    · intro k s hk hs
      left
      unfold p6_l1
      simp only
      rw [eX, eY, eZ, eXY, eS, if_pos (by omega), wrap64 (n := (k : Int) + 1) (by omega) (by omega), app_ok (by rw [hs]; simp; omega)]
      refine ⟨_, rfl, ?_⟩
      rw [hs, List.range_succ, List.map_append]
      rfl
    · intro s hs
      unfold p6_l1
      simp only
      rw [eX, eY, eZ, eXY, eS, if_neg (by omega)]
      exact ⟨_, rfl, hs⟩
  obtain ⟨pl, h1, h2⟩ := l0
  obtain ⟨tl, h3, h4⟩ := l1
  unfold p6
  rw [h1]
  simp only [Option.bind_some]
  rw [h3]
  simp only [Option.bind_some]
  have hL : X + Y - 1 < X + Y + Z := by omega
  have hg : idx tl (IntKind.wrap .i64 (IntKind.wrap .i64 (IntKind.wrap .i64 (Int.tmod a 8) + IntKind.wrap .i64 (1 + IntKind.wrap .i64 (Int.tmod b 8))) - 1)) = some (rowT (X + Y - 1)) := by
    rw [eX, eY, eXY, eL, h4]; exact idx_ok (rowT_get hL)
  rw [hg]
  simp only [Option.bind_some]
  rw [app_ok (by simp [rowT])]
  simp only [Option.bind_some]
  have eI : (IntKind.wrap .i64 (IntKind.wrap .i64 (IntKind.wrap .i64 (Int.tmod a 8) + IntKind.wrap .i64 (1 + IntKind.wrap .i64 (Int.tmod b 8))) - 1)).toNat = X + Y - 1 := by
    rw [eX, eY, eXY, eL, Int.toNat_natCast]
  generalize hu : TTrans.mk (rowT (X + Y - 1)).Name (rowT (X + Y - 1)).Delay (rowT (X + Y - 1)).Prio (rowT (X + Y - 1)).In (rowT (X + Y - 1)).Not ((rowT (X + Y - 1)).Out ++ [⟨IntKind.wrap .i64 (Int.tmod a 8), 1⟩]) = u
  rw [eI]
  generalize hq : tl.set (X + Y - 1) u = ql
  have hql : ql.length = X + Y + Z := by rw [← hq, h4]; simp
  have hget : ∀ i, i < X + Y + Z → ql[i]? = some (if i = X + Y - 1 then u else rowT i) := fun i hi => by
    rw [← hq, List.getElem?_set]
    by_cases h : X + Y - 1 = i
    · rw [if_pos h, if_pos (by rw [h4]; simp; omega), if_pos h.symm]
    · rw [if_neg h, if_neg (Ne.symm h), h4, rowT_get hi]
  have uIn : u.In = [⟨((X + Y - 1 : Nat) : Int), 1⟩] := by rw [← hu]; rfl
  have uD : u.Delay = 0 := by rw [← hu]; rfl
  have uOut : u.Out = [⟨((X + Y - 1 + 1 : Nat) : Int), 1⟩, ⟨(X : Int), 1⟩] := by rw [← hu, eX]; rfl
  have facts : ∀ i, i < X + Y + Z → ∃ t, ql[i]? = some t ∧ t.In = [⟨(i : Int), 1⟩] ∧ t.Delay = 0 ∧ ∀ v : Int, (∃ x, x ∈ t.Out ∧ x.Place = v) ↔ (v = ((i + 1 : Nat) : Int) ∨ (i = X + Y - 1 ∧ v = (X : Int))) := fun i hi => by
    refine ⟨_, hget i hi, ?_⟩
    split
    · rename_i hh
      subst hh
      refine ⟨uIn, uD, fun v => ?_⟩
      rw [uOut]
      simp only [List.mem_cons, List.not_mem_nil, or_false, exists_eq_or_imp, exists_eq_left, true_and]
      constructor
      · rintro (h | h)
        · exact .inl h.symm
        · exact .inr h.symm
      · rintro (h | h)
        · exact .inl h.symm
        · exact .inr h.symm
    · rename_i hh
      refine ⟨rfl, rfl, fun v => ?_⟩
      simp only [rowT, List.mem_singleton, exists_eq_left, hh, false_and, or_false]
      exact ⟨fun h => h.symm, fun h => h.symm⟩
  generalize hn : TNet.mk pl ql = n
  have hP : n.Places = pl := by rw [← hn]
  have hT : n.Trans = ql := by rw [← hn]
  have mem : ∀ t, t ∈ n.Trans → ∃ i, i < X + Y + Z ∧ t.In = [⟨(i : Int), 1⟩] ∧ t.Delay = 0 ∧ (∀ v : Int, (∃ x, x ∈ t.Out ∧ x.Place = v) ↔ (v = ((i + 1 : Nat) : Int) ∨ (i = X + Y - 1 ∧ v = (X : Int)))) := fun t h => by
    rw [hT] at h
    obtain ⟨i, hi⟩ := List.getElem?_of_mem h
    have hlt := (List.getElem?_eq_some_iff.1 hi).1
    obtain ⟨t', q1, q2⟩ := facts i (by omega)
    rw [hi] at q1
    cases q1
    exact ⟨i, by omega, q2⟩
  have lenOut : ∀ t, t ∈ n.Trans → t.Out.length ≤ 1000 := fun t h => by
    rw [hT] at h
    obtain ⟨i, hi⟩ := List.getElem?_of_mem h
    have hlt := (List.getElem?_eq_some_iff.1 hi).1
    rw [hget i (by omega)] at hi
    cases hi
    split
    · rw [uOut]; simp
    · simp [rowT]
  have ok : NetOk n := by
    refine ⟨by rw [hP]; omega, by rw [hT]; omega, fun t h => ?_, fun t h => ⟨lenOut t h, fun x hx => ?_⟩, fun t h => ?_⟩
    · obtain ⟨i, q1, q2, q3, q4⟩ := mem t h
      rw [q2, hP, h2]
      refine ⟨by simp, fun a ha => ?_⟩
      rw [List.mem_singleton] at ha; subst ha; simp only; omega
    · obtain ⟨i, q1, q2, q3, q4⟩ := mem t h
      rw [hP, h2]
      rcases (q4 x.Place).1 ⟨x, hx, rfl⟩ with hh | ⟨hh, h5⟩ <;> omega
    · obtain ⟨i, q1, q2, q3, q4⟩ := mem t h
      omega
  have hE : ∀ i j, Edge n i j ↔ i < X + Y + Z ∧ j < X + Y + Z ∧ (j = i + 1 ∨ (i = X + Y - 1 ∧ j = X)) := by
    intro i j
    constructor
    · intro h
      obtain ⟨k1, k2⟩ := edge_lt h
      rw [hT, hql] at k1 k2
      obtain ⟨ti, q1, q2, q3, q4⟩ := facts i k1
      obtain ⟨tj, r1, r2, r3, r4⟩ := facts j k2
      obtain ⟨_, x, u2, y, u3, u4⟩ := (edge_iff (by rw [hT]; exact q1) (by rw [hT]; exact r1)).1 h
      rw [r2, List.mem_singleton] at u3
      subst u3
      simp only at u4
      refine ⟨k1, k2, ?_⟩
      rcases (q4 x.Place).1 ⟨x, u2, rfl⟩ with hh | ⟨hh, h5⟩
      · left; omega
      · right; omega
    · rintro ⟨k1, k2, k3⟩
      obtain ⟨ti, q1, q2, q3, q4⟩ := facts i k1
      obtain ⟨tj, r1, r2, r3, r4⟩ := facts j k2
      obtain ⟨x, x1, x2⟩ := (q4 (j : Int)).2 (by omega)
      exact (edge_iff (by rw [hT]; exact q1) (by rw [hT]; exact r1)).2 ⟨q3, x, x1, _, by rw [r2]; exact List.mem_singleton.2 rfl, x2.symm⟩
  obtain ⟨n', g1, g2, g3, g4⟩ := p23_ok (n := n) (by rw [hP]; omega) (by rw [hT]; omega)
  obtain ⟨ok', hE'⟩ := named_ok ok g2 g3 g4
  obtain ⟨on, k1, k2, k3⟩ := p20_eq ok'
  rw [g1]
  simp only [Option.bind_some]
  rw [k1]
  simp only [Option.bind_some]
  have hn' : n'.Trans.length = X + Y + Z := by rw [g3, hT, hql]
  have hEd : ∀ i j, Edge n' i j ↔ i < X + Y + Z ∧ j < X + Y + Z ∧ (j = i + 1 ∨ (i = X + Y - 1 ∧ j = X)) := fun i j => (hE' i j).trans (hE i j)
  have hW : ∀ i, i < X + Y + Z → (Walk (Edge n') i i ↔ (X ≤ i ∧ i < X + Y)) := by
    intro i hi
    constructor
    · intro w
      have inv : ∀ p q, Walk (Edge n') p q → (p < X → p < q) ∧ (X ≤ p → X ≤ q) ∧ (X + Y ≤ p → p < q) := by
        intro p q w
        induction w with
        | one e =>
          obtain ⟨e1, e2, e3⟩ := (hEd _ _).1 e
          omega
        | step _ e ih =>
          obtain ⟨e1, e2, e3⟩ := (hEd _ _).1 e
          omega
      have := inv _ _ w
      omega
    · rintro ⟨h1, h2⟩
      have up : ∀ k, i + k + 1 < X + Y → Walk (Edge n') i (i + k + 1) := by
        intro k
        induction k with
        | zero => intro hk; exact .one ((hEd _ _).2 ⟨by omega, by omega, .inl rfl⟩)
        | succ k ih => intro hk; exact .step (ih (by omega)) ((hEd _ _).2 ⟨by omega, by omega, .inl rfl⟩)
      have toX : Walk (Edge n') i X := by
        by_cases hh : i = X + Y - 1
        · exact .one ((hEd _ _).2 ⟨by omega, by omega, .inr ⟨hh, rfl⟩⟩)
        · have := up (X + Y - 1 - i - 1) (by omega)
          rw [show i + (X + Y - 1 - i - 1) + 1 = X + Y - 1 by omega] at this
          exact .step this ((hEd _ _).2 ⟨by omega, by omega, .inr ⟨rfl, rfl⟩⟩)
      have from_ : ∀ k, X + k ≤ i → Walk (Edge n') i (X + k) := by
        intro k
        induction k with
        | zero => intro _; exact toX
        | succ k ih => intro hk; exact .step (ih (by omega)) ((hEd _ _).2 ⟨by omega, by omega, .inl (by omega)⟩)
      have := from_ (i - X) (by omega)
      rwa [show X + (i - X) = i by omega] at this
  suffices key : ∃ r, loopC (p6_l2 a b tl (rowT (X + Y - 1)) ((rowT (X + Y - 1)).Out ++ [⟨IntKind.wrap .i64 (Int.tmod a 8), 1⟩]) on) (0 : Int) = some r ∧ (match r with
      | .inl _ => False
      | .inr _ => True) by
    obtain ⟨r, q1, q2⟩ := key
    rw [q1]
    cases r with
    | inl v => exact q2.elim
    | inr v => rw [Option.bind_some, p15_eq]; rfl
  refine loop_up0 (f := p6_l2 a b tl (rowT (X + Y - 1)) ((rowT (X + Y - 1)).Out ++ [⟨IntKind.wrap .i64 (Int.tmod a 8), 1⟩]) on) (X + Y + Z) (by omega) (fun _ => True) _ ?_ ?_ trivial
  · intro k hk _
    left
    unfold p6_l2
    rw [eI, hu, hq, hql, if_pos (by omega), if_neg (by simp; omega)]
    obtain ⟨r, q1, q2⟩ := k3 k (by omega)
    rw [idx_ok q1]
    simp only [Option.bind_some]
    have hr := q2.trans (hW k hk)
    rw [eX, eY, eXY]
    have fin : ∀ v : Bool, (r = true ↔ v = true) → p6_j1 (k : Int) r v = some (.inl (IntKind.wrap .i64 ((k : Int) + 1))) := fun v hv => by
      have : r = v := by cases r <;> cases v <;> simp_all
      subst this
      unfold p6_j1 p6_j0
      rw [if_neg (by simp)]
    split
    · rename_i hx
      exact ⟨fin _ (hr.trans (by rw [decide_eq_true_eq]; omega)), trivial⟩
    · rename_i hx
      exact ⟨fin _ (hr.trans ⟨fun h => by omega, fun h => by cases h⟩), trivial⟩
  · intro _
    unfold p6_l2
    rw [eI, hu, hq, hql, if_neg (by omega)]
    exact ⟨_, rfl, trivial⟩
end Go.Proofs.Ytgbkpiaonlabgaa

/- The law LoopsTail of the machine: whatever it is called with, it answers true. Own work. -/
namespace Go.Proofs.Ytgbkpiaonlabgaa
open Go Go.Am
set_option linter.unusedVariables false
set_option linter.unusedSimpArgs false
theorem wf8 {n : Int} (h : (Lit.int .u8 n).wf = true) : B8 n := by
  simp only [Lit.wf, Bool.and_eq_true, decide_eq_true_eq] at h
  exact h
theorem law_loopsTail : ∀ h xs, TyAs [(.int .u8), (.int .u8), (.int .u8)] h xs → ACalls F 6 xs h fun v _ => v = .bool true := by
  intro h xs ht
  obtain ⟨a, b, rfl, ⟨n1, e1, w1⟩, _, _, rfl, ⟨n2, e2, w2⟩, _, _, rfl, ⟨n3, e3, w3⟩, h4⟩ := ht
  simp only [TyAs] at h4
  subst h4
  cases e1
  cases e2
  cases e3
  exact (r6 (p6_true (wf8 w1) (wf8 w2) (wf8 w3))).val fun v h' hq => hq.1
end Go.Proofs.Ytgbkpiaonlabgaa
