/- Regions that draw their order: the step, and the whole. Own work. -/
import Derived.Test.YtgbkpiaonlabgaaAmV
namespace Go.Am
set_option linter.unusedVariables false
set_option linter.unusedSimpArgs false
open Go Go.RowKit
section
variable {P : Program} {cf : CallF} {nt : Nat} {ops : Array Oper} {as : List AOper} {st : Nat → Env × Heap} {V : Nat → AV} {B : Nat}
theorem DC.step_ok (d : DC P cf nt ops as st V) {K0 K : KM} {a0 a : Act} {w0 w : World} {listed : Array Bool} (hnt : nt ≤ a0.tmps.size) (I : Inv B ops as st V K0 a0 w0 listed K a w) {i : Nat} (hi : i ∈ Region.ready .any ops listed) (Q : Exit → Act → World → Prop) :
    wpOp P ops Q i (fun a' w' => ∃ K', Inv B ops as st V K0 a0 w0 (listed.setIfInBounds i true) K' a' w') a w := by
  unfold Region.ready at hi
  obtain ⟨hir, hcond⟩ := List.mem_filter.1 hi
  have hin : i < ops.size := List.mem_range.1 hir
  have hisz : i < listed.size := by rw [I.size]; exact hin
  have ho := Array.getElem?_eq_getElem hin
  simp only [Bool.and_eq_true, Bool.not_eq_true'] at hcond
  obtain ⟨hnot, hafter⟩ := hcond
  rw [ho] at hafter
  simp only [Option.map_some, Option.getD_some, Array.all_eq_true, Bool.or_eq_true, Bool.not_eq_true'] at hafter
  have hnotf : listed.getD i false = false := by
    rw [Array.getD_eq_getD_getElem?, Array.getElem?_eq_getElem hisz] at hnot ⊢
    simpa using hnot
  obtain ⟨ao, hao, hco⟩ := d.co i _ ho
  obtain ⟨c1, c2, c3, c4⟩ := compOper_inv hco
  have hil : i < as.length := d.lt hao
  -- what must come ahead has come
  have hbef : ∀ k, bef (befores ops.toList) k i = true → listed.getD k false = true := by
    intro k hk
    obtain ⟨o, e, e1, e2, e3, e4⟩ := bef_spec _ ops.toList rfl k i hk
    rw [Array.getElem?_toList, ho] at e1
    cases e1
    have hon : listed.getD e.on false = true := by
      obtain ⟨j, hj, rfl⟩ := Array.mem_iff_getElem.1 e2
      rcases hafter j hj with h | h
      · rw [e3] at h; cases h
      · exact h
    rcases e4 with e4 | e4
    · rw [← e4]; exact hon
    · exact I.closed k e.on e4 hon
  have hclosed : ∀ k j, bef (befores ops.toList) k j = true → (listed.setIfInBounds i true).getD j false = true → (listed.setIfInBounds i true).getD k false = true := by
    intro k j hk hj
    rw [getD_set hisz] at hj ⊢
    by_cases e : j = i
    · subst e
      by_cases e' : k = j
      · rw [if_pos e']
      · rw [if_neg e']; exact hbef k hk
    · rw [if_neg e] at hj
      by_cases e' : k = i
      · rw [if_pos e']
      · rw [if_neg e']; exact I.closed k j hk hj
  have notbef : ∀ j, listed.getD j false = true → bef (befores ops.toList) i j = false := by
    intro j hj
    cases hb : bef (befores ops.toList) i j with
    | false => rfl
    | true => rw [I.closed i j hb hj] at hnotf; cases hnotf
  -- at what it looks, all is as in the text's order
  have hreads : ∀ t, t ∈ readsOf ao → mixAt (fun j => listed.getD j false) V t as 0 ((st 0).1.get t) = (st i).1.get t := by
    intro t ht
    rw [d.env_text t i (by omega)]
    refine mixAt_congr as 0 _ fun j aj hj hdj => ?_
    rw [Nat.zero_add]
    rcases Nat.lt_trichotomy j i with h | h | h
    · have : listed.getD j false = true := by
        rcases d.pairs hj hao h with hp | hp
        · exact hbef j hp
        · exact absurd ht (hp.2.1 t hdj)
      rw [this]; simp [h]
    · subst h; rw [hnotf]; simp
    · have : listed.getD j false = false := by
        cases hl : listed.getD j false with
        | false => rfl
        | true =>
          rcases d.pairs hao hj h with hp | hp
          · rw [notbef j hl] at hp; cases hp
          · exact absurd ht (hp.2.2.1 t hdj)
      rw [this]; simp; omega
  have hER : ER K (restrict (st i).1 (readsOf ao)) a.tmps := by
    intro t v htv
    obtain ⟨h1, h2⟩ := restrict_get _ _ _ _ htv
    exact I.env t v (by rw [hreads t h1]; exact h2)
  have hntA : nt ≤ a.tmps.size := by rw [I.tsize]; exact hnt
  -- the frame behind it
  have henv : ∀ (K' : KM) (v' : Value), KLe K K' → VR K' (V i) v' → ∀ t v, mixAt (fun j => (listed.setIfInBounds i true).getD j false) V t as 0 ((st 0).1.get t) = some v → ∃ x, (a.put (ops[i]).dst v').tmps[t]? = some x ∧ VR K' v x := by
    intro K' v' hle hv' t v hm
    by_cases hd : ao.dst = some t
    · have : mixAt (fun j => (listed.setIfInBounds i true).getD j false) V t as 0 ((st 0).1.get t) = some (V (0 + i)) := by
        refine mixAt_last as 0 i _ ao hao hd (by rw [Nat.zero_add, getD_set hisz, if_pos rfl]) fun j aj hij hj hdj => ?_
        rw [Nat.zero_add, getD_set hisz, if_neg (by omega)]
        cases hl : listed.getD j false with
        | false => rfl
        | true =>
          rcases d.pairs hao hj hij with hp | hp
          · rw [notbef j hl] at hp; cases hp
          · exact absurd hdj (hp.2.2.2.1 t hd)
      rw [this, Nat.zero_add] at hm
      cases hm
      rw [c3] at hd
      have hlt : t < a.tmps.size := by
        have : t < nt := by rw [hd] at c4; exact Nat.le_of_ble_eq_true c4
        omega
      exact ⟨v', by rw [hd]; simp [Act.put, hlt], hv'⟩
    · have : mixAt (fun j => (listed.setIfInBounds i true).getD j false) V t as 0 ((st 0).1.get t) = mixAt (fun j => listed.getD j false) V t as 0 ((st 0).1.get t) := by
        refine mixAt_congr as 0 _ fun j aj hj hdj => ?_
        rw [Nat.zero_add, getD_set hisz]
        by_cases e : j = i
        · subst e; rw [hao] at hj; cases hj; exact absurd hdj hd
        · rw [if_neg e]
      rw [this] at hm
      obtain ⟨x, h1, h2⟩ := I.env t v hm
      refine ⟨x, ?_, VR.mono hle _ _ h2⟩
      rw [c3] at hd
      cases hdst : (ops[i]).dst with
      | none => simp [Act.put, h1]
      | some t' =>
        have : t' ≠ t := fun e => hd (by rw [hdst, e])
        simp [Act.put, this, h1]
  obtain ⟨p, p1, p2, p3, hsim⟩ := I.sim
  -- what doesn't act
  have quiet_inv : ∀ (K' : KM) (v' : Value) (w' : World), Below B w w' → KLe K K' → (K' = K ∨ (ao.k.isN = true ∧ wantedE (st i).1 ao.guard = some true ∧ ∀ x, x ≠ (st i).2.n → K' x = K x)) → Sim B K' (st p).2 w' → VR K' (V i) v' →
      (ao.k.isE = true → i ≠ p) → ∃ K', Inv B ops as st V K0 a0 w0 (listed.setIfInBounds i true) K' (a.put (ops[i]).dst v') w' := by
    intro K' v' w' b1 b2 b3 b5 b6 hEf
    refine ⟨K', ⟨by simp [I.size], hclosed, henv K' v' b2 b6, ⟨p, p1, fun j aj hj haj hE => ?_, fun aj haj => ?_, b5⟩, fun j aj haj hN hwj hl => ?_, I.below.trans b1, I.le.trans b2, by rw [put_defers, I.defers], by rw [put_size, I.tsize], fun x hx hn => ?_⟩⟩
    · rw [getD_set hisz]
      by_cases e : j = i
      · rw [if_pos e]
      · rw [if_neg e]; exact p2 j aj hj haj hE
    · obtain ⟨q1, q2⟩ := p3 aj haj
      refine ⟨q1, ?_⟩
      rw [getD_set hisz]
      by_cases e : p = i
      · subst e; rw [hao] at haj; cases haj; exact absurd rfl (hEf q1)
      · rw [if_neg e]; exact q2
    · rw [getD_set hisz] at hl
      by_cases e : j = i
      · rw [if_pos e] at hl; cases hl
      · rw [if_neg e] at hl
        have hold := I.fresh j aj haj hN hwj hl
        rcases b3 with b3 | ⟨hNi, hwi, b3⟩
        · rw [b3]; exact hold
        · rw [b3 _ (d.ids haj hao hN hwj hNi hwi e)]; exact hold
    · have hx' := I.old x hx hn
      rcases b3 with b3 | ⟨hNi, hwi, b3⟩
      · rw [b3]; exact hx'
      · have := d.mono' i 0 (by omega)
        rw [Nat.zero_add] at this
        rw [b3 _ (by omega)]; exact hx'
  unfold wpOp
  rw [ho]
  simp only
  have hwg : ∀ b, wantedE (st i).1 ao.guard = some b → Region.wanted ops[i] (yielded ops a.tmps) = b := fun b hb => wanted_ok hER c1 (by rw [restrict_wanted]; exact hb)
  rcases d.step i ao hao with ⟨hw, s1, s2, s3⟩ | ⟨hw, xs, s2, s3, s4⟩
  · -- it isn't asked for
    rw [hwg false hw]
    simp only [Bool.false_eq_true, if_false]
    by_cases hE : ao.k.isE = true ∧ i = p
    · -- an acting one that isn't asked for: the next one that acts
      obtain ⟨hE, rfl⟩ := hE
      obtain ⟨p', q1, q2, q3, q4⟩ := d.next (ops.size - (i + 1)) (i + 1) (by omega)
      have hs1 : Sim B K (st (i + 1)).2 w := by rw [s3]; exact hsim
      have hs2 : Sim B K (st p').2 w := by
        have := d.forward (Φ := fun h => Sim B K h w) (fun h ob hh => hh.push ob) (p' - (i + 1)) (i + 1) (by omega) (fun j aj h1 h2 h3 => q3 j aj h1 (by omega) h3) hs1
        rwa [show i + 1 + (p' - (i + 1)) = p' by omega] at this
      refine ⟨K, ⟨by simp [I.size], hclosed, henv K _ (KLe.refl _) (by rw [s2]; exact VR.undef), ⟨p', q2, fun j aj hj haj hE' => ?_, fun aj haj => ⟨q4 aj haj, ?_⟩, hs2⟩, fun j aj haj hN hwj hl => ?_, I.below, I.le, by rw [put_defers, I.defers], by rw [put_size, I.tsize], I.old⟩⟩
      · rw [getD_set hisz]
        by_cases e : j = i
        · rw [if_pos e]
        · rw [if_neg e]
          rcases Nat.lt_or_ge j i with h | h
          · exact p2 j aj h haj hE'
          · rw [q3 j aj (by omega) hj haj] at hE'; cases hE'
      · rw [getD_set hisz, if_neg (by omega)]
        cases hl : listed.getD p' false with
        | false => rfl
        | true =>
          rcases d.pairs hao haj (by omega) with hp | hp
          · rw [notbef p' hl] at hp; cases hp
          · exact absurd ⟨hE, q4 aj haj⟩ hp.2.2.2.2.1
      · rw [getD_set hisz] at hl
        by_cases e : j = i
        · rw [if_pos e] at hl; cases hl
        · rw [if_neg e] at hl; exact I.fresh j aj haj hN hwj hl
    · exact quiet_inv K _ w (Below.refl _ _) (KLe.refl _) (.inl rfl) hsim (by rw [s2]; exact VR.undef) (fun h e => hE ⟨h, e⟩)
  · rw [hwg true hw]
    simp only [if_true]
    left
    have hev : evs (restrict (st i).1 (readsOf ao)) ao.xs = some xs := by rw [restrict_evs]; exact s2
    -- what acts, of what isn't listed
    have hEp : ao.k.isE = true → i = p := by
      intro hE
      rcases Nat.lt_trichotomy i p with h | h | h
      · rw [p2 i ao h hao hE] at hnotf; cases hnotf
      · exact h
      · have hpl : p < as.length := by omega
        have hp0 := List.getElem?_eq_getElem hpl
        obtain ⟨q1, q2⟩ := p3 _ hp0
        rcases d.pairs hp0 hao h with hp | hp
        · rw [hbef p hp] at q2; cases q2
        · exact absurd ⟨q1, hE⟩ hp.2.2.2.2.1
    by_cases hE : ao.k.isE = true
    · have hip := hEp hE
      subst hip
      refine eff_ok d.cfOk hER hsim hco hntA hev hE s3 (fun K' v' w' k1 k2 k3 k4 k5 => ?_)
      obtain ⟨p', q1, q2, q3, q4⟩ := d.next (ops.size - (i + 1)) (i + 1) (by omega)
      have hs2 : Sim B K' (st p').2 w' := by
        have := d.forward (Φ := fun h => Sim B K' h w') (fun h ob hh => hh.push ob) (p' - (i + 1)) (i + 1) (by omega) (fun j aj h1 h2 h3 => q3 j aj h1 (by omega) h3) k3
        rwa [show i + 1 + (p' - (i + 1)) = p' by omega] at this
      refine ⟨K', ⟨by simp [I.size], hclosed, henv K' v' k2 k4, ⟨p', q2, fun j aj hj haj hE' => ?_, fun aj haj => ⟨q4 aj haj, ?_⟩, hs2⟩, fun j aj haj hN hwj hl => ?_, I.below.trans k1, I.le.trans k2, by rw [put_defers, I.defers], by rw [put_size, I.tsize], fun x hx hn => ?_⟩⟩
      · rw [getD_set hisz]
        by_cases e : j = i
        · rw [if_pos e]
        · rw [if_neg e]
          rcases Nat.lt_or_ge j i with h | h
          · exact p2 j aj h haj hE'
          · rw [q3 j aj (by omega) hj haj] at hE'; cases hE'
      · rw [getD_set hisz, if_neg (by omega)]
        cases hl : listed.getD p' false with
        | false => rfl
        | true =>
          rcases d.pairs hao haj (by omega) with hp | hp
          · rw [notbef p' hl] at hp; cases hp
          · exact absurd ⟨hE, q4 aj haj⟩ hp.2.2.2.2.1
      · rw [getD_set hisz] at hl
        by_cases e : j = i
        · rw [if_pos e] at hl; cases hl
        · rw [if_neg e] at hl
          rcases Nat.lt_or_ge j i with h | h
          · rcases d.pairs haj hao h with hp | hp
            · rw [hbef j hp] at hl; cases hl
            · exact absurd ⟨hN, hE⟩ hp.2.2.2.2.2.2
          · have h1 := d.mono' (j - (i + 1)) (i + 1) (by have := d.lt haj; have := d.len; omega)
            rw [show i + 1 + (j - (i + 1)) = j by omega] at h1
            cases hk : K' (st j).2.n with
            | none => rfl
            | some inf => have := k3.dom _ _ hk; omega
      · have := d.mono' i 0 (by omega)
        rw [Nat.zero_add] at this
        exact k5 x (by omega) (I.old x hx hn)
    · -- nothing that acts stands between
      have hEf : ao.k.isE = false := by simpa using hE
      cases hk : ao.k with
      | p q =>
        rw [hk] at s3 c2
        simp only [AK.ev] at s3
        split at s3
        · rename_i u hu
          simp only [Option.some.injEq, Prod.mk.injEq] at s3
          obtain ⟨s5, s6⟩ := s3
          obtain ⟨v', k1, k2⟩ := pop_ok (P := P) (w := w) hER c2 hev hu
          exact wp_of_runs (.inl k1) (quiet_inv K v' w (Below.refl _ _) (KLe.refl _) (.inl rfl) hsim (by rw [← s5]; exact k2) (fun h => absurd h hE))
        · cases s3
      | r q =>
        rw [hk] at s3 c2
        simp only [AK.ev] at s3
        split at s3
        · rename_i u hu
          simp only [Option.some.injEq, Prod.mk.injEq] at s3
          obtain ⟨s5, s6⟩ := s3
          obtain ⟨l, hl⟩ := compOp_opds c2
          have hops := opds_ok hER hl hev
          have hR : ao.k.isR = true := by rw [hk]; rfl
          have hchk := fun x hx => d.chk i x hx ao q xs u hao hw hk s2 hu
          have hval : q.ev xs (st p).2 = some u := by
            rcases Nat.lt_or_ge i p with hip | hip
            · have up : ∀ m, i + m ≤ p → q.ev xs (st (i + m)).2 = some u := by
                intro m
                induction m with
                | zero => intro _; exact hu
                | succ m ih =>
                  intro hm
                  have h1 := ih (by omega)
                  have hkl : i + m < as.length := by rw [d.len]; omega
                  have h2 := List.getElem?_eq_getElem hkl
                  cases hEk : as[i + m].k.isE with
                  | true =>
                    have hlst := p2 (i + m) _ (by omega) h2 hEk
                    have hm0 : m ≠ 0 := fun e => by
                      subst e
                      simp only [Nat.add_zero] at h2 hEk
                      rw [hao] at h2
                      have := Option.some.inj h2
                      rw [← this] at hEk
                      exact hE hEk
                    have := (openPairs_mem (B := befores ops.toList) hao h2 (by omega) (notbef _ hlst)).1 hR hEk
                    exact (hchk _ this).2
                  | false =>
                    rcases d.quiet _ _ h2 hEk with h3 | ⟨_, ob, h3⟩
                    · rw [show i + (m + 1) = i + m + 1 by omega, h3]; exact h1
                    · rw [show i + (m + 1) = i + m + 1 by omega, h3]; exact rop_push h1
              have := up (p - i) (by omega)
              rwa [show i + (p - i) = p by omega] at this
            · have down : ∀ m k, k + m = i → p ≤ k → q.ev xs (st k).2 = some u := by
                intro m
                induction m with
                | zero => intro k hk' _; rw [show k = i by omega]; exact hu
                | succ m ih =>
                  intro k hk' hpk
                  have h1 := ih (k + 1) (by omega) (by omega)
                  have hkl : k < as.length := by omega
                  have h2 := List.getElem?_eq_getElem hkl
                  have hpl : p < as.length := by omega
                  have hp0 := List.getElem?_eq_getElem hpl
                  obtain ⟨q1, q2⟩ := p3 _ hp0
                  have hnl : as[k].k.isE = true ∨ as[k].k.isN = true → listed.getD k false = false := by
                    intro hEN
                    cases hlk : listed.getD k false with
                    | false => rfl
                    | true =>
                      rcases Nat.lt_or_ge p k with h | h
                      · rcases d.pairs hp0 h2 h with hp | hp
                        · rw [I.closed p k hp hlk] at q2; cases q2
                        · rcases hEN with hEN | hEN
                          · exact absurd ⟨q1, hEN⟩ hp.2.2.2.2.1
                          · exact absurd ⟨q1, hEN⟩ hp.2.2.2.2.2.1
                      · have : k = p := by omega
                        subst this
                        rw [q2] at hlk; cases hlk
                  cases hEk : as[k].k.isE with
                  | true =>
                    have hnk := hnl (.inl hEk)
                    have hnb : bef (befores ops.toList) k i = false := by
                      cases hb : bef (befores ops.toList) k i with
                      | false => rfl
                      | true => rw [hbef k hb] at hnk; cases hnk
                    have := (openPairs_mem (B := befores ops.toList) h2 hao (by omega) hnb).2 hEk hR
                    exact (hchk _ this).1
                  | false =>
                    rcases d.quiet _ _ h2 hEk with h3 | ⟨hNk, ob, h3⟩
                    · rw [h3] at h1; exact h1
                    · rw [h3] at h1
                      have hwk : wantedE (st k).1 as[k].guard = some true := by
                        rcases d.step k _ h2 with ⟨_, _, _, h4⟩ | ⟨h4, _⟩
                        · rw [h4] at h3
                          have : (st k).2.n = ((st k).2.push ob).n := by rw [← h3]
                          rw [Heap.n_push] at this
                          omega
                        · exact h4
                      exact rop_unpush hops (I.fresh k _ h2 hNk hwk (hnl (.inr hNk))) h1
              exact down (i - p) p (by omega) (Nat.le_refl _)
          obtain ⟨v', k1, k2⟩ := rop_ok (P := P) hsim hER c2 hev hval
          exact wp_of_runs (.inl k1) (quiet_inv K v' w (Below.refl _ _) (KLe.refl _) (.inl rfl) hsim (by rw [← s5]; exact k2) (fun h => absurd h hE))
        · cases s3
      | n q =>
        rw [hk] at s3 c2
        simp only [AK.ev] at s3
        split at s3
        · rename_i ob hob
          simp only [Option.some.injEq, Prod.mk.injEq] at s3
          obtain ⟨s5, s6⟩ := s3
          have hN : ao.k.isN = true := by rw [hk]; rfl
          have hip : i < p := by
            rcases Nat.lt_or_ge i p with h | h
            · exact h
            · exfalso
              have hpl : p < as.length := by omega
              have hp0 := List.getElem?_eq_getElem hpl
              obtain ⟨q1, q2⟩ := p3 _ hp0
              have hne : p ≠ i := fun e => by subst e; rw [hao] at hp0; cases hp0; exact hE q1
              rcases d.pairs hp0 hao (by omega) with hp | hp
              · rw [hbef p hp] at q2; cases q2
              · exact hp.2.2.2.2.2.1 ⟨q1, hN⟩
          have hbetween : ∀ j aj, i < j → j < p → as[j]? = some aj → aj.k.isE = false := by
            intro j aj h1 h2 h3
            cases hEj : aj.k.isE with
            | false => rfl
            | true =>
              have hl := p2 j aj h2 h3 hEj
              rcases d.pairs hao h3 h1 with hp | hp
              · rw [notbef j hl] at hp; cases hp
              · exact absurd ⟨hN, hEj⟩ hp.2.2.2.2.2.2
          have hget : (st p).2.get (st i).2.n = some ob := by
            have h0 : (st (i + 1)).2.get (st i).2.n = some ob := by rw [← s6, Heap.get_push, if_pos rfl]
            have := d.forward (Φ := fun h => h.get (st i).2.n = some ob) (fun h ob' hh => get_push_some hh) (p - (i + 1)) (i + 1) (by omega) (fun j aj h1 h2 h3 => hbetween j aj (by omega) (by omega) h3) h0
            rwa [show i + 1 + (p - (i + 1)) = p by omega] at this
          have hobp : q.ob xs (st p).2 = some ob := by
            have := d.forward (Φ := fun h => q.ob xs h = some ob) (fun h ob' hh => nob_push hh) (p - i) i (by omega) (fun j aj h1 h2 h3 => by
              by_cases e : j = i
              · subst e; rw [hao] at h3; cases h3; exact hEf
              · exact hbetween j aj (by omega) (by omega) h3) hob
            rwa [show i + (p - i) = p by omega] at this
          have hlt : (st i).2.n < (st p).2.n := by
            have h1 := d.mono' (p - (i + 1)) (i + 1) (by omega)
            rw [show i + 1 + (p - (i + 1)) = p by omega, ← s6, Heap.n_push] at h1
            omega
          obtain ⟨v', w', K', k1, k2, k3, k4, k5, k6⟩ := nop_ok (P := P) (id := (st i).2.n) hsim hER c2 hev hobp (I.fresh i ao hao hN hw hnotf) hget hlt
          exact wp_of_runs k1 (quiet_inv K' v' w' k2 k3 (.inr ⟨hN, hw, k4⟩) k5 (by rw [← s5]; exact k6) (fun h => absurd h hE))
        · cases s3
      | e q => rw [hk] at hE; exact absurd rfl hE
      | call f => rw [hk] at hE; exact absurd rfl hE
      | callV => rw [hk] at hE; exact absurd rfl hE
end
end Go.Am
