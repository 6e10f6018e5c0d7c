/- Whole regions; code; functions: what the abstract machine's run comes to, the model's run comes to. Own work. -/
import Derived.Test.YtgbkpiaonlabgaaAmW
import Derived.Deep.LoopGhost
namespace Go.Am
set_option linter.unusedVariables false
set_option linter.unusedSimpArgs false
open Go Go.RowKit
def CfMono (cf : CallF) : Prop := ∀ (f : Nat) (xs : List AV) (h : Heap) (v : AV) (h' : Heap), cf f xs h = some (v, h') → h.n ≤ h'.n
theorem step_mono {cf : CallF} (hm : CfMono cf) {ao : AOper} {e e1 : Env} {h h1 : Heap} (hs : stepOp cf ao e h = some (e1, h1)) : h.n ≤ h1.n := by
  rcases step_cases hs with ⟨_, _, rfl⟩ | ⟨_, xs, v, _, hv, _⟩
  · exact Nat.le_refl _
  · have hc : (∃ f ys, cf f ys h = some (v, h1)) → h.n ≤ h1.n := fun ⟨f, ys, hh⟩ => hm f ys h v h1 hh
    cases hk : ao.k with
    | p q =>
      rw [hk] at hv
      simp only [AK.ev] at hv
      split at hv <;> cases hv
      exact Nat.le_refl _
    | r q =>
      rw [hk] at hv
      simp only [AK.ev] at hv
      split at hv <;> cases hv
      exact Nat.le_refl _
    | n q =>
      rw [hk] at hv
      simp only [AK.ev] at hv
      split at hv <;> cases hv
      simp [Heap.n_push]
    | e q => rw [hk] at hv; exact eop_n hv
    | call f =>
      rw [hk] at hv
      simp only [AK.ev] at hv
      split at hv
      · exact hc ⟨_, _, hv⟩
      · cases hv
    | callV =>
      rw [hk] at hv
      simp only [AK.ev] at hv
      split at hv
      · exact hc ⟨_, _, hv⟩
      · cases hv
theorem runOps_mono {cf : CallF} (hm : CfMono cf) : ∀ (as : List AOper) {e e1 : Env} {h h1 : Heap}, runOps cf as e h = some (e1, h1) → h.n ≤ h1.n
  | [], e, e1, h, h1, hr => by cases hr; exact Nat.le_refl _
  | ao :: as, e, e1, h, h1, hr => by
    simp only [runOps] at hr
    split at hr
    · cases hr
    · rename_i e' h' hs
      exact Nat.le_trans (step_mono hm hs) (runOps_mono hm as hr)
section
variable {P : Program} {B : Nat}
theorem After.trans {K K1 K2 : KM} {a a1 a2 : Act} {w w1 w2 : World} {e1 e2 : Env} {H H1 H2 : Heap} (h : After B K a w e1 H H1 K1 a1 w1) (k : After B K1 a1 w1 e2 H1 H2 K2 a2 w2) (hm : H.n ≤ H1.n) : After B K a w e2 H H2 K2 a2 w2 :=
  ⟨h.below.trans k.below, h.le.trans k.le, k.er, k.sim, k.defers.trans h.defers, k.size.trans h.size, fun x hx hn => k.fresh x (by omega) (h.fresh x hx hn)⟩
theorem After.refl {K : KM} {a : Act} {w : World} {e : Env} {H : Heap} (he : ER K e a.tmps) (hs : Sim B K H w) : After B K a w e H H K a w :=
  ⟨Below.refl _ _, KLe.refl _, he, hs, rfl, rfl, fun _ _ h => h⟩
theorem seq_ok {cf : CallF} (hcf : CfOk P cf) (hm : CfMono cf) {nt : Nat} {ops : Array Oper} : ∀ (l : List Oper) (as : List AOper) {e e1 : Env} {H H1 : Heap} {K : KM} {a : Act} {w : World} {Q : Exit → Act → World → Prop}, compOps P nt ops.toList l = some as → runOps cf as e H = some (e1, H1) →
    ER K e a.tmps → Sim B K H w → nt ≤ a.tmps.size → (∀ K' a' w', After B K a w e1 H H1 K' a' w' → Q .normal a' w') → wpList P ops Q l a w
  | [], as, e, e1, H, H1, K, a, w, Q, hc, hr, he, hs, _, hQ => by
    cases hc; cases hr
    exact hQ K a w (After.refl he hs)
  | o :: l, as, e, e1, H, H1, K, a, w, Q, hc, hr, he, hs, hnt, hQ => by
    simp only [compOps] at hc
    split at hc
    · cases hc
    · rename_i ao hao
      split at hc
      · cases hc
      · rename_i as' has
        cases hc
        simp only [runOps] at hr
        split at hr
        · cases hr
        · rename_i e' h' hst
          unfold wpList
          exact step_ok hcf he hs hao hnt hst (fun K' a' w' hA => seq_ok hcf hm l as' has hr hA.er hA.sim (by rw [hA.size]; exact hnt) (fun K'' a'' w'' hA' => hQ K'' a'' w'' (hA.trans hA' (step_mono hm hst))))
theorem compOps_get {nt : Nat} {opsL : List Oper} : ∀ (l : List Oper) (as : List AOper), compOps P nt opsL l = some as → as.length = l.length ∧ ∀ (i : Nat) (o : Oper), l[i]? = some o → ∃ ao, as[i]? = some ao ∧ compOper P nt opsL o = some ao
  | [], as, h => by cases h; exact ⟨rfl, fun i o hi => by simp at hi⟩
  | o :: l, as, h => by
    simp only [compOps] at h
    split at h
    · cases h
    · rename_i ao hao
      split at h
      · cases h
      · rename_i as' has
        cases h
        obtain ⟨h1, h2⟩ := compOps_get l as' has
        refine ⟨by simp [h1], fun i o' hi => ?_⟩
        cases i with
        | zero => simp at hi; subst hi; exact ⟨ao, rfl, hao⟩
        | succ i => exact h2 i o' (by simpa using hi)
theorem trace_spec {cf : CallF} : ∀ (as : List AOper) {e e1 : Env} {h h1 : Heap}, runOps cf as e h = some (e1, h1) →
    (trace cf as e h)[0]? = some (e, h) ∧ (trace cf as e h)[as.length]? = some (e1, h1) ∧ ∀ (i : Nat) (ao : AOper), as[i]? = some ao → ∃ s s', (trace cf as e h)[i]? = some s ∧ (trace cf as e h)[i + 1]? = some s' ∧ stepOp cf ao s.1 s.2 = some s'
  | [], e, e1, h, h1, hr => by cases hr; exact ⟨rfl, rfl, fun i ao hi => by simp at hi⟩
  | ao :: as, e, e1, h, h1, hr => by
    simp only [runOps] at hr
    split at hr
    · cases hr
    · rename_i e' h' hs
      obtain ⟨t1, t2, t3⟩ := trace_spec as hr
      simp only [trace, hs]
      refine ⟨rfl, by simpa using t2, fun i ao' hi => ?_⟩
      cases i with
      | zero =>
        simp at hi; subst hi
        exact ⟨(e, h), (e', h'), rfl, by simpa using t1, hs⟩
      | succ i =>
        obtain ⟨s, s', g1, g2, g3⟩ := t3 i ao' (by simpa using hi)
        exact ⟨s, s', by simpa using g1, by simpa using g2, g3⟩
theorem sameAt_true {v : AV} {x : Option AV} (h : sameAt v x = true) : x = some v := by
  cases x with
  | none => cases h
  | some u => rw [AV.eq_of_beq v u h]
/-- **A region that draws its order.** -/
theorem draw_ok {cf : CallF} (hcf : CfOk P cf) (hm : CfMono cf) (hfol : P.follows .mixedOrders = true) {nt id : Nat} {ops : Array Oper} {as : List AOper} {ps : List (Nat × Nat)} {e e1 : Env} {H H1 : Heap} {K : KM} {a : Act} {w : World} {Q : Exit → Act → World → Prop}
    (hc : compD P nt ops.toList = some (.dregion as ps)) (hr : runOps cf as e H = some (e1, H1)) (hchk : ps.all (chkPair as (trace cf as e H)) = true)
    (he : ER K e a.tmps) (hs : Sim B K H w) (hnt : nt ≤ a.tmps.size) (hQ : ∀ K' a' w', After B K a w e1 H H1 K' a' w' → Q .normal a' w') : (Code.region id ops true).wp P Q a w := by
  unfold compD at hc
  split at hc
  · cases hc
  · rename_i as' has
    split at hc
    · rename_i hb
      cases hc
      simp only [Bool.and_eq_true] at hb
      obtain ⟨hedge, hpair⟩ := hb
      obtain ⟨l1, l2⟩ := compOps_get _ _ has
      obtain ⟨t1, t2, t3⟩ := trace_spec as hr
      let st : Nat → Env × Heap := fun i => ((trace cf as e H)[i]?).getD (e, H)
      have hst : ∀ (i : Nat) (ao : AOper), as[i]? = some ao → stepOp cf ao (st i).1 (st i).2 = some (st (i + 1)) := by
        intro i ao hi
        obtain ⟨s, s', g1, g2, g3⟩ := t3 i ao hi
        simp only [st, g1, g2, Option.getD_some]; exact g3
      have hV : ∀ i, ∃ v, ∀ ao, as[i]? = some ao → StepIs cf ao (st i) v (st (i + 1)) := by
        intro i
        cases hi : as[i]? with
        | none => exact ⟨.undef, fun ao h => by cases h⟩
        | some ao =>
          obtain ⟨v, hv⟩ := stepIs (hst i ao hi)
          exact ⟨v, fun ao' h => by cases h; exact hv⟩
      obtain ⟨V, hV⟩ := Classical.axiomOfChoice hV
      have hlen : as.length = ops.size := by rw [l1]; simp
      have hst0 : st 0 = (e, H) := by simp only [st, t1, Option.getD_some]
      have hstn : st ops.size = (e1, H1) := by rw [← hlen]; simp only [st, t2, Option.getD_some]
      have d : DC P cf nt ops as st V := {
        cfOk := hcf
        len := hlen
        co := fun i o ho => l2 i o (by rw [Array.getElem?_toList]; exact ho)
        step := fun i ao hi => hV i ao hi
        mono := fun i ao hi => step_mono hm (show stepOp cf ao (st i).1 (st i).2 = some ((st (i + 1)).1, (st (i + 1)).2) from hst i ao hi)
        quiet := fun i ao hi hE => heap_of_quiet (show stepOp cf ao (st i).1 (st i).2 = some ((st (i + 1)).1, (st (i + 1)).2) from hst i ao hi) hE
        pair := fun i j hij hj => allPairs_spec hpair hij (by omega)
        edge := fun i o ho ed hed hbd => by
          have hi : i < ops.toList.length := by
            rcases Nat.lt_or_ge i ops.size with h | h
            · simpa using h
            · rw [Array.getElem?_eq_none h] at ho; cases ho
          have h1 := List.all_eq_true.1 hedge i (List.mem_range.2 hi)
          rw [Array.getElem?_toList, ho] at h1
          simp only at h1
          obtain ⟨j, hj, rfl⟩ := Array.mem_iff_getElem.1 hed
          have h2 := Array.all_eq_true.1 h1 j hj
          rw [hbd] at h2
          simp only [Bool.not_true, Bool.false_or] at h2
          exact Nat.le_of_ble_eq_true h2
        chk := fun r x hrx ao q xs v hao hw hk hev hv => by
          have h1 := List.all_eq_true.1 hchk (r, x) hrx
          obtain ⟨s, s', g1, g2, g3⟩ := t3 r ao hao
          have hsr : st r = s := by simp only [st, g1, Option.getD_some]
          rw [hsr] at hw hev hv
          obtain ⟨se, sh⟩ := s
          unfold chkPair at h1
          simp only [hao, g1] at h1
          cases hx1 : (trace cf as e H)[x]? with
          | none => rw [hx1] at h1; cases h1
          | some sx =>
            cases hx2 : (trace cf as e H)[x + 1]? with
            | none => rw [hx1, hx2] at h1; cases h1
            | some sx' =>
              have e1 : st x = sx := by simp only [st, hx1, Option.getD_some]
              have e2 : st (x + 1) = sx' := by simp only [st, hx2, Option.getD_some]
              rw [e1, e2]
              rw [hx1, hx2] at h1
              simp only at hw hev hv h1
              rw [hw] at h1
              simp only at h1
              rw [hk, hev] at h1
              simp only at h1
              rw [hv] at h1
              simp only [Bool.and_eq_true] at h1
              exact ⟨sameAt_true h1.1, sameAt_true h1.2⟩ }
      have fin : ∀ (listed : Array Bool) (K' : KM) (a' : Act) (w' : World), Inv B ops as st V K a w listed K' a' w' → Region.ready .any ops listed = [] → Q .normal a' w' := by
        intro listed K' a' w' I hready
        have hall : ∀ m i, i < m → i < ops.size → listed.getD i false = true := by
          intro m
          induction m with
          | zero => intro i hi _; omega
          | succ m ih =>
            intro i hi hin
            cases hl : listed.getD i false with
            | true => rfl
            | false =>
              exfalso
              have ho := Array.getElem?_eq_getElem hin
              have hisz : i < listed.size := by rw [I.size]; exact hin
              have hm : i ∈ Region.ready .any ops listed := by
                unfold Region.ready
                refine List.mem_filter.2 ⟨List.mem_range.2 hin, ?_⟩
                simp only [Bool.and_eq_true, Bool.not_eq_true']
                constructor
                · rw [Array.getD_eq_getD_getElem?, Array.getElem?_eq_getElem hisz] at hl ⊢
                  simpa using hl
                · rw [ho]
                  simp only [Option.map_some, Option.getD_some, Array.all_eq_true, Bool.or_eq_true, Bool.not_eq_true']
                  intro j hj
                  cases hb : Region.binds .any (ops[i].after[j]) with
                  | false => exact .inl rfl
                  | true =>
                    right
                    have := d.edge i _ ho _ (Array.getElem_mem hj) hb
                    exact ih _ (by omega) (by omega)
              rw [hready] at hm
              cases hm
        obtain ⟨p, p1, p2, p3, hsim⟩ := I.sim
        have hpn : p = ops.size := by
          rcases Nat.lt_or_ge p ops.size with h | h
          · have hp0 := List.getElem?_eq_getElem (show p < as.length by omega)
            have := (p3 _ hp0).2
            rw [hall (p + 1) p (by omega) h] at this
            cases this
          · omega
        subst hpn
        rw [hstn] at hsim
        refine hQ K' a' w' ⟨I.below, I.le, fun t v ht => ?_, hsim, I.defers, I.tsize, fun x hx hn => I.old x (by rw [hst0]; exact hx) hn⟩
        refine I.env t v ?_
        have h1 : (st ops.size).1.get t = some v := by rw [hstn]; exact ht
        rw [d.env_text t ops.size (by omega)] at h1
        rw [← h1]
        refine mixAt_congr as 0 _ fun j aj hj _ => ?_
        have := d.lt hj
        rw [Nat.zero_add, hall (j + 1) j (by omega) (by omega)]
        simp; omega
      have all : ∀ (fuel : Nat) (listed : Array Bool) (K' : KM) (a' : Act) (w' : World), Inv B ops as st V K a w listed K' a' w' → (List.range ops.size).countP (fun i => !listed.getD i false) ≤ fuel → wpAny P .any ops Q fuel listed a' w' := by
        intro fuel
        induction fuel with
        | zero =>
          intro listed K' a' w' I hcnt
          have hready : Region.ready .any ops listed = [] := by
            rw [List.eq_nil_iff_forall_not_mem]
            intro i hi
            unfold Region.ready at hi
            obtain ⟨h1, h2⟩ := List.mem_filter.1 hi
            have h3 : (List.range ops.size).countP (fun i => !listed.getD i false) = 0 := by omega
            rw [List.countP_eq_zero] at h3
            have h4 := h3 i h1
            simp only [Bool.and_eq_true, Bool.not_eq_true'] at h2
            have hin := List.mem_range.1 h1
            have hisz : i < listed.size := by rw [I.size]; exact hin
            have h5 := h2.1
            rw [Array.getD_eq_getD_getElem?, Array.getElem?_eq_getElem hisz] at h5 h4
            simp at h5 h4
            rw [h5] at h4; cases h4
          exact ⟨hready, fin listed K' a' w' I hready⟩
        | succ fuel ih =>
          intro listed K' a' w' I hcnt
          refine ⟨fun hready => fin listed K' a' w' I hready, fun i hi => ?_⟩
          refine wpOp_mono (fun a2 w2 h2 => ?_) (d.step_ok hnt I hi Q)
          obtain ⟨K2, I2⟩ := h2
          refine ih _ K2 a2 w2 I2 ?_
          unfold Region.ready at hi
          obtain ⟨h1, h2⟩ := List.mem_filter.1 hi
          have hin := List.mem_range.1 h1
          have hisz : i < listed.size := by rw [I.size]; exact hin
          simp only [Bool.and_eq_true, Bool.not_eq_true'] at h2
          have hnl : listed.getD i false = false := by
            have h5 := h2.1
            rw [Array.getD_eq_getD_getElem?, Array.getElem?_eq_getElem hisz] at h5 ⊢
            simpa using h5
          have key : ∀ (l : List Nat), i ∈ l → l.countP (fun j => !(listed.setIfInBounds i true).getD j false) < l.countP (fun j => !listed.getD j false) := by
            intro l
            induction l with
            | nil => intro h; cases h
            | cons x l ihl =>
              intro hm
              simp only [List.countP_cons]
              have hle : l.countP (fun j => !(listed.setIfInBounds i true).getD j false) ≤ l.countP (fun j => !listed.getD j false) := by
                refine List.countP_mono_left fun j _ hj => ?_
                rw [getD_set hisz] at hj
                by_cases e : j = i
                · rw [if_pos e] at hj; cases hj
                · rw [if_neg e] at hj; exact hj
              by_cases e : x = i
              · subst e
                rw [getD_set hisz, if_pos rfl, hnl]
                simp only [Bool.not_true, Bool.not_false, Bool.false_eq_true, if_false, if_true]
                omega
              · have := ihl (by
                  rcases List.mem_cons.1 hm with h | h
                  · exact absurd h.symm e
                  · exact h)
                rw [getD_set hisz, if_neg e]
                omega
          have := key _ h1
          omega
      have hs' : Sim B K H { w with drawn := w.drawn + 1 } := hs.drew rfl
      obtain ⟨p0, q1, q2, q3, q4⟩ := d.next ops.size 0 (by omega)
      have hs0 : Sim B K (st p0).2 { w with drawn := w.drawn + 1 } := by
        have := d.forward (Φ := fun h => Sim B K h { w with drawn := w.drawn + 1 }) (fun h ob hh => hh.push ob) p0 0 (by omega) (fun j aj h1 h2 h3 => q3 j aj h1 (by omega) h3) (by rw [hst0]; exact hs')
        rwa [Nat.zero_add] at this
      have hrep : ∀ j, (Array.replicate ops.size false).getD j false = false := by
        intro j
        rw [Array.getD_eq_getD_getElem?, Array.getElem?_replicate]
        split <;> rfl
      refine wp_region_any hfol (all _ _ K a _ ⟨by simp, (fun i j _ hj => by rw [hrep] at hj; cases hj), fun t v hm => ?_, ⟨p0, q2, (fun j aj hj haj hE => by rw [q3 j aj (by omega) hj haj] at hE; cases hE), fun aj haj => ⟨q4 aj haj, hrep _⟩, hs0⟩, fun i ai hi _ _ _ => ?_, ⟨rfl, rfl, rfl, Nat.le_refl _, fun _ _ => rfl⟩, KLe.refl _, rfl, rfl, fun _ _ h => h⟩ ?_)
      · rw [mixAt_none as 0 _ (fun j aj _ _ => by rw [Nat.zero_add]; exact hrep j), hst0] at hm
        exact he t v hm
      · cases hk : K (st i).2.n with
        | none => rfl
        | some inf =>
          have h1 := hs.dom _ _ hk
          have h2 := d.mono' i 0 (by have := d.lt hi; omega)
          rw [Nat.zero_add, hst0] at h2
          simp only at h2
          omega
      · exact Nat.le_trans List.countP_le_length (by simp)
    · cases hc
end
end Go.Am
