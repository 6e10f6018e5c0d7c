/- One operation of a region, whichever it is. Own work. -/
import Derived.Test.YtgbkpiaonlabgaaAmS
namespace Go.Am
set_option linter.unusedVariables false
set_option linter.unusedSimpArgs false
open Go Go.RowKit
/-- What a call answers, the model's call answers. -/
def CfOk (P : Program) (cf : CallF) : Prop :=
  ∀ (f : Nat) (xs : List AV) (h : Heap) (v : AV) (h' : Heap), cf f xs h = some (v, h') → ∀ (B : Nat) (K : KM) (w : World) (ys : List Value), VRs K xs ys → Sim B K h w →
    (callFunc f ys.toArray).run P w = .ok (.enter f ys.toArray) w ∧
    h.n ≤ h'.n ∧ Calls P f ys.toArray w fun e w' => ∃ v' K', e = .returned v' ∧ Below B w w' ∧ KLe K K' ∧ (∀ x, x < h.n → K x = none → K' x = none) ∧ Sim B K' h' w' ∧ VR K' v v'
/-- What holds behind a step. -/
structure After (B : Nat) (K : KM) (a : Act) (w : World) (e1 : Env) (H : Heap) (H1 : Heap) (K' : KM) (a' : Act) (w' : World) : Prop where
  below : Below B w w'
  le : KLe K K'
  er : ER K' e1 a'.tmps
  sim : Sim B K' H1 w'
  defers : a'.defers = a.defers
  size : a'.tmps.size = a.tmps.size
  fresh : ∀ x, x < H.n → K x = none → K' x = none
section
variable {P : Program} {K : KM} {w : World} {B : Nat} {H : Heap}
theorem put_size (a : Act) (d : Option Nat) (v : Value) : (a.put d v).tmps.size = a.tmps.size := by
  cases d <;> simp [Act.put]
theorem put_defers (a : Act) (d : Option Nat) (v : Value) : (a.put d v).defers = a.defers := by
  cases d <;> rfl
theorem putE_get (e : Env) (d : Option Nat) (v : AV) (t : Nat) : (putE e d v).get t = if d = some t then some v else e.get t := by
  cases d with
  | none => simp [putE]
  | some d =>
    rw [putE, T.get_set]
    by_cases h : t = d
    · subst h; simp
    · rw [if_neg h, if_neg (by simpa using fun h' => h h'.symm)]
theorem er_put {e : Env} {a : Act} {d : Option Nat} {v : AV} {v' : Value} (he : ER K e a.tmps) (hv : VR K v v') {nt : Nat} (hd : dstOk nt d = true) (hn : nt ≤ a.tmps.size) : ER K (putE e d v) (a.put d v').tmps := by
  intro t u ht
  rw [putE_get] at ht
  cases d with
  | none => simp at ht; exact he t u ht
  | some d =>
    have hlt : d < a.tmps.size := by
      unfold dstOk at hd
      have : d < nt := Nat.le_of_ble_eq_true hd
      omega
    by_cases h : d = t
    · subst h
      rw [if_pos rfl] at ht
      cases ht
      exact ⟨v', by simp [Act.put, hlt], hv⟩
    · rw [if_neg (by simpa using h)] at ht
      obtain ⟨x, h1, h2⟩ := he t u ht
      exact ⟨x, by simp [Act.put, h, h1], h2⟩
theorem wp_of_runs {a : Act} {o : Oper} {v' : Value} {w' : World} {next : Act → World → Prop} {Q : Exit → Act → World → Prop} (h : OpRuns P a o w v' w') (hn : next (a.put o.dst v') w') : o.wp P a w next Q := by
  unfold Oper.wp
  rcases h with h | ⟨h, rfl⟩
  · rw [h]; exact hn
  · rw [h]; exact hn
theorem vr_bool {v : AV} {b : Bool} (h : VR K v (.bool b)) : v = .bool b := by
  cases v <;> simp only [VR] at h <;> first | (cases h; rfl) | (cases h; done) | (obtain ⟨_, h⟩ := h; first | (cases h; done) | (obtain ⟨_, h⟩ := h; first | (cases h; done) | (obtain ⟨_, h⟩ := h; first | (cases h; done) | (cases h.1; done)) | (cases h.1; done)) | (cases h.1; done))
/-- A guard. -/
theorem wanted_ok {e : Env} {a : Act} (he : ER K e a.tmps) {ops : Array Oper} {o : Oper} {g : Option (Nat × Bool)} {b : Bool} (hg : compGuard ops.toList o.guard = some g) (hw : wantedE e g = some b) : Region.wanted o (yielded ops a.tmps) = b := by
  unfold compGuard at hg
  unfold Region.wanted
  split at hg
  · rename_i h0; cases hg; rw [h0]; simp [wantedE] at hw; subst hw; rfl
  · rename_i j want h0
    rw [h0]
    simp only
    split at hg
    · rename_i o' ho'
      split at hg
      · rename_i t hdt
        cases hg
        simp only [wantedE] at hw
        have hy : yielded ops a.tmps j = match a.tmps[t]? with
            | some (.bool b) => some b
            | _ => none := by
          unfold yielded
          rw [Array.getElem?_toList] at ho'
          rw [ho']
          simp only [Option.bind_some, hdt]
          rfl
        rw [hy]
        split at hw
        · rename_i b' hb'
          cases hw
          obtain ⟨x, h1, h2⟩ := he t _ hb'
          simp only [VR] at h2
          rw [h1, h2]
          cases b' <;> cases want <;> rfl
        · rename_i v hne hb'
          cases hw
          obtain ⟨x, h1, h2⟩ := he t _ hb'
          rw [h1]
          cases x <;> try rfl
          exact absurd (vr_bool h2) (hne _)
        · cases hw
      · cases hg
    · cases hg
theorem compOper_inv {nt : Nat} {ops : List Oper} {o : Oper} {ao : AOper} (h : compOper P nt ops o = some ao) : compGuard ops o.guard = some ao.guard ∧ compOp P o.op = some (ao.k, ao.xs) ∧ ao.dst = o.dst ∧ dstOk nt o.dst = true := by
  unfold compOper at h
  split at h
  · rename_i g k xs h1 h2
    cases hd : dstOk nt o.dst with
    | false => rw [hd] at h; cases h
    | true => rw [hd, cond_true] at h; cases h; exact ⟨h1, h2, rfl, rfl⟩
  · cases h
/-- An operation that acts, in any world that is told by the heap. -/
theorem eff_ok {cf : CallF} (hcf : CfOk P cf) {a : Act} {e : Env} (he : ER K e a.tmps) (hs : Sim B K H w) {nt : Nat} {opsL : List Oper} {o : Oper} {ao : AOper} (hc : compOper P nt opsL o = some ao) (hnt : nt ≤ a.tmps.size)
    {xs : List AV} (hev : evs e ao.xs = some xs) (hE : ao.k.isE = true) {v : AV} {H1 : Heap} (hv : ao.k.ev cf xs H = some (v, H1)) {next : Act → World → Prop} {Q : Exit → Act → World → Prop}
    (hn : ∀ K' v' w', Below B w w' → KLe K K' → Sim B K' H1 w' → VR K' v v' → (∀ x, x < H.n → K x = none → K' x = none) → next (a.put o.dst v') w') : o.wp P a w next Q := by
  obtain ⟨h1, h2, h3, h4⟩ := compOper_inv hc
  have hcall : (∃ f ys, target ao.k xs = some (f, ys) ∧ cf f ys H = some (v, H1)) → o.wp P a w next Q := by
    rintro ⟨f, ys, ht, hr⟩
    obtain ⟨ys', g1, g2⟩ := call_ok (P := P) (w := w) he h2 hev ht
    obtain ⟨g3, _, g4⟩ := hcf f ys H v H1 hr B K w ys' g1 hs
    unfold Oper.wp
    rw [g2, g3, Oper.upon_enter]
    refine g4.mono fun en w' hh => ?_
    obtain ⟨v', K', rfl, k1, k2, k3, k4, k5⟩ := hh
    exact hn K' v' w' k1 k2 k4 k5 k3
  cases hk : ao.k with
  | p q => rw [hk] at hE; cases hE
  | r q => rw [hk] at hE; cases hE
  | n q => rw [hk] at hE; cases hE
  | e q =>
    rw [hk] at hv h2
    simp only [AK.ev] at hv
    obtain ⟨v', w', K', k1, k2, k3, k4, k5, k6⟩ := eop_ok (P := P) hs he h2 hev hv
    exact wp_of_runs k1 (hn K' v' w' k2 k3 k5 k6 k4)
  | call f =>
    refine hcall ?_
    rw [hk] at hv ⊢
    simp only [AK.ev] at hv
    split at hv
    · rename_i f' ys ht; exact ⟨_, _, ht, hv⟩
    · cases hv
  | callV =>
    refine hcall ?_
    rw [hk] at hv ⊢
    simp only [AK.ev] at hv
    split at hv
    · rename_i f' ys ht; exact ⟨_, _, ht, hv⟩
    · cases hv
theorem get_push_some {h : Heap} {o : Nat} {x y : AObj} (hg : h.get o = some x) : (h.push y).get o = some x := by
  have hlt : o < h.n := by
    rcases Nat.lt_or_ge o h.n with hh | hh
    · exact hh
    · rw [Heap.get_ge _ (by omega)] at hg; cases hg
  rw [Heap.get_push, if_neg (by omega)]; exact hg
theorem cells_push {h : Heap} {o v f n : Nat} {cs : List AV} {y : AObj} (hc : h.cells o v f n = some cs) : (h.push y).cells o v f n = some cs := by
  unfold Heap.cells at hc ⊢
  cases hg : h.get o with
  | none => rw [hg] at hc; cases hc
  | some x => rw [hg] at hc; rw [get_push_some hg]; exact hc
theorem rows_push {h : Heap} {esz : Nat} {s : AV} {cs : List AV} {y : AObj} (hc : h.rows esz s = some cs) : (h.push y).rows esz s = some cs := by
  cases s <;> simp only [Heap.rows] at hc ⊢ <;> first | exact hc | exact cells_push hc | cases hc
theorem appended_push {h : Heap} {esz : Nat} {x : AV} {r : List AV × Nat} {y : AObj} (ha : appended h esz x = some r) : appended (h.push y) esz x = some r := by
  unfold appended at ha ⊢
  split at ha
  · exact ha
  · split at ha
    · rename_i cs hcs; rw [rows_push hcs]; exact ha
    · cases ha
theorem nob_push {h : Heap} {q : NOp} {vs : List AV} {ob y : AObj} (hq : q.ob vs h = some ob) : q.ob vs (h.push y) = some ob := by
  cases q with
  | appendNil esz bytes =>
    match vs, hq with
    | [x], hq =>
      simp only [NOp.ob] at hq ⊢
      split at hq
      · rename_i cs k ha; rw [appended_push ha]; exact hq
      · cases hq
  | _ => rcases vs with _ | ⟨x, _ | ⟨z, _ | ⟨_, _⟩⟩⟩ <;> first | exact hq | (cases x <;> first | exact hq | (cases z <;> exact hq))
/-- One step of a region in the text's order. -/
theorem step_ok {cf : CallF} (hcf : CfOk P cf) {a : Act} {e e1 : Env} {H1 : Heap} (he : ER K e a.tmps) (hs : Sim B K H w) {nt : Nat} {ops : Array Oper} {o : Oper} {ao : AOper} (hc : compOper P nt ops.toList o = some ao) (hnt : nt ≤ a.tmps.size)
    (hst : stepOp cf ao e H = some (e1, H1)) {next : Act → World → Prop} {Q : Exit → Act → World → Prop} (hn : ∀ K' a' w', After B K a w e1 H H1 K' a' w' → next a' w') :
    if Region.wanted o (yielded ops a.tmps) then o.wp P a w next Q ∨ (o.asks P a w ∧ LetsOut Q) else next (a.put o.dst Go.undef) w := by
  obtain ⟨h1, h2, h3, h4⟩ := compOper_inv hc
  unfold stepOp at hst
  split at hst
  · cases hst
  · rename_i hw
    rw [wanted_ok he h1 hw]
    cases hst
    simp only [Bool.false_eq_true, if_false]
    refine hn K _ w ⟨Below.refl _ _, KLe.refl _, ?_, hs, put_defers _ _ _, put_size _ _ _, fun _ _ hh => hh⟩
    rw [h3]
    exact er_put he VR.undef h4 hnt
  · rename_i hw
    rw [wanted_ok he h1 hw]
    simp only [if_true]
    left
    split at hst
    · cases hst
    · rename_i xs hev
      split at hst
      · cases hst
      · rename_i v H1' hv
        cases hst
        have fin : ∀ K' v' w', Below B w w' → KLe K K' → Sim B K' H1 w' → VR K' v v' → (∀ x, x < H.n → K x = none → K' x = none) → next (a.put o.dst v') w' := by
          intro K' v' w' k1 k2 k3 k4 k5
          refine hn K' _ w' ⟨k1, k2, ?_, k3, put_defers _ _ _, put_size _ _ _, k5⟩
          rw [h3]
          exact er_put (he.mono k2) k4 h4 hnt
        by_cases hE : ao.k.isE = true
        · exact eff_ok hcf he hs hc hnt hev hE hv fin
        · cases hk : ao.k with
          | p q =>
            rw [hk] at hv h2
            simp only [AK.ev] at hv
            split at hv
            · rename_i u hu
              cases hv
              obtain ⟨v', k1, k2⟩ := pop_ok (P := P) (w := w) he h2 hev hu
              exact wp_of_runs (.inl k1) (fin K v' w (Below.refl _ _) (KLe.refl _) hs k2 (fun _ _ hh => hh))
            · cases hv
          | r q =>
            rw [hk] at hv h2
            simp only [AK.ev] at hv
            split at hv
            · rename_i u hu
              cases hv
              obtain ⟨v', k1, k2⟩ := rop_ok (P := P) hs he h2 hev hu
              exact wp_of_runs (.inl k1) (fin K v' w (Below.refl _ _) (KLe.refl _) hs k2 (fun _ _ hh => hh))
            · cases hv
          | n q =>
            rw [hk] at hv h2
            simp only [AK.ev] at hv
            split at hv
            · rename_i ob hob
              cases hv
              have hK : K H.n = none := by
                cases hq : K H.n with
                | none => rfl
                | some i => have := hs.dom _ _ hq; omega
              obtain ⟨v', w', K', k1, k2, k3, k4, k5, k6⟩ := nop_ok (P := P) (id := H.n) (hs.push ob) he h2 hev (nob_push hob) hK (by rw [Heap.get_push, if_pos rfl]) (by rw [Heap.n_push]; omega)
              exact wp_of_runs k1 (fin K' v' w' k2 k3 k5 k6 (fun x hx hh => by rw [k4 x (by omega)]; exact hh))
            · cases hv
          | e q => rw [hk] at hE; exact absurd rfl hE
          | call f => rw [hk] at hE; exact absurd rfl hE
          | callV => rw [hk] at hE; exact absurd rfl hE
end
end Go.Am
