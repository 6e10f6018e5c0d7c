/- The theorem of the abstract machine: a call that it answers, the model's call answers. Own work. -/
import Derived.Test.YtgbkpiaonlabgaaAmY
namespace Go.Am
set_option linter.unusedVariables false
set_option linter.unusedSimpArgs false
open Go Go.RowKit
/-- The codes' theorem, at every base. -/
theorem code_all {P : Program} {F : Nat → Option AFn} (hT : TabOk P F) : ∀ (n : Nat), CfOk P (callN F n) ∧ ∀ (B : Nat) (nt : Nat) (cd : Code) (c : ACode) (e e1 : Env) (H H1 : Heap) (x : AX) (K : KM) (a : Act) (w : World) (Q : Exit → Act → World → Prop), compCode P nt cd = some c → run F n c e H = some (x, e1, H1) → ER K e a.tmps → Sim B K H w → nt ≤ a.tmps.size →
    (∀ K' a' w', After B K a w e1 H H1 K' a' w' → Q x.exit? a' w') → cd.wp P Q a w
  | 0 => ⟨(fun f xs h v h' hc => by
      obtain ⟨fn, x, e', _, _, _, hr, _⟩ := callN_of hc
      exact absurd hr (by simp [run])), fun B nt cd c e e1 H H1 x K a w Q _ hr => absurd hr (by simp [run])⟩
  | n + 1 => by
    obtain ⟨ihc, ihr⟩ := code_all hT n
    have hcode : ∀ (B : Nat) (nt : Nat) (cd : Code) (c : ACode) (e e1 : Env) (H H1 : Heap) (x : AX) (K : KM) (a : Act) (w : World) (Q : Exit → Act → World → Prop), compCode P nt cd = some c → run F (n + 1) c e H = some (x, e1, H1) → ER K e a.tmps → Sim B K H w → nt ≤ a.tmps.size →
        (∀ K' a' w', After B K a w e1 H H1 K' a' w' → Q x.exit? a' w') → cd.wp P Q a w := by
      intro B nt cd c e e1 H H1 x K a w Q hc hr he hs hnt hQ
      rw [run_succ] at hr
      cases cd with
      | skip =>
        cases hc; cases hr
        exact wp_skip (hQ K a w (After.refl he hs))
      | ret =>
        cases hc; cases hr
        exact wp_ret (hQ K a w (After.refl he hs))
      | exit id =>
        cases hc; cases hr
        exact wp_exit (hQ K a w (After.refl he hs))
      | region id ops draw =>
        cases draw with
        | false =>
          simp only [compCode] at hc
          split at hc
          · rename_i as has
            cases hc
            simp only at hr
            split at hr
            · rename_i e2 h2 hr1
              cases hr
              exact wp_region_list (seq_ok ihc (callN_mono n) ops.toList as has hr1 he hs hnt hQ)
            · cases hr
          · cases hc
        | true =>
          simp only [compCode] at hc
          have hc' := hc
          unfold compD at hc'
          split at hc'
          · cases hc'
          · split at hc'
            · cases hc'
              simp only at hr
              split at hr
              · rename_i e2 h2 hr1
                rename_i as' _ _ _
                cases hb : (openPairs (befores ops.toList) as').all (chkPair as' (trace (callN F n) as' e H)) with
                | true =>
                  rw [hb] at hr
                  cases hr
                  exact draw_ok ihc (callN_mono n) hT.follows hc hr1 hb he hs hnt hQ
                | false => rw [hb] at hr; cases hr
              · cases hr
            · cases hc'
      | seq y z =>
        simp only [compCode] at hc
        split at hc
        · rename_i cy cz hy hz
          cases hc
          simp only at hr
          refine wp_seq ?_
          split at hr
          · rename_i e2 h2 hr1
            exact ihr B nt y cy e e2 H h2 .normal K a w _ hy hr1 he hs hnt (fun K' a' w' hA => ihr B nt z cz e2 e1 h2 H1 x K' a' w' Q hz hr hA.er hA.sim (by rw [hA.size]; exact hnt) (fun K'' a'' w'' hA' => hQ K'' a'' w'' (hA.trans hA' (run_mono_n n _ _ _ _ _ _ hr1))))
          · rename_i hne
            refine ihr B nt y cy e e1 H H1 x K a w _ hy hr he hs hnt (fun K' a' w' hA => ?_)
            cases x with
            | normal => exact absurd hr (hne _ _)
            | exit id => exact hQ K' a' w' hA
            | ret => exact hQ K' a' w' hA
        · cases hc
      | cond c' y z =>
        simp only [compCode] at hc
        split at hc
        · rename_i co cy cz hco hy hz
          cases hc
          simp only at hr
          split at hr
          · rename_i b hb
            have hv := opd_ok he hco hb
            simp only [VR] at hv
            refine wp_cond hv ?_
            cases b with
            | true => exact ihr B nt y cy e e1 H H1 x K a w Q hy hr he hs hnt hQ
            | false => exact ihr B nt z cz e e1 H H1 x K a w Q hz hr he hs hnt hQ
          · cases hr
        · cases hc
      | block id y =>
        simp only [compCode] at hc
        split at hc
        · rename_i cy hy
          cases hc
          simp only at hr
          refine wp_block ?_
          split at hr
          · rename_i id' e2 h2 hr1
            refine ihr B nt y cy e e2 H h2 (.exit id') K a w _ hy hr1 he hs hnt (fun K' a' w' hA => ?_)
            simp only [AX.exit?, Exit.inBlock]
            split at hr
            · rename_i hid
              cases hr
              rw [if_pos hid]
              exact hQ K' a' w' hA
            · rename_i hid
              cases hr
              rw [if_neg hid]
              exact hQ K' a' w' hA
          · rename_i hne
            refine ihr B nt y cy e e1 H H1 x K a w _ hy hr he hs hnt (fun K' a' w' hA => ?_)
            cases x with
            | normal => exact hQ K' a' w' hA
            | exit id' => exact absurd hr (hne _ _ _)
            | ret => exact hQ K' a' w' hA
        · cases hc
      | loop y =>
        simp only [compCode] at hc
        split at hc
        · rename_i cy hy
          cases hc
          have hr0 : run F (n + 1) (.loop cy) e H = some (x, e1, H1) := by rw [run_succ]; exact hr
          refine wp_loop_ghost (fun m a' w' => m ≤ n + 1 ∧ ∃ e' H' K', H.n ≤ H'.n ∧ run F m (.loop cy) e' H' = some (x, e1, H1) ∧ After B K a w e' H H' K' a' w') (n + 1) ⟨Nat.le_refl _, e, H, K, Nat.le_refl _, hr0, After.refl he hs⟩ ?_
          rintro m a' w' ⟨hm, e', H', K', hle, hr', hA⟩
          cases m with
          | zero => cases hr'
          | succ m =>
            rw [run_succ] at hr'
            simp only at hr'
            cases h1 : run F m cy e' H' with
            | none => rw [h1] at hr'; cases hr'
            | some q =>
              rw [h1] at hr'
              obtain ⟨x2, e2, h2⟩ := q
              have h1' : run F n cy e' H' = some (x2, e2, h2) := run_le (by omega) h1
              have hHn : H.n ≤ H'.n := hle
              refine ihr B nt y cy e' e2 H' h2 x2 K' a' w' _ hy h1' hA.er hA.sim (by rw [hA.size]; exact hnt) (fun K2 a2 w2 hA2 => ?_)
              have hA3 := hA.trans hA2 hHn
              cases x2 with
              | normal => exact ⟨m, by omega, by omega, e2, h2, K2, Nat.le_trans hHn (run_mono_n _ _ _ _ _ _ _ h1), hr', hA3⟩
              | exit id => cases hr'; exact hQ K2 a2 w2 hA3
              | ret => cases hr'; exact hQ K2 a2 w2 hA3
        · cases hc
      | _ => cases hc
    refine ⟨?_, hcode⟩
    intro f xs h v h' hcall B K w ys hxs hs
    obtain ⟨fn, x, e', hF, hl, hx, hr, hres⟩ := callN_of hcall
    obtain ⟨⟨func, c, h1, h2, h3⟩, henter⟩ := hT.fns f fn hF
    refine ⟨henter _ _, callN_mono _ _ _ _ _ _ hcall, ?_⟩
    unfold compFn at h3
    rw [h2] at h3
    simp only at h3
    split at h3
    · rename_i ac rs hac hrs
      cases h3
      refine calls_of_wp h1 h2 ?_
      have hys : ys.toArray.size = xs.length := by rw [hxs.length]; simp
      refine hcode B func.ntmps c ac (envOf 0 xs .nil) e' h h' x K _ w _ hac hr (fun t u ht => ?_) hs (by simp; omega) (fun K' a' w' hA => ?_)
      · rw [envOf_get] at ht
        split at ht
        · rename_i hb
          rw [Nat.sub_zero] at ht
          obtain ⟨y, g1, g2⟩ := hxs.get t u ht
          refine ⟨y, ?_, g2⟩
          simp only
          rw [Array.getElem?_append_left (by omega)]
          simpa using g1
        · rw [T.get_nil] at ht; cases ht
      · have hres' : ∃ v', (results func a'.tmps).run P w' = .ok v' w' ∧ VR K' v v' := by
          cases hall : resAll e' h' rs with
          | none => unfold resOf at hres; rw [hall] at hres; cases hres
          | some vs =>
            obtain ⟨zs, g1, g2⟩ := res_ok (P := P) hA.er hA.sim hrs hall
            have hrun : (results func a'.tmps).run P w' = .ok (if h : zs.toArray.size = 1 then zs.toArray[0] else .tuple zs.toArray) w' := by
              unfold results
              rw [Array.mapM_eq_mapM_toList]
              simp only [Sem.run_bind, Sem.run_map]
              exact congrArg (fun r => Result.andThen (Result.andThen r (fun (a : List Value) w' => Result.ok a.toArray w')) (fun (a : Array Value) w' => Sem.run P (pure (if h : a.size = 1 then a[0] else Value.tuple a)) w')) g1
            refine ⟨_, hrun, ?_⟩
            unfold resOf at hres
            rw [hall] at hres
            match vs, hres, g2 with
            | [], hres, g2 =>
              cases hres
              simp only [VRs] at g2
              subst g2
              simp only [List.size_toArray, List.length_nil, Nat.zero_ne_one, dite_false, VR]
              exact ⟨_, rfl, VRs.nil⟩
            | [v0], hres, g2 =>
              cases hres
              obtain ⟨z, rfl, hz⟩ := g2.one
              exact hz
            | v0 :: v1 :: vs', hres, g2 =>
              cases hres
              have hl := g2.length
              rw [dif_neg (by simp at hl ⊢; omega)]
              simp only [VR]
              exact ⟨_, rfl, g2⟩
        obtain ⟨v', g1, g2⟩ := hres'
        rcases hx with rfl | rfl
        · exact ⟨hA.defers, v', g1, v', K', rfl, hA.below, hA.le, hA.fresh, hA.sim, g2⟩
        · exact ⟨hA.defers, v', g1, v', K', rfl, hA.below, hA.le, hA.fresh, hA.sim, g2⟩
    · cases h3
theorem fnOk_of {P : Program} {f : Nat} {func : Func} {fn : AFn} (h1 : P.funcs[f]? = some func) (h2 : compFn P func = some fn) (h3 : (func.name == "runtime.NumGoroutine") = false) : FnOk P f fn := by
  obtain ⟨c, hc⟩ : ∃ c, func.body = some c := by
    unfold compFn at h2
    cases hb : func.body with
    | none => rw [hb] at h2; cases h2
    | some c => exact ⟨c, rfl⟩
  refine ⟨⟨func, c, h1, hc, h2⟩, fun ys w => ?_⟩
  unfold callFunc
  have h4 : ¬ (func.body.isNone = true) := by rw [hc]; simp
  simp only [Sem.run_bind, run_program, Result.andThen_ok, h1, h3, Bool.false_eq_true, if_false, if_neg h4]
  rfl
end Go.Am
