/- Code and functions: what the abstract machine's run comes to, the model's run comes to. Own work. -/
import Derived.Test.YtgbkpiaonlabgaaAmX
namespace Go.Am
set_option linter.unusedVariables false
set_option linter.unusedSimpArgs false
open Go Go.RowKit
def AX.exit? : AX → Exit
  | .normal => .normal
  | .exit id => .exit id
  | .ret => .ret
/-- A function of the table is the program's. -/
structure FnOk (P : Program) (f : Nat) (fn : AFn) : Prop where
  ok : ∃ func c, P.funcs[f]? = some func ∧ func.body = some c ∧ compFn P func = some fn
  enters : ∀ (ys : Array Value) (w : World), (callFunc f ys).run P w = .ok (.enter f ys) w
structure TabOk (P : Program) (F : Nat → Option AFn) : Prop where
  follows : P.follows .mixedOrders = true
  fns : ∀ f fn, F f = some fn → FnOk P f fn
section
variable {P : Program} {B : Nat} {F : Nat → Option AFn}
theorem callN_of {n f : Nat} {xs : List AV} {h h' : Heap} {v : AV} (hc : callN F n f xs h = some (v, h')) : ∃ fn x e', F f = some fn ∧ xs.length = fn.np ∧ (x = .normal ∨ x = .ret) ∧ run F n fn.code (envOf 0 xs .nil) h = some (x, e', h') ∧ resOf e' h' fn.res = some v := by
  unfold callN at hc
  split at hc
  · cases hc
  · rename_i fn hF
    split at hc
    · rename_i hl
      split at hc
      · rename_i e' h2 hr
        split at hc
        · rename_i u hu; cases hc; exact ⟨fn, _, e', hF, hl, .inl rfl, hr, hu⟩
        · cases hc
      · rename_i e' h2 hr
        split at hc
        · rename_i u hu; cases hc; exact ⟨fn, _, e', hF, hl, .inr rfl, hr, hu⟩
        · cases hc
      · cases hc
    · cases hc
theorem run_cf (n : Nat) : (fun f xs h => match F f with
      | none => none
      | some fn => if xs.length = fn.np then match run F n fn.code (envOf 0 xs .nil) h with
        | some (.normal, e', h') => match resOf e' h' fn.res with
          | some v => some (v, h')
          | none => none
        | some (.ret, e', h') => match resOf e' h' fn.res with
          | some v => some (v, h')
          | none => none
        | _ => none else none : CallF) = callN F n := rfl
/-- The run's equations. -/
theorem run_succ (n : Nat) (c : ACode) (e : Env) (h : Heap) : run F (n + 1) c e h = match c with
    | .skip => some (.normal, e, h)
    | .seq a b => match run F n a e h with
      | some (.normal, e', h') => run F n b e' h'
      | r => r
    | .cond c t f => match c.ev e with
      | some (.bool b) => bif b then run F n t e h else run F n f e h
      | _ => none
    | .block id b => match run F n b e h with
      | some (.exit id', e', h') => if id' = id then some (.normal, e', h') else some (.exit id', e', h')
      | r => r
    | .loop b => match run F n b e h with
      | some (.normal, e', h') => run F n (.loop b) e' h'
      | r => r
    | .exit id => some (.exit id, e, h)
    | .ret => some (.ret, e, h)
    | .region ops => match runOps (callN F n) ops e h with
      | some (e', h') => some (.normal, e', h')
      | none => none
    | .dregion ops ps => match runOps (callN F n) ops e h with
      | some (e', h') => bif ps.all (chkPair ops (trace (callN F n) ops e h)) then some (.normal, e', h') else none
      | none => none := by cases c <;> rfl
theorem run_mono_n : ∀ (n : Nat) (c : ACode) (e : Env) (h : Heap) (x : AX) (e' : Env) (h' : Heap), run F n c e h = some (x, e', h') → h.n ≤ h'.n
  | 0, c, e, h, x, e', h', hr => by cases hr
  | n + 1, c, e, h, x, e', h', hr => by
    have hm : CfMono (callN F n) := by
      intro f xs h v h' hc
      obtain ⟨fn, x, e', _, _, _, hr, _⟩ := callN_of hc
      exact run_mono_n n _ _ _ _ _ _ hr
    rw [run_succ] at hr
    cases c with
    | skip => cases hr; exact Nat.le_refl _
    | seq a b =>
      simp only at hr
      split at hr
      · rename_i e1 h1 hr1
        exact Nat.le_trans (run_mono_n n _ _ _ _ _ _ hr1) (run_mono_n n _ _ _ _ _ _ hr)
      · exact run_mono_n n _ _ _ _ _ _ hr
    | cond c t f =>
      simp only at hr
      split at hr
      · rename_i b _
        cases b
        · exact run_mono_n n _ _ _ _ _ _ hr
        · exact run_mono_n n _ _ _ _ _ _ hr
      · cases hr
    | block id b =>
      simp only at hr
      split at hr
      · rename_i id' e1 h1 hr1
        split at hr <;> cases hr <;> exact run_mono_n n _ _ _ _ _ _ hr1
      · exact run_mono_n n _ _ _ _ _ _ hr
    | loop b =>
      simp only at hr
      split at hr
      · rename_i e1 h1 hr1
        exact Nat.le_trans (run_mono_n n _ _ _ _ _ _ hr1) (run_mono_n n _ _ _ _ _ _ hr)
      · exact run_mono_n n _ _ _ _ _ _ hr
    | exit id => cases hr; exact Nat.le_refl _
    | ret => cases hr; exact Nat.le_refl _
    | region ops =>
      simp only at hr
      split at hr
      · rename_i e1 h1 hr1; cases hr; exact runOps_mono hm _ hr1
      · cases hr
    | dregion ops ps =>
      simp only at hr
      split at hr
      · rename_i e1 h1 hr1
        cases hb : ps.all (chkPair ops (trace (callN F n) ops e h)) with
        | false => rw [hb] at hr; cases hr
        | true => rw [hb] at hr; cases hr; exact runOps_mono hm _ hr1
      · cases hr
theorem callN_mono (n : Nat) : CfMono (callN F n) := by
  intro f xs h v h' hc
  obtain ⟨fn, x, e', _, _, _, hr, _⟩ := callN_of hc
  exact run_mono_n n _ _ _ _ _ _ hr
theorem envOf_get : ∀ (xs : List AV) (i : Nat) (e : Env) (t : Nat), (envOf i xs e).get t = if i ≤ t ∧ t < i + xs.length then xs[t - i]? else e.get t
  | [], i, e, t => by simp [envOf]; intro h1 h2; omega
  | x :: xs, i, e, t => by
    rw [envOf, envOf_get xs (i + 1) _ t, T.get_set]
    by_cases h : t = i
    · subst h; rw [if_neg (by omega), if_pos rfl, if_pos (by simp), Nat.sub_self]; rfl
    · by_cases h2 : i + 1 ≤ t ∧ t < i + 1 + xs.length
      · rw [if_pos h2, if_pos (by simp; omega), show t - i = (t - (i + 1)) + 1 by omega]; simp
      · rw [if_neg h2, if_neg h, if_neg (by simp; omega)]
theorem res_ok {K : KM} {H : Heap} {w : World} {e : Env} {tmps : Array Value} (he : ER K e tmps) (hs : Sim B K H w) : ∀ {rs : List ResultVar} {as : List ARes} {vs : List AV}, compRes P rs = some as → resAll e H as = some vs →
    ∃ xs : List Value, (rs.mapM fun
      | .tmp t => pure (tmps.getD t Go.undef)
      | .cell a t => do loadVar t (← asAddr (tmps.getD a Go.undef)) : Sem (List Value)).run P w = .ok xs w ∧ VRs K vs xs
  | [], as, vs, hc, hv => by cases hc; cases hv; exact ⟨[], rfl, VRs.nil⟩
  | r :: rs, as, vs, hc, hv => by
    simp only [compRes] at hc
    split at hc
    · cases hc
    · rename_i as' has
      have rest : ∀ (a : ARes) (v : AV), as = a :: as' → resOne e H a = some v → (∃ x, (match r with
          | .tmp t => pure (tmps.getD t Go.undef)
          | .cell a t => do loadVar t (← asAddr (tmps.getD a Go.undef)) : Sem Value).run P w = .ok x w ∧ VR K v x) →
          ∃ xs : List Value, ((r :: rs).mapM fun
            | .tmp t => pure (tmps.getD t Go.undef)
            | .cell a t => do loadVar t (← asAddr (tmps.getD a Go.undef)) : Sem (List Value)).run P w = .ok xs w ∧ VRs K vs xs := by
        intro a v ha hone ⟨x, hx1, hx2⟩
        subst ha
        simp only [resAll, hone] at hv
        split at hv
        · cases hv
        · rename_i vs' hvs
          cases hv
          obtain ⟨xs, g1, g2⟩ := res_ok he hs has hvs
          refine ⟨x :: xs, ?_, VRs.cons hx2 g2⟩
          rw [List.mapM_cons, Sem.run_bind, hx1, Result.andThen_ok, Sem.run_bind, g1, Result.andThen_ok]
          rfl
      have one : ∀ a, as = a :: as' → ∃ v, resOne e H a = some v := by
        intro a ha
        subst ha
        simp only [resAll] at hv
        split at hv
        · cases hv
        · rename_i v hv1; exact ⟨v, hv1⟩
      have getd : ∀ t v, e.get t = some v → VR K v (tmps.getD t Go.undef) := by
        intro t v ht
        obtain ⟨x, h1, h2⟩ := he t v ht
        rw [Array.getD_eq_getD_getElem?, h1]; exact h2
      split at hc
      · rename_i t
        cases hc
        obtain ⟨v, hv1⟩ := one _ rfl
        exact rest _ v rfl hv1 ⟨_, rfl, getd t v hv1⟩
      · rename_i a t
        have cellc : ∀ (q : ROp) (ar : ARes) (v : AV), as = ar :: as' → resOne e H ar = some v → (resOne e H ar = match e.get a with
            | some x => q.ev [x] H
            | none => none) → (∀ u x', VR K u x' → q.ev [u] H = some v → Yields P (Instr.loadAt t x') w K v) → ∃ xs : List Value, ((ResultVar.cell a t :: rs).mapM fun
            | .tmp t => pure (tmps.getD t Go.undef)
            | .cell a t => do loadVar t (← asAddr (tmps.getD a Go.undef)) : Sem (List Value)).run P w = .ok xs w ∧ VRs K vs xs := by
          intro q ar v ha hv1 heq hy
          rw [heq] at hv1
          cases hg : e.get a with
          | none => rw [hg] at hv1; cases hv1
          | some u =>
            rw [hg] at hv1
            have hu := getd a u hg
            obtain ⟨x, h1, h2⟩ := hy u _ hu hv1
            refine rest ar v ha (by rw [heq, hg]; exact hv1) ⟨x, ?_, h2⟩
            simp only
            unfold Instr.loadAt at h1
            generalize tmps.getD a Go.undef = z at h1
            simp only [Sem.run_bind] at h1 ⊢
            cases z <;> first | (simp only [Instr.sureAddr, run_stuck, Result.andThen_halt] at h1; cases h1; done) | skip
            rename_i ad
            cases ad with
            | none => simp only [Instr.sureAddr, run_stuck, Result.andThen_halt] at h1; cases h1
            | some ad => simpa only [Instr.sureAddr, asAddr] using h1
        split at hc
        · rename_i n ha hn
          cases hc
          obtain ⟨v, hv1⟩ := one _ rfl
          refine cellc (.loadN n) _ v rfl hv1 rfl fun u x' hu hq => ?_
          cases u <;> first | (simp only [ROp.ev] at hq; cases hq; done) | skip
          simp only [ROp.ev] at hq
          split at hq
          · rename_i cs hcs; cases hq; exact loadN_ok hs hu hcs ha hn
          · cases hq
        · rename_i n ha hn
          cases hc
          obtain ⟨v, hv1⟩ := one _ rfl
          refine cellc .load1 _ v rfl hv1 rfl fun u x' hu hq => ?_
          cases u <;> first | (simp only [ROp.ev] at hq; cases hq; done) | skip
          simp only [ROp.ev] at hq
          split at hq
          · rename_i x hcs; cases hq; exact load1_ok hs hu hcs ha
          · cases hq
        · cases hc
/-- One that answers more. -/
def CfLe (c c' : CallF) : Prop := ∀ (f : Nat) (xs : List AV) (h : Heap) (r : AV × Heap), c f xs h = some r → c' f xs h = some r
theorem ak_le {c c' : CallF} (hc : CfLe c c') {k : AK} {xs : List AV} {h : Heap} {r : AV × Heap} (hr : k.ev c xs h = some r) : k.ev c' xs h = some r := by
  cases k with
  | p q => exact hr
  | r q => exact hr
  | n q => exact hr
  | e q => exact hr
  | call f =>
    simp only [AK.ev] at hr ⊢
    split at hr
    · exact hc _ _ _ _ hr
    · cases hr
  | callV =>
    simp only [AK.ev] at hr ⊢
    split at hr
    · exact hc _ _ _ _ hr
    · cases hr
theorem step_le {c c' : CallF} (hc : CfLe c c') {ao : AOper} {e : Env} {h : Heap} {r : Env × Heap} (hr : stepOp c ao e h = some r) : stepOp c' ao e h = some r := by
  unfold stepOp at hr ⊢
  split at hr
  · cases hr
  · exact hr
  · split at hr
    · cases hr
    · split at hr
      · cases hr
      · rename_i v h' hv
        rw [ak_le hc hv]; exact hr
theorem runOps_le {c c' : CallF} (hc : CfLe c c') : ∀ (as : List AOper) {e : Env} {h : Heap} {r : Env × Heap}, runOps c as e h = some r → runOps c' as e h = some r ∧ trace c' as e h = trace c as e h
  | [], _, _, _, hr => ⟨hr, rfl⟩
  | ao :: as, e, h, r, hr => by
    simp only [runOps] at hr ⊢
    split at hr
    · cases hr
    · rename_i e' h' hs
      have hs' := step_le hc hs
      obtain ⟨g1, g2⟩ := runOps_le hc as hr
      simp only [trace, hs, hs', g2, and_true]
      exact g1
theorem callN_of_run {n m : Nat} (h : ∀ (c : ACode) (e : Env) (h : Heap) (r : AX × Env × Heap), run F n c e h = some r → run F m c e h = some r) : CfLe (callN F n) (callN F m) := by
  intro f xs hp r hc
  unfold callN at hc ⊢
  split at hc
  · cases hc
  · rename_i fn hF
    split at hc
    · rename_i hl
      rw [if_pos hl]
      cases hr : run F n fn.code (envOf 0 xs .nil) hp with
      | none => rw [hr] at hc; cases hc
      | some q => rw [hr] at hc; rw [h _ _ _ _ hr]; exact hc
    · cases hc
theorem run_fuel : ∀ (n : Nat) (c : ACode) (e : Env) (h : Heap) (r : AX × Env × Heap), run F n c e h = some r → run F (n + 1) c e h = some r
  | 0, c, e, h, r, hr => by cases hr
  | n + 1, c, e, h, r, hr => by
    have ih := run_fuel n
    have hcf := callN_of_run ih
    rw [run_succ] at hr
    rw [run_succ]
    cases c with
    | skip => exact hr
    | exit id => exact hr
    | ret => exact hr
    | seq a b =>
      simp only at hr ⊢
      cases h1 : run F n a e h with
      | none => rw [h1] at hr; cases hr
      | some q =>
        rw [h1] at hr
        rw [ih _ _ _ _ h1]
        obtain ⟨x, e', h'⟩ := q
        cases x with
        | normal => exact ih _ _ _ _ hr
        | exit id => exact hr
        | ret => exact hr
    | cond c t f =>
      simp only at hr ⊢
      split at hr
      · rename_i b hb
        cases b
        · exact ih _ _ _ _ hr
        · exact ih _ _ _ _ hr
      · cases hr
    | block id b =>
      simp only at hr ⊢
      cases h1 : run F n b e h with
      | none => rw [h1] at hr; cases hr
      | some q => rw [h1] at hr; rw [ih _ _ _ _ h1]; exact hr
    | loop b =>
      simp only at hr ⊢
      cases h1 : run F n b e h with
      | none => rw [h1] at hr; cases hr
      | some q =>
        rw [h1] at hr
        rw [ih _ _ _ _ h1]
        obtain ⟨x, e', h'⟩ := q
        cases x with
        | normal => exact ih _ _ _ _ hr
        | exit id => exact hr
        | ret => exact hr
    | region ops =>
      simp only at hr ⊢
      cases h1 : runOps (callN F n) ops e h with
      | none => rw [h1] at hr; cases hr
      | some q => rw [h1] at hr; rw [(runOps_le hcf ops h1).1]; exact hr
    | dregion ops ps =>
      simp only at hr ⊢
      cases h1 : runOps (callN F n) ops e h with
      | none => rw [h1] at hr; cases hr
      | some q =>
        rw [h1] at hr
        obtain ⟨g1, g2⟩ := runOps_le hcf ops h1
        rw [g1, g2]; exact hr
theorem run_le {n m : Nat} (hnm : n ≤ m) {c : ACode} {e : Env} {h : Heap} {r : AX × Env × Heap} (hr : run F n c e h = some r) : run F m c e h = some r := by
  obtain ⟨k, rfl⟩ := Nat.exists_eq_add_of_le hnm
  induction k with
  | zero => exact hr
  | succ k ih => exact run_fuel _ _ _ _ _ (ih (by omega))
theorem callN_le {n m : Nat} (hnm : n ≤ m) : CfLe (callN F n) (callN F m) := callN_of_run fun _ _ _ _ h => run_le hnm h
end
end Go.Am
