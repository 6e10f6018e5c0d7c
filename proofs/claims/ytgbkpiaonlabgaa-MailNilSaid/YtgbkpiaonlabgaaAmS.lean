/- All operations that write, or call, as theorems. Own work. -/
import Derived.Test.YtgbkpiaonlabgaaAmR
namespace Go.Am
set_option linter.unusedVariables false
set_option linter.unusedSimpArgs false
open Go Go.RowKit
section
variable {P : Program} {K : KM} {w : World} {B : Nat} {H : Heap}
theorem Turns.liftV {s : Sem Value} {v : AV} {H' : Heap} (h : Turns P B K H s w H' (fun K' r => VR K' v r)) {a : Act} {o : Oper} (ho : execOp a.eval o = do pure (Next.value (← s))) :
    ∃ v' w' K', OpRuns P a o w v' w' ∧ Below B w w' ∧ KLe K K' ∧ (∀ x, x < H.n → K x = none → K' x = none) ∧ Sim B K' H' w' ∧ VR K' v v' := by
  obtain ⟨v', w', K', h1, h2⟩ := h
  exact ⟨v', w', K', .inl (by rw [ho]; exact lift_v h1), h2⟩
theorem Turns.liftU {s : Sem Unit} {v : AV} {H' : Heap} (h : Turns P B K H s w H' (fun _ _ => v = .undef)) {a : Act} {o : Oper} (ho : execOp a.eval o = do s; pure Next.skip) :
    ∃ v' w' K', OpRuns P a o w v' w' ∧ Below B w w' ∧ KLe K K' ∧ (∀ x, x < H.n → K x = none → K' x = none) ∧ Sim B K' H' w' ∧ VR K' v v' := by
  obtain ⟨r, w', K', h1, h2, h3, h4, h5, rfl⟩ := h
  refine ⟨Go.undef, w', K', .inr ⟨?_, rfl⟩, h2, h3, h4, h5, VR.undef⟩
  rw [ho]
  simp only [Sem.run_bind, h1, Result.andThen_ok]
  rfl
theorem eop_ok (hs : Sim B K H w) {a : Act} {e : Env} (he : ER K e a.tmps) {o : Oper} {q : EOp} {xs : List Opd} {vs : List AV} {v : AV} {H' : Heap} (h : compOp P o.op = some (.e q, xs)) (hev : evs e xs = some vs) (hv : q.ev vs H = some (v, H')) :
    ∃ v' w' K', OpRuns P a o w v' w' ∧ Below B w w' ∧ KLe K K' ∧ (∀ x, x < H.n → K x = none → K' x = none) ∧ Sim B K' H' w' ∧ VR K' v v' := by
  obtain ⟨dst, op, type, pos, after, guard⟩ := o
  simp only at h
  have blt : ∀ args (argTypes : Array TypeId), withOpds (compBuiltin P .append argTypes.toList) (Array.toList args) = some (.e q, xs) →
      ∃ v' w' K', OpRuns P a ⟨dst, .call ⟨.builtin .append, args, argTypes⟩, type, pos, after, guard⟩ w v' w' ∧ Below B w w' ∧ KLe K K' ∧ (∀ x, x < H.n → K x = none → K' x = none) ∧ Sim B K' H' w' ∧ VR K' v v' := by
    intro args argTypes hw
    obtain ⟨h1, h2⟩ := withOpds_some hw
    have hvs := opds_ok he h2 hev
    have hq : ∃ n m, q = .append n m := by
      revert h1
      rcases argTypes.toList with _ | ⟨t, _ | ⟨t', _ | ⟨_, _⟩⟩⟩ <;> simp only [compBuiltin] <;> intro h1
      · cases h1
      · cases h1
      · (repeat' split at h1) <;> first | (cases h1; done) | (cases h1; exact ⟨_, _, rfl⟩)
      · cases h1
    obtain ⟨n, m, rfl⟩ := hq
    obtain ⟨t, u, e', z, ht, T⟩ := append_types h1
    have h2v : ∃ x y, vs = [x, y] := by
      rcases vs with _ | ⟨x, _ | ⟨y, _ | ⟨_, _⟩⟩⟩ <;> first | (simp only [EOp.ev] at hv; cases hv; done) | exact ⟨_, _, rfl⟩
    obtain ⟨x, y, rfl⟩ := h2v
    have hargs : ∃ ox oy, args.toList = [ox, oy] := by
      have := hvs.length
      simp only [List.length_map] at this
      generalize args.toList = L at this
      match L, this with
      | [ox, oy], _ => exact ⟨ox, oy, rfl⟩
    obtain ⟨ox, oy, hargs⟩ := hargs
    rw [hargs] at hvs
    obtain ⟨x1, y1, e2, hx, hy⟩ := hvs.two
    simp only [List.map_cons, List.map_nil, List.cons.injEq, and_true] at e2
    obtain ⟨rfl, rfl⟩ := e2
    refine (append_ok (P := P) hs T hx hy hv type).liftV ?_
    have hat : argTypes = #[t, u] := by apply Array.ext'; simpa using ht
    simp only [execOp, resolve, args_two hargs, hat]
    rfl
  cases op with
  | store t x y =>
    obtain ⟨h1, h2⟩ := withOpds_some h
    obtain ⟨u, u', rfl, hu, hu'⟩ := len2 (opds_ok he h2 hev)
    split at h1
    · rename_i n hn
      cases h1
      have hp : ∃ o' v' off, u = .ptr o' v' off := by
        cases u <;> first | (simp only [EOp.ev] at hv; cases hv; done) | exact ⟨_, _, _, rfl⟩
      obtain ⟨o', v', off, rfl⟩ := hp
      exact (store_ok (P := P) hs hu hu' hv hn).liftU rfl
    · cases h1
  | mapUpdate t m k x =>
    obtain ⟨h1, h2⟩ := withOpds_some h
    obtain ⟨u, u', u'', rfl, hu, hu', hu''⟩ := len3 (opds_ok he h2 hev)
    split at h1
    · rename_i kt et ht
      split at h1
      · rename_i k' hkt
        cases h1
        exact (mapSet_ok (P := P) hs hv hu hu' hu'' ht hkt rfl).liftU rfl
      · rename_i hkt
        cases h1
        exact (mapSet_ok (P := P) hs hv hu hu' hu'' ht hkt rfl).liftU rfl
      · cases h1
    · cases h1
  | insert t m k x =>
    obtain ⟨h1, h2⟩ := withOpds_some h
    obtain ⟨u, u', u'', rfl, hu, hu', hu''⟩ := len3 (opds_ok he h2 hev)
    split at h1
    · rename_i kt et ht
      split at h1
      · rename_i k' hkt
        cases h1
        exact (mapSet_ok (P := P) hs hv hu hu' hu'' ht hkt rfl).liftU rfl
      · rename_i hkt
        cases h1
        exact (mapSet_ok (P := P) hs hv hu hu' hu'' ht hkt rfl).liftU rfl
      · cases h1
    · cases h1
  | next it s =>
    cases s with
    | false => cases h
    | true =>
      obtain ⟨h1, h2⟩ := withOpds_some h
      cases h1
      obtain ⟨u, rfl, hu⟩ := len1 (opds_ok he h2 hev)
      exact (nextStr_ok (P := P) hs hu hv type).liftV rfl
  | call c =>
    obtain ⟨callee, args, argTypes⟩ := c
    simp only [compOp] at h
    split at h
    · split at h
      · obtain ⟨h1, h2⟩ := withOpds_some h; cases h1
      · exact blt args argTypes h
    · obtain ⟨h1, h2⟩ := withOpds_some h
      rename_i b hne
      exfalso
      have hq : ∃ n, q = .copy n := by
        revert h1
        cases b <;> first | exact absurd rfl (fun h => hne h) | (rcases argTypes.toList with _ | ⟨t, _ | ⟨t', _ | ⟨_, _⟩⟩⟩ <;> simp only [compBuiltin] <;> intro h1 <;> ((repeat' split at h1) <;> first | (cases h1; done) | (cases h1; exact ⟨_, rfl⟩)))
      obtain ⟨n, rfl⟩ := hq
      simp only [EOp.ev] at hv
      cases hv
    · obtain ⟨h1, h2⟩ := withOpds_some h; cases h1
    · obtain ⟨h1, h2⟩ := withOpds_some h; cases h1
    · cases h
  | binOp op t x y yt =>
    obtain ⟨h1, h2⟩ := withOpds_some h
    split at h1
    · unfold plainEq at h1; (repeat' (first | split at h1 | (cases hh : P.eqGuardType P.depth t <;> rw [hh] at h1 <;> simp only [cond_true, cond_false] at h1))) <;> cases h1
    · unfold plainEq at h1; (repeat' (first | split at h1 | (cases hh : P.eqGuardType P.depth t <;> rw [hh] at h1 <;> simp only [cond_true, cond_false] at h1))) <;> cases h1
    · cases h1
  | makeMap t r =>
    cases r with
    | none => simp only [compOp] at h; obtain ⟨h1, h2⟩ := withOpds_some h; cases h1
    | some x => cases h
  | slice t x lo hi mx =>
    cases mx with
    | some m => cases h
    | none =>
      obtain ⟨h1, h2⟩ := withOpds_some h
      (repeat' split at h1) <;> cases h1
  | move x => obtain ⟨h1, h2⟩ := withOpds_some h; cases h1
  | assign x => obtain ⟨h1, h2⟩ := withOpds_some h; cases h1
  | pick c x y => obtain ⟨h1, h2⟩ := withOpds_some h; cases h1
  | box t x => obtain ⟨h1, h2⟩ := withOpds_some h; cases h1
  | nilCheck x => obtain ⟨h1, h2⟩ := withOpds_some h; cases h1
  | unOp op t x => obtain ⟨h1, h2⟩ := withOpds_some h; cases h1
  | extract t i => obtain ⟨h1, h2⟩ := withOpds_some h; cases h1
  | alloc t | load t x | lookup t x i ok | build t ps | buildSlice t len ps | makeInterface t x | makeFunc fn first caps | makeSlice t l c | fieldAddr t x f | field t x f | indexAddr t x i | index t x i | range t x | convert s d x =>
    obtain ⟨h1, h2⟩ := withOpds_some h
    (repeat' split at h1) <;> cases h1
  | _ => cases h
/-- A call: which function, with what. -/
theorem call_ok {a : Act} {e : Env} (he : ER K e a.tmps) {o : Oper} {k : AK} {xs : List Opd} {vs ys : List AV} {f : Nat} (h : compOp P o.op = some (k, xs)) (hev : evs e xs = some vs) (ht : target k vs = some (f, ys)) :
    ∃ ys', VRs K ys ys' ∧ (execOp a.eval o).run P w = (callFunc f ys'.toArray).run P w := by
  obtain ⟨dst, op, type, pos, after, guard⟩ := o
  simp only at h
  have hk : k = .call f ∧ ys = vs ∨ k = .callV ∧ ∃ caps us, vs = .func f caps :: us ∧ ys = us ++ caps := by
    unfold target at ht
    split at ht
    · cases ht; exact .inl ⟨rfl, rfl⟩
    · cases ht; exact .inr ⟨rfl, _, _, rfl, rfl⟩
    · cases ht
  have nobin : ∀ b ts xs', withOpds (compBuiltin P b ts) xs' ≠ some (.call f, xs) ∧ withOpds (compBuiltin P b ts) xs' ≠ some (.callV, xs) := by
    intro b ts xs'
    constructor
    all_goals
      intro hw
      obtain ⟨h1, h2⟩ := withOpds_some hw
      revert h1
      cases b <;> rcases ts with _ | ⟨t, _ | ⟨t', _ | ⟨_, _⟩⟩⟩ <;> simp only [compBuiltin] <;> intro h1 <;> ((repeat' split at h1) <;> cases h1)
  cases op with
  | call c =>
    obtain ⟨callee, args, argTypes⟩ := c
    simp only [compOp] at h
    have hargs : args.map a.eval = (args.toList.map a.eval).toArray := by apply Array.ext'; simp
    split at h
    · exfalso
      split at h
      · obtain ⟨h1, h2⟩ := withOpds_some h
        rcases hk with ⟨rfl, _⟩ | ⟨rfl, _⟩ <;> cases h1
      · rcases hk with ⟨rfl, _⟩ | ⟨rfl, _⟩
        · exact (nobin _ _ _).1 h
        · exact (nobin _ _ _).2 h
    · exfalso
      rcases hk with ⟨rfl, _⟩ | ⟨rfl, _⟩
      · exact (nobin _ _ _).1 h
      · exact (nobin _ _ _).2 h
    · rename_i g
      obtain ⟨h1, h2⟩ := withOpds_some h
      have hvs := opds_ok he h2 hev
      rcases hk with ⟨rfl, rfl⟩ | ⟨rfl, _⟩
      · cases h1
        refine ⟨_, hvs, ?_⟩
        simp only [execOp, resolve, Act.eval, Deferred.ofValue, Sem.run_bind, Sem.run_pure, Result.andThen_ok, invoke, hargs]
        simp
      · cases h1
    · rename_i x hne
      obtain ⟨h1, h2⟩ := withOpds_some h
      have hvs := opds_ok he h2 hev
      rcases hk with ⟨rfl, rfl⟩ | ⟨rfl, caps, us, rfl, rfl⟩
      · cases h1
      · obtain ⟨x', xs', e1, g1, g2⟩ := hvs.uncons
        simp only [List.map_cons, List.cons.injEq] at e1
        obtain ⟨rfl, rfl⟩ := e1
        simp only [VR] at g1
        obtain ⟨cs', e2, g3⟩ := g1
        refine ⟨_, g2.append g3, ?_⟩
        simp only [execOp, resolve, e2, Deferred.ofValue, Sem.run_bind, Sem.run_pure, Result.andThen_ok, invoke, hargs]
        congr 2
        apply Array.ext'
        simp
    · cases h
  | binOp op t x y yt =>
    exfalso
    obtain ⟨h1, h2⟩ := withOpds_some h
    rcases hk with ⟨rfl, _⟩ | ⟨rfl, _⟩
    all_goals
      split at h1
      · unfold plainEq at h1; (repeat' (first | split at h1 | (cases hh : P.eqGuardType P.depth t <;> rw [hh] at h1 <;> simp only [cond_true, cond_false] at h1))) <;> cases h1
      · unfold plainEq at h1; (repeat' (first | split at h1 | (cases hh : P.eqGuardType P.depth t <;> rw [hh] at h1 <;> simp only [cond_true, cond_false] at h1))) <;> cases h1
      · cases h1
  | makeMap t r =>
    exfalso
    cases r with
    | none => simp only [compOp] at h; obtain ⟨h1, h2⟩ := withOpds_some h; rcases hk with ⟨rfl, _⟩ | ⟨rfl, _⟩ <;> cases h1
    | some x => cases h
  | slice t x lo hi mx =>
    exfalso
    cases mx with
    | some m => cases h
    | none =>
      obtain ⟨h1, h2⟩ := withOpds_some h
      rcases hk with ⟨rfl, _⟩ | ⟨rfl, _⟩ <;> ((repeat' split at h1) <;> cases h1)
  | next it s =>
    exfalso
    cases s with
    | true => obtain ⟨h1, h2⟩ := withOpds_some h; rcases hk with ⟨rfl, _⟩ | ⟨rfl, _⟩ <;> cases h1
    | false => cases h
  | move x | assign x | pick c x y | box t x | nilCheck x | unOp op t x | extract t i => obtain ⟨h1, h2⟩ := withOpds_some h; rcases hk with ⟨rfl, _⟩ | ⟨rfl, _⟩ <;> cases h1
  | alloc t | load t x | lookup t x i ok | build t ps | buildSlice t len ps | store t x y | makeInterface t x | makeFunc fn first caps | makeSlice t l c | fieldAddr t x f | field t x f | indexAddr t x i | index t x i | mapUpdate t m k x | insert t m k x | range t x | convert s d x =>
    obtain ⟨h1, h2⟩ := withOpds_some h
    rcases hk with ⟨rfl, _⟩ | ⟨rfl, _⟩ <;> ((repeat' split at h1) <;> cases h1)
  | _ => cases h
end
end Go.Am
