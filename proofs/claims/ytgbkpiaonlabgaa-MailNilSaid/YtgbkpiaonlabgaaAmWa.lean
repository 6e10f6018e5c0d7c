/- Weakest preconditions over the abstract machine. Own work. -/
import Derived.Test.YtgbkpiaonlabgaaAmZ
namespace Go.Am
set_option linter.unusedVariables false
set_option linter.unusedSimpArgs false
open Go
/-- An environment, slot by slot. -/
def E : List (Nat × AV) → Env
  | [] => .nil
  | (t, v) :: l => (E l).set t v
def Sub (e e' : Env) : Prop := ∀ t v, e.get t = some v → e'.get t = some v
theorem Sub.refl (e : Env) : Sub e e := fun _ _ h => h
theorem Sub.trans {a b c : Env} (h : Sub a b) (k : Sub b c) : Sub a c := fun t v hv => k t v (h t v hv)
theorem Sub.set {e e' : Env} (h : Sub e e') (t : Nat) (v : AV) : Sub (e.set t v) (e'.set t v) := by
  intro s u hs
  rw [T.get_set] at hs ⊢
  by_cases he : s = t
  · rw [if_pos he] at hs ⊢; exact hs
  · rw [if_neg he] at hs ⊢; exact h s u hs
theorem Sub.putE {e e' : Env} (h : Sub e e') (d : Option Nat) (v : AV) : Sub (putE e d v) (putE e' d v) := by
  cases d with
  | none => exact h
  | some d => exact h.set d v
theorem Sub.nil (e : Env) : Sub .nil e := fun t v h => by rw [T.get_nil] at h; cases h
theorem Sub.ev {e e' : Env} (h : Sub e e') {x : Opd} {v : AV} (hv : x.ev e = some v) : x.ev e' = some v := by
  cases x with
  | tmp t => exact h t v hv
  | const c => exact hv
theorem Sub.evs {e e' : Env} (h : Sub e e') : ∀ {xs : List Opd} {vs : List AV}, Am.evs e xs = some vs → Am.evs e' xs = some vs
  | [], vs, hv => hv
  | x :: xs, vs, hv => by
    simp only [Am.evs] at hv ⊢
    split at hv
    · cases hv
    · rename_i v hx
      split at hv
      · cases hv
      · rename_i us hus
        rw [h.ev hx, h.evs hus]; exact hv
theorem Sub.wanted {e e' : Env} (h : Sub e e') {g : Option (Nat × Bool)} {b : Bool} (hw : wantedE e g = some b) : wantedE e' g = some b := by
  unfold wantedE at hw ⊢
  split at hw
  · exact hw
  · split at hw
    · rename_i b' hb; rw [h _ _ hb]; exact hw
    · rename_i v hne hb
      rw [h _ _ hb]
      cases v <;> first | exact hw | exact absurd rfl (hne _)
    · cases hw
/-- What is there, and then. -/
def bindP {α : Type} (o : Option α) (k : α → Prop) : Prop := ∃ a, o = some a ∧ k a
theorem bindP_some {α : Type} (a : α) (k : α → Prop) : bindP (some a) k = k a := by
  unfold bindP
  exact propext ⟨fun ⟨_, h, hk⟩ => by cases h; exact hk, fun h => ⟨a, rfl, h⟩⟩
theorem bindP_none {α : Type} (k : α → Prop) : bindP none k = False := by
  unfold bindP
  exact propext ⟨(fun ⟨_, h, _⟩ => by cases h), (fun h => h.elim)⟩
@[congr] theorem bindP_congr {α : Type} {o o' : Option α} {k : α → Prop} (h : o = o') : bindP o k = bindP o' k := by rw [h]
section
variable (F : Nat → Option AFn)
/-- A call answers, and so that K holds. -/
def ACalls (f : Nat) (xs : List AV) (h : Heap) (K : AV → Heap → Prop) : Prop := ∃ n v h', callN F n f xs h = some (v, h') ∧ K v h'
def kwp (k : AK) (xs : List AV) (K : AV → Heap → Prop) (h : Heap) : Prop :=
  match k with
  | .p q => bindP (q.ev xs) fun v => K v h
  | .r q => bindP (q.ev xs h) fun v => K v h
  | .n q => bindP (q.ob xs h) fun ob => K (q.mk xs h.n) (h.push ob)
  | .e q => bindP (q.ev xs h) fun p => K p.1 p.2
  | .call f => ACalls F f xs h K
  | .callV => bindP (target .callV xs) fun p => ACalls F p.1 p.2 h K
def swp (o : AOper) (K : Env → Heap → Prop) (e : Env) (h : Heap) : Prop :=
  bindP (wantedE e o.guard) fun b => if b = true then bindP (evs e o.xs) fun xs => kwp F o.k xs (fun v h => K (putE e o.dst v) h) h else K (putE e o.dst .undef) h
def owp : List AOper → (Env → Heap → Prop) → Env → Heap → Prop
  | [], K, e, h => K e h
  | o :: os, K, e, h => swp F o (fun e h => owp os K e h) e h
/-- A loop, by what it does. -/
def lwp (b : ACode) (Q : AX → Env → Heap → Prop) (e : Env) (h : Heap) : Prop :=
  ∀ e', Sub e e' → ∃ n x e1 h1 e0, run F n (.loop b) e' h = some (x, e1, h1) ∧ Sub e0 e1 ∧ Q x e0 h1
def dwp (ops : List AOper) (ps : List (Nat × Nat)) (K : Env → Heap → Prop) (e : Env) (h : Heap) : Prop :=
  ∀ e', Sub e e' → ∃ n e1 h1 e0, runOps (callN F n) ops e' h = some (e1, h1) ∧ ps.all (chkPair ops (trace (callN F n) ops e' h)) = true ∧ Sub e0 e1 ∧ K e0 h1
def awp : ACode → (AX → Env → Heap → Prop) → Env → Heap → Prop
  | .skip, Q, e, h => Q .normal e h
  | .seq a b, Q, e, h => awp a (fun x e h => match x with
    | .normal => awp b Q e h
    | x => Q x e h) e h
  | .cond c t f, Q, e, h => bindP (c.ev e) fun v => match v with
    | .bool b => if b = true then awp t Q e h else awp f Q e h
    | _ => False
  | .block id b, Q, e, h => awp b (fun x e h => match x with
    | .exit id' => if id' = id then Q .normal e h else Q (.exit id') e h
    | x => Q x e h) e h
  | .loop b, Q, e, h => lwp F b Q e h
  | .exit id, Q, e, h => Q (.exit id) e h
  | .ret, Q, e, h => Q .ret e h
  | .region ops, Q, e, h => owp F ops (Q .normal) e h
  | .dregion ops [], Q, e, h => owp F ops (Q .normal) e h
  | .dregion ops (p :: ps), Q, e, h => dwp F ops (p :: ps) (Q .normal) e h
end
variable {F : Nat → Option AFn}
theorem ACalls.mono {f : Nat} {xs : List AV} {h : Heap} {K K' : AV → Heap → Prop} (hc : ACalls F f xs h K) (hk : ∀ v h', K v h' → K' v h') : ACalls F f xs h K' :=
  let ⟨n, v, h', h1, h2⟩ := hc; ⟨n, v, h', h1, hk _ _ h2⟩
theorem swp_ok {o : AOper} {K : Env → Heap → Prop} {e : Env} {h : Heap} (hw : swp F o K e h) : ∀ e', Sub e e' → ∃ n e1 h1 e0, stepOp (callN F n) o e' h = some (e1, h1) ∧ Sub e0 e1 ∧ K e0 h1 := by
  intro e' hs
  obtain ⟨b, hb, hw⟩ := hw
  have hb' := hs.wanted hb
  cases b with
  | false =>
    simp only [Bool.false_eq_true, if_false] at hw
    exact ⟨0, putE e' o.dst .undef, h, putE e o.dst .undef, by simp only [stepOp, hb'], hs.putE _ _, hw⟩
  | true =>
    simp only [if_true] at hw
    obtain ⟨xs, hx, hw⟩ := hw
    have hx' := hs.evs hx
    have fin : ∀ n v h', o.k.ev (callN F n) xs h = some (v, h') → K (putE e o.dst v) h' → ∃ n e1 h1 e0, stepOp (callN F n) o e' h = some (e1, h1) ∧ Sub e0 e1 ∧ K e0 h1 :=
      fun n v h' hv hK => ⟨n, putE e' o.dst v, h', putE e o.dst v, by simp only [stepOp, hb', hx', hv], hs.putE _ _, hK⟩
    cases hk : o.k with
    | p q =>
      rw [hk] at hw
      obtain ⟨v, hv, hK⟩ := hw
      exact fin 0 v h (by rw [hk]; simp only [AK.ev, hv]) hK
    | r q =>
      rw [hk] at hw
      obtain ⟨v, hv, hK⟩ := hw
      exact fin 0 v h (by rw [hk]; simp only [AK.ev, hv]) hK
    | n q =>
      rw [hk] at hw
      obtain ⟨ob, hv, hK⟩ := hw
      exact fin 0 _ _ (by rw [hk]; simp only [AK.ev, hv]) hK
    | e q =>
      rw [hk] at hw
      obtain ⟨p, hv, hK⟩ := hw
      exact fin 0 p.1 p.2 (by rw [hk]; exact hv) hK
    | call f =>
      rw [hk] at hw
      obtain ⟨n, v, h', hv, hK⟩ := hw
      exact fin n v h' (by rw [hk]; simp only [AK.ev, target]; exact hv) hK
    | callV =>
      rw [hk] at hw
      obtain ⟨p, hp, n, v, h', hv, hK⟩ := hw
      exact fin n v h' (by rw [hk]; simp only [AK.ev, hp]; exact hv) hK
theorem owp_ok : ∀ {os : List AOper} {K : Env → Heap → Prop} {e : Env} {h : Heap}, owp F os K e h → ∀ e', Sub e e' → ∃ n e1 h1 e0, runOps (callN F n) os e' h = some (e1, h1) ∧ Sub e0 e1 ∧ K e0 h1
  | [], K, e, h, hw, e', hs => ⟨0, e', h, e, rfl, hs, hw⟩
  | o :: os, K, e, h, hw, e', hs => by
    obtain ⟨n, e1, h1, e0, g1, g2, g3⟩ := swp_ok hw e' hs
    obtain ⟨m, e2, h2, e3, k1, k2, k3⟩ := owp_ok g3 e1 g2
    refine ⟨max n m, e2, h2, e3, ?_, k2, k3⟩
    have a1 := step_le (callN_le (F := F) (Nat.le_max_left n m)) g1
    have a2 := (runOps_le (callN_le (F := F) (Nat.le_max_right n m)) os k1).1
    simp only [runOps, a1, a2]
theorem awp_ok : ∀ {c : ACode} {Q : AX → Env → Heap → Prop} {e : Env} {h : Heap}, awp F c Q e h → ∀ e', Sub e e' → ∃ n x e1 h1 e0, run F n c e' h = some (x, e1, h1) ∧ Sub e0 e1 ∧ Q x e0 h1 := by
  intro c
  induction c with
  | skip => intro Q e h hw e' hs; exact ⟨1, .normal, e', h, e, rfl, hs, hw⟩
  | exit id => intro Q e h hw e' hs; exact ⟨1, .exit id, e', h, e, rfl, hs, hw⟩
  | ret => intro Q e h hw e' hs; exact ⟨1, .ret, e', h, e, rfl, hs, hw⟩
  | seq a b iha ihb =>
    intro Q e h hw e' hs
    obtain ⟨n, x, e1, h1, e0, g1, g2, g3⟩ := iha hw e' hs
    cases x with
    | normal =>
      obtain ⟨m, y, e2, h2, e3, k1, k2, k3⟩ := ihb g3 e1 g2
      refine ⟨max n m + 1, y, e2, h2, e3, ?_, k2, k3⟩
      rw [run_succ]
      simp only [run_le (Nat.le_max_left n m) g1, run_le (Nat.le_max_right n m) k1]
    | exit id => exact ⟨n + 1, _, e1, h1, e0, by rw [run_succ]; simp only [g1], g2, g3⟩
    | ret => exact ⟨n + 1, _, e1, h1, e0, by rw [run_succ]; simp only [g1], g2, g3⟩
  | cond c t f iht ihf =>
    intro Q e h hw e' hs
    obtain ⟨v, hv, hw⟩ := hw
    cases v <;> first | exact hw.elim | skip
    rename_i b
    have hv' := hs.ev hv
    cases b with
    | true =>
      simp only [if_true] at hw
      obtain ⟨n, x, e1, h1, e0, g1, g2, g3⟩ := iht hw e' hs
      exact ⟨n + 1, x, e1, h1, e0, by rw [run_succ]; simp only [hv', cond_true, g1], g2, g3⟩
    | false =>
      simp only [Bool.false_eq_true, if_false] at hw
      obtain ⟨n, x, e1, h1, e0, g1, g2, g3⟩ := ihf hw e' hs
      exact ⟨n + 1, x, e1, h1, e0, by rw [run_succ]; simp only [hv', cond_false, g1], g2, g3⟩
  | block id b ih =>
    intro Q e h hw e' hs
    obtain ⟨n, x, e1, h1, e0, g1, g2, g3⟩ := ih hw e' hs
    cases x with
    | normal => exact ⟨n + 1, _, e1, h1, e0, by rw [run_succ]; simp only [g1], g2, g3⟩
    | ret => exact ⟨n + 1, _, e1, h1, e0, by rw [run_succ]; simp only [g1], g2, g3⟩
    | exit id' =>
      by_cases hid : id' = id
      · simp only [if_pos hid] at g3
        exact ⟨n + 1, .normal, e1, h1, e0, by rw [run_succ]; simp only [g1, if_pos hid], g2, g3⟩
      · simp only [if_neg hid] at g3
        exact ⟨n + 1, .exit id', e1, h1, e0, by rw [run_succ]; simp only [g1, if_neg hid], g2, g3⟩
  | loop b ih => intro Q e h hw e' hs; exact hw e' hs
  | region ops =>
    intro Q e h hw e' hs
    obtain ⟨n, e1, h1, e0, g1, g2, g3⟩ := owp_ok hw e' hs
    exact ⟨n + 1, .normal, e1, h1, e0, by rw [run_succ]; simp only [g1], g2, g3⟩
  | dregion ops ps =>
    intro Q e h hw e' hs
    cases ps with
    | nil =>
      obtain ⟨n, e1, h1, e0, g1, g2, g3⟩ := owp_ok hw e' hs
      exact ⟨n + 1, .normal, e1, h1, e0, by rw [run_succ]; simp only [g1, List.all_nil, cond_true], g2, g3⟩
    | cons p ps =>
      obtain ⟨n, e1, h1, e0, g1, g4, g2, g3⟩ := hw e' hs
      exact ⟨n + 1, .normal, e1, h1, e0, by rw [run_succ]; simp only [g1, g4, cond_true], g2, g3⟩
/-- Does an environment hold these? -/
def Has (e : Env) : List (Nat × AV) → Prop
  | [] => True
  | (t, v) :: l => e.get t = some v ∧ Has e l
theorem Has.sub {e : Env} : ∀ {l : List (Nat × AV)}, Has e l → Sub (E l) e
  | [], _ => Sub.nil e
  | (t, v) :: l, h => by
    intro s u hs
    rw [E, T.get_set] at hs
    by_cases he : s = t
    · rw [if_pos he] at hs; cases hs; rw [he]; exact h.1
    · rw [if_neg he] at hs; exact h.2.sub s u hs
/-- A loop, by an invariant: its slots and heap told by a state, of which a measure goes down. -/
theorem lwp_intro {σ : Type} (env : σ → List (Nat × AV)) (I : σ → Heap → Prop) (μ : σ → Nat) (s0 : σ) {b : ACode} {Q : AX → Env → Heap → Prop} {e : Env} {h : Heap} (h0 : Has e (env s0)) (hi : I s0 h)
    (body : ∀ s h, I s h → awp F b (fun x e' h' => match x with
      | .normal => ∃ s', μ s' < μ s ∧ Has e' (env s') ∧ I s' h'
      | x => Q x e' h') (E (env s)) h) : lwp F b Q e h := by
  have key : ∀ m s h e', μ s < m → Sub (E (env s)) e' → I s h → ∃ n x e1 h1 e0, run F n (.loop b) e' h = some (x, e1, h1) ∧ Sub e0 e1 ∧ Q x e0 h1 := by
    intro m
    induction m with
    | zero => intro s h e' hm; omega
    | succ m ih =>
      intro s h e' hm hs hI
      obtain ⟨n, x, e1, h1, e0, g1, g2, g3⟩ := awp_ok (body s h hI) e' hs
      cases x with
      | normal =>
        obtain ⟨s', k1, k2, k3⟩ := g3
        obtain ⟨n', x, e2, h2, e3, q1, q2, q3⟩ := ih s' h1 e1 (by omega) (k2.sub.trans g2) k3
        refine ⟨max n n' + 1, x, e2, h2, e3, ?_, q2, q3⟩
        rw [run_succ]
        simp only [run_le (Nat.le_max_left n n') g1, run_le (Nat.le_max_right n n') q1]
      | exit id => exact ⟨n + 1, _, e1, h1, e0, by rw [run_succ]; simp only [g1], g2, g3⟩
      | ret => exact ⟨n + 1, _, e1, h1, e0, by rw [run_succ]; simp only [g1], g2, g3⟩
  intro e' hs
  exact key (μ s0 + 1) s0 h e' (by omega) (h0.sub.trans hs) hi
def AX.fin : AX → Prop
  | .normal => True
  | .ret => True
  | .exit _ => False
theorem Sub.resOne {e e' : Env} (hs : Sub e e') {h : Heap} {r : ARes} {v : AV} (hr : Am.resOne e h r = some v) : Am.resOne e' h r = some v := by
  cases r with
  | tmp t => exact hs t v hr
  | cell1 t =>
    simp only [Am.resOne] at hr ⊢
    split at hr
    · rename_i x hx; rw [hs t x hx]; exact hr
    · cases hr
  | cellN t n =>
    simp only [Am.resOne] at hr ⊢
    split at hr
    · rename_i x hx; rw [hs t x hx]; exact hr
    · cases hr
theorem Sub.resAll {e e' : Env} (hs : Sub e e') {h : Heap} : ∀ {rs : List ARes} {vs : List AV}, Am.resAll e h rs = some vs → Am.resAll e' h rs = some vs
  | [], _, hr => hr
  | r :: rs, vs, hr => by
    simp only [Am.resAll] at hr ⊢
    split at hr
    · cases hr
    · rename_i v hv
      split at hr
      · cases hr
      · rename_i us hus
        rw [hs.resOne hv, hs.resAll hus]; exact hr
theorem Sub.resOf {e e' : Env} (hs : Sub e e') {h : Heap} {rs : List ARes} {v : AV} (hr : Am.resOf e h rs = some v) : Am.resOf e' h rs = some v := by
  unfold Am.resOf at hr ⊢
  cases ha : Am.resAll e h rs with
  | none => rw [ha] at hr; cases hr
  | some vs => rw [ha] at hr; rw [hs.resAll ha]; exact hr
/-- The arguments' slots. -/
def argE : Nat → List AV → List (Nat × AV)
  | _, [] => []
  | i, v :: vs => (i, v) :: argE (i + 1) vs
theorem argE_get : ∀ (xs : List AV) (i t : Nat) (v : AV), (E (argE i xs)).get t = some v → i ≤ t ∧ xs[t - i]? = some v
  | [], i, t, v, h => by rw [argE, E, T.get_nil] at h; cases h
  | x :: xs, i, t, v, h => by
    rw [argE, E, T.get_set] at h
    by_cases ht : t = i
    · rw [if_pos ht] at h; cases h; subst ht; exact ⟨Nat.le_refl _, by simp⟩
    · rw [if_neg ht] at h
      obtain ⟨h1, h2⟩ := argE_get xs (i + 1) t v h
      refine ⟨by omega, ?_⟩
      rw [show t - i = (t - (i + 1)) + 1 by omega]; simpa using h2
theorem argE_sub (xs : List AV) : Sub (E (argE 0 xs)) (envOf 0 xs .nil) := by
  intro t v h
  obtain ⟨_, h2⟩ := argE_get xs 0 t v h
  rw [Nat.sub_zero] at h2
  have hlt : t < xs.length := by
    rcases Nat.lt_or_ge t xs.length with hh | hh
    · exact hh
    · rw [List.getElem?_eq_none hh] at h2; cases h2
  rw [envOf_get, if_pos ⟨Nat.zero_le _, by omega⟩, Nat.sub_zero]; exact h2
/-- A call, by its code. -/
theorem acalls_intro {f : Nat} {fn : AFn} {xs : List AV} {h : Heap} {K : AV → Heap → Prop} (hF : F f = some fn) (hl : xs.length = fn.np)
    (hw : awp F fn.code (fun x e h => x.fin ∧ bindP (resOf e h fn.res) fun v => K v h) (E (argE 0 xs)) h) : ACalls F f xs h K := by
  obtain ⟨n, x, e1, h1, e0, g1, g2, g3, v, g4, g5⟩ := awp_ok hw _ (argE_sub xs)
  refine ⟨n, v, h1, ?_, g5⟩
  unfold callN
  rw [hF]
  simp only [if_pos hl, g1]
  cases x with
  | normal => simp only [g2.resOf g4]
  | ret => simp only [g2.resOf g4]
  | exit id => exact g3.elim
@[congr] theorem awp_congr {c : ACode} {Q : AX → Env → Heap → Prop} {e e' : Env} {h h' : Heap} (he : e = e') (hh : h = h') : awp F c Q e h = awp F c Q e' h' := by rw [he, hh]
@[congr] theorem owp_congr {os : List AOper} {K : Env → Heap → Prop} {e e' : Env} {h h' : Heap} (he : e = e') (hh : h = h') : owp F os K e h = owp F os K e' h' := by rw [he, hh]
@[congr] theorem swp_congr {o : AOper} {K : Env → Heap → Prop} {e e' : Env} {h h' : Heap} (he : e = e') (hh : h = h') : swp F o K e h = swp F o K e' h' := by rw [he, hh]
@[congr] theorem kwp_congr {k : AK} {xs xs' : List AV} {K : AV → Heap → Prop} {h h' : Heap} (hx : xs = xs') (hh : h = h') : kwp F k xs K h = kwp F k xs' K h' := by rw [hx, hh]
@[congr] theorem lwp_congr {b : ACode} {Q : AX → Env → Heap → Prop} {e e' : Env} {h h' : Heap} (he : e = e') (hh : h = h') : lwp F b Q e h = lwp F b Q e' h' := by rw [he, hh]
@[congr] theorem acalls_congr {f : Nat} {xs xs' : List AV} {h h' : Heap} {K : AV → Heap → Prop} (hx : xs = xs') (hh : h = h') : ACalls F f xs h K = ACalls F f xs' h' K := by rw [hx, hh]
theorem E_get (t s : Nat) (v : AV) (l : List (Nat × AV)) : (E ((t, v) :: l)).get s = if s = t then some v else (E l).get s := by rw [E, T.get_set]
theorem E_nil (s : Nat) : (E []).get s = none := T.get_nil s
theorem E_put (l : List (Nat × AV)) (t : Nat) (v : AV) : putE (E l) (some t) v = E ((t, v) :: l) := rfl
theorem E_put0 (l : List (Nat × AV)) (v : AV) : putE (E l) none v = E l := rfl
end Go.Am
