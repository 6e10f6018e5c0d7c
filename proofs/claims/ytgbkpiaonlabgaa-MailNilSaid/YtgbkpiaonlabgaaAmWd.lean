/- The annotated code's proposition holds of the machine; rules for functions and loops. Own work. -/
import Derived.Test.YtgbkpiaonlabgaaAmWc
namespace Go.Am
set_option linter.unusedVariables false
set_option linter.unusedSimpArgs false
open Go
def post2 (N R : Env → Heap → Prop) (X : Nat → Env → Heap → Prop) : AX → Env → Heap → Prop
  | .normal, e, h => N e h
  | .ret, e, h => R e h
  | .exit i, e, h => X i e h
theorem appE_curE : ∀ {live : Live} {G : List (Nat × AV) → Heap → Prop} {e : Env} {h : Heap}, appE live (curE live G) e h → ∃ l, Has e l ∧ G l h
  | [], G, e, h, ha => ⟨[], trivial, ha⟩
  | (s, t) :: live, G, e, h, ha => by
    simp only [appE] at ha
    split at ha
    · rename_i v hv
      split at ha
      · rename_i x hx
        obtain ⟨l, h1, h2⟩ := appE_curE (G := fun r => G ((s, t.mk x) :: r)) ha
        exact ⟨(s, t.mk x) :: l, ⟨by rw [hv, Ty.un_mk hx], h1⟩, h2⟩
      · exact ha.elim
    · exact ha.elim
theorem exitAt_map {α : Type} {f : Nat → α} : ∀ {xs : List Nat} {i : Nat} {g : α}, exitAt xs (xs.map f) i = some g → g = f i
  | [], _, _, h => by cases h
  | x :: xs, i, g, h => by
    simp only [List.map, exitAt] at h
    split at h
    · rename_i hx; cases h; rw [hx]
    · exact exitAt_map h
variable {F : Nat → Option AFn}
theorem awp2_ok : ∀ {c : SC} {N R : Env → Heap → Prop} {X : Nat → Env → Heap → Prop} {e : Env} {h : Heap}, awp2 F c N R X e h → ∀ e', Sub e e' → ∃ n x e1 h1 e0, run F n c.er e' h = some (x, e1, h1) ∧ Sub e0 e1 ∧ post2 N R X x e0 h1 := by
  intro c
  induction c with
  | skip => intro N R X e h hw e' hs; exact ⟨1, .normal, e', h, e, rfl, hs, hw⟩
  | exit id => intro N R X e h hw e' hs; exact ⟨1, .exit id, e', h, e, rfl, hs, hw⟩
  | ret => intro N R X e h hw e' hs; exact ⟨1, .ret, e', h, e, rfl, hs, hw⟩
  | seq a b iha ihb =>
    intro N R X e h hw e' hs
    obtain ⟨n, x, e1, h1, e0, g1, g2, g3⟩ := iha hw e' hs
    cases x with
    | normal =>
      obtain ⟨m, y, e2, h2, e3, k1, k2, k3⟩ := ihb g3 e1 g2
      refine ⟨max n m + 1, y, e2, h2, e3, ?_, k2, k3⟩
      rw [run_succ, SC.er]
      simp only [run_le (Nat.le_max_left n m) g1, run_le (Nat.le_max_right n m) k1]
    | exit id => exact ⟨n + 1, .exit id, e1, h1, e0, by rw [run_succ, SC.er]; simp only [g1], g2, g3⟩
    | ret => exact ⟨n + 1, .ret, e1, h1, e0, by rw [run_succ, SC.er]; simp only [g1], g2, g3⟩
  | cond c t f iht ihf =>
    intro N R X e h hw e' hs
    obtain ⟨v, hv, hw⟩ := oP_some hw
    cases v <;> first | exact hw.elim | skip
    rename_i b
    have hv' := hs.ev hv
    cases b with
    | true =>
      obtain ⟨n, x, e1, h1, e0, g1, g2, g3⟩ := iht hw e' hs
      exact ⟨n + 1, x, e1, h1, e0, by rw [run_succ, SC.er]; simp only [hv', cond_true, g1], g2, g3⟩
    | false =>
      obtain ⟨n, x, e1, h1, e0, g1, g2, g3⟩ := ihf hw e' hs
      exact ⟨n + 1, x, e1, h1, e0, by rw [run_succ, SC.er]; simp only [hv', cond_false, g1], g2, g3⟩
  | block id b ih =>
    intro N R X e h hw e' hs
    obtain ⟨n, x, e1, h1, e0, g1, g2, g3⟩ := ih hw e' hs
    cases x with
    | normal => exact ⟨n + 1, .normal, e1, h1, e0, by rw [run_succ, SC.er]; simp only [g1], g2, g3⟩
    | ret => exact ⟨n + 1, .ret, e1, h1, e0, by rw [run_succ, SC.er]; simp only [g1], g2, g3⟩
    | exit id' =>
      by_cases hid : id' = id
      · have g3 : N e0 h1 := by
          subst hid
          have := g3
          simp only [post2, Nat.beq_refl, bP] at this
          exact this
        exact ⟨n + 1, .normal, e1, h1, e0, by rw [run_succ, SC.er]; simp only [g1, if_pos hid], g2, g3⟩
      · have g3 : X id' e0 h1 := by
          have := g3
          have hb : Nat.beq id' id = false := by
            cases hq : Nat.beq id' id with
            | false => rfl
            | true => exact absurd (Nat.eq_of_beq_eq_true hq) hid
          simp only [post2, hb, bP] at this
          exact this
        exact ⟨n + 1, .exit id', e1, h1, e0, by rw [run_succ, SC.er]; simp only [g1, if_neg hid], g2, g3⟩
  | loop live xs hr b ih =>
    intro N R X e h hw e' hs
    obtain ⟨l, h1, h2⟩ := appE_curE hw
    obtain ⟨n, x, e1, h1', k1, k2⟩ := h2 e' (h1.sub.trans hs)
    cases x with
    | normal => exact k2.elim
    | ret =>
      obtain ⟨r, q1, q2⟩ := appE_curE k2
      cases hr with
      | true => exact ⟨n, .ret, e1, h1', E r, k1, q1.sub, q2⟩
      | false => exact q2.elim
    | exit i =>
      obtain ⟨f, hf, k3⟩ := oP_some k2
      rw [exitAt_map hf] at k3
      obtain ⟨r, q1, q2⟩ := appE_curE k3
      exact ⟨n, .exit i, e1, h1', E r, k1, q1.sub, q2⟩
  | region s =>
    intro N R X e h hw e' hs
    obtain ⟨n, e1, h1, e0, g1, g2, g3, _⟩ := owp2_ok s none hw e' hs rfl (fun _ _ hh => by cases hh)
    exact ⟨n + 1, .normal, e1, h1, e0, by rw [run_succ, SC.er]; simp only [g1], g2, g3⟩
  | dreg s =>
    intro N R X e h hw e' hs
    obtain ⟨n, e1, h1, e0, g1, g2, g3, _⟩ := owp2_ok s none hw e' hs rfl (fun _ _ hh => by cases hh)
    exact ⟨n + 1, .normal, e1, h1, e0, by rw [run_succ, SC.er]; simp only [g1, List.all_nil, cond_true], g2, g3⟩
  | dregp s ps =>
    intro N R X e h hw e' hs
    obtain ⟨n, e1, h1, e0, tr2, g1, g2, g3, g4⟩ := owp3_ok s [] hw e' hs
    obtain ⟨k1, k2⟩ := pairsP_ok g4 g3
    exact ⟨n + 1, .normal, e1, h1, e0, by rw [run_succ, SC.er]; simp only [g1, k1, cond_true], g2, k2⟩
/-- A call, by its annotated code. -/
theorem acalls2 {f : Nat} {fn : AFn} {s : SC} {xs : List AV} {h : Heap} {K : AV → Heap → Prop} (hF : F f = some fn) (hc : fn.code = s.er) (hl : xs.length = fn.np)
    (hw : awp2 F s (resW fn.res K) (resW fn.res K) (fun _ _ _ => False) (E (argE 0 xs)) h) : ACalls F f xs h K := by
  obtain ⟨n, x, e1, h1, e0, g1, g2, g3⟩ := awp2_ok hw _ (argE_sub xs)
  cases x with
  | exit id => exact g3.elim
  | normal =>
    obtain ⟨v, g4, g5⟩ := resW_ok g3
    refine ⟨n, v, h1, ?_, g5⟩
    unfold callN
    rw [hF]
    simp only [if_pos hl, hc, g1, g2.resOf g4]
  | ret =>
    obtain ⟨v, g4, g5⟩ := resW_ok g3
    refine ⟨n, v, h1, ?_, g5⟩
    unfold callN
    rw [hF]
    simp only [if_pos hl, hc, g1, g2.resOf g4]
def allC : (live : Live) → Cur live (Heap → Prop) → (List (Nat × AV) → Heap → Prop) → Prop
  | [], P, G => ∀ h, P h → G [] h
  | (s, t) :: l, P, G => ∀ x : t.T, allC l (P x) fun r h => G ((s, t.mk x) :: r) h
def impC : (live : Live) → Cur live (Heap → Prop) → Cur live (Heap → Prop) → Prop
  | [], P, Q => ∀ h, P h → Q h
  | (_, t) :: l, P, Q => ∀ x : t.T, impC l (P x) (Q x)
def low : (live : Live) → (Nat → Cur live (Heap → Prop)) → Nat → Cur live (Heap → Prop)
  | [], I, m => fun h => ∃ m', m' < m ∧ I m' h
  | (_, _) :: l, I, m => fun x => low l (fun m => I m x) m
/-- The list of slots at which a curried proposition holds. -/
def atL : (live : Live) → Cur live (Heap → Prop) → List (Nat × AV) → Heap → Prop
  | [], P, l, h => l = [] ∧ P h
  | (s, t) :: live, P, l, h => ∃ x r, l = (s, t.mk x) :: r ∧ atL live (P x) r h
theorem allC_at : ∀ {live : Live} {P : Cur live (Heap → Prop)} {G : List (Nat × AV) → Heap → Prop}, allC live P G → ∀ l h, atL live P l h → G l h
  | [], P, G, ha, l, h, ⟨hl, hp⟩ => by rw [hl]; exact ha h hp
  | (s, t) :: live, P, G, ha, l, h, ⟨x, r, hl, hp⟩ => by rw [hl]; exact allC_at (ha x) r h hp
theorem impC_curE : ∀ {live : Live} {P : Cur live (Heap → Prop)} {G : List (Nat × AV) → Heap → Prop}, (∀ l h, atL live P l h → G l h) → impC live P (curE live G)
  | [], P, G, ha => fun h hp => ha [] h ⟨rfl, hp⟩
  | (s, t) :: live, P, G, ha => fun x => impC_curE (G := fun r => G ((s, t.mk x) :: r)) fun l h hp => ha _ h ⟨x, l, rfl, hp⟩
theorem low_at : ∀ {live : Live} {I : Nat → Cur live (Heap → Prop)} {m : Nat} {e : Env} {h : Heap}, appE live (low live I m) e h → ∃ m' l, m' < m ∧ Has e l ∧ atL live (I m') l h
  | [], I, m, e, h, ⟨m', h1, h2⟩ => ⟨m', [], h1, trivial, rfl, h2⟩
  | (s, t) :: live, I, m, e, h, ha => by
    simp only [appE] at ha
    split at ha
    · rename_i v hv
      split at ha
      · rename_i x hx
        obtain ⟨m', l, h1, h2, h3⟩ := low_at (I := fun m => I m x) ha
        exact ⟨m', (s, t.mk x) :: l, h1, ⟨by rw [hv, Ty.un_mk hx], h2⟩, x, l, rfl, h3⟩
      · exact ha.elim
    · exact ha.elim
theorem appE_sub : ∀ {live : Live} {P : Cur live (Heap → Prop)} {e e' : Env} {h : Heap}, Sub e e' → appE live P e h → appE live P e' h
  | [], P, e, e', h, hs, ha => ha
  | (s, t) :: live, P, e, e', h, hs, ha => by
    simp only [appE] at ha ⊢
    split at ha
    · rename_i v hv
      rw [hs _ _ hv]
      simp only
      split at ha
      · rename_i x hx
        exact appE_sub hs ha
      · exact ha.elim
    · exact ha.elim
/-- A loop, by an invariant that carries a number that goes down. -/
theorem sloop_rule {live : Live} {xs : List Nat} {b : SC} {R : Cur live (Heap → Prop)} {X : List (Cur live (Heap → Prop))} (I : Nat → Cur live (Heap → Prop))
    (body : ∀ m, allC live (I m) fun l h => awp2 F b (appE live (low live I m)) (appE live R) (fun i e h => oP (exitAt xs X i) fun f => appE live f e h) (E l) h) (m : Nat) : impC live (I m) (SLoop F live xs b R X) := by
  refine impC_curE ?_
  have key : ∀ k m l h, m < k → atL live (I m) l h → ∀ e', Sub (E l) e' → ∃ n x e1 h1, run F n (.loop b.er) e' h = some (x, e1, h1) ∧ loopPost live xs R X x e1 h1 := by
    intro k
    induction k with
    | zero => intro m l h hm; omega
    | succ k ih =>
      intro m l h hm hI e' hs
      obtain ⟨n, x, e1, h1, e0, g1, g2, g3⟩ := awp2_ok (allC_at (body m) l h hI) e' hs
      cases x with
      | normal =>
        obtain ⟨m', l', q1, q2, q3⟩ := low_at g3
        obtain ⟨n', x, e2, h2, k1, k2⟩ := ih m' l' h1 (by omega) q3 e1 (q2.sub.trans g2)
        refine ⟨max n n' + 1, x, e2, h2, ?_, k2⟩
        rw [run_succ]
        simp only [run_le (Nat.le_max_left n n') g1, run_le (Nat.le_max_right n n') k1]
      | exit id =>
        refine ⟨n + 1, .exit id, e1, h1, by rw [run_succ]; simp only [g1], ?_⟩
        obtain ⟨f, hf, k2⟩ := oP_some g3
        exact oP_intro f hf (appE_sub g2 k2)
      | ret => exact ⟨n + 1, .ret, e1, h1, by rw [run_succ]; simp only [g1], appE_sub g2 g3⟩
  exact fun l h hI => key (m + 1) m l h (Nat.lt_succ_self m) hI
end Go.Am
