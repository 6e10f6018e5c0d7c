/- All operations that look at their operands alone, as one theorem. Own work. -/
import Derived.Test.YtgbkpiaonlabgaaAmF
namespace Go.Am
set_option linter.unusedVariables false
set_option linter.unusedSimpArgs false
open Go
section
variable {P : Program} {K : KM} {w : World}
theorem withOpds_some {k? : Option AK} {l : List Operand} {k : AK} {xs : List Opd} (h : withOpds k? l = some (k, xs)) : k? = some k ∧ compOpds l = some xs := by
  unfold withOpds at h
  split at h
  · rename_i h1 h2; cases h; exact ⟨rfl, h2⟩
  · cases h
theorem lift_v {s : Sem Value} {v : Value} {w w' : World} (h : s.run P w = .ok v w') : (do pure (Next.value (← s)) : Sem Next).run P w = .ok (.value v) w' := by
  simp only [Sem.run_bind, h, Result.andThen_ok]; rfl
theorem Yields.lift {s : Sem Value} {v : AV} (h : Yields P s w K v) : ∃ v', (do pure (Next.value (← s)) : Sem Next).run P w = .ok (.value v') w ∧ VR K v v' :=
  let ⟨v', h1, h2⟩ := h; ⟨v', lift_v h1, h2⟩
theorem eqGuard_plain {op : BinOp} {t : TypeId} {x y : Operand} {a b : Value} (h1 : ¬ (a = .nilIface ∧ b = .nilIface)) (h2 : ¬ ((∃ cs, a = .agg cs) ∧ ∃ ds, b = .agg ds)) : (eqGuard op t x y a b).run P w = .ok () w := by
  have key : ∀ op', op' = BinOp.eql ∨ op' = BinOp.neq → (eqGuard op' t x y a b).run P w = .ok () w := by
    intro op' ho
    rcases ho with rfl | rfl
    all_goals
      unfold eqGuard
      simp only [Bool.not_true, Bool.false_eq_true, if_false]
      split
      · exact absurd ⟨rfl, rfl⟩ h1
      · exact absurd ⟨⟨_, rfl⟩, _, rfl⟩ h2
      · rfl
  cases op <;> first | exact key _ (.inl rfl) | exact key _ (.inr rfl) | rfl
theorem eqGuard_nil {op : BinOp} {t : TypeId} {x y : Operand} {a b : Value} (h : (isConstO x || isConstO y) = true) (h2 : ¬ ((∃ cs, a = .agg cs) ∧ ∃ ds, b = .agg ds)) : (eqGuard op t x y a b).run P w = .ok () w := by
  have key : ∀ op', op' = BinOp.eql ∨ op' = BinOp.neq → (eqGuard op' t x y a b).run P w = .ok () w := by
    intro op' ho
    rcases ho with rfl | rfl
    all_goals
      unfold eqGuard
      simp only [Bool.not_true, Bool.false_eq_true, if_false]
      split
      · have : isConstO x = true ∨ isConstO y = true := by simpa using h
        rcases this with hh | hh
        · cases x <;> first | (cases hh; done) | rfl
        · cases y <;> first | (cases hh; done) | simp
      · exact absurd ⟨⟨_, rfl⟩, _, rfl⟩ h2
      · rfl
  cases op <;> first | exact key _ (.inl rfl) | exact key _ (.inr rfl) | rfl
theorem binEv_shape {op : BinOp} {x y : AV} {v : AV} {x' y' : Value} (h : binEv op x y = some v) (hx : VR K x x') (hy : VR K y y') : ¬ (x' = .nilIface ∧ y' = .nilIface) ∧ ¬ ((∃ cs, x' = .agg cs) ∧ ∃ ds, y' = .agg ds) := by
  unfold binEv at h
  split at h
  · simp only [VR] at hx; subst hx
    exact ⟨(fun h => by cases h.1), (fun h => by obtain ⟨⟨_, h⟩, _⟩ := h; cases h)⟩
  · simp only [VR] at hx; subst hx
    exact ⟨(fun h => by cases h.1), (fun h => by obtain ⟨⟨_, h⟩, _⟩ := h; cases h)⟩
  · cases h
theorem bin_full {op : BinOp} {t : TypeId} {x y : Operand} {a : Act} {u v : AV} {r : AV} (h : binEv op u v = some r) (hu : VR K u (a.eval x)) (hv : VR K v (a.eval y)) :
    Yields P (do eqGuard op t x y (a.eval x) (a.eval y); binOp op t (a.eval x) (a.eval y)) w K r := by
  obtain ⟨h1, h2⟩ := binEv_shape h hu hv
  obtain ⟨r', h3, h4⟩ := binEv_ok (P := P) (w := w) h hu hv t
  exact ⟨r', by simp only [Sem.run_bind, eqGuard_plain h1 h2, Result.andThen_ok, h3], h4⟩
theorem bin_run {op : BinOp} {t : TypeId} {x y : Value} {b : Bool} (ho : op = .eql ∨ op = .neq) (h : (Op.equal t x y).run P w = .ok b w)
    (hx : ¬ ((∃ k n, x = .int k n) ∧ ∃ k n, y = .int k n)) (hs : ¬ ((∃ s, x = .string s) ∧ ∃ s, y = .string s)) (hf : ¬ ((∃ k n, x = .float k n) ∧ ∃ k n, y = .float k n)) (hc : ¬ ((∃ k n m, x = .complex k n m) ∧ ∃ k n m, y = .complex k n m)) :
    (binOp op t x y).run P w = .ok (.bool (if op = .neq then !b else b)) w := by
  rcases ho with rfl | rfl
  · unfold binOp
    split <;> first | (exact absurd ⟨⟨_, _, rfl⟩, _, _, rfl⟩ hx) | (exact absurd ⟨⟨_, rfl⟩, _, rfl⟩ hs) | (exact absurd ⟨⟨_, _, rfl⟩, _, _, rfl⟩ hf) | (exact absurd ⟨⟨_, _, _, rfl⟩, _, _, _, rfl⟩ hc) | (simp only [Sem.run_bind, h, Result.andThen_ok]; rfl) | contradiction | (exact absurd rfl (by assumption : ¬ (BinOp.eql = BinOp.eql)))
  · unfold binOp
    split <;> first | (exact absurd ⟨⟨_, _, rfl⟩, _, _, rfl⟩ hx) | (exact absurd ⟨⟨_, rfl⟩, _, rfl⟩ hs) | (exact absurd ⟨⟨_, _, rfl⟩, _, _, rfl⟩ hf) | (exact absurd ⟨⟨_, _, _, rfl⟩, _, _, _, rfl⟩ hc) | (simp only [Sem.run_bind, h, Result.andThen_ok]; rfl) | contradiction | (exact absurd rfl (by assumption : ¬ (BinOp.neq = BinOp.neq)))
theorem eql_shape {q : Nat} {x y : AV} {b : Bool} {x' y' : Value} (h : eqlEv q x y = some b) (hx : VR K x x') (hy : VR K y y') :
    ¬ ((∃ k n, x' = .int k n) ∧ ∃ k n, y' = .int k n) ∧ ¬ ((∃ s, x' = .string s) ∧ ∃ s, y' = .string s) ∧ ¬ ((∃ k n, x' = .float k n) ∧ ∃ k n, y' = .float k n) ∧ ¬ ((∃ k n m, x' = .complex k n m) ∧ ∃ k n m, y' = .complex k n m) ∧
    ¬ ((∃ cs, x' = .agg cs) ∧ ∃ ds, y' = .agg ds) ∧ (q ≠ 5 → ¬ (x' = .nilIface ∧ y' = .nilIface)) := by
  unfold eqlEv at h
  have fin : ∀ z, (z = x' ∨ z = y') → (∀ k n, z ≠ .int k n) → (∀ s, z ≠ .string s) → (∀ k n, z ≠ .float k n) → (∀ k n m, z ≠ .complex k n m) → (∀ cs, z ≠ .agg cs) → (q ≠ 5 → z ≠ .nilIface) →
      ¬ ((∃ k n, x' = .int k n) ∧ ∃ k n, y' = .int k n) ∧ ¬ ((∃ s, x' = .string s) ∧ ∃ s, y' = .string s) ∧ ¬ ((∃ k n, x' = .float k n) ∧ ∃ k n, y' = .float k n) ∧ ¬ ((∃ k n m, x' = .complex k n m) ∧ ∃ k n m, y' = .complex k n m) ∧
      ¬ ((∃ cs, x' = .agg cs) ∧ ∃ ds, y' = .agg ds) ∧ (q ≠ 5 → ¬ (x' = .nilIface ∧ y' = .nilIface)) := by
    intro z hz h1 h2 h3 h4 h5 h6
    rcases hz with rfl | rfl
    · exact ⟨(fun h => let ⟨⟨_, _, e⟩, _⟩ := h; h1 _ _ e), (fun h => let ⟨⟨_, e⟩, _⟩ := h; h2 _ e), (fun h => let ⟨⟨_, _, e⟩, _⟩ := h; h3 _ _ e), (fun h => let ⟨⟨_, _, _, e⟩, _⟩ := h; h4 _ _ _ e), (fun h => let ⟨⟨_, e⟩, _⟩ := h; h5 _ e), fun hq h => h6 hq h.1⟩
    · exact ⟨(fun h => let ⟨_, _, _, e⟩ := h; h1 _ _ e), (fun h => let ⟨_, _, e⟩ := h; h2 _ e), (fun h => let ⟨_, _, _, e⟩ := h; h3 _ _ e), (fun h => let ⟨_, _, _, _, e⟩ := h; h4 _ _ _ e), (fun h => let ⟨_, _, e⟩ := h; h5 _ e), fun hq h => h6 hq h.2⟩
  split at h <;> first | (cases h; done) | skip
  all_goals simp only [VR] at hx hy
  all_goals first
    | (subst hx; exact fin _ (.inl rfl) (by simp) (by simp) (by simp) (by simp) (by simp) (by simp))
    | (subst hy; exact fin _ (.inr rfl) (by simp) (by simp) (by simp) (by simp) (by simp) (by simp))
theorem eql_full {neg : Bool} {q : Nat} {t : TypeId} {d : TypeDesc} {x y : Operand} {a : Act} {u v : AV} {b : Bool} (h : eqlEv q u v = some b) (hu : VR K u (a.eval x)) (hv : VR K v (a.eval y)) (hd : P.underlying t = some d) (hk : eqKind d = some q)
    (hc : q = 5 → (isConstO x || isConstO y) = true) {op : BinOp} (ho : op = if neg then .neq else .eql) :
    Yields P (do eqGuard op t x y (a.eval x) (a.eval y); binOp op t (a.eval x) (a.eval y)) w K (.bool (if neg = true then !b else b)) := by
  obtain ⟨h1, h2, h3, h4, h5, h6⟩ := eql_shape h hu hv
  have hg : (eqGuard op t x y (a.eval x) (a.eval y)).run P w = .ok () w := by
    by_cases e : q = 5
    · exact eqGuard_nil (hc e) h5
    · exact eqGuard_plain (h6 e) h5
  have hb := bin_run (P := P) (w := w) (op := op) (by rw [ho]; cases neg <;> simp) (eqlEv_ok (P := P) (w := w) h hu hv hd hk) h1 h2 h3 h4
  refine ⟨.bool (if op = .neq then !b else b), by simp only [Sem.run_bind, hg, Result.andThen_ok, hb], ?_⟩
  simp only [VR]
  subst ho
  cases neg <;> rfl
theorem agg_full {neg : Bool} {t : TypeId} {idx : List (Nat × Nat)} {x y : Operand} {a : Act} {us vs : List AV} {b : Bool} (h : eqCells us vs idx = some b) (hu : VR K (.agg us) (a.eval x)) (hv : VR K (.agg vs) (a.eval y))
    (hp : eqPlan P 20 t 0 = some idx) (hg : P.eqGuardType P.depth t = false) (hs : ∃ fs, P.underlying t = some (.struct fs)) {op : BinOp} (ho : op = if neg then .neq else .eql) :
    Yields P (do eqGuard op t x y (a.eval x) (a.eval y); binOp op t (a.eval x) (a.eval y)) w K (.bool (if neg = true then !b else b)) := by
  simp only [VR] at hu hv
  obtain ⟨xs, e1, hx, _⟩ := hu
  obtain ⟨ys, e2, hy, _⟩ := hv
  obtain ⟨fs, hd⟩ := hs
  have hpart : ∀ xs : Array Value, PartAt P xs 0 t (.agg xs) := fun xs => by
    unfold PartAt; rw [hd]; exact ⟨xs, rfl, fun j _ => by rw [Nat.zero_add]⟩
  have he := eqPlan_ok (P := P) (K := K) (w := w) 20 t 0 idx 10000 hp (by decide) us vs xs ys (.agg xs) (.agg ys) b hx hy (hpart xs) (hpart ys) h
  have he' : (Op.equal t (.agg xs) (.agg ys)).run P w = .ok b w := he
  rw [e1, e2]
  have hb := bin_run (P := P) (w := w) (op := op) (by rw [ho]; cases neg <;> simp) he' (by simp) (by simp) (by simp) (by simp)
  refine ⟨.bool (if op = .neq then !b else b), by simp only [Sem.run_bind, run_eqGuard_agg w op t x y xs ys hg, Result.andThen_ok, hb], ?_⟩
  simp only [VR]
  subst ho
  cases neg <;> rfl
end
end Go.Am
