/- All operations that look at their operands alone, as one theorem. Own work. -/
import Derived.Test.YtgbkpiaonlabgaaAmH
namespace Go.Am
set_option linter.unusedVariables false
set_option linter.unusedSimpArgs false
open Go
section
variable {P : Program} {K : KM} {w : World}
theorem un_ok {op : UnOp} {x v : AV} {x' : Value} (h : unEv op x = some v) (hx : VR K x x') : Yields P (Op.unary op x') w K v := by
  unfold unEv at h
  split at h
  · simp only [VR] at hx; subst hx
    split at h
    · cases h; exact ⟨_, rfl, by simp only [VR]⟩
    · cases h; exact ⟨_, rfl, by simp only [VR]⟩
    · cases h
  · simp only [VR] at hx; subst hx
    split at h
    · cases h; exact ⟨_, rfl, by simp only [VR]⟩
    · cases h
  · cases h
theorem strIdx_ok {s : List UInt8} {i : Int} {k : IntKind} {b : UInt8} (h0 : 0 ≤ i) (h : s[i.toNat]? = some b) {t : TypeId} (hd : P.underlying t = some .string) :
    Yields P (Instr.index t (.string ⟨s.toArray⟩) (.int k i)) w K (.int .u8 b.toNat) := by
  have hlt : i.toNat < s.length := by
    rcases Nat.lt_or_ge i.toNat s.length with h1 | h1
    · exact h1
    · rw [List.getElem?_eq_none h1] at h; cases h
  have e : (⟨s.toArray⟩ : ByteArray)[i.toNat]? = some b := by
    rw [ByteArray.getElem?_lt' _ _ (by simpa [ByteArray.size] using hlt)]
    rw [List.getElem?_eq_getElem hlt] at h
    cases h
    rfl
  refine ⟨.int .u8 b.toNat, ?_, by simp only [VR]⟩
  unfold Instr.index
  simp only [asIntOf, Sem.run_bind, Sem.run_pure, Result.andThen_ok, run_underlying hd, if_pos h0, e]
theorem strSlice_ok {s : List UInt8} {l h : Nat} {lo hi : Option Value} (hl : IsBound lo 0 l) (hh : IsBound hi s.length h) (h1 : l ≤ h) (h2 : h ≤ s.length) {t : TypeId} (hd : P.underlying t = some .string) :
    Yields P (Instr.sliceAt t (.string ⟨s.toArray⟩) lo hi none) w K (.str ((s.take h).drop l)) := by
  refine ⟨.string ((⟨s.toArray⟩ : ByteArray).extract l h), ?_, ?_⟩
  · unfold Instr.sliceAt
    simp only [Sem.run_bind, run_underlying hd, Result.andThen_ok]
    unfold Instr.slice
    simp only [Sem.run_bind, run_underlying hd, Result.andThen_ok]
    have hb := run_bounds (P := P) (w := w) (isSl := false) (cap := s.length) (len := s.length) hl hh h1 h2
    simp only [Option.isSome_none, Bool.false_eq_true, if_false, Sem.run_bind, Sem.run_pure, Result.andThen_ok]
    have e : (⟨s.toArray⟩ : ByteArray).size = s.length := by simp [ByteArray.size]
    rw [e, hb]; rfl
  · simp only [VR, Value.string.injEq]
    apply WideShapes.bytes_inj
    simp [ByteArray.data_extract, List.extract_eq_take_drop, List.drop_take]
theorem lenInt {n : Nat} {v : AV} (h : v = .int .i64 n) : VR K v (goInt n) := by subst h; simp only [VR, goInt]
/-- The step of an operation yields a value in this world. -/
def StepsTo (P : Program) (a : Act) (o : Oper) (w : World) (K : KM) (v : AV) : Prop := ∃ v', (execOp a.eval o).run P w = .ok (.value v') w ∧ VR K v v'
theorem min_run {k : IntKind} {a b : Int} {as : Array TypeId} {t : TypeId} : (Builtin.min_ as t #[.int k a, .int k b]).run P w = .ok (.int k (if b < a then b else a)) w := rfl
theorem max_run {k : IntKind} {a b : Int} {as : Array TypeId} {t : TypeId} : (Builtin.max_ as t #[.int k a, .int k b]).run P w = .ok (.int k (if b > a then b else a)) w := rfl
theorem posB_and {n m : Nat} {α : Type} {x y : α} (h : (if (posB n && posB m) = true then some x else none) = some y) : posB n = true ∧ posB m = true ∧ x = y := by
  split at h
  · rename_i hb; simp only [Bool.and_eq_true] at hb; cases h; exact ⟨hb.1, hb.2, rfl⟩
  · cases h
theorem len_step {P : Program} {K : KM} {w : World} {x : AV} {x' : Value} {q : POp} {ts : List TypeId} (h : compBuiltin P .len ts = some (.p q)) {v : AV} (hv : q.ev [x] = some v) (hx : VR K x x') (ty : TypeId) :
    Yields P (Builtin.len_ ts.toArray ty #[x']) w K v := by
  match ts, h with
  | [t], h =>
    simp only [compBuiltin] at h
    split at h
    · rename_i hd; cases h
      cases x <;> first | (simp only [POp.ev] at hv; cases hv; done) | skip
      simp only [POp.ev] at hv
      cases hv
      simp only [VR] at hx; subst hx
      refine ⟨_, by unfold Builtin.len_; simp [run_underlying hd]; rfl, ?_⟩
      simp [VR, goInt, ByteArray.size]
    · rename_i e hd; cases h
      simp only [POp.ev] at hv
      split at hv
      · rename_i hs
        cases hv
        cases x <;> simp only [AV.isSlice, Bool.false_eq_true] at hs
        · simp only [VR] at hx; subst hx
          exact ⟨_, by unfold Builtin.len_; simp [run_underlying hd]; rfl, by simp [VR, goInt, AV.slen]⟩
        · simp only [VR] at hx
          obtain ⟨a, c, i, rfl, _⟩ := hx
          exact ⟨_, by unfold Builtin.len_; simp [run_underlying hd]; rfl, by simp [VR, goInt, AV.slen]⟩
      · cases hv
    · rename_i n e hd; cases h
      simp only [POp.ev] at hv
      cases hv
      exact ⟨_, by unfold Builtin.len_; simp [run_underlying hd]; rfl, by simp [VR, goInt]⟩
    · cases h
    · cases h
theorem bin_case {op op' : BinOp} {t : TypeId} {x y : Operand} {a : Act} {vs : List AV} {v : AV} (hop : op' = op) (hv : (POp.bin op').ev vs = some v) (hvs : VRs K vs [a.eval x, a.eval y]) :
    Yields P (do eqGuard op t x y (a.eval x) (a.eval y); binOp op t (a.eval x) (a.eval y)) w K v := by
  subst hop
  rcases vs with _ | ⟨u, _ | ⟨u', _ | ⟨u'', r⟩⟩⟩ <;> simp only [POp.ev] at hv <;> first | (cases hv; done) | skip
  obtain ⟨x', y', e, h1, h2⟩ := hvs.two
  simp only [List.cons.injEq, and_true] at e
  obtain ⟨rfl, rfl⟩ := e
  exact bin_full hv h1 h2
theorem plainEq_case {op : BinOp} {neg : Bool} (ho : op = if neg then .neq else .eql) {t : TypeId} {x y : Operand} {a : Act} {q : POp} (h : plainEq P t neg op x y = some (.p q)) {vs : List AV} {v : AV} (hv : q.ev vs = some v) (hvs : VRs K vs [a.eval x, a.eval y]) :
    Yields P (do eqGuard op t x y (a.eval x) (a.eval y); binOp op t (a.eval x) (a.eval y)) w K v := by
  have eql_case : ∀ (d : TypeDesc) (n : Nat), P.underlying t = some d → eqKind d = some n → q = .eql neg n → (n = 5 → (isConstO x || isConstO y) = true) →
      Yields P (do eqGuard op t x y (a.eval x) (a.eval y); binOp op t (a.eval x) (a.eval y)) w K v := by
    intro d n hd hk hq hc
    subst hq
    rcases vs with _ | ⟨u, _ | ⟨u', _ | ⟨u'', r⟩⟩⟩ <;> simp only [POp.ev] at hv <;> first | (cases hv; done) | skip
    obtain ⟨x', y', e, h1, h2⟩ := hvs.two
    simp only [List.cons.injEq, and_true] at e
    obtain ⟨rfl, rfl⟩ := e
    split at hv
    · rename_i b hb
      cases hv
      exact eql_full hb h1 h2 hd hk hc ho
    · cases hv
  unfold plainEq at h
  split at h
  · cases h; exact bin_case rfl hv hvs
  · cases h; exact bin_case rfl hv hvs
  · rename_i hd; cases h; exact eql_case _ 0 hd rfl rfl (by simp)
  · rename_i hd; cases h; exact eql_case _ 1 hd rfl rfl (by simp)
  · rename_i hd; cases h; exact eql_case _ 2 hd rfl rfl (by simp)
  · rename_i hd; cases h; exact eql_case _ 3 hd rfl rfl (by simp)
  · rename_i hd; cases h; exact eql_case _ 4 hd rfl rfl (by simp)
  · rename_i hd
    split at h
    · rename_i hc; cases h; exact eql_case _ 5 hd rfl rfl (fun _ => hc)
    · cases h
  · rename_i fs hd
    cases hg : P.eqGuardType P.depth t with
    | true => rw [hg] at h; cases h
    | false =>
      rw [hg, cond_false] at h
      split at h
      · rename_i idx hp
        cases h
        rcases vs with _ | ⟨u, _ | ⟨u', _ | ⟨u'', r⟩⟩⟩
        · simp only [POp.ev] at hv; cases hv
        · cases u <;> simp only [POp.ev] at hv <;> cases hv
        · obtain ⟨x', y', e, h1, h2⟩ := hvs.two
          simp only [List.cons.injEq, and_true] at e
          obtain ⟨rfl, rfl⟩ := e
          cases u <;> first | (simp only [POp.ev] at hv; cases hv; done) | skip
          cases u' <;> first | (simp only [POp.ev] at hv; cases hv; done) | skip
          simp only [POp.ev] at hv
          split at hv
          · rename_i b hb
            cases hv
            exact agg_full hb h1 h2 hp hg ⟨fs, hd⟩ ho
          · cases hv
        · cases u <;> (simp only [POp.ev] at hv; cases hv)
      · cases h
  · cases h
end
end Go.Am
