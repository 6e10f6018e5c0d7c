/- What the abstract machine's operations do, the model's do: those that look at their operands alone. Own work. -/
import Derived.Test.YtgbkpiaonlabgaaAmC
import Derived.Laws.Strings
import Derived.Laws.Slices
import Derived.Laws.Cells
import Derived.WideShapes
namespace Go.Am
set_option linter.unusedVariables false
set_option linter.unusedSimpArgs false
open Go

theorem avOf_ok {K : KM} {v : Value} {x : AV} (h : avOf v = some x) : VR K x v := by
  unfold avOf at h
  split at h <;> cases h <;> simp [VR]
theorem avOf_flat {v : Value} {x : AV} (h : avOf v = some x) : x.flat = true := by
  unfold avOf at h
  split at h <;> cases h <;> rfl
theorem avsOf_ok {K : KM} : ∀ {l : List Value} {xs : List AV}, avsOf l = some xs → VRs K xs l ∧ xs.all AV.flat = true
  | [], xs, h => by cases h; exact ⟨VRs.nil, rfl⟩
  | v :: l, xs, h => by
    unfold avsOf at h
    split at h
    · cases h
    · rename_i x hx
      split at h
      · cases h
      · rename_i vs hvs
        cases h
        have := avsOf_ok (K := K) hvs
        exact ⟨VRs.cons (avOf_ok hx) this.1, by simp [avOf_flat hx, this.2]⟩
section
variable {P : Program} {K : KM} {w : World}
theorem opd_ok {a : Act} {e : Env} (he : ER K e a.tmps) {o : Operand} {x : Opd} {v : AV} (h : compOpd o = some x) (hv : x.ev e = some v) : VR K v (a.eval o) := by
  cases o with
  | tmp t =>
    cases h
    obtain ⟨y, h1, h2⟩ := he t v hv
    simp only [Act.eval, Array.getD_eq_getD_getElem?, h1, Option.getD_some]; exact h2
  | const c =>
    simp only [compOpd] at h
    split at h
    · rename_i y hy
      cases h; cases hv; exact avOf_ok hy
    · cases h
  | func f =>
    cases h; cases hv
    simp only [VR, Act.eval]
    exact ⟨#[], rfl, VRs.nil⟩
  | global g => cases h
theorem opds_ok {a : Act} {e : Env} (he : ER K e a.tmps) : ∀ {l : List Operand} {xs : List Opd} {vs : List AV}, compOpds l = some xs → evs e xs = some vs → VRs K vs (l.map a.eval)
  | [], xs, vs, h, hv => by cases h; cases hv; exact VRs.nil
  | o :: l, xs, vs, h, hv => by
    unfold compOpds at h
    split at h
    · cases h
    · rename_i x hx
      split at h
      · cases h
      · rename_i ys hys
        cases h
        unfold evs at hv
        split at hv
        · cases hv
        · rename_i v hv1
          split at hv
          · cases hv
          · rename_i us hus
            cases hv
            exact VRs.cons (opd_ok he hx hv1) (opds_ok he hys hus)
theorem VRs.one {a : AV} {l : List Value} (h : VRs K [a] l) : ∃ x, l = [x] ∧ VR K a x := by
  simp only [VRs] at h
  obtain ⟨b, bs, rfl, h1, rfl⟩ := h
  exact ⟨b, rfl, h1⟩
theorem VRs.two {a b : AV} {l : List Value} (h : VRs K [a, b] l) : ∃ x y, l = [x, y] ∧ VR K a x ∧ VR K b y := by
  simp only [VRs] at h
  obtain ⟨x, _, rfl, h1, y, _, rfl, h2, rfl⟩ := h
  exact ⟨x, y, rfl, h1, h2⟩
theorem VRs.three {a b c : AV} {l : List Value} (h : VRs K [a, b, c] l) : ∃ x y z, l = [x, y, z] ∧ VR K a x ∧ VR K b y ∧ VR K c z := by
  simp only [VRs] at h
  obtain ⟨x, _, rfl, h1, y, _, rfl, h2, z, _, rfl, h3, rfl⟩ := h
  exact ⟨x, y, z, rfl, h1, h2, h3⟩
theorem VRs.uncons {a : AV} {as : List AV} {l : List Value} (h : VRs K (a :: as) l) : ∃ x xs, l = x :: xs ∧ VR K a x ∧ VRs K as xs := by
  simp only [VRs] at h; exact h
/-- The model's step yields a value in this world. -/
def Yields (P : Program) (s : Sem Value) (w : World) (K : KM) (v : AV) : Prop := ∃ v', s.run P w = .ok v' w ∧ VR K v v'
theorem size?_info {t n : Nat} (h : size? P t = some n) : ∃ i, P.info? t = some i ∧ i.size = n := by
  unfold size? at h; split at h
  · rename_i i hi; cases h; exact ⟨i, hi, rfl⟩
  · cases h
theorem bytes?_info {t n : Nat} (h : bytes? P t = some n) : ∃ i, P.info? t = some i ∧ i.bytes = n := by
  unfold bytes? at h; split at h
  · rename_i i hi; cases h; exact ⟨i, hi, rfl⟩
  · cases h
theorem run_sizeOf' {t n : Nat} (h : size? P t = some n) (w : World) : (sizeOf t).run P w = .ok n w := by
  obtain ⟨i, h1, h2⟩ := size?_info h
  simp [sizeOf, typeInfo, h1, h2]
theorem run_isAgg' {t : Nat} {b : Bool} (h : agg? P t = some b) (w : World) : (isAgg t).run P w = .ok b w := by
  unfold agg? at h
  unfold isAgg
  split at h
  · rename_i fs hd; cases h; simp [run_underlying hd]
  · rename_i n e hd; cases h; simp [run_underlying hd]
  · rename_i d hn1 hn2 hd
    cases h
    simp only [Sem.run_bind, run_underlying hd, Result.andThen_ok]
    rfl
  · cases h
theorem run_zeroOf {t : Nat} {z : List AV} (h : zeroOf P t = some z) (w : World) : ∃ v, (zeroValue t).run P w = .ok v w ∧ VRs K z v.cells.toList ∧ z.all AV.flat = true := by
  unfold zeroOf at h
  split at h
  · rename_i i hi
    split at h
    · rename_i v hv
      exact ⟨v, by simp [zeroValue, typeInfo, hi, hv], avsOf_ok h⟩
    · cases h
  · cases h
theorem run_zero1Of {t : Nat} {z : AV} (h : zero1Of P t = some z) (w : World) : Yields P (zeroValue t) w K z := by
  unfold zero1Of at h
  split at h
  · rename_i i hi
    split at h
    · rename_i cs hv
      split at h
      · rename_i vs hvs
        cases h
        have := avsOf_ok (K := K) hvs
        exact ⟨.agg cs, by simp [zeroValue, typeInfo, hi, hv], by simp only [VR]; exact ⟨cs, rfl, this.1, this.2⟩⟩
      · cases h
    · rename_i v _ hv
      exact ⟨v, by simp [zeroValue, typeInfo, hi, hv], avOf_ok h⟩
    · cases h
  · cases h
theorem binInt_ok {op : BinOp} {k : IntKind} {a b : Int} {v : AV} (h : binInt op k a b = some v) (hs : op ≠ .shl) (hs' : op ≠ .shr) (t : TypeId) : Yields P (binOp op t (.int k a) (.int k b)) w K v := by
  have hk : ¬ (k ≠ k) := by simp
  cases op <;> simp only [binInt] at h
  case shl => exact absurd rfl hs
  case shr => exact absurd rfl hs'
  case quo =>
    split at h
    · cases h
    · rename_i hb; cases h
      exact ⟨_, by unfold binOp; simp only [if_neg hk, Op.intDiv, if_neg hb]; rfl, by simp only [VR]⟩
  case rem =>
    split at h
    · cases h
    · rename_i hb; cases h
      exact ⟨_, by unfold binOp; simp only [if_neg hk, Op.intDiv, if_neg hb]; rfl, by simp only [VR]⟩
  case eql =>
    cases h
    refine ⟨.bool (a == b), by unfold binOp; simp only [if_neg hk]; rfl, ?_⟩
    simp only [VR]
    congr 1
  case neq =>
    cases h
    refine ⟨.bool (a != b), by unfold binOp; simp only [if_neg hk]; rfl, ?_⟩
    simp only [VR]
    congr 1
  all_goals (cases h; refine ⟨_, by unfold binOp; simp only [if_neg hk]; rfl, ?_⟩; simp only [VR])
theorem shiftInt_ok {op : BinOp} {k k' : IntKind} {a b : Int} {v : AV} (h : shiftInt op k a b = some v) (hs : op = .shl ∨ op = .shr) (t : TypeId) : Yields P (binOp op t (.int k a) (.int k' b)) w K v := by
  rcases hs with rfl | rfl
  · simp only [shiftInt] at h
    split at h
    · cases h
    · rename_i hb; cases h
      exact ⟨_, by simp only [binOp, Op.shift, if_neg hb]; rfl, by simp only [VR]⟩
  · simp only [shiftInt] at h
    split at h
    · cases h
    · rename_i hb; cases h
      exact ⟨_, by simp only [binOp, Op.shift, if_neg hb]; rfl, by simp only [VR]⟩
theorem binStr_ok {op : BinOp} {a b : List UInt8} {v : AV} (h : binStr op a b = some v) (t : TypeId) : Yields P (binOp op t (.string ⟨a.toArray⟩) (.string ⟨b.toArray⟩)) w K v := by
  have ha : (⟨a.toArray⟩ : ByteArray).toList = a := by rw [ByteArray.toList_eq]
  have hb : (⟨b.toArray⟩ : ByteArray).toList = b := by rw [ByteArray.toList_eq]
  cases op <;> simp only [binStr] at h
  case add =>
    split at h
    · rename_i hl
      cases h
      have h1 : ¬ (((ByteArray.size ⟨a.toArray⟩ + ByteArray.size ⟨b.toArray⟩ : Nat) : Int) > IntKind.i64.max) := by
        simp only [ByteArray.size, List.size_toArray]
        have : IntKind.i64.max = 9223372036854775807 := by decide
        omega
      refine ⟨_, by simp only [binOp, Op.stringOp, if_neg h1]; rfl, ?_⟩
      simp only [VR, Value.string.injEq]
      apply WideShapes.bytes_inj
      simp
    · cases h
  all_goals first
    | cases h; done
    | (cases h; refine ⟨_, by simp only [binOp, Op.stringOp, ha, hb]; rfl, ?_⟩; simp only [VR])
theorem binEv_ok {op : BinOp} {x y : AV} {v : AV} {x' y' : Value} (h : binEv op x y = some v) (hx : VR K x x') (hy : VR K y y') (t : TypeId) : Yields P (binOp op t x' y') w K v := by
  unfold binEv at h
  split at h
  · simp only [VR] at hx hy
    subst hx; subst hy
    split at h
    · exact shiftInt_ok h (.inl rfl) t
    · exact shiftInt_ok h (.inr rfl) t
    · rename_i h1 h2
      split at h
      · rename_i hk; subst hk; exact binInt_ok h h1 h2 t
      · cases h
  · simp only [VR] at hx hy
    subst hx; subst hy
    exact binStr_ok h t
  · cases h
theorem run_equal_one {t : TypeId} {d : TypeDesc} {x y : Value} {w : World} {r : Result Bool} (hd : P.underlying t = some d)
    (hr : (match d, x, y with
      | .bool, .bool a, .bool b => (pure (a == b) : Sem Bool).run P w
      | .pointer _, .pointer none, .pointer b => (pure b.isNone : Sem Bool).run P w
      | .pointer _, .pointer (some _), .pointer none => (pure false : Sem Bool).run P w
      | .interface _, .nilIface, .nilIface => (pure true : Sem Bool).run P w
      | .interface _, .nilIface, .iface _ _ | .interface _, .iface _ _, .nilIface => (pure false : Sem Bool).run P w
      | .slice _, .slice none _ _, .slice b _ _ => (pure b.isNone : Sem Bool).run P w
      | .slice _, .slice (some _) _ _, .slice none _ _ => (pure false : Sem Bool).run P w
      | .map _ _, .map none, .map b => (pure b.isNone : Sem Bool).run P w
      | .map _ _, .map (some _), .map none => (pure false : Sem Bool).run P w
      | .func _ _ _, .nilFunc, .nilFunc => (pure true : Sem Bool).run P w
      | .func _ _ _, .nilFunc, .func _ _ _ | .func _ _ _, .func _ _ _, .nilFunc => (pure false : Sem Bool).run P w
      | _, _, _ => .halt (.stuck "") w) = r) (hok : ∃ b, r = .ok b w) : (Op.equal t x y).run P w = r := by
  have e : Op.equal t x y = Op.equalIn (9999 + 1) t x y := rfl
  rw [e]
  unfold Op.equalIn
  rw [Sem.run_bind, run_underlying hd]
  obtain ⟨b, rfl⟩ := hok
  split at hr <;> first | exact hr | cases hr
/-- Which kind a type's single values are, for equality. -/
def eqKind : TypeDesc → Option Nat
  | .bool => some 0
  | .pointer _ => some 1
  | .slice _ => some 2
  | .map _ _ => some 3
  | .func _ _ _ => some 4
  | .interface _ => some 5
  | _ => none
theorem eqlEv_ok {q : Nat} {x y : AV} {b : Bool} {x' y' : Value} (h : eqlEv q x y = some b) (hx : VR K x x') (hy : VR K y y') {t : TypeId} {d : TypeDesc} (hd : P.underlying t = some d)
    (hs : eqKind d = some q) : (Op.equal t x' y').run P w = .ok b w := by
  unfold eqlEv at h
  split at h <;> first | (cases h; done) | skip
  all_goals cases h
  all_goals simp only [VR] at hx hy
  all_goals cases d <;> simp [eqKind] at hs
  · subst hx; subst hy; exact run_equal_one hd rfl ⟨_, rfl⟩
  · subst hx; subst hy; exact run_equal_one hd rfl ⟨_, rfl⟩
  · obtain ⟨a, i, rfl, _⟩ := hy; subst hx; exact run_equal_one hd rfl ⟨_, rfl⟩
  · obtain ⟨a, i, rfl, _⟩ := hx; subst hy; exact run_equal_one hd rfl ⟨_, rfl⟩
  · subst hx; subst hy; exact run_equal_one hd rfl ⟨_, rfl⟩
  · obtain ⟨a, c, i, rfl, _⟩ := hy; subst hx; exact run_equal_one hd rfl ⟨_, rfl⟩
  · obtain ⟨a, c, i, rfl, _⟩ := hx; subst hy; exact run_equal_one hd rfl ⟨_, rfl⟩
  · subst hx; subst hy; exact run_equal_one hd rfl ⟨_, rfl⟩
  · obtain ⟨a, i, rfl, _⟩ := hy; subst hx; exact run_equal_one hd rfl ⟨_, rfl⟩
  · obtain ⟨a, i, rfl, _⟩ := hx; subst hy; exact run_equal_one hd rfl ⟨_, rfl⟩
  · subst hx; subst hy; exact run_equal_one hd rfl ⟨_, rfl⟩
  · obtain ⟨a, rfl, _⟩ := hy; subst hx; exact run_equal_one hd rfl ⟨_, rfl⟩
  · obtain ⟨a, rfl, _⟩ := hx; subst hy; exact run_equal_one hd rfl ⟨_, rfl⟩
  · subst hx; subst hy; exact run_equal_one hd rfl ⟨_, rfl⟩
  · obtain ⟨a, rfl, _⟩ := hy; subst hx; exact run_equal_one hd rfl ⟨_, rfl⟩
  · obtain ⟨a, rfl, _⟩ := hx; subst hy; exact run_equal_one hd rfl ⟨_, rfl⟩
end
end Go.Am
