/- All operations that look at their operands alone, as one theorem. Own work. -/
import Derived.Test.YtgbkpiaonlabgaaAmG
namespace Go.Am
set_option linter.unusedVariables false
set_option linter.unusedSimpArgs false
open Go
section
variable {P : Program} {K : KM} {w : World}
/-- What a bound is: told, or the end. -/
def IsBound (x : Option Value) (d n : Nat) : Prop := (x = none ∧ n = d) ∨ ∃ k i, x = some (.int k i) ∧ 0 ≤ i ∧ i.toNat = n
theorem run_bounds {isSl : Bool} {len cap l h : Nat} {lo hi : Option Value} (hl : IsBound lo 0 l) (hh : IsBound hi len h) (h1 : l ≤ h) (h2 : h ≤ cap) :
    (Instr.sliceBounds isSl len cap lo hi none).run P w = .ok (l, h, cap) w := by
  unfold Instr.sliceBounds
  have e : ∀ k i y code, 0 ≤ i → i.toNat ≤ y → (Instr.sliceBound (.int k i) y code).run P w = .ok i.toNat w := fun k i y code h0 hy => by
    unfold Instr.sliceBound
    simp only [asIntOf, Sem.run_bind, Sem.run_pure, Result.andThen_ok, Sem.run_ite]
    rw [if_pos ⟨h0, by omega⟩]
  rcases hl with ⟨rfl, rfl⟩ | ⟨kl, il, rfl, hl0, rfl⟩ <;> rcases hh with ⟨rfl, rfl⟩ | ⟨kh, ih, rfl, hh0, rfl⟩
  · simp only [Sem.run_bind, Sem.run_pure, Result.andThen_ok]
  · simp only [Sem.run_bind, Sem.run_pure, Result.andThen_ok, e _ _ _ _ hh0 h2]
  · simp only [Sem.run_bind, Sem.run_pure, Result.andThen_ok, e _ _ _ _ hl0 h1]
  · simp only [Sem.run_bind, Sem.run_pure, Result.andThen_ok, e _ _ _ _ hh0 h2, e _ _ _ _ hl0 h1]
theorem bounds_ok {lo hi : Option Operand} {vs vs' : List AV} {a : Act} {l h d : Nat} (hv : VRs K vs ((consIf lo (consIf hi [])).map a.eval)) (hl : boundLo (isSome' lo) vs = some (l, vs')) (hh : boundHi d (isSome' hi) vs' = some h) :
    IsBound (lo.map a.eval) 0 l ∧ IsBound (hi.map a.eval) d h := by
  have hi_ok : ∀ vs', VRs K vs' ((consIf hi []).map a.eval) → boundHi d (isSome' hi) vs' = some h → IsBound (hi.map a.eval) d h := by
    intro vs' hv hh
    cases hi with
    | none =>
      simp only [consIf, List.map_nil, VRs] at hv
      simp only [isSome', boundHi] at hh
      cases vs' with
      | nil => cases hh; exact .inl ⟨rfl, rfl⟩
      | cons _ _ => cases hh
    | some y =>
      simp only [isSome'] at hh
      simp only [consIf, List.map_cons, List.map_nil] at hv
      unfold boundHi at hh
      split at hh
      · rename_i he; cases he
      · split at hh
        · rename_i i hi0
          cases hh
          obtain ⟨x, e, h1⟩ := hv.one
          simp only [List.cons.injEq, and_true] at e
          simp only [VR] at h1
          exact .inr ⟨_, _, by rw [Option.map_some, e, h1], hi0, rfl⟩
        · cases hh
      · cases hh
  cases lo with
  | none =>
    simp only [isSome', boundLo] at hl
    cases hl
    exact ⟨.inl ⟨rfl, rfl⟩, hi_ok _ hv hh⟩
  | some y =>
    simp only [isSome'] at hl
    simp only [consIf, List.map_cons] at hv
    unfold boundLo at hl
    split at hl
    · rename_i he; cases he
    · split at hl
      · rename_i i us hi0
        cases hl
        obtain ⟨x, xs, e, h1, h2⟩ := hv.uncons
        simp only [List.cons.injEq] at e
        obtain ⟨e1, e2⟩ := e
        subst e2
        simp only [VR] at h1
        exact ⟨.inr ⟨_, _, by rw [Option.map_some, e1, h1], hi0, rfl⟩, hi_ok _ h2 hh⟩
      · cases hl
    · cases hl
theorem add_eq (b off n : Nat) : (Addr.add ⟨b, off, none⟩ n) = ⟨b, off + n, none⟩ := by
  unfold Addr.add; split
  · rename_i h; subst h; rfl
  · rfl
theorem sub_ok {s : AV} {x : Value} {esz l h : Nat} (hs : VR K s x) (he : s.hasEsz esz = true) (h1 : l ≤ h) (h2 : h ≤ s.slen) {t e : TypeId} (hd : P.underlying t = some (.slice e)) (hz : size? P e = some esz) {lo hi : Option Value}
    (hl : IsBound lo 0 l) (hh : IsBound hi s.slen h) : Yields P (Instr.sliceAt t x lo hi none) w K (s.sub esz l h) := by
  cases s <;> simp only [AV.hasEsz, Bool.false_eq_true] at he
  case nilSlice =>
    simp only [VR] at hs; subst hs
    simp only [AV.slen] at h2 hh
    have e1 : h = 0 := by omega
    have e2 : l = 0 := by omega
    subst e1; subst e2
    refine ⟨.slice none 0 0, ?_, by simp only [AV.sub, VR]⟩
    unfold Instr.sliceAt
    simp only [Sem.run_bind, run_underlying hd, Result.andThen_ok]
    unfold Instr.slice
    simp only [Sem.run_bind, run_underlying hd, Result.andThen_ok, run_bounds hl hh h1 (Nat.le_refl _), run_sizeOf' hz]
    rfl
  case slice o v f n z =>
    have he' := Nat.eq_of_beq_eq_true he
    subst he'
    simp only [VR] at hs
    obtain ⟨a, c, i, rfl, hK, hn, hv, hg⟩ := hs
    simp only [AV.slen] at h2 hh
    refine ⟨.slice (some (if c = l then a else a.add (l * z))) (h - l) (c - l), ?_, ?_⟩
    · unfold Instr.sliceAt
      simp only [Sem.run_bind, run_underlying hd, Result.andThen_ok]
      unfold Instr.slice
      simp only [Sem.run_bind, run_underlying hd, Result.andThen_ok, run_bounds hl hh h1 (Nat.le_trans h2 hn), run_sizeOf' hz]
      by_cases hc : c = l
      · simp only [if_pos hc]; rfl
      · simp only [if_neg hc]; rfl
    · simp only [AV.sub, VR]
      refine ⟨_, _, i, rfl, hK, by omega, hv, fun e => ?_⟩
      obtain ⟨g1, g2⟩ := hg e
      refine ⟨?_, fun hc => ?_⟩
      · have : l * z + (c - l) * z = c * z := by rw [← Nat.add_mul]; congr 1; omega
        omega
      · rw [if_neg (by omega), g2 (by omega), add_eq, Nat.add_assoc]
theorem at_ok {s : AV} {x : Value} {esz : Nat} {i : Int} {k : IntKind} (hs : VR K s x) (h : s.isSlice = true ∧ 0 ≤ i ∧ i < s.slen) {t e : TypeId} (hd : P.underlying t = some (.slice e)) (hz : size? P e = some esz) :
    Yields P (Instr.indexAt t x (.int k i)) w K (s.at (i.toNat * esz)) := by
  obtain ⟨h1, h2, h3⟩ := h
  cases s <;> simp only [AV.isSlice, Bool.false_eq_true] at h1
  case nilSlice => simp only [AV.slen] at h3; omega
  case slice o v f n z =>
    simp only [VR] at hs
    obtain ⟨a, c, inf, rfl, hK, hn, hv, hg⟩ := hs
    simp only [AV.slen] at h3
    refine ⟨.pointer (some (a.add (i.toNat * esz))), ?_, ?_⟩
    · unfold Instr.indexAt
      simp only [asIntOf, Sem.run_bind, Sem.run_pure, Result.andThen_ok, run_underlying hd]
      rw [if_pos ⟨h2, h3⟩]
      simp only [Sem.run_bind, run_sizeOf' hz, Result.andThen_ok, Sem.run_pure]
    · simp only [AV.at, VR]
      refine ⟨_, inf, rfl, hK, hv, fun e => ?_⟩
      obtain ⟨g1, g2⟩ := hg e
      rw [g2 (by omega), add_eq, Nat.add_assoc]
theorem atArr_ok {o v f len esz : Nat} {x : Value} {i : Int} {k : IntKind} (hs : VR K (.ptr o v f) x) (h : 0 ≤ i ∧ i < len) {t e : TypeId} (hd : P.underlying t = some (.array len e)) (hz : size? P e = some esz) :
    Yields P (Instr.indexAt t x (.int k i)) w K (.ptr o v (f + i.toNat * esz)) := by
  simp only [VR] at hs
  obtain ⟨a, inf, rfl, hK, hv, hg⟩ := hs
  refine ⟨.pointer (some (a.add (i.toNat * esz))), ?_, ?_⟩
  · unfold Instr.indexAt
    simp only [asIntOf, Sem.run_bind, Sem.run_pure, Result.andThen_ok, run_underlying hd, Instr.sureAddr]
    rw [if_pos h]
    simp only [Sem.run_bind, run_sizeOf' hz, Result.andThen_ok, Sem.run_pure]
  · simp only [VR]
    exact ⟨_, inf, rfl, hK, hv, fun e => by rw [hg e, add_eq, Nat.add_assoc]⟩
theorem field_ok {o v f : Nat} {x : Value} (hs : VR K (.ptr o v f) x) {t j n : Nat} {fs : Array Field} {fd : Field} (hd : P.underlying t = some (.struct fs)) (hf : fs[j]? = some fd) (hz : size? P fd.type = some n) (hp : posB n = true) :
    Yields P (Instr.fieldAt t x j) w K (.ptr o v (f + fd.offset)) := by
  simp only [VR] at hs
  obtain ⟨a, inf, rfl, hK, hv, hg⟩ := hs
  have hn : ¬ (n = 0) := by have := Nat.le_of_ble_eq_true hp; omega
  refine ⟨.pointer (some (a.add fd.offset)), ?_, ?_⟩
  · unfold Instr.fieldAt
    simp only [Sem.run_bind, run_underlying hd, Result.andThen_ok, hf, Instr.sureAddr, Sem.run_pure, fieldPlace, run_sizeOf' hz, if_neg hn]
  · simp only [VR]
    exact ⟨_, inf, rfl, hK, hv, fun e => by rw [hg e, add_eq, Nat.add_assoc]⟩
theorem part1_ok {cs : List AV} {xs : Array Value} {off t : Nat} {v : AV} (hx : VRs K cs xs.toList) (h : cs[off]? = some v) (ha : agg? P t = some false) : Yields P (part t xs off) w K v := by
  obtain ⟨u, h1, h2⟩ := hx.get off v h
  rw [Array.getElem?_toList] at h1
  exact ⟨u, by unfold part; simp only [Sem.run_bind, run_isAgg' ha, Result.andThen_ok, Bool.false_eq_true, if_false, h1]; rfl, h2⟩
theorem all_flat_drop_take {cs : List AV} (h : cs.all AV.flat = true) (a n : Nat) : ((cs.drop a).take n).all AV.flat = true := by
  rw [List.all_eq_true] at *
  exact fun x hx => h x (List.mem_of_mem_drop (List.mem_of_mem_take hx))
theorem partN_ok {cs : List AV} {xs : Array Value} {off t n : Nat} (hx : VRs K cs xs.toList) (hf : cs.all AV.flat = true) (ha : agg? P t = some true) (hz : size? P t = some n) :
    Yields P (part t xs off) w K (.agg ((cs.drop off).take n)) := by
  refine ⟨.agg (xs.extract off (off + n)), by unfold part; simp only [Sem.run_bind, run_isAgg' ha, Result.andThen_ok, if_true, run_sizeOf' hz]; rfl, ?_⟩
  simp only [VR]
  refine ⟨_, rfl, ?_, all_flat_drop_take hf _ _⟩
  have e : (xs.extract off (off + n)).toList = (xs.toList.drop off).take n := by
    rw [Array.toList_extract, List.extract_eq_take_drop]; congr 1; omega
  rw [e]
  exact (hx.drop off).take n
end
end Go.Am
