/- The same: equality of structs; slices, fields, indexes; then all of them as one theorem. Own work. -/
import Derived.Test.YtgbkpiaonlabgaaAmE
import Derived.Laws.StructEq
namespace Go.Am
set_option linter.unusedVariables false
set_option linter.unusedSimpArgs false
open Go
section
variable {P : Program} {K : KM} {w : World}
def PartAt (P : Program) (xs : Array Value) (off : Nat) (t : TypeId) (x' : Value) : Prop :=
  match P.underlying t with
  | some (.struct _) => ∃ xs', x' = .agg xs' ∧ ∀ j, j < P.cellsOf t → xs'[j]? = xs[off + j]?
  | _ => xs[off]? = some x'
theorem eqCells_append {cs ds : List AV} : ∀ {a b : List (Nat × Nat)} {r : Bool}, eqCells cs ds (a ++ b) = some r → ∃ r1 r2, eqCells cs ds a = some r1 ∧ eqCells cs ds b = some r2 ∧ r = (r1 && r2)
  | [], b, r, h => ⟨true, r, rfl, h, by simp⟩
  | (i, q) :: a, b, r, h => by
    simp only [List.cons_append, eqCells] at h
    split at h
    · rename_i x y hx hy
      split at h
      · cases h
      · rename_i q hq
        split at h
        · cases h
        · rename_i c hc
          cases h
          obtain ⟨r1, r2, h1, h2, h3⟩ := eqCells_append hc
          exact ⟨q && r1, r2, by simp only [eqCells, hx, hy, hq, h1], h2, by rw [h3, Bool.and_assoc]⟩
    · cases h
theorem eqCells_one {cs ds : List AV} {i q : Nat} {r : Bool} (h : eqCells cs ds [(i, q)] = some r) : ∃ x y, cs[i]? = some x ∧ ds[i]? = some y ∧ eqCell q x y = some r := by
  simp only [eqCells] at h
  split at h
  · rename_i x y hx hy
    split at h
    · cases h
    · rename_i q hq; simp at h; subst h; exact ⟨x, y, hx, hy, hq⟩
  · cases h
/-- Which kind a type's single values are. -/
def kindOf : TypeDesc → Option Nat
  | .bool => some 0
  | .int _ => some 1
  | .string => some 2
  | _ => none
theorem eqCell_ok {q : Nat} {x y : AV} {b : Bool} {x' y' : Value} (h : eqCell q x y = some b) (hx : VR K x x') (hy : VR K y y') {n : Nat} {t : TypeId} (d : TypeDesc) (hd : P.underlying t = some d)
    (hs : kindOf d = some q) : (Op.equalIn (n + 1) t x' y').run P w = .ok b w := by
  unfold eqCell at h
  split at h
  · simp only [VR] at hx hy; subst hx; subst hy; cases h
    cases d <;> simp [kindOf] at hs
    exact run_equalIn_bool' w n t _ _ hd
  · simp only [VR] at hx hy; subst hx; subst hy
    split at h
    · rename_i hk; subst hk; cases h
      cases d <;> simp [kindOf] at hs
      rw [run_equalIn_int w n t _ _ _ _ hd]
      congr 1
    · cases h
  · simp only [VR] at hx hy; subst hx; subst hy; cases h
    cases d <;> simp [kindOf] at hs
    rw [run_equalIn_string w n t _ _ hd, ByteArray.toList_eq, ByteArray.toList_eq]
  · cases h
theorem extract_get (xs : Array Value) (a n j : Nat) (h : j < n) : (xs.extract a (a + n))[j]? = xs[a + j]? := by
  rw [Array.getElem?_extract]
  split
  · rfl
  · rename_i hh
    rw [Array.getElem?_eq_none]
    omega
theorem eqPlan_ok : ∀ (d : Nat) (t off : Nat) (idx : List (Nat × Nat)) (n : Nat), eqPlan P d t off = some idx → d ≤ n → ∀ (cs ds : List AV) (xs ys : Array Value) (x' y' : Value) (b : Bool), VRs K cs xs.toList → VRs K ds ys.toList →
    PartAt P xs off t x' → PartAt P ys off t y' → eqCells cs ds idx = some b → (Op.equalIn n t x' y').run P w = .ok b w
  | 0, t, off, idx, n, h, _, _, _, _, _, _, _, _, _, _, _, _, _ => by cases h
  | d + 1, t, off, idx, n, h, hn, cs, ds, xs, ys, x', y', b, hx, hy, px, py, he => by
    obtain ⟨n, rfl⟩ : ∃ m, n = m + 1 := ⟨n - 1, by omega⟩
    have single : ∀ (q : Nat) (dd : TypeDesc), P.underlying t = some dd → kindOf dd = some q → idx = [(off, q)] → (∀ fs, dd ≠ .struct fs) → (Op.equalIn (n + 1) t x' y').run P w = .ok b w := by
      intro q dd hd hk hidx hns
      subst hidx
      obtain ⟨x, y, h1, h2, h3⟩ := eqCells_one he
      have px' : xs[off]? = some x' := by
        unfold PartAt at px; rw [hd] at px
        cases dd <;> first | exact px | exact absurd rfl (hns _)
      have py' : ys[off]? = some y' := by
        unfold PartAt at py; rw [hd] at py
        cases dd <;> first | exact py | exact absurd rfl (hns _)
      obtain ⟨x2, e1, e2⟩ := hx.get off x h1
      obtain ⟨y2, f1, f2⟩ := hy.get off y h2
      rw [Array.getElem?_toList, px'] at e1
      rw [Array.getElem?_toList, py'] at f1
      cases e1; cases f1
      exact eqCell_ok h3 e2 f2 dd hd hk
    unfold eqPlan at h
    split at h
    · rename_i hd; cases h; exact single 0 _ hd rfl rfl (fun _ h => by cases h)
    · rename_i k hd; cases h; exact single 1 _ hd rfl rfl (fun _ h => by cases h)
    · rename_i hd; cases h; exact single 2 _ hd rfl rfl (fun _ h => by cases h)
    · rename_i fs hd
      cases hst : P.stoodInHeld t with
      | true => rw [hst] at h; cases h
      | false =>
        rw [hst, cond_false] at h
        unfold PartAt at px py
        rw [hd] at px py
        obtain ⟨xs', rfl, gx⟩ := px
        obtain ⟨ys', rfl, gy⟩ := py
        have hfo : P.fieldsOf t = fs := by simp [Program.fieldsOf, hd]
        rw [run_equalIn_struct w n t xs' ys' (by rw [hfo]; exact hd) hst, hfo]
        have key : ∀ (l : List Field) (idx : List (Nat × Nat)) (b : Bool), l.foldr (fun f acc => if f.name = "_" ∨ ¬ (f.offset + P.cellsOf f.type ≤ P.cellsOf t ∧ 1 ≤ P.cellsOf f.type) then none else match eqPlan P d f.type (off + f.offset), acc with
            | some a, some b => some (a ++ b)
            | _, _ => none) (some []) = some idx → eqCells cs ds idx = some b → (Op.eqFields n xs' ys' l).run P w = .ok b w := by
          intro l
          induction l with
          | nil => intro idx b h he; cases h; cases he; rfl
          | cons f l ih =>
            intro idx b h he
            simp only [List.foldr_cons] at h
            split at h
            · cases h
            · rename_i hnm
              split at h
              · rename_i a c ha hc
                cases h
                obtain ⟨r1, r2, h1, h2, rfl⟩ := eqCells_append he
                have hnm1 : f.name ≠ "_" := fun e => hnm (.inl e)
                have hnm2 : f.offset + P.cellsOf f.type ≤ P.cellsOf t ∧ 1 ≤ P.cellsOf f.type := Classical.not_not.1 fun e => hnm (.inr e)
                have getp : ∀ (cs : List AV) (xs xs' : Array Value), VRs K cs xs.toList → (∀ j, j < P.cellsOf t → xs'[j]? = xs[off + j]?) → (∀ i q, eqPlan P d f.type (off + f.offset) = some [(i, q)] → ∃ x, cs[i]? = some x) → ∃ u, (part f.type xs' f.offset).run P w = .ok u w ∧ PartAt P xs (off + f.offset) f.type u := by
                  intro cs xs xs' hx gx hsome
                  unfold PartAt
                  cases d with
                  | zero => cases ha
                  | succ d =>
                    have ha' := ha
                    unfold eqPlan at ha
                    have scal : ∀ q dd, P.underlying f.type = some dd → (∀ fs, dd ≠ .struct fs) → (∀ n e, dd ≠ .array n e) → eqPlan P (d + 1) f.type (off + f.offset) = some [(off + f.offset, q)] →
                        ∃ u, (part f.type xs' f.offset).run P w = .ok u w ∧ xs[off + f.offset]? = some u := by
                      intro q dd hdd n1 n2 hp
                      obtain ⟨x, hx1⟩ := hsome _ _ hp
                      obtain ⟨u, hu1, hu2⟩ := hx.get _ _ hx1
                      rw [Array.getElem?_toList] at hu1
                      have hag : agg? P f.type = some false := by
                        unfold agg?; rw [hdd]
                        cases dd <;> first | rfl | exact absurd rfl (n1 _) | exact absurd rfl (n2 _ _)
                      refine ⟨u, ?_, hu1⟩
                      unfold part
                      simp only [Sem.run_bind, run_isAgg' hag, Result.andThen_ok, Bool.false_eq_true, if_false]
                      rw [gx f.offset (by omega), hu1]; rfl
                    split at ha
                    · rename_i hdd; rw [hdd]; exact scal 0 _ hdd (fun _ h => by cases h) (fun _ _ h => by cases h) (by rw [ha']; exact ha.symm)
                    · rename_i k hdd; rw [hdd]; exact scal 1 _ hdd (fun _ h => by cases h) (fun _ _ h => by cases h) (by rw [ha']; exact ha.symm)
                    · rename_i hdd; rw [hdd]; exact scal 2 _ hdd (fun _ h => by cases h) (fun _ _ h => by cases h) (by rw [ha']; exact ha.symm)
                    · rename_i fs2 hdd
                      rw [hdd]
                      have hag : agg? P f.type = some true := by unfold agg?; rw [hdd]
                      have hsz : ∃ i, P.info? f.type = some i := by
                        unfold Program.cellsOf at hnm2
                        cases hi : P.info? f.type with
                        | none => rw [hi] at hnm2; simp at hnm2
                        | some i => exact ⟨i, rfl⟩
                      obtain ⟨i, hi⟩ := hsz
                      have hsz' : size? P f.type = some (P.cellsOf f.type) := by simp [size?, Program.cellsOf, hi]
                      refine ⟨.agg (xs'.extract f.offset (f.offset + P.cellsOf f.type)), ?_, _, rfl, fun j hj => ?_⟩
                      · unfold part; simp only [Sem.run_bind, run_isAgg' hag, Result.andThen_ok, if_true, run_sizeOf' hsz']; rfl
                      · rw [extract_get _ _ _ _ hj, gx _ (by omega), Nat.add_assoc]
                    · cases ha
                have some1 : ∀ i q, eqPlan P d f.type (off + f.offset) = some [(i, q)] → (∃ x, cs[i]? = some x) ∧ (∃ x, ds[i]? = some x) := by
                  intro i q hp
                  rw [ha] at hp; cases hp
                  obtain ⟨x, y, e1, e2, _⟩ := eqCells_one h1
                  exact ⟨⟨x, e1⟩, ⟨y, e2⟩⟩
                obtain ⟨u, hu1, hu2⟩ := getp cs xs xs' hx gx (fun i q hp => (some1 i q hp).1)
                obtain ⟨v, hv1, hv2⟩ := getp ds ys ys' hy gy (fun i q hp => (some1 i q hp).2)
                have := eqPlan_ok d f.type (off + f.offset) a n ha (by omega) cs ds xs ys u v r1 hx hy hu2 hv2 h1
                simp only [Op.eqFields, if_pos hnm1, Sem.run_bind, hu1, Result.andThen_ok, hv1, this]
                cases r1 with
                | false => rfl
                | true => simp only [Bool.not_true, Bool.false_eq_true, if_false, Bool.true_and]; exact ih c r2 hc h2
              · cases h
        exact key _ _ _ h he
    · cases h
end
end Go.Am
