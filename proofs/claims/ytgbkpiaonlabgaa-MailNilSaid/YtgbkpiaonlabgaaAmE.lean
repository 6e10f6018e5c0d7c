/- The same, continued; and all of the operations that look at their operands alone, as one theorem. Own work. -/
import Derived.Test.YtgbkpiaonlabgaaAmD
namespace Go.Am
set_option linter.unusedVariables false
set_option linter.unusedSimpArgs false
open Go
section
variable {P : Program} {K : KM} {w : World}

/-! ### parts put into a row of zeros -/
theorem splice_len {zero cs : List AV} {off : Nat} (h : off + cs.length ≤ zero.length) : (splice zero off cs).length = zero.length := by
  unfold splice; simp; omega
theorem setParts_get : ∀ (vs : List Value) (off j0 : Nat) (cells : Array Value), off + j0 + vs.length ≤ cells.size →
    ((vs.zipIdx j0).foldl (fun cs x => cs.setIfInBounds (off + x.2) x.1) cells).toList = cells.toList.take (off + j0) ++ (vs ++ cells.toList.drop (off + j0 + vs.length))
  | [], off, j0, cells, _ => by simp
  | v :: vs, off, j0, cells, h => by
    simp only [List.zipIdx_cons, List.foldl_cons, List.length_cons] at h ⊢
    rw [setParts_get vs off (j0 + 1) _ (by simp; omega)]
    rw [Array.toList_setIfInBounds]
    have hl : off + j0 < cells.toList.length := by simp; omega
    rw [List.take_set, List.drop_set_of_lt (by omega)]
    have e : off + (j0 + 1) = off + j0 + 1 := by omega
    rw [e, List.take_succ_eq_append_getElem hl]
    rw [List.set_append_right _ _ (by simp; omega)]
    have e2 : off + j0 - (cells.toList.take (off + j0)).length = 0 := by simp; omega
    rw [e2]
    simp only [List.set_cons_zero, List.append_assoc, List.cons_append, List.nil_append]
    have e3 : off + j0 + 1 + vs.length = off + j0 + (vs.length + 1) := by omega
    rw [e3]
theorem setParts (vs : Array Value) (off : Nat) (cells : Array Value) (h : off + vs.size ≤ cells.size) :
    (vs.zipIdx.foldl (fun cs x => cs.setIfInBounds (off + x.2) x.1) cells).toList = cells.toList.take off ++ (vs.toList ++ cells.toList.drop (off + vs.size)) := by
  have := setParts_get vs.toList off 0 cells (by simpa using h)
  rw [← Array.foldl_toList, Array.toList_zipIdx]
  simpa using this
theorem VRs.splice {zero cs : List AV} {zs ds : List Value} {off : Nat} (hz : VRs K zero zs) (hc : VRs K cs ds) : VRs K (splice zero off cs) (zs.take off ++ (ds ++ zs.drop (off + ds.length))) := by
  unfold Am.splice
  rw [hc.length]
  exact (hz.take off).append (hc.append (hz.drop _))
theorem flat_splice {zero cs : List AV} {off : Nat} (hz : zero.all AV.flat = true) (hc : cs.all AV.flat = true) : (splice zero off cs).all AV.flat = true := by
  unfold splice
  rw [List.all_eq_true] at *
  intro x hx
  rcases List.mem_append.1 hx with h | h
  · exact hz x (List.mem_of_mem_take h)
  · rcases List.mem_append.1 h with h | h
    · exact hc x h
    · exact hz x (List.mem_of_mem_drop h)
theorem fill_ok (pl : Nat → Option (Nat × Nat)) : ∀ (ps : List (Nat × Value)) (offs : List (Nat × Nat)) (vs : List AV) (zero : List AV) (cells : Array Value) (r : List AV),
    offs.length = ps.length → (∀ (j : Nat) (p : Nat × Value) (o : Nat × Nat), ps[j]? = some p → offs[j]? = some o → pl p.1 = some o) → VRs K vs (ps.map (·.2)) → VRs K zero cells.toList → zero.all AV.flat = true →
    place zero offs vs = some r → ∃ out, Instr.fill pl cells ps = some out ∧ VRs K r out.toList ∧ r.all AV.flat = true
  | [], [], vs, zero, cells, r, _, _, hv, hz, hf, h => by
    simp only [List.map_nil, VRs] at hv
    cases vs with
    | nil => cases h; exact ⟨cells, rfl, hz, hf⟩
    | cons v vs => cases h
  | [], _ :: _, _, _, _, _, hl, _, _, _, _, _ => by simp at hl
  | _ :: _, [], _, _, _, _, hl, _, _, _, _, _ => by simp at hl
  | (i, v') :: ps, (off, size) :: offs, vs, zero, cells, r, hl, hp, hv, hz, hf, h => by
    cases vs with
    | nil => cases h
    | cons v vs =>
      obtain ⟨x, xs, e, hv1, hv2⟩ := hv.uncons
      simp only [List.map_cons, List.cons.injEq] at e
      obtain ⟨rfl, rfl⟩ := e
      simp only [place] at h
      have hpl := hp 0 _ _ rfl rfl
      simp only at hpl
      simp only [Instr.fill, hpl]
      have hzl : zero.length = cells.size := by rw [hz.length]; simp
      cases hb : (Nat.beq v.cells.length size && Nat.ble (off + size) zero.length && !v.isTup) with
      | false => rw [hb] at h; cases h
      | true =>
        rw [hb, cond_true] at h
        simp only [Bool.and_eq_true] at hb
        have h1 := Nat.eq_of_beq_eq_true hb.1.1
        have h2 := Nat.le_of_ble_eq_true hb.1.2
        obtain ⟨hc1, hc2⟩ := hv1.cells (by simpa using hb.2)
        have hsz : v.cells.length = v'.cells.size := by rw [hc1.length]; simp
        have hcond : ¬ ((decide (v'.cells.size ≠ size) || decide (off + v'.cells.size > cells.size)) = true) := by
          simp; omega
        rw [if_neg hcond]
        refine fill_ok pl ps offs vs _ _ r (by simpa using hl) (fun j p o h3 h4 => hp (j + 1) p o (by simpa using h3) (by simpa using h4)) hv2 ?_ (flat_splice hf hc2) h
        rw [setParts _ _ _ (by omega)]
        have := VRs.splice (off := off) hz hc1
        simpa using this
theorem run_mapM_list {α β : Type} (f : α → Sem β) (g : α → β) : ∀ (l : List α), (∀ x ∈ l, ∀ w, (f x).run P w = .ok (g x) w) → ∀ w, (l.mapM f).run P w = .ok (l.map g) w
  | [], _, w => by simp
  | x :: l, h, w => by
    simp only [List.mapM_cons, Sem.run_bind, h x (by simp) w, Result.andThen_ok, run_mapM_list f g l (fun y hy => h y (by simp [hy])) w, Sem.run_pure, List.map_cons]
theorem run_mapM_array {α β : Type} (f : α → Sem β) (g : α → β) (l : Array α) (h : ∀ x ∈ l.toList, ∀ w, (f x).run P w = .ok (g x) w) (w : World) : (l.mapM f).run P w = .ok (l.map g) w := by
  rw [Array.mapM_eq_mapM_toList]
  simp only [Sem.run_map, run_mapM_list f g l.toList h w, Result.andThen_ok]
  congr 1
  apply Array.ext'
  simp
theorem fieldOffs_get {fs : Array Field} : ∀ {ps : List (Nat × Operand)} {os : List (Nat × Nat)}, fieldOffs P fs ps = some os → os.length = ps.length ∧ ∀ (j : Nat) (p : Nat × Operand) (o : Nat × Nat), ps[j]? = some p → os[j]? = some o →
    ∃ f, fs[p.1]? = some f ∧ size? P f.type = some o.2 ∧ f.offset = o.1
  | [], os, h => by cases h; exact ⟨rfl, fun j p o hp _ => by simp at hp⟩
  | (i, x) :: ps, os, h => by
    simp only [fieldOffs] at h
    split at h
    · cases h
    · rename_i f hf
      split at h
      · rename_i n os' hn hos
        cases h
        obtain ⟨h1, h2⟩ := fieldOffs_get hos
        refine ⟨by simp [h1], fun j p o hp ho => ?_⟩
        cases j with
        | zero => simp at hp ho; subst hp; subst ho; exact ⟨f, hf, hn, rfl⟩
        | succ j => exact h2 j p o (by simpa using hp) (by simpa using ho)
      · cases h
theorem size?_cells {t n : Nat} (h : size? P t = some n) : P.cellsOf t = n := by
  obtain ⟨i, h1, h2⟩ := size?_info h
  simp [Program.cellsOf, h1, h2]
theorem build_ok {t : TypeId} {ps : List (Nat × Operand)} {a : Act} {z : List AV} {os : List (Nat × Nat)} {vs : List AV} {r : List AV} (hz : zeroOf P t = some z)
    (hd : (∃ fs, P.underlying t = some (.struct fs) ∧ fieldOffs P fs ps = some os ∧ fs.toList.all (fun f => isSome' (size? P f.type)) = true) ∨
      (∃ len e n, P.underlying t = some (.array len e) ∧ size? P e = some n ∧ os = ps.map fun p => (p.1 * n, n)))
    (hv : VRs K vs (ps.map fun p => a.eval p.2)) (h : place z os vs = some r) :
    Yields P (Instr.build t (ps.toArray.map fun x => (x.1, a.eval x.2))) w K (.agg r) := by
  obtain ⟨v0, hv0, hz1, hz2⟩ := run_zeroOf (K := K) hz w
  rcases hd with ⟨fs, hd, hos, hall⟩ | ⟨len, e, n, hd, hn, rfl⟩
  · obtain ⟨hl, hget⟩ := fieldOffs_get hos
    obtain ⟨out, ho1, ho2, ho3⟩ := fill_ok (K := K) (fun i => (fs.map fun f => (f.offset, P.cellsOf f.type))[i]?) (ps.map fun p => (p.1, a.eval p.2)) os vs z v0.cells r (by simp [hl])
      (fun j p o hp ho => by
        simp only [List.getElem?_map, Option.map_eq_some_iff] at hp
        obtain ⟨q, hq, rfl⟩ := hp
        obtain ⟨f, h1, h2, h3⟩ := hget j q o hq ho
        simp only [Array.getElem?_map, h1, Option.map_some, size?_cells h2, h3])
      (by simpa [List.map_map, Function.comp_def] using hv) hz1 hz2 h
    refine ⟨.agg out, ?_, by simp only [VR]; exact ⟨out, rfl, ho2, ho3⟩⟩
    unfold Instr.build
    simp only [Sem.run_bind, hv0, Result.andThen_ok, run_underlying hd]
    have hm := run_mapM_array (P := P) (fun f : Field => do pure (f.offset, ← sizeOf f.type)) (fun f => (f.offset, P.cellsOf f.type)) fs (fun f hf w => by
      have := List.all_eq_true.1 hall f hf
      unfold isSome' at this
      split at this
      · rename_i n hn
        simp [run_sizeOf' hn, size?_cells hn]
      · cases this) w
    rw [hm]
    simp only [Result.andThen_ok]
    have e : (ps.toArray.map fun x => (x.1, a.eval x.2)).toList = ps.map fun p => (p.1, a.eval p.2) := by simp
    rw [e, ho1]; rfl
  · obtain ⟨out, ho1, ho2, ho3⟩ := fill_ok (K := K) (fun i => some (i * n, n)) (ps.map fun p => (p.1, a.eval p.2)) (ps.map fun p => (p.1 * n, n)) vs z v0.cells r (by simp)
      (fun j p o hp ho => by
        simp only [List.getElem?_map, Option.map_eq_some_iff] at hp ho
        obtain ⟨q, hq, rfl⟩ := hp
        obtain ⟨q', hq', rfl⟩ := ho
        rw [hq] at hq'; cases hq'; rfl)
      (by simpa [List.map_map, Function.comp_def] using hv) hz1 hz2 h
    refine ⟨.agg out, ?_, by simp only [VR]; exact ⟨out, rfl, ho2, ho3⟩⟩
    unfold Instr.build
    simp only [Sem.run_bind, hv0, Result.andThen_ok, run_underlying hd, run_sizeOf' hn]
    have e : (ps.toArray.map fun x => (x.1, a.eval x.2)).toList = ps.map fun p => (p.1, a.eval p.2) := by simp
    rw [e, ho1]; rfl
end
end Go.Am
