/- append, and what writes into rows. Own work. -/
import Derived.Test.YtgbkpiaonlabgaaAmN
namespace Go.Am
set_option linter.unusedVariables false
set_option linter.unusedSimpArgs false
open Go Go.RowKit
section
variable {P : Program} {K : KM} {w : World} {B : Nat} {H : Heap}
theorem setIfInBounds_toList (c : Array Value) (o : Nat) (v : Value) (vs : List Value) (h : o < c.size) : ((c.setIfInBounds o v).toList.take (o + 1) ++ (vs ++ (c.setIfInBounds o v).toList.drop (o + 1 + vs.length))) = c.toList.take o ++ (v :: vs ++ c.toList.drop (o + (vs.length + 1))) := by
  rw [Array.toList_setIfInBounds]
  have hl : o < c.toList.length := by simpa using h
  rw [List.take_set, List.drop_set_of_lt (by omega), List.take_succ_eq_append_getElem hl, List.set_append_right _ _ (by simp; omega)]
  have e2 : o - (c.toList.take o).length = 0 := by simp; omega
  rw [e2]
  simp only [List.set_cons_zero, List.append_assoc, List.cons_append, List.nil_append]
  congr 4
  omega
theorem setCells_heap {b : Nat} {el : TypeId} {fz : Nat × Nat} : ∀ (vs : List Value) (o : Nat) (w : World) (c : Array Value), w.heap[b]? = some (.cells c el fz) → o + vs.length ≤ c.size →
    (∃ c', (w.setCells b o vs).heap[b]? = some (.cells c' el fz) ∧ c'.toList = c.toList.take o ++ (vs ++ c.toList.drop (o + vs.length))) ∧ (∀ k, k ≠ b → (w.setCells b o vs).heap[k]? = w.heap[k]?) ∧
    (w.setCells b o vs).heap.size = w.heap.size ∧ (w.setCells b o vs).os = w.os ∧ (w.setCells b o vs).tape = w.tape ∧ (w.setCells b o vs).output = w.output
  | [], o, w, c, h, _ => ⟨⟨c, h, by simp⟩, fun _ _ => rfl, rfl, rfl, rfl, rfl⟩
  | v :: vs, o, w, c, h, hl => by
    simp only [List.length_cons] at hl
    have h1 : (w.setCell ⟨b, o, none⟩ v).heap[b]? = some (.cells (c.setIfInBounds o v) el fz) := by
      simp [World.setCell, Array.getElem?_modify, h]
    obtain ⟨⟨c', g1, g2⟩, g3, g4, g5, g6, g7⟩ := setCells_heap vs (o + 1) (w.setCell ⟨b, o, none⟩ v) _ h1 (by simp; omega)
    refine ⟨⟨c', g1, ?_⟩, fun k hk => ?_, ?_, g5, g6, g7⟩
    · rw [g2]
      have := setIfInBounds_toList c o v vs (by omega)
      simpa using this
    · rw [World.setCells, g3 k hk]; exact Below.heap_setCell _ _ _ _ hk
    · rw [World.setCells, g4]; simp [World.setCell]
theorem run_store_row {b off : Nat} {c : Array Value} {el : TypeId} {fz : Nat × Nat} (hb : w.heap[b]? = some (.cells c el fz)) (vs : List Value) (h1 : ∀ v ∈ vs, v.oneCell' = true) (hl : off + vs.length ≤ c.size) (hf : ∀ o, o < c.size → ¬ (fz.1 ≤ o ∧ o < fz.2)) :
    (storeCells ⟨b, off, none⟩ vs).run P w = .ok () (w.setCells b off vs) := by
  have := run_storeCells_cells (P := P) b off vs 0 w (fun j hj => by
      rw [cell?_of hb, Nat.add_zero, Array.getElem?_eq_getElem (by omega)]; rfl) (fun j hj => by
      simp only [World.frozen?, hb, Nat.add_zero]
      have := hf (off + j) (by omega)
      simp only [Bool.and_eq_false_iff, decide_eq_false_iff_not]
      omega) h1
  simpa using this
theorem VRs.oneCells {cs : List AV} {ds : List Value} (h : VRs K cs ds) (hf : cs.all AV.flat = true) : ∀ v ∈ ds, v.oneCell' = true := by
  intro v hv
  obtain ⟨j, hj⟩ := List.mem_iff_getElem?.1 hv
  have hl := h.length
  have : j < cs.length := by
    rcases Nat.lt_or_ge j cs.length with h1 | h1
    · exact h1
    · rw [List.getElem?_eq_none (by omega)] at hj; cases hj
  obtain ⟨y, h1, h2⟩ := h.get j _ (List.getElem?_eq_getElem this)
  rw [hj] at h1; cases h1
  exact h2.oneCell (List.all_eq_true.1 hf _ (List.getElem_mem this))
/-- What is appended. -/
theorem appended_ok (h : Sim B K H w) {esz k : Nat} {x : AV} {cs : List AV} {x' : Value} (hx : VR K x x') (ha : appended H esz x = some (cs, k)) :
    (Builtin.lenOf x').run P w = .ok k w ∧ cs.length = k * esz ∧ cs.all AV.flat = true ∧ lenOfV x = k ∧ ∃ ds : List Value, VRs K cs ds ∧ ∀ w', w'.heap = w.heap → (Builtin.firstCells esz k x').run P w' = .ok ds.toArray w' := by
  unfold appended at ha
  split at ha
  · rename_i bs
    split at ha
    · rename_i he
      subst he
      cases ha
      simp only [VR] at hx
      subst hx
      have hsz : (⟨bs.toArray⟩ : ByteArray).size = bs.length := by simp [ByteArray.size]
      refine ⟨by simp only [Builtin.lenOf, hsz]; rfl, by rw [ofBytes_length, Nat.mul_one], ofBytes_flat bs, rfl, bs.map fun (b : UInt8) => Value.int .u8 b.toNat, ?_, fun w' hw' => ?_⟩
      · refine VRs.of_get (by simp [ofBytes]) fun j y hy => ?_
        rw [ofBytes_get] at hy
        cases hb : bs[j]? with
        | none => rw [hb] at hy; cases hy
        | some b => rw [hb] at hy; cases hy; exact ⟨.int .u8 b.toNat, by simp [hb], by simp only [VR]⟩
      · simp only [Builtin.firstCells]
        have e : (((⟨bs.toArray⟩ : ByteArray).extract 0 bs.length).data.map fun (b : UInt8) => Value.int .u8 b.toNat) = (bs.map fun (b : UInt8) => Value.int .u8 b.toNat).toArray := by
          apply Array.ext'
          simp [ByteArray.data_extract, List.extract_eq_take_drop]
        rw [e]; rfl
    · cases ha
  · split at ha
    · rename_i cs' hcs
      cases ha
      obtain ⟨g1, g2, ds, g3, g4⟩ := rows_ok (P := P) h hx hcs
      have hl : lenOfV x = x.slen := by
        cases x <;> first | rfl | (exfalso; rename_i hne; exact hne _ rfl) | (exfalso; rename_i hne _; exact hne _ rfl) | (exfalso; rename_i hne _ _; exact hne _ rfl) | (simp only [Heap.rows] at hcs; cases hcs)
      rcases g4 with ⟨rfl, rfl⟩ | ⟨a, c, rfl, g5, g6⟩
      · simp only [VR] at hx
        subst hx
        exact ⟨rfl, g1, g2, hl, [], g3, fun _ _ => rfl⟩
      · refine ⟨rfl, g1, g2, hl, ds, g3, fun w' hw' => ?_⟩
        simp only [Builtin.firstCells]
        by_cases h0 : x.slen = 0
        · rw [h0, Nat.zero_mul, g6 h0]; rfl
        · exact g5 (by omega) w' hw'
    · cases ha
theorem growBy_le (n : Nat) : ∀ (r c : Nat), c ≤ 2 * n + 192 → Builtin.growBy n r c ≤ 2 * n + 192
  | 0, c, h => h
  | r + 1, c, h => by
    simp only [Builtin.growBy]
    split
    · exact h
    · exact growBy_le n r _ (by omega)
theorem nextcap_le (need old : Nat) (h : old < need) : Builtin.nextslicecap need old ≤ 2 * need + 192 := by
  unfold Builtin.nextslicecap
  split
  · omega
  · split
    · omega
    · exact growBy_le _ _ _ (by omega)
/-- The types that an append has. -/
structure AppT (P : Program) (t u e n m : Nat) (z : List AV) : Prop where
  sl : P.underlying t = some (.slice e)
  xt : ∃ d, P.underlying u = some d ∧ ∀ k, d ≠ .int k
  hzero : zeroOf P e = some z
  hsize : size? P e = some n
  hbytes : bytes? P e = some m
  hn : posB n = true
  hm : posB m = true
  hz : z.length = n
theorem run_append_grow {t u e n m : Nat} {z : List AV} (T : AppT P t u e n m z) {base : Option Addr} {sLen sCap k : Nat} {x' : Value} {olds news : Array Value} (hk : (Builtin.lenOf x').run P w = .ok k w) (hcap : sCap < sLen + k) (hroom : (sLen + k) * m ≤ 1099511627776)
    (ho : ∀ w', w'.heap = w.heap → (Builtin.firstCells n sLen (.slice base sLen sCap)).run P w' = .ok olds w') (hw : ∀ w', w'.heap = w.heap → (Builtin.firstCells n k x').run P w' = .ok news w') (ty : TypeId) :
    ∃ (newCap : Nat) (rest : Array Value), sLen + k ≤ newCap ∧ rest.size = (newCap - (sLen + k)) * n ∧ (Builtin.append_ #[t, u] ty #[.slice base sLen sCap, x']).run P w = .ok (.slice (some ⟨w.heap.size, 0, none⟩) (sLen + k) newCap) (w.drew.alloc (.cells (olds ++ news ++ rest) e)) := by
  obtain ⟨v0, z1, z2, z3⟩ := run_zeroOf (K := fun _ => none) T.hzero w.drew
  obtain ⟨i, hi, him⟩ := bytes?_info T.hbytes
  have hm1 := Nat.le_of_ble_eq_true T.hm
  have hmneed : sLen + k ≤ 1099511627776 := Nat.le_trans (Nat.le_mul_of_pos_right _ hm1) hroom
  have hzs : v0.cells.size = n := by
    have := z2.length
    rw [T.hz] at this
    simpa using this.symm
  have hnc := nextcap_le (sLen + k) sCap hcap
  have hbig : ¬ (Builtin.nextslicecap (sLen + k) sCap * i.bytes > 2 ^ 48) := by
    rw [him]
    have h1 : Builtin.nextslicecap (sLen + k) sCap * m ≤ (2 * (sLen + k) + 192) * m := Nat.mul_le_mul_right _ hnc
    have h2 : m ≤ 1099511627776 := Nat.le_trans (Nat.le_mul_of_pos_left _ (by omega)) hroom
    have h3 : (2 * (sLen + k) + 192) * m = 2 * ((sLen + k) * m) + 192 * m := by rw [Nat.add_mul, Nat.mul_assoc]
    omega
  have hcut : ∃ cap, sLen + k ≤ cap ∧ (choose (.appendCap (sLen + k) sCap e)).run P w = .ok cap w.drew := by
    refine ⟨(sLen + k) + (w.tape w.drawn (.appendCap (sLen + k) sCap e)) % (2 ^ 63 - (sLen + k)), by omega, ?_⟩
    rw [run_choose_drew]
    rfl
  obtain ⟨cap, hc1, hc2⟩ := hcut
  have hn1 : ¬ (sLen + k ≤ sCap) := by omega
  have hmax : ¬ (((sLen + k : Nat) : Int) > IntKind.i64.max ∧ (False ∨ i.bytes = 0)) := by
    intro h
    have : IntKind.i64.max = 9223372036854775807 := by decide
    omega
  refine ⟨cap, Builtin.zeroCells v0.cells (cap - (sLen + k)), hc1, by simp [Builtin.zeroCells, hzs], ?_⟩
  unfold Builtin.append_
  have t1 : (#[t, u] : Array TypeId)[0]? = some t := rfl
  have t2 : (#[t, u] : Array TypeId)[1]? = some u := rfl
  have t3 : (#[Value.slice base sLen sCap, x'] : Array Value)[0]? = some (.slice base sLen sCap) := rfl
  have t4 : (#[Value.slice base sLen sCap, x'] : Array Value)[1]? = some x' := rfl
  obtain ⟨d, hu, hd⟩ := T.xt
  have hti : ∀ w', (typeInfo e).run P w' = .ok i w' := fun w' => by simp [typeInfo, hi]
  cases d <;> first | exact absurd rfl (hd _) | skip
  all_goals
    simp only [t1, t2, t3, t4, Sem.run_bind, run_underlying T.sl, run_underlying hu, Result.andThen_ok, run_sizeOf' T.hsize, Sem.run_pure, Bool.false_eq_true, if_false, hk, if_neg hn1, hti, if_neg hmax, if_neg hbig, hc2, run_askRoom, ho w.drew rfl, Bool.not_false, if_true, hw w.drew rfl, z1]
    rfl
theorem run_append_in {t u e n m : Nat} {z : List AV} (T : AppT P t u e n m z) {base : Option Addr} {sLen sCap k : Nat} {x' : Value} {news : Array Value} (hk : (Builtin.lenOf x').run P w = .ok k w) (hcap : sLen + k ≤ sCap)
    (hw : (Builtin.firstCells n k x').run P w = .ok news w) (ty : TypeId) :
    (Builtin.append_ #[t, u] ty #[.slice base sLen sCap, x']).run P w = (match base with
      | some a => do storeCells (a.add (sLen * n)) news.toList; pure (.slice base (sLen + k) sCap)
      | none => pure (.slice base (sLen + k) sCap) : Sem Value).run P w := by
  unfold Builtin.append_
  have t1 : (#[t, u] : Array TypeId)[0]? = some t := rfl
  have t2 : (#[t, u] : Array TypeId)[1]? = some u := rfl
  have t3 : (#[Value.slice base sLen sCap, x'] : Array Value)[0]? = some (.slice base sLen sCap) := rfl
  have t4 : (#[Value.slice base sLen sCap, x'] : Array Value)[1]? = some x' := rfl
  obtain ⟨d, hu, hd⟩ := T.xt
  cases d <;> first | exact absurd rfl (hd _) | skip
  all_goals
    simp only [t1, t2, t3, t4, Sem.run_bind, run_underlying T.sl, run_underlying hu, Result.andThen_ok, run_sizeOf' T.hsize, Sem.run_pure, Bool.false_eq_true, if_false, hk, if_pos hcap, Bool.not_false, if_true, hw]
    cases base <;> rfl
end
end Go.Am
