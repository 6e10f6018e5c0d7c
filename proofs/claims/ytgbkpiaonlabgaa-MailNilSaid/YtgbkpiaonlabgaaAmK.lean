/- The operations that read the heap do what the model's do. Own work. -/
import Derived.Test.YtgbkpiaonlabgaaAmJ
import Derived.Laws.BytesString
import Derived.Laws.IdiomCopy
import Derived.MapKept
namespace Go.Am
set_option linter.unusedVariables false
set_option linter.unusedSimpArgs false
open Go
section
variable {P : Program} {K : KM} {w : World} {B : Nat} {H : Heap}
theorem cell?_of {w : World} {b off : Nat} {c : Array Value} {el : TypeId} {fz : Nat × Nat} (h : w.heap[b]? = some (.cells c el fz)) : w.cell? ⟨b, off, none⟩ = c[off]? := by
  simp [World.cell?, h]
/-- What a reference reads. -/
theorem cells_ok (h : Sim B K H w) {o v f n : Nat} {cs : List AV} {i : Info} (hK : K o = some i) (hc : H.cells o v f n = some cs) :
    v = i.ver ∧ cs.length = n ∧ cs.all AV.flat = true ∧ ∃ ds, VRs K cs ds ∧ ∀ j y, ds[j]? = some y → w.cell? ⟨i.blk, i.base + f + j, none⟩ = some y := by
  unfold Heap.cells at hc
  obtain ⟨ob, h1, h2⟩ := h.obj o i hK
  rw [h1] at hc
  cases ob with
  | map es => cases hc
  | iter s p => cases hc
  | row all ver wr =>
    simp only at hc
    split at hc
    · rename_i hv
      cases hc
      obtain ⟨g1, c, el, fz, g2, g3, g4, g5, g6⟩ := h2
      have hlen : ((all.drop f).take n).length = n := by simp; omega
      refine ⟨by rw [g1]; exact hv.1, hlen, ?_, (List.range n).map (fun j => c.getD (i.base + f + j) Go.undef), ?_, ?_⟩
      · rw [List.all_eq_true]
        intro x hx
        obtain ⟨j, hj⟩ := List.mem_iff_getElem?.1 (List.mem_of_mem_drop (List.mem_of_mem_take hx))
        exact (g5 j x hj).1
      · refine VRs.of_get (by simp; omega) fun j x hx => ?_
        rw [List.getElem?_take] at hx
        split at hx
        · rename_i hj
          rw [List.getElem?_drop] at hx
          obtain ⟨y, k1, k2⟩ := (g5 (f + j) x hx).2
          refine ⟨y, ?_, k2⟩
          rw [List.getElem?_map, List.getElem?_range hj]
          simp only [Option.map_some, Array.getD_eq_getD_getElem?]
          rw [show i.base + f + j = i.base + (f + j) by omega, k1]; rfl
        · cases hx
      · intro j y hy
        rw [List.getElem?_map] at hy
        rcases Nat.lt_or_ge j n with hj | hj
        · rw [List.getElem?_range hj] at hy
          simp only [Option.map_some, Option.some.injEq, Array.getD_eq_getD_getElem?] at hy
          rw [cell?_of g2]
          have hb : i.base + f + j < c.size := by omega
          rw [Array.getElem?_eq_getElem hb] at hy ⊢
          simpa using hy
        · rw [List.getElem?_eq_none (by simpa using hj)] at hy; cases hy
    · cases hc
theorem run_load1 {a : Addr} {y : Value} (h : w.cell? a = some y) : (load a).run P w = .ok y w := by
  rw [run_load, h]
theorem load1_ok (h : Sim B K H w) {o v f : Nat} {x : AV} {x' : Value} (hx : VR K (.ptr o v f) x') (hc : H.cells o v f 1 = some [x]) {t : TypeId} (ha : agg? P t = some false) : Yields P (Instr.loadAt t x') w K x := by
  simp only [VR] at hx
  obtain ⟨a, i, rfl, hK, hv, hg⟩ := hx
  obtain ⟨g1, g2, g3, ds, g4, g5⟩ := cells_ok h hK hc
  obtain ⟨y, rfl, hy⟩ := g4.one
  have hcell := g5 0 y rfl
  rw [Nat.add_zero, ← hg g1] at hcell
  refine ⟨y, ?_, hy⟩
  unfold Instr.loadAt
  simp only [Instr.sureAddr, Sem.run_bind, Sem.run_pure, Result.andThen_ok, loadVar, run_isAgg' ha, Bool.false_eq_true, if_false, run_load1 hcell]
theorem loadCells_ok {b off : Nat} {ds : List Value} {n : Nat} (hn : ds.length = n) (h : ∀ j y, ds[j]? = some y → w.cell? ⟨b, off + j, none⟩ = some y) : (loadCells ⟨b, off, none⟩ n).run P w = .ok ds.toArray w := by
  subst hn
  exact run_loadCells_list w _ ds fun j y hy => by rw [add_eq]; exact h j y hy
theorem loadN_ok (h : Sim B K H w) {o v f n : Nat} {cs : List AV} {x' : Value} (hx : VR K (.ptr o v f) x') (hc : H.cells o v f n = some cs) {t : TypeId} (ha : agg? P t = some true) (hz : size? P t = some n) : Yields P (Instr.loadAt t x') w K (.agg cs) := by
  simp only [VR] at hx
  obtain ⟨a, i, rfl, hK, hv, hg⟩ := hx
  obtain ⟨g1, g2, g3, ds, g4, g5⟩ := cells_ok h hK hc
  refine ⟨.agg ds.toArray, ?_, by simp only [VR]; exact ⟨_, rfl, g4, g3⟩⟩
  unfold Instr.loadAt
  rw [hg g1]
  simp only [Instr.sureAddr, Sem.run_bind, Sem.run_pure, Result.andThen_ok, loadVar, run_isAgg' ha, if_true, run_sizeOf' hz, loadCells_ok (by rw [← g4.length, g2]) g5]
/-- The cells of a slice. -/
theorem rows_ok (h : Sim B K H w) {esz : Nat} {s : AV} {cs : List AV} {x' : Value} (hx : VR K s x') (hc : H.rows esz s = some cs) :
    cs.length = s.slen * esz ∧ cs.all AV.flat = true ∧ ∃ ds, VRs K cs ds ∧ ((s = .nilSlice ∧ ds = []) ∨ ∃ a c, x' = .slice (some a) s.slen c ∧ (0 < s.slen → ∀ w', w'.heap = w.heap → (loadCells a (s.slen * esz)).run P w' = .ok ds.toArray w') ∧ (s.slen = 0 → ds = [])) := by
  cases s <;> simp only [Heap.rows] at hc <;> first | (cases hc; done) | skip
  · cases hc
    exact ⟨by simp [AV.slen], rfl, [], VRs.nil, .inl ⟨rfl, rfl⟩⟩
  · simp only [VR] at hx
    obtain ⟨a, c, i, rfl, hK, hn, hv, hg⟩ := hx
    obtain ⟨g1, g2, g3, ds, g4, g5⟩ := cells_ok h hK hc
    refine ⟨g2, g3, ds, g4, .inr ⟨a, c, rfl, fun hl w' hw' => ?_, fun hl => ?_⟩⟩
    · simp only [AV.slen] at hl ⊢
      rw [(hg g1).2 (by omega)]
      exact loadCells_ok (by rw [← g4.length, g2]) (fun j y hy => by have := g5 j y hy; unfold World.cell? at this ⊢; rw [hw']; exact this)
    · simp only [AV.slen] at hl
      exact List.eq_nil_of_length_eq_zero (by rw [← g4.length, g2, hl, Nat.zero_mul])
theorem run_loadCells_zero (a : Addr) : (loadCells a 0).run P w = .ok #[] w := rfl
theorem bytes_cells : ∀ {cs : List AV} {bs : List UInt8} {ds : List Value}, bytesOf cs = some bs → VRs K cs ds → ∃ ns : List Int, ds = ns.map (Value.int .u8) ∧ ns.map (fun n => UInt8.ofNat n.toNat) = bs
  | [], bs, ds, h, hv => by
    cases h; simp only [VRs] at hv; subst hv; exact ⟨[], rfl, rfl⟩
  | x :: cs, bs, ds, h, hv => by
    obtain ⟨y, ys, rfl, h1, h2⟩ := hv.uncons
    simp only [bytesOf] at h
    split at h
    · cases h
    · rename_i b hb
      split at h
      · cases h
      · rename_i bs' hbs
        cases h
        obtain ⟨ns, rfl, e⟩ := bytes_cells hbs h2
        unfold byteOf at hb
        split at hb
        · rename_i n
          cases hb
          simp only [VR] at h1
          exact ⟨n :: ns, by rw [h1]; rfl, by simp [e]⟩
        · cases hb
theorem foldl_push (ns : List Int) : ∀ (s : ByteArray), (ns.foldl (fun r n => r.push (UInt8.ofNat n.toNat)) s).data.toList = s.data.toList ++ ns.map (fun n => UInt8.ofNat n.toNat) := by
  induction ns with
  | nil => intro s; simp
  | cons n ns ih => intro s; rw [List.foldl_cons, ih]; simp [ByteArray.push]
theorem bytesToStr_ok (h : Sim B K H w) {s : AV} {cs : List AV} {bs : List UInt8} {x' : Value} (hx : VR K s x') (hc : H.rows 1 s = some cs) (hb : bytesOf cs = some bs) : Yields P (Conv.bytesToString x') w K (.str bs) := by
  obtain ⟨g1, g2, ds, g3, g4⟩ := rows_ok (P := P) h hx hc
  obtain ⟨ns, e1, e2⟩ := bytes_cells hb g3
  rcases g4 with ⟨rfl, rfl⟩ | ⟨a, c, rfl, g5, g6⟩
  · simp only [VR] at hx
    subst hx
    have : ns = [] := by cases ns <;> simp at e1; rfl
    subst this
    simp at e2
    subst e2
    exact ⟨.string .empty, rfl, by simp only [VR]; rfl⟩
  · have hl : (loadCells a s.slen).run P w = .ok (ns.map (Value.int .u8)).toArray w := by
      by_cases h0 : s.slen = 0
      · rw [h0, run_loadCells_zero, ← e1, g6 h0]
      · rw [← e1]; simpa using g5 (by omega) w rfl
    refine ⟨_, run_bytesToString w a _ c ns hl, ?_⟩
    simp only [VR, Value.string.injEq]
    apply WideShapes.bytes_inj
    rw [foldl_push]
    simpa using e2
end
end Go.Am
