/- The operations that make one object do what the model's do. Own work. -/
import Derived.Test.YtgbkpiaonlabgaaAmL
namespace Go.Am
set_option linter.unusedVariables false
set_option linter.unusedSimpArgs false
open Go Go.RowKit
section
variable {P : Program} {K : KM} {w : World} {B : Nat} {H : Heap}
theorem reps_length (z : List AV) : ∀ k, (reps z k).length = k * z.length
  | 0 => by simp [reps]
  | k + 1 => by simp [reps, reps_length z k, Nat.add_mul]; omega
theorem reps_get (z : List AV) (hz : 0 < z.length) : ∀ (k j : Nat), j < k * z.length → (reps z k)[j]? = z[j % z.length]?
  | 0, j, h => by simp at h
  | k + 1, j, h => by
    simp only [reps]
    by_cases hj : j < z.length
    · rw [List.getElem?_append_left hj, Nat.mod_eq_of_lt hj]
    · rw [List.getElem?_append_right (by omega), reps_get z hz k _ (by rw [Nat.add_mul] at h; omega)]
      congr 1
      rw [← Nat.mod_eq_sub_mod (by omega)]
theorem reps_flat {z : List AV} (hz : z.all AV.flat = true) : ∀ k, (reps z k).all AV.flat = true
  | 0 => rfl
  | k + 1 => by simp only [reps, List.all_append, hz, reps_flat hz k, Bool.and_self]
theorem zeros_get (zero : Array Value) (m j : Nat) (h : j < m) (hz : 0 < zero.size) : ((Array.range m).map fun i => zero[i % zero.size]!)[j]? = zero[j % zero.size]? := by
  have hm : j % zero.size < zero.size := Nat.mod_lt _ hz
  rw [Array.getElem?_map, Array.getElem?_eq_getElem (by simpa using h)]
  simp [hm]
theorem reps_ok {z : List AV} {zero : Array Value} (hz : VRs K z zero.toList) (h0 : 0 < z.length) (k : Nat) : VRs K (reps z k) ((Array.range (k * z.length)).map fun i => zero[i % zero.size]!).toList := by
  have hl : z.length = zero.size := by rw [hz.length]; simp
  refine VRs.of_get (by rw [reps_length]; simp) fun j x hx => ?_
  have hj : j < k * z.length := by
    rcases Nat.lt_or_ge j (k * z.length) with h | h
    · exact h
    · rw [List.getElem?_eq_none (by rw [reps_length]; exact h)] at hx; cases hx
  rw [reps_get z h0 k j hj] at hx
  obtain ⟨y, h1, h2⟩ := hz.get _ x hx
  refine ⟨y, ?_, h2⟩
  rw [Array.getElem?_toList, zeros_get _ _ _ hj (by omega), ← hl]
  rw [Array.getElem?_toList] at h1
  exact h1
theorem KM.put_self (K : KM) (o : Nat) (i : Info) : (K.put o i) o = some i := by simp [KM.put]
theorem KM.put_ne (K : KM) {o x : Nat} (i : Info) (h : x ≠ o) : (K.put o i) x = K x := by simp [KM.put, h]
theorem alloc_get_new (w : World) (o : Obj) : (w.alloc o).heap[w.heap.size]? = some o := by
  show (w.heap.push o)[w.heap.size]? = _
  simp
theorem alloc_get_old (w : World) (o : Obj) (k : Nat) (h : k < w.heap.size) : (w.alloc o).heap[k]? = w.heap[k]? := Below.heap_alloc w o k h
/-- A new row of cells, of which the first are told. -/
theorem newRow_ok (h : Sim B K H w) {id : Nat} {cs : List AV} {c : Array Value} {el : TypeId} (hK : K id = none) (hid : H.get id = some (.row cs 0 true)) (hlt : id < H.n)
    (hf : cs.all AV.flat = true) (hc : ∀ (j : Nat) (x : AV), cs[j]? = some x → ∃ y, c[j]? = some y ∧ VR K x y) (hle : cs.length ≤ c.size) (fz : Nat × Nat) (hfz : c.size ≤ fz.1 ∨ fz = (0, 0)) {w' : World}
    (hw : w'.heap = w.heap.push (.cells c el fz)) : Sim B (K.put id ⟨0, w.heap.size, 0, c.size⟩) H w' := by
  refine h.add hK hid hlt rfl (fun k hk => ?_) (by rw [hw]; simp) ?_
  · rw [hw, Array.getElem?_push, if_neg (by omega)]
  · refine ⟨rfl, c, el, fz, ?_, rfl, by simpa using hle, fun j x hx => ?_, fun _ => ⟨h.big, fun off hoff hh => ?_⟩⟩
    · rw [hw]; simp
    · refine ⟨(List.all_eq_true.1 hf) x (List.mem_of_getElem? hx), ?_⟩
      obtain ⟨y, h1, h2⟩ := hc j x hx
      exact ⟨y, by rw [Nat.zero_add]; exact h1, VR.mono (KLe.put hK) _ _ h2⟩
    · rcases hfz with h1 | h1
      · simp only at hoff; omega
      · subst h1; simp at hh
theorem VRs.get_arr {as : List AV} {c : Array Value} (h : VRs K as c.toList) (j : Nat) (x : AV) (hx : as[j]? = some x) : ∃ y, c[j]? = some y ∧ VR K x y := by
  obtain ⟨y, h1, h2⟩ := h.get j x hx
  exact ⟨y, by rw [← Array.getElem?_toList]; exact h1, h2⟩
/-- What making an object comes to. -/
def Makes (P : Program) (B : Nat) (K : KM) (H : Heap) (id : Nat) (s : Sem Value) (w : World) (v : AV) : Prop :=
  ∃ v' w' K', s.run P w = .ok v' w' ∧ Below B w w' ∧ KLe K K' ∧ (∀ x, x ≠ id → K' x = K x) ∧ Sim B K' H w' ∧ VR K' v v'
theorem below_push {w w' : World} {o : Obj} (hB : B ≤ w.heap.size) (h : w' = w.alloc o) : Below B w w' := by
  subst h; exact (Below.refl B w).alloc hB o
theorem below_drew {w : World} : Below B w w.drew := (Below.refl B w).drew
theorem newVar_ok (h : Sim B K H w) {id : Nat} {cs : List AV} {v0 : Value} (t : TypeId) (hK : K id = none) (hid : H.get id = some (.row cs 0 true)) (hlt : id < H.n)
    (hc : VRs K cs v0.cells.toList) (hf : cs.all AV.flat = true) : Makes P B K H id (do pure (.pointer (some (← newVar t v0)))) w (.ptr id 0 0) := by
  refine ⟨.pointer (some ⟨w.heap.size, 0, none⟩), w.alloc (.cells v0.cells t), K.put id ⟨0, w.heap.size, 0, v0.cells.size⟩, rfl, below_push h.big rfl, KLe.put hK, fun x hx => KM.put_ne K _ hx, ?_, ?_⟩
  · exact newRow_ok h hK hid hlt hf (fun j x hx => hc.get_arr j x hx) (by rw [hc.length]; simp) (0, 0) (.inr rfl) rfl
  · simp only [VR]
    exact ⟨_, _, rfl, KM.put_self K id _, Nat.le_refl _, fun _ => rfl⟩
theorem slice_new {id n esz : Nat} {c : Nat} {i : Info} (hi : K id = some i) (h0 : i.ver = 0) (hn : n ≤ c) (hl : i.base = 0) (hlim : c * esz ≤ i.lim) : VR K (.slice id 0 0 n esz) (.slice (some ⟨i.blk, 0, none⟩) n c) := by
  simp only [VR]
  exact ⟨_, c, i, rfl, hi, hn, by omega, fun _ => ⟨by omega, fun _ => by rw [hl]⟩⟩
end
end Go.Am
