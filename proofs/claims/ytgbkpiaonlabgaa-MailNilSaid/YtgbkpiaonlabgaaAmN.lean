/- The operations that make one object do what the model's do, continued. Own work. -/
import Derived.Test.YtgbkpiaonlabgaaAmM
import Derived.Laws.NewFold
namespace Go.Am
set_option linter.unusedVariables false
set_option linter.unusedSimpArgs false
open Go Go.RowKit
section
variable {P : Program} {K : KM} {w : World} {B : Nat} {H : Heap}
theorem wrap_small {x : Int} (h0 : 0 ≤ x) (h1 : x ≤ 1099511627776) : IntKind.i64.wrap x = x := by
  unfold IntKind.wrap
  simp only [IntKind.bits, IntKind.signed]
  have e : x % (2 ^ 64 : Int) = x := by omega
  simp only [e]
  rw [if_neg]
  simp
  omega
theorem run_zeroCells {e n : Nat} {z : List AV} (hz : zeroOf P e = some z) (hl : z.length = n) (hn : 0 < n) (m : Nat) :
    ∃ zero : Array Value, (∀ (f : Array Value → Sem Value), (if m * n = 0 then do
        let zero ← pure #[]
        f zero
      else do
        let zv ← zeroValue e
        let zero ← pure zv.cells
        f zero : Sem Value).run P w = (f zero).run P w) ∧ VRs K (reps z m) ((Array.range (m * n)).map fun i => zero[i % zero.size]!).toList := by
  obtain ⟨v0, h1, h2, h3⟩ := run_zeroOf (K := K) hz w
  by_cases h0 : m * n = 0
  · refine ⟨#[], fun f => by rw [if_pos h0]; rfl, ?_⟩
    have : m = 0 := by
      rcases Nat.mul_eq_zero.1 h0 with h | h
      · exact h
      · omega
    subst this
    simp [reps, VRs]
  · refine ⟨v0.cells, fun f => by rw [if_neg h0]; simp only [Sem.run_bind, h1, Result.andThen_ok, Sem.run_pure], ?_⟩
    subst hl
    exact reps_ok h2 hn m
theorem buildSlice_ok (h : Sim B K H w) {id : Nat} (hK : K id = none) {r : List AV} (hid : H.get id = some (.row r 0 true)) (hlt : id < H.n) {t e len n : Nat} {z : List AV} {ps : List (Nat × Value)} {vs : List AV}
    (hd : P.underlying t = some (.slice e)) (hz : zeroOf P e = some z) (hn : size? P e = some n) (hp : posB n = true) (hbig : len * n ≤ 16777216) (hl : z.length = n) (hv : VRs K vs (ps.map (·.2))) (hpl : place (reps z len) (ps.map fun p => (p.1 * n, n)) vs = some r) :
    Makes P B K H id (Instr.buildSlice t len ps.toArray) w (.slice id 0 0 len n) := by
  have hn0 : 0 < n := Nat.le_of_ble_eq_true hp
  have hzf : z.all AV.flat = true := let ⟨_, _, _, k⟩ := run_zeroOf (K := K) hz w; k
  obtain ⟨zero, h1, h2⟩ := run_zeroCells (P := P) (K := K) (w := w) hz hl hn0 len
  obtain ⟨out, ho1, ho2, ho3⟩ := fill_ok (K := K) (fun i => some (i * n, n)) ps (ps.map fun p => (p.1 * n, n)) vs (reps z len) _ r (by simp)
    (fun j p o hp ho => by
      simp only [List.getElem?_map, Option.map_eq_some_iff] at ho
      obtain ⟨q', hq', rfl⟩ := ho
      rw [hp] at hq'; cases hq'; rfl) hv h2 (reps_flat hzf len) hpl
  have hlen : out.size = len * n := by
    have := ho2.length
    have h4 : ∀ (zero : List AV) (offs : List (Nat × Nat)) (vs r : List AV), place zero offs vs = some r → r.length = zero.length := by
      intro zero offs
      induction offs generalizing zero with
      | nil => intro vs r h; cases vs <;> simp [place] at h; subst h; rfl
      | cons o os ih =>
        intro vs r h
        cases vs with
        | nil => cases h
        | cons v vs =>
          simp only [place] at h
          cases hb : (Nat.beq v.cells.length o.2 && Nat.ble (o.1 + o.2) zero.length && !v.isTup) with
          | false => rw [hb] at h; cases h
          | true =>
            rw [hb, cond_true] at h
            simp only [Bool.and_eq_true] at hb
            have a1 := Nat.eq_of_beq_eq_true hb.1.1
            have a2 := Nat.le_of_ble_eq_true hb.1.2
            rw [ih _ _ _ h, splice_len (by omega)]
    have h5 := h4 _ _ _ _ hpl
    rw [reps_length, hl] at h5
    simp at this
    omega
  refine ⟨.slice (some ⟨w.heap.size, 0, none⟩) len len, w.alloc (.cells out e), K.put id ⟨0, w.heap.size, 0, out.size⟩, ?_, below_push h.big rfl, KLe.put hK, fun x hx => KM.put_ne K _ hx, ?_, ?_⟩
  · unfold Instr.buildSlice
    simp only [Sem.run_bind, run_underlying hd, Result.andThen_ok, run_sizeOf' hn]
    rw [if_neg (by omega), h1]
    simp only [ho1]
    rfl
  · exact newRow_ok h hK hid hlt ho3 (fun j x hx => ho2.get_arr j x hx) (by rw [ho2.length]; simp) (0, 0) (.inr rfl) rfl
  · exact slice_new (KM.put_self K id _) rfl (Nat.le_refl _) rfl (by simp [hlen])
theorem mkSlice_ok (h : Sim B K H w) {id : Nat} (hK : K id = none) {l c : Int} {k k' : IntKind} {t e n m : Nat} {z : List AV} (hid : H.get id = some (.row (reps z l.toNat) 0 true)) (hlt : id < H.n)
    (hd : P.underlying t = some (.slice e)) (hz : zeroOf P e = some z) (hn : size? P e = some n) (hm : bytes? P e = some m) (hp : posB n = true) (hl : z.length = n) (hb : 0 ≤ l ∧ l ≤ c ∧ c * m ≤ roomCells ∧ c ≤ roomCells) :
    Makes P B K H id (Instr.makeSlice t (.int k l) (.int k' c)) w (.slice id 0 0 l.toNat n) := by
  have hn0 : 0 < n := Nat.le_of_ble_eq_true hp
  have hzf : z.all AV.flat = true := let ⟨_, _, _, k⟩ := run_zeroOf (K := K) hz w; k
  obtain ⟨b0, b1, b2, b3⟩ := hb
  unfold roomCells at b2 b3
  obtain ⟨i, hi, him⟩ := bytes?_info hm
  obtain ⟨zero, h1, h2⟩ := run_zeroCells (P := P) (K := K) (w := w) hz hl hn0 c.toNat
  have wl : IntKind.i64.wrap l = l := wrap_small b0 (by omega)
  have wc : IntKind.i64.wrap c = c := wrap_small (by omega) (by omega)
  have hsz : ((Array.range (c.toNat * n)).map fun i => zero[i % zero.size]!).size = c.toNat * n := by simp
  refine ⟨.slice (some ⟨w.heap.size, 0, none⟩) l.toNat c.toNat, w.alloc (.cells ((Array.range (c.toNat * n)).map fun i => zero[i % zero.size]!) e), K.put id ⟨0, w.heap.size, 0, c.toNat * n⟩, ?_, below_push h.big rfl, KLe.put hK, fun x hx => KM.put_ne K _ hx, ?_, ?_⟩
  · unfold Instr.makeSlice
    simp only [Sem.run_bind, run_underlying hd, Result.andThen_ok, asInt, asIntOf, Sem.run_pure, typeInfo, run_program, hi, wl, wc]
    have t1 : (decide (c < 0) || decide ((i.bytes : Int) * c > 2 ^ 48)) = false := by
      have e1 : (i.bytes : Int) * c = c * m := by rw [him, Int.mul_comm]
      simp only [Bool.or_eq_false_iff, decide_eq_false_iff_not]
      rw [e1]
      omega
    rw [t1]
    rw [if_neg (by simp; omega)]
    simp only [Sem.run_bind, run_askRoom, Result.andThen_ok, run_sizeOf' hn]
    rw [h1]
    rfl
  · have hlen : (reps z l.toNat).length ≤ c.toNat * n := by
      rw [reps_length, hl]; exact Nat.mul_le_mul_right _ (by omega)
    have := newRow_ok (w' := w.alloc (.cells ((Array.range (c.toNat * n)).map fun i => zero[i % zero.size]!) e)) h hK hid hlt (reps_flat hzf _) (fun j x hx => ?_) (by rw [hsz]; exact hlen) (0, 0) (.inr rfl) rfl
    · rw [hsz] at this; exact this
    · have hj : j < l.toNat * z.length := by
        rcases Nat.lt_or_ge j (l.toNat * z.length) with h | h
        · exact h
        · rw [List.getElem?_eq_none (by rw [reps_length]; exact h)] at hx; cases hx
      refine h2.get_arr j x ?_
      have hle : l.toNat * z.length ≤ c.toNat * z.length := Nat.mul_le_mul_right _ (by omega)
      rw [reps_get z (by omega) _ _ (by omega)]
      rw [reps_get z (by omega) _ _ hj] at hx
      exact hx
  · exact slice_new (KM.put_self K id _) rfl (by omega) rfl (by simp)
theorem mkMap_ok (h : Sim B K H w) {id : Nat} (hK : K id = none) (hid : H.get id = some (.map [])) (hlt : id < H.n) (t : TypeId) : Makes P B K H id (Instr.makeMap t none) w (.map id) := by
  refine ⟨.map (some w.heap.size), w.alloc (.map #[] 0), K.put id ⟨0, w.heap.size, 0, 0⟩, rfl, below_push h.big rfl, KLe.put hK, fun x hx => KM.put_ne K _ hx, ?_, ?_⟩
  · refine h.add hK hid hlt rfl (fun k hk => alloc_get_old _ _ _ hk) (by simp) ?_
    exact ⟨rfl, h.big, #[], 0, alloc_get_new _ _, by simp [VRm]⟩
  · simp only [VR]
    exact ⟨_, _, rfl, KM.put_self K id _, fun _ => rfl⟩
theorem rangeStr_ok (h : Sim B K H w) {id : Nat} {s : List UInt8} (hK : K id = none) (hid : H.get id = some (.iter s 0)) (hlt : id < H.n) {t : TypeId} (hd : P.underlying t = some .string) : Makes P B K H id (Instr.range t (.string ⟨s.toArray⟩)) w (.iter id) := by
  refine ⟨.pointer (some ⟨w.heap.size, 0, none⟩), w.alloc (.stringIter ⟨s.toArray⟩ 0), K.put id ⟨0, w.heap.size, 0, 0⟩, ?_, below_push h.big rfl, KLe.put hK, fun x hx => KM.put_ne K _ hx, ?_, ?_⟩
  · unfold Instr.range
    simp only [Sem.run_bind, run_underlying hd, Result.andThen_ok, Sem.run_pure]
    rfl
  · refine h.add hK hid hlt rfl (fun k hk => alloc_get_old _ _ _ hk) (by simp) ?_
    exact ⟨rfl, h.big, alloc_get_new _ _⟩
  · simp only [VR]
    exact ⟨_, _, rfl, KM.put_self K id _, fun _ => rfl⟩
theorem ofBytes_get (s : List UInt8) (j : Nat) : (ofBytes s)[j]? = s[j]?.map fun b => AV.int .u8 b.toNat := by simp [ofBytes]
theorem ofBytes_flat (s : List UInt8) : (ofBytes s).all AV.flat = true := by
  simp [ofBytes, AV.flat]
theorem ofBytes_length (s : List UInt8) : (ofBytes s).length = s.length := by simp [ofBytes]
theorem strToBytes_ok (h : Sim B K H w) {id : Nat} {s : List UInt8} (hK : K id = none) (hid : H.get id = some (.row (ofBytes s) 0 true)) (hlt : id < H.n) (hs : s.length ≤ roomCells) (el : TypeId) :
    Makes P B K H id (Conv.stringToBytes el ⟨s.toArray⟩) w (.slice id 0 0 s.length 1) := by
  unfold roomCells at hs
  have hsz : (⟨s.toArray⟩ : ByteArray).size = s.length := by simp [ByteArray.size]
  have hcap : ∃ cap, s.length ≤ cap ∧ (choose (.appendCap s.length 0 el)).run P w = .ok cap w.drew := by
    refine ⟨s.length + (w.tape w.drawn (.appendCap s.length 0 el)) % (2 ^ 63 - s.length), by omega, ?_⟩
    rw [run_choose_drew]
    rfl
  obtain ⟨cap, hc1, hc2⟩ := hcap
  have hcells : ∀ (j : Nat) (x : AV), (ofBytes s)[j]? = some x → ∃ y, ((s.toArray.map fun (b : UInt8) => Value.int .u8 b.toNat) ++ Array.replicate (cap - s.length) (Value.int .u8 0))[j]? = some y ∧ VR K x y := by
    intro j x hx
    rw [ofBytes_get] at hx
    cases hb : s[j]? with
    | none => rw [hb] at hx; cases hx
    | some b =>
      rw [hb] at hx; cases hx
      have hj : j < s.length := by
        rcases Nat.lt_or_ge j s.length with h | h
        · exact h
        · rw [List.getElem?_eq_none h] at hb; cases hb
      refine ⟨.int .u8 b.toNat, ?_, by simp only [VR]⟩
      rw [Array.getElem?_append_left (by simpa using hj)]
      simp [hb]
  have hcsz : ((s.toArray.map fun (b : UInt8) => Value.int .u8 b.toNat) ++ Array.replicate (cap - s.length) (Value.int .u8 0)).size = cap := by simp; omega
  generalize hcd : ((s.toArray.map fun (b : UInt8) => Value.int .u8 b.toNat) ++ Array.replicate (cap - s.length) (Value.int .u8 0)) = cells at hcells hcsz
  refine ⟨.slice (some ⟨w.heap.size, 0, none⟩) s.length cap, (w.drew.alloc (.cells cells el)).freeze ⟨w.heap.size, cap, none⟩ 1, K.put id ⟨0, w.heap.size, 0, cap⟩, ?_, ?_, KLe.put hK, fun x hx => KM.put_ne K _ hx, ?_, ?_⟩
  · unfold Conv.stringToBytes
    simp only [hsz, Sem.run_bind, hc2, Result.andThen_ok]
    have e1 : ((⟨s.toArray⟩ : ByteArray).data.map fun (b : UInt8) => Value.int .u8 b.toNat) ++ Array.replicate (cap - s.length) (Value.int .u8 0) = cells := hcd
    rw [e1]
    have e2 : (newRow el cells).run P w.drew = .ok ⟨w.heap.size, 0, none⟩ (w.drew.alloc (.cells cells el)) := rfl
    rw [e2]
    simp only [Result.andThen_ok]
    have e3 : (markStringish ⟨w.heap.size, 0, none⟩).run P (w.drew.alloc (.cells cells el)) = .ok () ((w.drew.alloc (.cells cells el)).freeze ⟨w.heap.size, cap, none⟩ 1) := by
      unfold markStringish
      simp only [Sem.run_bind, run_shape, Result.andThen_ok]
      have : (w.drew.alloc (.cells cells el)).shape? w.heap.size = some (el, cap) := by
        unfold World.shape?
        have := alloc_get_new w.drew (.cells cells el)
        have e4 : w.drew.heap.size = w.heap.size := rfl
        rw [e4] at this
        rw [this]
        simp only [hcsz]
      rw [this]
      rfl
    rw [e3]
    rfl
  · have b1 : Below B w (w.drew.alloc (.cells cells el)) := below_drew.alloc h.big _
    refine b1.trans ⟨rfl, rfl, rfl, ?_, fun k hk => ?_⟩
    · simp [World.freeze]
    · have := h.big
      simp only [World.freeze, Nat.one_ne_zero, if_false, Array.getElem?_modify]
      rw [if_neg (by omega)]
  · have hheap : ((w.drew.alloc (.cells cells el)).freeze ⟨w.heap.size, cap, none⟩ 1).heap = w.heap.push (.cells cells el (cap, cap + 1)) := by
      have e : (w.drew.alloc (.cells cells el)).heap = w.heap.push (.cells cells el) := rfl
      simp only [World.freeze, Nat.one_ne_zero, if_false, e]
      apply Array.ext_getElem?
      intro k
      rw [Array.getElem?_modify, Array.getElem?_push, Array.getElem?_push]
      split
      · rename_i hk; subst hk; simp
      · rename_i hk; rw [if_neg (by simpa using fun e => hk e.symm), if_neg (fun e => hk e.symm)]
    have := newRow_ok h hK hid hlt (ofBytes_flat s) hcells (by rw [ofBytes_length, hcsz]; exact hc1) (cap, cap + 1) (.inl (by rw [hcsz]; exact Nat.le_refl _)) hheap
    rw [hcsz] at this
    exact this
  · exact slice_new (KM.put_self K id _) rfl hc1 rfl (by simp)
end
end Go.Am
