/- append, and what writes into rows: related. Own work. -/
import Derived.Test.YtgbkpiaonlabgaaAmO
namespace Go.Am
set_option linter.unusedVariables false
set_option linter.unusedSimpArgs false
open Go Go.RowKit
section
variable {P : Program} {K : KM} {w : World} {B : Nat} {H : Heap}
/-- What a writing operation comes to. -/
def Turns (P : Program) (B : Nat) (K : KM) (H : Heap) {α : Type} (s : Sem α) (w : World) (H' : Heap) (Q : KM → α → Prop) : Prop :=
  ∃ r w' K', s.run P w = .ok r w' ∧ Below B w w' ∧ KLe K K' ∧ (∀ x, x < H.n → K x = none → K' x = none) ∧ Sim B K' H' w' ∧ Q K' r
theorem appendNil_ok (h : Sim B K H w) {id : Nat} {t u e n m : Nat} {z : List AV} (T : AppT P t u e n m z) {x : AV} {x' : Value} {cs : List AV} {k : Nat} (hx : VR K x x') (ha : appended H n x = some (cs, k)) (hroom : k * m ≤ roomCells)
    (hK : K id = none) (hid : H.get id = some (.row cs 0 true)) (hlt : id < H.n) (ty : TypeId) : Makes P B K H id (Builtin.append_ #[t, u] ty #[.slice none 0 0, x']) w (if lenOfV x = 0 then .nilSlice else .slice id 0 0 (lenOfV x) n) := by
  obtain ⟨g1, g2, g3, g4, ds, g5, g6⟩ := appended_ok (P := P) h hx ha
  unfold roomCells at hroom
  rw [g4]
  by_cases h0 : k = 0
  · subst h0
    rw [if_pos rfl]
    refine ⟨.slice none 0 0, w, K, ?_, Below.refl _ _, KLe.refl _, fun _ _ => rfl, h, by simp only [VR]⟩
    rw [run_append_in T g1 (Nat.le_refl _) (g6 w rfl)]
    rfl
  · rw [if_neg h0]
    obtain ⟨cap, rest, c1, c2, c3⟩ := run_append_grow T (base := none) (sLen := 0) (sCap := 0) (olds := #[]) (news := ds.toArray) g1 (by omega) (by simpa using hroom) (fun _ _ => rfl) g6 ty
    simp only [Nat.zero_add] at c1 c2 c3
    have hds : ds.length = k * n := by rw [← g5.length, g2]
    have hsz : (#[] ++ ds.toArray ++ rest).size = cap * n := by
      simp [hds, c2]
      rw [← Nat.add_mul]; congr 1; omega
    have hS := newRow_ok (w' := w.drew.alloc (.cells (#[] ++ ds.toArray ++ rest) e)) h hK hid hlt g3 (fun j y hy => by
      obtain ⟨y', k1, k2⟩ := g5.get j y hy
      refine ⟨y', ?_, k2⟩
      have hj : j < ds.length := by
        rcases Nat.lt_or_ge j ds.length with hh | hh
        · exact hh
        · rw [List.getElem?_eq_none hh] at k1; cases k1
      rw [Array.getElem?_append_left (by simpa using hj)]
      simpa using k1) (by rw [hsz, g2]; exact Nat.mul_le_mul_right _ c1) (0, 0) (.inr rfl) rfl
    refine ⟨_, _, _, c3, (below_drew.alloc h.big _), KLe.put hK, fun x hx => KM.put_ne K _ hx, hS, ?_⟩
    exact slice_new (KM.put_self K id _) rfl c1 rfl (by simp only; rw [hsz]; exact Nat.le_refl _)
theorem append_ok (h : Sim B K H w) {t u e n m : Nat} {z : List AV} (T : AppT P t u e n m z) {s x v : AV} {s' x' : Value} {H' : Heap} (hs : VR K s s') (hx : VR K x x') (hv : (EOp.append n m).ev [s, x] H = some (v, H')) (ty : TypeId) :
    Turns P B K H (Builtin.append_ #[t, u] ty #[s', x']) w H' (fun K' r => VR K' v r) := by
  simp only [EOp.ev] at hv
  split at hv
  · rename_i cs k ha
    split at hv
    · rename_i hroom
      unfold roomCells at hroom
      obtain ⟨g1, g2, g3, g4, ds, g5, g6⟩ := appended_ok (P := P) h hx ha
      have hn1 := Nat.le_of_ble_eq_true T.hn
      have hds : ds.length = k * n := by rw [← g5.length, g2]
      cases s <;> simp only [appendTo] at hv <;> first | (cases hv; done) | skip
      · simp only [VR] at hs
        subst hs
        simp only [AV.slen, Nat.zero_add] at hroom
        split at hv
        · rename_i h0
          cases hv
          subst h0
          refine ⟨.slice none 0 0, w, K, ?_, Below.refl _ _, KLe.refl _, fun _ _ hh => hh, h, by simp only [VR]⟩
          rw [run_append_in T g1 (Nat.le_refl _) (g6 w rfl)]
          rfl
        · rename_i h0
          cases hv
          have hK : K H.n = none := by
            cases hk : K H.n with
            | none => rfl
            | some i => have := h.dom _ _ hk; omega
          have h' := h.push (.row cs 0 true)
          obtain ⟨v', w', K', k1, k2, k3, k4, k5, k6⟩ := appendNil_ok (id := H.n) (ty := ty) h' T hx (by
            unfold appended at ha ⊢
            split at ha
            · exact ha
            · rename_i hne
              split at ha
              · rename_i cs' hcs
                have : (H.push (.row cs 0 true)).rows n x = some cs' := by
                  cases x <;> simp only [Heap.rows] at hcs ⊢ <;> first | exact hcs | skip
                  rename_i o' v' f' n' z'
                  unfold Heap.cells at hcs ⊢
                  simp only [VR] at hx
                  obtain ⟨_, _, i', _, hKo, _⟩ := hx
                  have := h.dom _ _ hKo
                  rw [Heap.get_push, if_neg (by omega)]
                  exact hcs
                rw [this]; exact ha
              · cases ha) hroom hK (by rw [Heap.get_push, if_pos rfl]) (by simp [Heap.n_push])
          refine ⟨v', w', K', k1, k2, k3, fun y hy hh => by rw [k4 y (by omega)]; exact hh, k5, ?_⟩
          rw [g4, if_neg h0] at k6
          exact k6
      · rename_i o ver0 off len z'
        have hs' := hs
        simp only [VR] at hs
        obtain ⟨a, c, i, rfl, hK, hlc, hvv, hg⟩ := hs
        simp only [AV.slen] at hroom
        obtain ⟨ob, ho1, ho2⟩ := h.obj o i hK
        rw [ho1] at hv
        cases ob with
        | map es => cases hv
        | iter _ _ => cases hv
        | row all ver wr =>
          simp only at hv
          split at hv
          · rename_i hc
            obtain ⟨rfl, hc2, rfl, rfl⟩ := hc
            obtain ⟨f1, ca, el, fz, f2, f3, f4, f5, f6⟩ := ho2
            obtain ⟨e1, e2⟩ := hg f1.symm
            have f6' := f6 rfl
            split at hv
            · rename_i h0
              cases hv
              subst h0
              have hds0 : ds = [] := List.eq_nil_of_length_eq_zero (by rw [hds]; simp)
              subst hds0
              refine ⟨.slice (some a) (len + 0) c, w, K, ?_, Below.refl _ _, KLe.refl _, fun _ _ hh => hh, h, hs'⟩
              rw [run_append_in T g1 (by omega) (g6 w rfl)]
              rfl
            · rename_i h0
              cases hv
              have hrows : H.cells o ver0 off (len * z') = some ((all.drop off).take (len * z')) := by
                unfold Heap.cells; rw [ho1]; simp only [true_and]; rw [if_pos hc2]
              have hflat : ((all.drop off).take (len * z')).all AV.flat = true := by
                obtain ⟨_, _, q, _⟩ := cells_ok h hK hrows; exact q
              have hlen : ((all.drop off).take (len * z')).length = len * z' := by simp; omega
              by_cases hfit : len + k ≤ c
              · -- in place
                have ea := e2 (by omega)
                subst ea
                have hmul : (len + k) * z' ≤ c * z' := Nat.mul_le_mul_right _ hfit
                rw [Nat.add_mul] at hmul
                have hst := run_store_row (P := P) (off := i.base + off + len * z') f2 ds (g5.oneCells g3) (by omega) (by rw [f3]; exact f6'.2)
                obtain ⟨⟨c', s1, s2⟩, s3, s4, s5, s6, s7⟩ := setCells_heap (b := i.blk) ds (i.base + off + len * z') w ca f2 (by omega)
                have hsz' : c'.size = i.lim := by
                  have : c'.toList.length = ca.toList.length := by rw [s2]; simp; omega
                  simpa [f3] using this
                have hle : KLe K (K.put o ⟨ver0 + 1, i.blk, i.base + off, i.lim⟩) := by
                  intro y j hy
                  by_cases e' : y = o
                  · subst e'
                    rw [hK] at hy; cases hy
                    exact ⟨_, KM.put_self K _ _, by simp; omega, fun e'' => by simp at e''; omega⟩
                  · exact ⟨j, by rw [KM.put_ne K _ e']; exact hy, Nat.le_refl _, fun _ => rfl⟩
                refine ⟨.slice (some ⟨i.blk, i.base + off, none⟩) (len + k) c, w.setCells i.blk (i.base + off + len * z') ds, K.put o ⟨ver0 + 1, i.blk, i.base + off, i.lim⟩, ?_, ?_, hle, ?_, ?_, ?_⟩
                · rw [run_append_in T g1 hfit (g6 w rfl)]
                  simp only [add_eq, Sem.run_bind, hst, Result.andThen_ok]
                  rfl
                · exact ⟨s5, s6, s7, by rw [s4]; exact Nat.le_refl _, fun k' hk' => s3 k' (by omega)⟩
                · intro y hy hn'
                  by_cases e' : y = o
                  · subst e'; rw [hK] at hn'; cases hn'
                  · rw [KM.put_ne K _ e']; exact hn'
                · refine h.turn hK ho1 rfl rfl hle (.inl rfl) (fun k' _ hk' => s3 k' hk') (by rw [s4]; exact Nat.le_refl _) ?_
                  refine ⟨rfl, c', el, fz, s1, hsz', ?_, fun j y hy => ?_, fun _ => f6'⟩
                  · simp only [List.length_append, hlen, g2]; omega
                  · have hjl : j < len * z' + k * z' := by
                      rcases Nat.lt_or_ge j (len * z' + k * z') with hh | hh
                      · exact hh
                      · rw [List.getElem?_eq_none (by rw [List.length_append, hlen, g2]; exact hh)] at hy; cases hy
                    by_cases hj : j < len * z'
                    · rw [List.getElem?_append_left (by omega), List.getElem?_take, if_pos hj, List.getElem?_drop] at hy
                      obtain ⟨p1, y', p2, p3⟩ := f5 _ _ hy
                      refine ⟨p1, y', ?_, VR.mono hle _ _ p3⟩
                      rw [← Array.getElem?_toList, s2]
                      simp only
                      rw [List.getElem?_append_left (by simp; omega), List.getElem?_take, if_pos (by omega), Array.getElem?_toList]
                      rw [show i.base + off + j = i.base + (off + j) by omega]; exact p2
                    · rw [List.getElem?_append_right (by omega), hlen] at hy
                      obtain ⟨y', p2, p3⟩ := g5.get _ _ hy
                      refine ⟨List.all_eq_true.1 g3 _ (List.mem_of_getElem? hy), y', ?_, VR.mono hle _ _ p3⟩
                      rw [← Array.getElem?_toList, s2]
                      simp only
                      have hl1 : (List.take (i.base + off + len * z') ca.toList).length = i.base + off + len * z' := by simp; omega
                      rw [List.getElem?_append_right (by omega), hl1, List.getElem?_append_left (by omega)]
                      rw [show i.base + off + j - (i.base + off + len * z') = j - len * z' by omega]; exact p2
                · simp only [VR]
                  exact ⟨_, c, _, rfl, KM.put_self K _ _, hfit, Nat.le_refl _, fun _ => ⟨by simp only; omega, fun _ => by simp⟩⟩
              · -- it grows
                obtain ⟨q1, q2, q3, q4, os, q5, q6⟩ := appended_ok (P := P) (esz := z') (x := .slice o ver0 off len z') (cs := (all.drop off).take (len * z')) (k := len) h hs' (by
                  unfold appended; simp only [Heap.rows, hrows, AV.slen])
                obtain ⟨cap, rest, c1, c2', c3⟩ := run_append_grow T (base := some a) (sLen := len) (sCap := c) (olds := os.toArray) (news := ds.toArray) g1 (by omega) hroom q6 g6 ty
                have hos : os.length = len * z' := by rw [← q5.length, hlen]
                have hsz : (os.toArray ++ ds.toArray ++ rest).size = cap * z' := by
                  simp [hos, hds, c2']
                  rw [← Nat.add_mul, ← Nat.add_mul]; congr 1; omega
                have hle : KLe K (K.put o ⟨ver0 + 1, w.heap.size, 0, cap * z'⟩) := by
                  intro y j hy
                  by_cases e' : y = o
                  · subst e'
                    rw [hK] at hy; cases hy
                    exact ⟨_, KM.put_self K _ _, by simp; omega, fun e'' => by simp at e''; omega⟩
                  · exact ⟨j, by rw [KM.put_ne K _ e']; exact hy, Nat.le_refl _, fun _ => rfl⟩
                have hcapz : (len + k) * z' ≤ cap * z' := Nat.mul_le_mul_right _ c1
                rw [Nat.add_mul] at hcapz
                refine ⟨_, _, K.put o ⟨ver0 + 1, w.heap.size, 0, cap * z'⟩, c3, below_drew.alloc h.big _, hle, ?_, ?_, ?_⟩
                · intro y hy hn'
                  by_cases e' : y = o
                  · subst e'; rw [hK] at hn'; cases hn'
                  · rw [KM.put_ne K _ e']; exact hn'
                · refine h.turn hK ho1 rfl rfl hle (.inr rfl) (fun k' hk' _ => alloc_get_old w.drew _ _ hk') (by show w.heap.size ≤ (w.heap.push _).size; simp) ?_
                  refine ⟨rfl, _, e, (0, 0), alloc_get_new w.drew _, hsz, ?_, fun j y hy => ?_, fun _ => ⟨h.big, fun off' _ hh => by simp at hh⟩⟩
                  · simp only [List.length_append, hlen, g2, Nat.zero_add]; exact hcapz
                  · have hjl : j < len * z' + k * z' := by
                      rcases Nat.lt_or_ge j (len * z' + k * z') with hh | hh
                      · exact hh
                      · rw [List.getElem?_eq_none (by rw [List.length_append, hlen, g2]; exact hh)] at hy; cases hy
                    have hall := q5.append g5
                    obtain ⟨y', p2, p3⟩ := hall.get _ _ hy
                    refine ⟨?_, y', ?_, VR.mono hle _ _ p3⟩
                    · have : ((all.drop off).take (len * z') ++ cs).all AV.flat = true := by simp only [List.all_append, hflat, g3, Bool.and_self]
                      exact List.all_eq_true.1 this _ (List.mem_of_getElem? hy)
                    · simp only [Nat.zero_add]
                      rw [Array.getElem?_append_left (by simp [hos, hds]; omega)]
                      simpa [← Array.getElem?_toList] using p2
                · simp only [VR]
                  exact ⟨_, cap, _, rfl, KM.put_self K _ _, c1, Nat.le_refl _, fun _ => ⟨by simp, fun _ => rfl⟩⟩
          · cases hv
    · cases hv
  · cases hv
end
end Go.Am
