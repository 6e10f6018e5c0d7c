/- Stores, maps, texts gone through; all writing operations as two theorems. Own work. -/
import Derived.Test.YtgbkpiaonlabgaaAmP
namespace Go.Am
set_option linter.unusedVariables false
set_option linter.unusedSimpArgs false
open Go Go.RowKit Go.MapKept
section
variable {P : Program} {K : KM} {w : World} {B : Nat} {H : Heap}
theorem store_ok (h : Sim B K H w) {o v off n : Nat} {x r : AV} {a' x' : Value} {H' : Heap} (ha : VR K (.ptr o v off) a') (hx : VR K x x') (hv : (EOp.store n).ev [.ptr o v off, x] H = some (r, H')) {t : TypeId} (hn : size? P t = some n) :
    Turns P B K H (Instr.storeAt t a' x') w H' (fun _ _ => r = .undef) := by
  simp only [VR] at ha
  obtain ⟨a, i, rfl, hK, hvv, hg⟩ := ha
  obtain ⟨ob, ho1, ho2⟩ := h.obj o i hK
  simp only [EOp.ev, ho1] at hv
  cases ob with
  | map es => cases hv
  | iter _ _ => cases hv
  | row cs ver wr =>
    simp only at hv
    split at hv
    · rename_i hc
      obtain ⟨rfl, hc2, rfl, hc4, hc5⟩ := hc
      cases hv
      obtain ⟨f1, ca, el, fz, f2, f3, f4, f5, f6⟩ := ho2
      have ea := hg f1.symm
      subst ea
      obtain ⟨k1, k2⟩ := hx.cells hc5
      have hds : x'.cells.toList.length = n := by rw [← k1.length, hc4]
      have f6' := f6 rfl
      have hst := run_store_row (P := P) (off := i.base + off) f2 x'.cells.toList (k1.oneCells k2) (by omega) (by rw [f3]; exact f6'.2)
      obtain ⟨⟨c', s1, s2⟩, s3, s4, s5, s6, s7⟩ := setCells_heap (b := i.blk) x'.cells.toList (i.base + off) w ca f2 (by omega)
      have hsz' : c'.size = i.lim := by
        have : c'.toList.length = ca.toList.length := by rw [s2]; simp; simp at hds; omega
        simpa [f3] using this
      have hput : K.put o i = K := by
        funext y
        by_cases e : y = o
        · subst e; rw [KM.put_self, hK]
        · rw [KM.put_ne K _ e]
      refine ⟨(), w.setCells i.blk (i.base + off) x'.cells.toList, K, ?_, ⟨s5, s6, s7, by rw [s4]; exact Nat.le_refl _, fun k' hk' => s3 k' (by omega)⟩, KLe.refl _, fun _ _ hh => hh, ?_, rfl⟩
      · unfold Instr.storeAt
        simp only [Instr.sureAddr, Sem.run_bind, Sem.run_pure, Result.andThen_ok, storeVar, run_sizeOf' hn]
        rw [if_neg (by simp at hds; simp [hds])]
        exact hst
      · refine h.turn hK ho1 rfl hput.symm (KLe.refl _) (.inl rfl) (fun k' _ hk' => s3 k' hk') (by rw [s4]; exact Nat.le_refl _) ?_
        refine ⟨f1, c', el, fz, s1, hsz', ?_, fun j y hy => ?_, fun _ => f6'⟩
        · rw [splice_len (by omega)]; exact f4
        · have hflat : cs.all AV.flat = true := by
            rw [List.all_eq_true]
            intro y hy
            obtain ⟨j, hj⟩ := List.mem_iff_getElem?.1 hy
            exact (f5 j y hj).1
          refine ⟨List.all_eq_true.1 (flat_splice hflat k2) _ (List.mem_of_getElem? hy), ?_⟩
          rw [← Array.getElem?_toList, s2]
          unfold splice at hy
          by_cases h1 : j < off
          · rw [List.getElem?_append_left (by simp; omega), List.getElem?_take, if_pos h1] at hy
            obtain ⟨_, y', p2, p3⟩ := f5 _ _ hy
            refine ⟨y', ?_, p3⟩
            rw [List.getElem?_append_left (by simp; omega), List.getElem?_take, if_pos (by omega), Array.getElem?_toList]
            exact p2
          · have hl1 : (cs.take off).length = off := by simp; omega
            have hl2 : (ca.toList.take (i.base + off)).length = i.base + off := by simp; omega
            rw [List.getElem?_append_right (by omega), hl1] at hy
            rw [List.getElem?_append_right (by omega), hl2]
            by_cases h2 : j - off < n
            · rw [List.getElem?_append_left (by omega)] at hy
              obtain ⟨y', p2, p3⟩ := k1.get _ _ hy
              refine ⟨y', ?_, p3⟩
              rw [List.getElem?_append_left (by omega), show i.base + j - (i.base + off) = j - off by omega]
              exact p2
            · rw [List.getElem?_append_right (by omega), List.getElem?_drop] at hy
              obtain ⟨_, y', p2, p3⟩ := f5 _ _ hy
              refine ⟨y', ?_, p3⟩
              rw [List.getElem?_append_right (by omega), List.getElem?_drop, Array.getElem?_toList]
              rw [← p2]; congr 1; omega
    · cases hv
theorem sameBits_key {q : Nat} {k k2 : AV} {x x2 : Value} (hk : keyOk q k = true) (h : keyEq k k2 = some true) (hx : VR K k x) (hx2 : VR K k2 x2) : Instr.sameBits 10000 x2 x = true := by
  have e : (10000 : Nat) = 9999 + 1 := rfl
  unfold keyEq at h
  split at h
  · simp only [VR] at hx hx2
    subst hx; subst hx2
    split at h
    · rename_i e'; subst e'
      simp at h
      subst h
      rw [e]
      simp [Instr.sameBits]
    · cases h
  · simp only [VR] at hx hx2
    subst hx; subst hx2
    simp at h
    subst h
    rw [e]
    simp only [Instr.sameBits]
    rw [bytes_beq]
  · cases h
theorem putIn_ok {q : Nat} {k v : AV} {x y : Value} {d : TypeDesc} (hk : keyOk q k = true) (hd : keyKind d = some q) (hx : VR K k x) (hy : VR K v y) : ∀ {es es' : List (AV × AV)} {l : List MapEntry}, VRm K es l → putIn k v es = some es' → ∀ i,
    (Instr.findNow d x l i = some none ∧ ∀ b, VRm K es' (l ++ [{ key := x, val := y, born := b }])) ∨
    ∃ j e, Instr.findNow d x l i = some (some (i + j, e.val)) ∧ l[j]? = some e ∧ Instr.sameBits 10000 e.key x = true ∧ VRm K es' (l.set j { e with key := x, val := y })
  | [], es', l, hm, h, i => by
    simp only [VRm] at hm; subst hm; cases h
    exact .inl ⟨rfl, fun b => ⟨_, _, rfl, hx, hy, rfl⟩⟩
  | (k2, v2) :: es, es', l, hm, h, i => by
    simp only [VRm] at hm
    obtain ⟨e, ents, rfl, h1, h2, h3⟩ := hm
    simp only [putIn] at h
    split at h
    · cases h
    · rename_i he
      cases h
      refine .inr ⟨0, e, by simp only [Instr.findNow, keyEq_ok hk hd he hx h1, Nat.add_zero], rfl, sameBits_key hk he hx h1, ?_⟩
      exact ⟨_, _, rfl, hx, hy, h3⟩
    · rename_i he
      split at h
      · cases h
      · rename_i es2 hes
        cases h
        rcases putIn_ok hk hd hx hy h3 hes (i + 1) with ⟨g1, g2⟩ | ⟨j, e', g1, g2, g3, g4⟩
        · exact .inl ⟨by simp only [Instr.findNow, keyEq_ok hk hd he hx h1, g1], fun b => ⟨e, _, rfl, h1, h2, g2 b⟩⟩
        · exact .inr ⟨j + 1, e', by simp only [Instr.findNow, keyEq_ok hk hd he hx h1, g1]; congr 3; omega, by simpa using g2, g3, ⟨e, _, rfl, h1, h2, g4⟩⟩
theorem mapSet_ok (h : Sim B K H w) {kq : Nat} {m k v r : AV} {m' k' v' : Value} {H' : Heap} (hv : (EOp.mapSet kq).ev [m, k, v] H = some (r, H')) (hm : VR K m m') (hk : VR K k k') (hx : VR K v v') {t kt et : TypeId} {d : TypeDesc}
    (ht : P.underlying t = some (.map kt et)) (hkt : P.underlying kt = some d) (hd : keyKind d = some kq) : Turns P B K H (Instr.mapUpdate t m' k' v') w H' (fun _ _ => r = .undef) := by
  cases m <;> first | (simp only [EOp.ev] at hv; cases hv; done) | skip
  rename_i o
  simp only [EOp.ev] at hv
  split at hv
  · rename_i es hes
    split at hv
    · rename_i hko
      split at hv
      · rename_i es' hput
        cases hv
        simp only [VR] at hm
        obtain ⟨rr, i, rfl, hK, hr⟩ := hm
        obtain ⟨ob, h1, h2⟩ := h.obj o i hK
        rw [hes] at h1; cases h1
        obtain ⟨g1, g2, ents, clock, g3, g4⟩ := h2
        have hri := hr g1
        subst hri
        have hc := checkKey_ok (P := P) (w := w) hkt hko hd hk false
        have hgo := MapKept.run_getObj_map (P := P) g3
        have hputK : K.put o i = K := by
          funext y
          by_cases e : y = o
          · subst e; rw [KM.put_self, hK]
          · rw [KM.put_ne K _ e]
        have fin : ∀ (ents' : Array MapEntry) (clock' : Nat), (Instr.mapUpdate t (.map (some i.blk)) k' v').run P w = .ok () { w with heap := w.heap.setIfInBounds i.blk (.map ents' clock') } → VRm K es' ents'.toList →
            Turns P B K H (Instr.mapUpdate t (.map (some i.blk)) k' v') w (H.set o (.map es')) (fun _ _ => AV.undef = .undef) := by
          intro ents' clock' hrun hm'
          obtain ⟨q1, q2⟩ := heap_set (o' := .map ents' clock') g3
          refine ⟨(), _, K, hrun, ⟨rfl, rfl, rfl, by simp, fun k' hk' => q2 k' (by omega)⟩, KLe.refl _, fun _ _ hh => hh, ?_, rfl⟩
          exact h.turn hK hes rfl hputK.symm (KLe.refl _) (.inl rfl) (fun k' _ hk' => q2 k' hk') (by simp) ⟨g1, g2, ents', clock', q1, hm'⟩
        have hset : ∀ ob', (setObj i.blk ob').run P w = .ok () { w with heap := w.heap.setIfInBounds i.blk ob' } := fun ob' => MapKept.run_setObj_map (P := P) ob' g3
        rcases putIn_ok hko hd hk hx g4 hput 0 with ⟨f1, f2⟩ | ⟨j, e, f1, f2, f3, f4⟩
        · have hf : (Instr.findKey kt k' ents.toList).run P w = .ok none w := by simp [Instr.findKey, run_underlying hkt, f1]
          refine fin (ents.push { key := k', val := v', born := clock }) (clock + 1) ?_ (by simpa using f2 clock)
          unfold Instr.mapUpdate
          simp only [Sem.run_bind, run_underlying ht, Result.andThen_ok, hgo, hc, hf, hset]
        · have hf : (Instr.findKey kt k' ents.toList).run P w = .ok (some (0 + j, e.val)) w := by simp [Instr.findKey, run_underlying hkt, f1]
          have hj : j < ents.size := by
            rcases Nat.lt_or_ge j ents.size with hh | hh
            · exact hh
            · rw [List.getElem?_eq_none (by simpa using hh)] at f2; cases f2
          refine fin (ents.modify j fun e => { e with key := k', val := v' }) clock ?_ ?_
          · unfold Instr.mapUpdate
            simp only [Sem.run_bind, run_underlying ht, Result.andThen_ok, hgo, hc, hf, Nat.zero_add]
            have e2 : ((ents[j]?).map (·.key)).getD k' = e.key := by
              rw [← Array.getElem?_toList, f2]; rfl
            rw [e2]
            simp only [Instr.keyThatStays, f3, if_true, Sem.run_pure, Result.andThen_ok, hset]
          · have e3 : (ents.modify j fun e => { e with key := k', val := v' }).toList = ents.toList.set j { e with key := k', val := v' } := by
              rw [Array.toList_modify]
              apply List.ext_getElem?
              intro y
              rw [List.getElem?_modify, List.getElem?_set]
              by_cases ey : j = y
              · subst ey
                rw [if_pos rfl, if_pos (by simpa using hj), f2]; simp
              · simp [ey]
            rw [e3]; exact f4
      · cases hv
    · cases hv
  · cases hv
theorem nextStr_ok (h : Sim B K H w) {x v : AV} {x' : Value} {H' : Heap} (hx : VR K x x') (hv : EOp.nextStr.ev [x] H = some (v, H')) (ty : TypeId) : Turns P B K H (Instr.next x' true ty) w H' (fun K' r => VR K' v r) := by
  cases x <;> first | (simp only [EOp.ev] at hv; cases hv; done) | skip
  rename_i o
  simp only [EOp.ev] at hv
  split at hv
  · rename_i s pos hes
    simp only [VR] at hx
    obtain ⟨r, i, rfl, hK, hr⟩ := hx
    obtain ⟨ob, h1, h2⟩ := h.obj o i hK
    rw [hes] at h1; cases h1
    obtain ⟨g1, g2, g3⟩ := h2
    have hri := hr g1
    subst hri
    have hgo : (getObj i.blk).run P w = .ok (.stringIter ⟨s.toArray⟩ pos) w := by simp [getObj, Sem.run, g3]
    have hsz : (⟨s.toArray⟩ : ByteArray).size = s.length := by simp [ByteArray.size]
    have hputK : K.put o i = K := by
      funext y
      by_cases e : y = o
      · subst e; rw [KM.put_self, hK]
      · rw [KM.put_ne K _ e]
    split at hv
    · rename_i hp
      cases hv
      generalize hdc : Utf8.decode ⟨s.toArray⟩ pos = dc
      obtain ⟨c, width⟩ := dc
      obtain ⟨q1, q2⟩ := heap_set (o' := .stringIter ⟨s.toArray⟩ (pos + width)) g3
      have hset : (setObj i.blk (.stringIter ⟨s.toArray⟩ (pos + width))).run P w = .ok () { w with heap := w.heap.setIfInBounds i.blk (.stringIter ⟨s.toArray⟩ (pos + width)) } := by simp [setObj, Sem.run, g3]
      refine ⟨.tuple #[.bool true, goInt pos, .int .i32 c], { w with heap := w.heap.setIfInBounds i.blk (.stringIter ⟨s.toArray⟩ (pos + width)) }, K, ?_, ⟨rfl, rfl, rfl, ?_, fun k' hk' => q2 k' (by omega)⟩, KLe.refl _, fun _ _ hh => hh, ?_, ?_⟩
      · unfold Instr.next
        simp only [Sem.run_bind, hgo, Result.andThen_ok, hsz, if_pos hp, hdc, hset]
        rfl
      · simp
      · exact h.turn hK hes rfl hputK.symm (KLe.refl _) (.inl rfl) (fun k' _ hk' => q2 k' hk') (by simp) ⟨g1, g2, q1⟩
      · simp only [VR]
        exact ⟨_, rfl, VRs.cons (by simp only [VR]) (VRs.cons (by simp only [VR, goInt]) (VRs.cons (by simp only [VR]) VRs.nil))⟩
    · rename_i hp
      cases hv
      refine ⟨.tuple #[.bool false], w, K, ?_, Below.refl _ _, KLe.refl _, fun _ _ hh => hh, h, ?_⟩
      · unfold Instr.next
        simp only [Sem.run_bind, hgo, Result.andThen_ok, hsz, if_neg hp]
        rfl
      · simp only [VR]
        exact ⟨_, rfl, VRs.cons (by simp only [VR]) VRs.nil⟩
  · cases hv
end
end Go.Am
