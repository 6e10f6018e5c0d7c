/- A law's call, of whatever arguments a row lets in. Own work. -/
import Derived.Test.YtgbkpiaonlabgaaAmOa
import Derived.WideShapes
import Derived.ProofKit
namespace Go.Am
set_option linter.unusedVariables false
set_option linter.unusedSimpArgs false
open Go Go.WideShapes Go.RowKit
/-- An argument of a shape. -/
def TyA : Sh → Heap → AV → Prop
  | .agg ss, h, v => ∃ cs, v = .agg cs ∧ TyCs ss h cs
  | s, h, v => TyC s h [v]
def TyAs : List Sh → Heap → List AV → Prop
  | [], _, vs => vs = []
  | s :: ss, h, vs => ∃ a b, vs = a :: b ∧ TyA s h a ∧ TyAs ss h b
theorem TyA.mono {h h' : Heap} (hl : HLe h h') : ∀ (s : Sh) {v : AV}, TyA s h v → TyA s h' v
  | .agg ss, _, ⟨cs, h1, h2⟩ => ⟨cs, h1, TyCs.mono hl ss h2⟩
  | .int _, _, ht => TyC.mono hl _ ht
  | .bool, _, ht => TyC.mono hl _ ht
  | .str, _, ht => TyC.mono hl _ ht
  | .sl _, _, ht => TyC.mono hl _ ht
variable {H : Type} {enc : TypeId × Value → H} {P : Program} {w : World} {B : Nat}
theorem vrs_single {K : KM} {avs : List AV} {v : Value} (h : VRs K avs [v]) : ∃ a, avs = [a] ∧ VR K a v := by
  match avs, h with
  | [], h => simp only [VRs] at h; cases h
  | a :: as, h =>
    simp only [VRs] at h
    obtain ⟨b, bs, h1, h2, h3⟩ := h
    cases h1
    cases as with
    | nil => exact ⟨a, rfl, h2⟩
    | cons x xs => simp only [VRs] at h3; obtain ⟨_, _, h4, _⟩ := h3; cases h4
theorem open_arg (hB : w.heap.size ≤ B) (hD : ∃ g c el fz, g < B ∧ w.heap[g]? = some (.cells c el fz)) (s : Sh) (t : TypeId) (v : Value) (d : DataW H) (p : List MemPlace) {r : Reach} {b0 : Nat} (hok : s.okB P t = true)
    (hv : Value.okWide P w r b0 t v) (ht : DataW.Trod enc P w 0 (fun _ => true) true t v d p) : ∀ K h, Sim B K h w → ∃ K' h' av, Ext K h K' h' ∧ Sim B K' h' w ∧ VR K' av v ∧ TyA s h' av := by
  intro K h hs
  obtain ⟨fuel, ht⟩ := ht
  obtain ⟨K', h', avs, e1, s1, v1, f1, t1⟩ := open_sh hB hD s fuel t _ _ hok ht K h hs
  have single : v.cells.toList = [v] → TyC s h' avs → (∀ a, TyC s h' [a] → TyA s h' a) → ∃ K' h' av, Ext K h K' h' ∧ Sim B K' h' w ∧ VR K' av v ∧ TyA s h' av := by
    intro hc htc hta
    rw [hc] at v1
    obtain ⟨a, rfl, hva⟩ := vrs_single v1
    exact ⟨K', h', a, e1, s1, hva, hta a htc⟩
  cases s with
  | agg ss =>
    have hok' := hok
    simp only [Sh.okB] at hok'
    split at hok'
    · rename_i fs hu
      obtain ⟨cs, rfl, _⟩ := okWide_struct hu hv
      simp only [TyC] at t1
      exact ⟨K', h', .agg avs, e1, s1, by simp only [VR]; exact ⟨cs, rfl, v1, f1⟩, avs, rfl, t1⟩
    · cases hok'
  | int k =>
    simp only [Sh.okB] at hok
    split at hok
    · rename_i k' hu
      obtain ⟨n, rfl⟩ := okWide_int hu hv
      exact single rfl t1 fun a ha => ha
    · cases hok
  | bool =>
    simp only [Sh.okB] at hok
    split at hok
    · rename_i hu
      obtain ⟨n, rfl⟩ := okWide_bool hu hv
      exact single rfl t1 fun a ha => ha
    · cases hok
  | str =>
    simp only [Sh.okB] at hok
    split at hok
    · rename_i hu
      obtain ⟨n, rfl⟩ := okWide_string hu hv
      exact single rfl t1 fun a ha => ha
    · cases hok
  | sl e =>
    simp only [Sh.okB] at hok
    split at hok
    · rename_i e' hu
      obtain ⟨a, l, c, rfl⟩ := okWide_slice hu hv
      exact single rfl t1 fun a ha => ha
    · cases hok
def oksA (P : Program) : List Sh → List TypeId → Bool
  | [], [] => true
  | s :: ss, t :: ts => s.okB P t && oksA P ss ts
  | _, _ => false
theorem open_args (hB : w.heap.size ≤ B) (hD : ∃ g c el fz, g < B ∧ w.heap[g]? = some (.cells c el fz)) {r : Reach} {b0 : Nat} : ∀ (ss : List Sh) (ts : List TypeId) (vs : List Value) (ds : List (DataW H)) (p : List MemPlace), oksA P ss ts = true →
    (∀ (j : Nat) t v, ts[j]? = some t → vs[j]? = some v → Value.okWide P w r b0 t v) → DataW.TrodAll enc P w 0 (fun _ => true) true ts vs ds p →
    ∀ K h, Sim B K h w → ∃ K' h' avs, Ext K h K' h' ∧ Sim B K' h' w ∧ VRs K' avs vs ∧ TyAs ss h' avs
  | [], [], [], [], p, _, _, _, K, h, hs => ⟨K, h, [], Ext.refl _ _, hs, VRs.nil, rfl⟩
  | s :: ss, t :: ts, v :: vs, d :: ds, p, hok, hv, ht, K, h, hs => by
    simp only [oksA, Bool.and_eq_true] at hok
    obtain ⟨p1, q1, h1, h2, _⟩ := ht
    obtain ⟨K1, h1', av, e1, s1, v1, t1⟩ := open_arg hB hD s t v d p1 hok.1 (hv 0 t v rfl rfl) h1 K h hs
    obtain ⟨K2, h2', avs, e2, s2, v2, t2⟩ := open_args hB hD ss ts vs ds q1 hok.2 (fun j t v a b => hv (j + 1) t v a b) h2 K1 h1' s1
    exact ⟨K2, h2', av :: avs, e1.trans e2, s2, VRs.cons (VR.mono e2.kle _ _ v1) v2, av, avs, rfl, TyA.mono e2.hle s t1, t2⟩
  | [], [], _ :: _, _, _, _, _, ht, _, _, _ => by simp [DataW.TrodAll] at ht
  | [], [], [], _ :: _, _, _, _, ht, _, _, _ => by simp [DataW.TrodAll] at ht
  | [], _ :: _, _, _, _, hok, _, _, _, _, _ => by cases hok
  | _ :: _, [], _, _, _, hok, _, _, _, _, _ => by cases hok
  | _ :: _, _ :: _, [], _, _, _, _, ht, _, _, _ => by simp [DataW.TrodAll] at ht
  | _ :: _, _ :: _, _ :: _, [], _, _, _, ht, _, _, _ => by simp [DataW.TrodAll] at ht
theorem Sim.start (hB : B ≤ w.heap.size) : Sim B (fun _ => none) ⟨.nil, 0⟩ w :=
  ⟨fun o i h => (by cases h), fun o i h => (by cases h), fun o o' i i' ob h => (by cases h), hB⟩
/-- A law: whatever values of its arguments' shapes it is called with, its call answers true and touches nothing that was there. -/
theorem law_calls {F : Nat → Option AFn} (hT : TabOk P F) {f : Nat} {ss : List Sh} {ts : List TypeId} {args : Array Value} {ds : List (DataW H)} {p : List MemPlace} {r : Reach} {b0 : Nat} (hok : oksA P ss ts = true)
    (hD : ∃ g c el fz, g < w.heap.size ∧ w.heap[g]? = some (.cells c el fz))
    (hv : ∀ (j : Nat) t v, ts[j]? = some t → args[j]? = some v → Value.okWide P w r b0 t v) (ht : DataW.TrodAll enc P w 0 (fun _ => true) true ts args.toList ds p)
    (law : ∀ h xs, TyAs ss h xs → ACalls F f xs h fun v _ => v = .bool true) : Calls P f args w fun e w' => e = .returned (.bool true) ∧ Below w.heap.size w w' := by
  obtain ⟨K, h, avs, e1, s1, v1, t1⟩ := open_args (B := w.heap.size) (Nat.le_refl _) hD ss ts args.toList ds p hok (fun j t v a b => hv j t v a (by simpa using b)) ht _ _ (Sim.start (Nat.le_refl _))
  obtain ⟨n, v, h', hc, rfl⟩ := law h avs t1
  obtain ⟨_, _, hcalls⟩ := (code_all hT n).1 f avs h _ h' hc w.heap.size K w args.toList v1 s1
  rw [Array.toArray_toList] at hcalls
  refine hcalls.mono fun e w' ⟨v', K', k1, k2, _, _, _, k6⟩ => ⟨?_, k2⟩
  simp only [VR] at k6
  rw [k1, k6]
theorem trodAll_stays (hl : laidOutB P = true) {w' : World} (hb : Below w.heap.size w w') : ∀ (ts : List TypeId) (vs : List Value) (ds : List (DataW H)) (p : List MemPlace), (ts.all fun t => P.readableRec t && decide (t < P.types.size)) = true →
    DataW.TrodAll enc P w 0 (fun _ => true) true ts vs ds p → DataW.TrodAll enc P w' 0 (fun b => decide (b < w.heap.size)) true ts vs ds p
  | [], [], [], p, _, ht => ht
  | t :: ts, v :: vs, d :: ds, p, hr, ht => by
    simp only [List.all_cons, Bool.and_eq_true, decide_eq_true_eq] at hr
    obtain ⟨p1, q1, h1, h2, h3⟩ := ht
    exact ⟨p1, q1, Below.trod hl hr.1.1 hr.1.2 h1 hb (by obtain ⟨m, hm⟩ := h1; exact DataW.trod_lt m _ _ _ hm), trodAll_stays hl hb ts vs ds q1 hr.2 h2, h3⟩
  | [], _ :: _, _, _, _, ht => by simp [DataW.TrodAll] at ht
  | [], [], _ :: _, _, _, ht => by simp [DataW.TrodAll] at ht
  | _ :: _, [], _, _, _, ht => by simp [DataW.TrodAll] at ht
  | _ :: _, _ :: _, [], _, _, ht => by simp [DataW.TrodAll] at ht
theorem trodAll_len {ts : List TypeId} : ∀ {vs : List Value} {ds : List (DataW H)} {p : List MemPlace}, DataW.TrodAll enc P w 0 (fun _ => true) true ts vs ds p → ds.length = ts.length := by
  induction ts with
  | nil => intro vs ds p ht; cases vs <;> cases ds <;> simp_all [DataW.TrodAll]
  | cons t ts ih =>
    intro vs ds p ht
    cases vs <;> cases ds <;> simp only [DataW.TrodAll] at ht
    obtain ⟨_, _, _, h2, _⟩ := ht
    rw [List.length_cons, List.length_cons, ih h2]
def isCells : Option Obj → Bool
  | some (.cells _ _ _) => true
  | _ => false
theorem isCells_ex {o : Option Obj} (h : isCells o = true) : ∃ c el fz, o = some (.cells c el fz) := by
  cases o with
  | none => cases h
  | some o => cases o <;> first | exact ⟨_, _, _, rfl⟩ | cases h
/-- A block of cells that is there in each world. -/
theorem block_there {C : Program} {W : World} (hs : W.ShapedOpen C) (hc : ∃ c el fz, (begin C (fun _ _ => 0) default).world.heap[C.globals.size]? = some (.cells c el fz)) : ∃ g c el fz, g < W.heap.size ∧ W.heap[g]? = some (.cells c el fz) := by
  obtain ⟨c, el, fz, h1⟩ := hc
  have hlt : C.globals.size < (begin C (fun _ _ => 0) default).world.heap.size := by
    rcases Nat.lt_or_ge C.globals.size (begin C (fun _ _ => 0) default).world.heap.size with hh | hh
    · exact hh
    · rw [Array.getElem?_eq_none hh] at h1; cases h1
  obtain ⟨o, o0, k1, k2, k3⟩ := hs.2 C.globals.size (Nat.le_refl _) hlt
  rw [Nat.sub_self] at k3
  simp only [World.looseAt] at k3
  simp at k3
  rw [h1] at k2; cases k2
  subst k3
  refine ⟨_, c, el, fz, ?_, k1⟩
  rcases Nat.lt_or_ge C.globals.size W.heap.size with hh | hh
  · exact hh
  · rw [Array.getElem?_eq_none hh] at k1; cases k1
end Go.Am
