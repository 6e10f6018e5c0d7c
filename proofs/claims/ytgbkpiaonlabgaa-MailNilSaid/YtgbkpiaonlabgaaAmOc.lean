/- A law of numbers, bools and texts alone, from the empty heap. Own work. -/
import Derived.Test.YtgbkpiaonlabgaaAmOb
namespace Go.Am
set_option linter.unusedVariables false
set_option linter.unusedSimpArgs false
open Go Go.RowKit
mutual
def Sh.flatB : Sh → Bool
  | .agg ss => Sh.flatsB ss
  | .sl _ => false
  | _ => true
def Sh.flatsB : List Sh → Bool
  | [] => true
  | s :: ss => s.flatB && Sh.flatsB ss
end
def AV.scal : AV → Bool
  | .int _ _ => true
  | .bool _ => true
  | .str _ => true
  | _ => false
mutual
theorem TyC.flat {h h' : Heap} : ∀ (s : Sh) {cs : List AV}, s.flatB = true → TyC s h cs → TyC s h' cs ∧ cs.all AV.scal = true
  | .int k, _, _, ht => ⟨ht, by simp only [TyC] at ht; obtain ⟨n, rfl, _⟩ := ht; rfl⟩
  | .bool, _, _, ht => ⟨ht, by simp only [TyC] at ht; obtain ⟨n, rfl⟩ := ht; rfl⟩
  | .str, _, _, ht => ⟨ht, by simp only [TyC] at ht; obtain ⟨n, rfl, _⟩ := ht; rfl⟩
  | .agg ss, _, hf, ht => by
    simp only [TyC] at ht ⊢
    exact TyCs.flat ss (by simpa only [Sh.flatB] using hf) ht
  | .sl _, _, hf, _ => by simp [Sh.flatB] at hf
theorem TyCs.flat {h h' : Heap} : ∀ (ss : List Sh) {cs : List AV}, Sh.flatsB ss = true → TyCs ss h cs → TyCs ss h' cs ∧ cs.all AV.scal = true
  | [], _, _, ht => ⟨ht, by simp only [TyCs] at ht; rw [ht]; rfl⟩
  | s :: ss, cs, hf, ht => by
    simp only [Sh.flatsB, Bool.and_eq_true] at hf
    simp only [TyCs] at ht ⊢
    obtain ⟨a, b, rfl, h2, h3⟩ := ht
    obtain ⟨k1, k2⟩ := TyC.flat (h' := h') s hf.1 h2
    obtain ⟨k3, k4⟩ := TyCs.flat (h' := h') ss hf.2 h3
    exact ⟨⟨a, b, rfl, k1, k3⟩, by simp [k2, k4]⟩
end
theorem VR.scal {K K' : KM} {a : AV} {v : Value} (hs : a.scal = true) (h : VR K a v) : VR K' a v := by
  cases a <;> simp only [AV.scal, Bool.false_eq_true] at hs <;> simpa only [VR] using h
theorem VRs.scal {K K' : KM} : ∀ {as : List AV} {vs : List Value}, as.all AV.scal = true → VRs K as vs → VRs K' as vs
  | [], _, _, h => by simpa only [VRs] using h
  | a :: as, _, hs, h => by
    simp only [List.all_cons, Bool.and_eq_true] at hs
    simp only [VRs] at h ⊢
    obtain ⟨b, bs, h1, h2, h3⟩ := h
    exact ⟨b, bs, h1, VR.scal hs.1 h2, VRs.scal hs.2 h3⟩
theorem TyA.flat {h h' : Heap} {K K' : KM} {v : Value} : ∀ (s : Sh) {a : AV}, s.flatB = true → TyA s h a → VR K a v → TyA s h' a ∧ VR K' a v
  | .agg ss, a, hf, ⟨cs, h1, h2⟩, hv => by
    obtain ⟨k1, k2⟩ := TyCs.flat (h' := h') ss (by simpa only [Sh.flatB] using hf) h2
    subst h1
    simp only [VR] at hv ⊢
    obtain ⟨ys, e1, e2, e3⟩ := hv
    exact ⟨⟨cs, rfl, k1⟩, ys, e1, VRs.scal k2 e2, e3⟩
  | .int k, a, hf, ht, hv => ⟨show TyC _ h' [a] from (TyC.flat (h := h) (h' := h') _ hf ht).1, VR.scal (by simpa using (TyC.flat (h := h) (h' := h') _ hf ht).2) hv⟩
  | .bool, a, hf, ht, hv => ⟨show TyC _ h' [a] from (TyC.flat (h := h) (h' := h') _ hf ht).1, VR.scal (by simpa using (TyC.flat (h := h) (h' := h') _ hf ht).2) hv⟩
  | .str, a, hf, ht, hv => ⟨show TyC _ h' [a] from (TyC.flat (h := h) (h' := h') _ hf ht).1, VR.scal (by simpa using (TyC.flat (h := h) (h' := h') _ hf ht).2) hv⟩
theorem TyAs.flat {h h' : Heap} {K K' : KM} : ∀ (ss : List Sh) {as : List AV} {vs : List Value}, Sh.flatsB ss = true → TyAs ss h as → VRs K as vs → TyAs ss h' as ∧ VRs K' as vs
  | [], _, _, _, ht, hv => by
    simp only [TyAs] at ht
    subst ht
    exact ⟨rfl, by simpa only [VRs] using hv⟩
  | s :: ss, _, _, hf, ⟨a, b, h1, h2, h3⟩, hv => by
    subst h1
    simp only [Sh.flatsB, Bool.and_eq_true] at hf
    simp only [VRs] at hv ⊢
    obtain ⟨y, ys, e1, e2, e3⟩ := hv
    obtain ⟨k1, k2⟩ := TyA.flat (h' := h') (K' := K') s hf.1 h2 e2
    obtain ⟨k3, k4⟩ := TyAs.flat (h' := h') (K' := K') ss hf.2 h3 e3
    exact ⟨⟨a, b, rfl, k1, k3⟩, y, ys, e1, k2, k4⟩
def Heap.empty : Heap := ⟨.nil, 0⟩
variable {H : Type} {enc : TypeId × Value → H} {P : Program} {w : World} {B : Nat}
theorem law_calls0 {F : Nat → Option AFn} (hT : TabOk P F) {f : Nat} {ss : List Sh} (hfl : Sh.flatsB ss = true) {ts : List TypeId} {args : Array Value} {ds : List (DataW H)} {p : List MemPlace} {r : Reach} {b0 : Nat} (hok : oksA P ss ts = true)
    (hD : ∃ g c el fz, g < w.heap.size ∧ w.heap[g]? = some (.cells c el fz))
    (hv : ∀ (j : Nat) t v, ts[j]? = some t → args[j]? = some v → Value.okWide P w r b0 t v) (ht : DataW.TrodAll enc P w 0 (fun _ => true) true ts args.toList ds p)
    (law : ∀ xs, TyAs ss .empty xs → ACalls F f xs .empty fun v _ => v = .bool true) : Calls P f args w fun e w' => e = .returned (.bool true) ∧ Below w.heap.size w w' := by
  obtain ⟨K, h, avs, e1, s1, v1, t1⟩ := open_args (B := w.heap.size) (Nat.le_refl _) hD ss ts args.toList ds p hok (fun j t v a b => hv j t v a (by simpa using b)) ht _ _ (Sim.start (Nat.le_refl _))
  obtain ⟨t2, v2⟩ := TyAs.flat (h' := .empty) (K' := fun _ => none) ss hfl t1 v1
  obtain ⟨n, v, h', hc, rfl⟩ := law avs t2
  obtain ⟨_, _, hcalls⟩ := (code_all hT n).1 f avs _ _ h' hc w.heap.size (fun _ => none) w args.toList v2 (Sim.start (Nat.le_refl _))
  rw [Array.toArray_toList] at hcalls
  refine hcalls.mono fun e w' ⟨v', K', k1, k2, _, _, _, k6⟩ => ⟨?_, k2⟩
  simp only [VR] at k6
  rw [k1, k6]
/-- A call that the machine runs to true. -/
def isT : Option (AV × Heap) → Bool
  | some (.bool b, _) => b
  | _ => false
theorem acalls_run {F : Nat → Option AFn} {f : Nat} {xs : List AV} {h : Heap} (n : Nat) (hr : isT (callN F n f xs h) = true) : ACalls F f xs h fun v _ => v = .bool true := by
  cases hc : callN F n f xs h with
  | none => rw [hc] at hr; cases hr
  | some p =>
    obtain ⟨v, h'⟩ := p
    rw [hc] at hr
    cases v <;> simp only [isT, Bool.false_eq_true] at hr
    subst hr
    exact ⟨n, _, h', hc, rfl⟩
end Go.Am
