/- The law KernelLazy, proved: whatever its arguments are, a call of it answers true, and its arguments read as they did. No condition. Own work. -/
import Derived.Test.YtmchbhheoieepaaRows
import Derived.Test.YtmchbhheoieepaaLKernelLazy
import Derived.Test.YtmchbhheoieepaaAm7KernelLazy
import Derived.HandedShaped
import Derived.ProofKit
import Derived.WalkKit
import Derived.Below
namespace Go.Proofs.Ytmchbhheoieepaa.kernelLazy
open Go Go.Am Go.ChangeShapes Go.WideShapes Go.ChangeAt Go.RowKit
theorem own : ownKnob Try.prog.godebug = none := by kernel_rfl
theorem laidOut : laidOutB Try.prog = true := by kernel_rfl
theorem blk : ∃ c el fz, (begin Try.prog (fun _ _ => 0) default).world.heap[Try.prog.globals.size]? = some (.cells c el fz) := o8 (by kernel_rfl)
set_option maxRecDepth 100000 in
theorem lifted (os : Os) (started : os.Started) (H : Type) (enc : TypeId × Value → H) :
    ReturnsInHanded {} Try.checked os 10 .any (Rows.kernelLazySpec.pre6 enc Try.prog Try.f10 Rows.kernelLazyRow.domain false) (Rows.kernelLazySpec.post enc Try.prog Try.f10 false true false false) := by
  refine returnsInHanded_of_change_shaped (C := Try.checked) own started (by kernel_rfl) Try.func10
    (ChangeSpec.witness6 (enc := enc) (C := Try.checked) false ⟨#[], #[.int .u8 0, .int .u8 0], []⟩ 8 (by kernel_rfl) (by kernel_rfl) (by kernel_rfl) (by kernel_rfl)) ?_
  intro W base args ds gs before hval0 hW hcnd hsz hshp _
  have hW' := hW
  obtain ⟨p, q, hA0, hV, rfl, hfz, hnd⟩ := hW
  have hp : Try.f10.params.toList = [5, 5] := by kernel_rfl
  have hA : DataW.TrodAll enc Try.prog W 0 (fun _ => true) true [5, 5] args.toList ds p := by rw [← hp]; exact hA0
  have hval : ∀ (j : Nat) t v, ([5, 5] : List TypeId)[j]? = some t → args[j]? = some v → Value.okWide Try.prog W .any base t v := fun j t v a b => hval0 j t v (by rw [← hp] at a; simpa using a) b
  obtain ⟨rfl, rfl⟩ := trodVars_none hV
  have hlen := mC hA
  obtain ⟨d0, d1, rfl⟩ : ∃ d0 d1, ds = [d0, d1] := by
    match ds, hlen with
    | [d0, d1], _ => exact ⟨d0, d1, rfl⟩
  refine (law_calls El (ss := [(.int .u8), (.int .u8)]) (ts := [5, 5]) (by kernel_rfl) (mK hshp blk) hval hA law_kernelLazy).mono fun e W' ⟨he, bel⟩ => ?_
  subst he
  have hst := eZ laidOut bel _ _ _ _ (by kernel_rfl) hA
  rw [← hp] at hst
  exact ⟨_, rfl, _, _, _, [], p, [], hW', trodAll_mk1 (shut_bool Try.underlying4 _), hst, rfl, bel.frame _, fun h => by cases h⟩
theorem over : Rows.kernelLazyRow.holds Try.pinned (OpenSpec.ofChange Rows.kernelLazySpec) :=
  OpenClaim.holds_of_wide 10 Try.f10 rfl rfl rfl rfl rfl rfl rfl ⟨rfl, rfl, rfl, rfl, rfl⟩ rfl rfl rfl rfl rfl (by kernel_rfl) Try.func10 (by kernel_rfl)
    (of_decide_eq_true (by kernel_rfl)) (by unfold Func.isWrapper; first | (rw [if_pos (by decide +kernel)]; kernel_rfl) | (rw [if_neg (by decide +kernel)]; exact ⟨rfl, rfl⟩))
    (fun os started H enc _ => lifted os started H enc)
theorem proved : Rows.KernelLazySaid := over
#print axioms proved
end Go.Proofs.Ytmchbhheoieepaa.kernelLazy
namespace Go.Proofs.Ytmchbhheoieepaa
/-- The row, under a short name, for the claim. -/
theorem kernelLazy_holds : Rows.KernelLazySaid := kernelLazy.proved
end Go.Proofs.Ytmchbhheoieepaa
