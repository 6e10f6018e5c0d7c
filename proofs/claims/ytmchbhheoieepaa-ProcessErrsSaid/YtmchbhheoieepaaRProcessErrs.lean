/- The law ProcessErrs, proved: whatever its arguments are, a call of it answers true, and its arguments read as they did. No condition. Own work. -/
import Derived.Test.YtmchbhheoieepaaRows
import Derived.Test.YtmchbhheoieepaaLProcessErrs
import Derived.Test.YtmchbhheoieepaaAm7ProcessErrs
import Derived.HandedShaped
import Derived.ProofKit
import Derived.WalkKit
import Derived.Below
namespace Go.Proofs.Ytmchbhheoieepaa.processErrs
open Go Go.Am Go.ChangeShapes Go.WideShapes Go.ChangeAt Go.RowKit
theorem own : ownKnob Try.prog.godebug = none := by kernel_rfl
theorem laidOut : laidOutB Try.prog = true := by kernel_rfl
theorem blk : ∃ c el fz, (begin Try.prog (fun _ _ => 0) default).world.heap[Try.prog.globals.size]? = some (.cells c el fz) := qj (by kernel_rfl)
set_option maxRecDepth 100000 in
theorem lifted (os : Os) (started : os.Started) (H : Type) (enc : TypeId × Value → H) :
    ReturnsInHanded {} Try.checked os 5 .any (Rows.processErrsSpec.pre6 enc Try.prog Try.f5 Rows.processErrsRow.domain false) (Rows.processErrsSpec.post enc Try.prog Try.f5 false true false false) := by
  refine returnsInHanded_of_change_shaped (C := Try.checked) own started (by kernel_rfl) Try.func5
    (ChangeSpec.witness6 (enc := enc) (C := Try.checked) false ⟨#[], #[.agg #[.slice none 0 0, .slice none 0 0], .int .i64 0, .int .u8 0, .agg #[.int .i64 0, .int .i64 0, .int .i64 0, .int .i64 0, .int .i64 0]], []⟩ 8 (by kernel_rfl) (by kernel_rfl) (by kernel_rfl) (by kernel_rfl)) ?_
  intro W base args ds gs before hval0 hW hcnd hsz hshp _
  have hW' := hW
  obtain ⟨p, q, hA0, hV, rfl, hfz, hnd⟩ := hW
  have hp : Try.f5.params.toList = [25, 3, 5, 62] := by kernel_rfl
  have hA : DataW.TrodAll enc Try.prog W 0 (fun _ => true) true [25, 3, 5, 62] args.toList ds p := by rw [← hp]; exact hA0
  have hval : ∀ (j : Nat) t v, ([25, 3, 5, 62] : List TypeId)[j]? = some t → args[j]? = some v → Value.okWide Try.prog W .any base t v := fun j t v a b => hval0 j t v (by rw [← hp] at a; simpa using a) b
  obtain ⟨rfl, rfl⟩ := trodVars_none hV
  have hlen := ol hA
  obtain ⟨d0, d1, d2, d3, rfl⟩ : ∃ d0 d1 d2 d3, ds = [d0, d1, d2, d3] := by
    match ds, hlen with
    | [d0, d1, d2, d3], _ => exact ⟨d0, d1, d2, d3, rfl⟩
  refine (law_calls Fp (ss := [(.agg [(.sl (.int .u8)), (.sl (.agg [(.int .u8), (.int .u8), (.int .u8), (.int .u8), (.int .u8), (.int .u8), (.int .u8)]))]), (.int .i64), (.int .u8), (.agg [(.int .i64), (.int .i64), (.agg [(.int .i64), (.int .i64), (.int .i64)])])]) (ts := [25, 3, 5, 62]) (by kernel_rfl) (nJ hshp blk) hval hA law_processErrs).mono fun e W' ⟨he, bel⟩ => ?_
  subst he
  have hst := fv laidOut bel _ _ _ _ (by kernel_rfl) hA
  rw [← hp] at hst
  exact ⟨_, rfl, _, _, _, [], p, [], hW', trodAll_mk1 (shut_bool Try.underlying4 _), hst, rfl, bel.frame _, fun h => by cases h⟩
theorem over : Rows.processErrsRow.holds Try.pinned (OpenSpec.ofChange Rows.processErrsSpec) :=
  OpenClaim.holds_of_wide 5 Try.f5 rfl rfl rfl rfl rfl rfl rfl ⟨rfl, rfl, rfl, rfl, rfl⟩ rfl rfl rfl rfl rfl (by kernel_rfl) Try.func5 (by kernel_rfl)
    (of_decide_eq_true (by kernel_rfl)) (by unfold Func.isWrapper; first | (rw [if_pos (by decide +kernel)]; kernel_rfl) | (rw [if_neg (by decide +kernel)]; exact ⟨rfl, rfl⟩))
    (fun os started H enc _ => lifted os started H enc)
theorem proved : Rows.ProcessErrsSaid := over
#print axioms proved
end Go.Proofs.Ytmchbhheoieepaa.processErrs
namespace Go.Proofs.Ytmchbhheoieepaa
/-- The row, under a short name, for the claim. -/
theorem processErrs_holds : Rows.ProcessErrsSaid := processErrs.proved
end Go.Proofs.Ytmchbhheoieepaa
