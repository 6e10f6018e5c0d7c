/-
  No cell of these rows narrows 'for every input' (looked for: loops, veiled, ifaces, maps, wideKeys, modest, calm, conditions, laid).
  DERIVED. THE GIVEN ROWS OF THIS SEAT. 8 by the template 'for every input the law returns true; each argument reads behind the call as it read before'; 0 by the template 'total and deterministic' (their statements: YtmchbhheoieepaaTotals.lean).
  GIVEN WITH THE SEED: the statements are not yours to turn. If you find one false, say at which input.
  Laid BY PROGRAM, IN A SANDBOX (cutbox-rows.mjs): the forced cells as the released guide's own fill.sh prints them over the translation 1484f7cba3f936b1… (all of the seat's roots in one cut). By AI agents, Wed Nov 11 2026. No macro, syntax, notation, axiom, sorry.
-/
import Derived.Test.YtmchbhheoieepaaChecked
import GoSem.Claim
import GoSem.ClaimJoined
import GoSem.ClaimMapViews
import Derived.JoinedTies
import Derived.KernelRfl
namespace Go.Proofs.Ytmchbhheoieepaa
/- THE CELL 'sum', in the pinned program and in every row, IS THE sha256 OF THE DUMP (.gsa) THAT YtmchbhheoieepaaProg.lean LOADS. Nothing in Lean hashes anything: it is a label: what it is worth is what the hold of that sum in a sandbox is worth. -/
noncomputable def Try.pinned : Pinned := { name := "ytmchbhheoieepaa", sum := "1484f7cba3f936b1ff7a19fd19b2dc6df80d0d0b9e96b17b9a762c2c1e30ae2e", checked := Try.checked }
namespace Rows
def none {H : Type} : Left H := { results := [], args := [] }

/-- 'marblerunlaw19.ProcessAlone': WHATEVER THE INPUT: true; the input reads as it did. -/
def processAloneSpec : ChangeSpec := { name := "processAlone", fn := fun _ => fun
  | [d1, d2] => { results := [.lit (.bool true)], args := [d1, d2] }
  | _ => none }
def processAloneRow : OpenClaim := { program := "ytmchbhheoieepaa", sum := "1484f7cba3f936b1ff7a19fd19b2dc6df80d0d0b9e96b17b9a762c2c1e30ae2e", func := "marblerun/marblerunlaw19.ProcessAlone", spec := "processAlone", unfollowed := true, recurses := true, apart := false }
def ProcessAloneSaid : Prop := processAloneRow.holds Try.pinned (OpenSpec.ofChange processAloneSpec)

/-- ITS FALSE NEIGHBOUR: 'it returns false'. Refute it at one input. -/
def processAloneWrong : ChangeSpec := { name := "processAlone", fn := fun _ => fun
  | [d1, d2] => { results := [.lit (.bool false)], args := [d1, d2] }
  | _ => none }
def ProcessAloneWrongFalsely : Prop := processAloneRow.holds Try.pinned (OpenSpec.ofChange processAloneWrong)

/-- 'marblerunlaw19.ProcessNever': WHATEVER THE INPUT: true; the input reads as it did. -/
def processNeverSpec : ChangeSpec := { name := "processNever", fn := fun _ => fun
  | [d1, d2] => { results := [.lit (.bool true)], args := [d1, d2] }
  | _ => none }
def processNeverRow : OpenClaim := { program := "ytmchbhheoieepaa", sum := "1484f7cba3f936b1ff7a19fd19b2dc6df80d0d0b9e96b17b9a762c2c1e30ae2e", func := "marblerun/marblerunlaw19.ProcessNever", spec := "processNever", unfollowed := true, recurses := true, apart := false }
def ProcessNeverSaid : Prop := processNeverRow.holds Try.pinned (OpenSpec.ofChange processNeverSpec)

/-- ITS FALSE NEIGHBOUR: 'it returns false'. Refute it at one input. -/
def processNeverWrong : ChangeSpec := { name := "processNever", fn := fun _ => fun
  | [d1, d2] => { results := [.lit (.bool false)], args := [d1, d2] }
  | _ => none }
def ProcessNeverWrongFalsely : Prop := processNeverRow.holds Try.pinned (OpenSpec.ofChange processNeverWrong)

/-- 'marblerunlaw19.ProcessErrs': WHATEVER THE INPUT: true; the input reads as it did. -/
def processErrsSpec : ChangeSpec := { name := "processErrs", fn := fun _ => fun
  | [d1, d2, d3, d4] => { results := [.lit (.bool true)], args := [d1, d2, d3, d4] }
  | _ => none }
def processErrsRow : OpenClaim := { program := "ytmchbhheoieepaa", sum := "1484f7cba3f936b1ff7a19fd19b2dc6df80d0d0b9e96b17b9a762c2c1e30ae2e", func := "marblerun/marblerunlaw19.ProcessErrs", spec := "processErrs", unfollowed := true, recurses := true, apart := false }
def ProcessErrsSaid : Prop := processErrsRow.holds Try.pinned (OpenSpec.ofChange processErrsSpec)

/-- ITS FALSE NEIGHBOUR: 'it returns false'. Refute it at one input. -/
def processErrsWrong : ChangeSpec := { name := "processErrs", fn := fun _ => fun
  | [d1, d2, d3, d4] => { results := [.lit (.bool false)], args := [d1, d2, d3, d4] }
  | _ => none }
def ProcessErrsWrongFalsely : Prop := processErrsRow.holds Try.pinned (OpenSpec.ofChange processErrsWrong)

/-- 'marblerunlaw19.ProcessClocks': WHATEVER THE INPUT: true; the input reads as it did. -/
def processClocksSpec : ChangeSpec := { name := "processClocks", fn := fun _ => fun
  | [d1, d2] => { results := [.lit (.bool true)], args := [d1, d2] }
  | _ => none }
def processClocksRow : OpenClaim := { program := "ytmchbhheoieepaa", sum := "1484f7cba3f936b1ff7a19fd19b2dc6df80d0d0b9e96b17b9a762c2c1e30ae2e", func := "marblerun/marblerunlaw19.ProcessClocks", spec := "processClocks", unfollowed := true, recurses := true, apart := false }
def ProcessClocksSaid : Prop := processClocksRow.holds Try.pinned (OpenSpec.ofChange processClocksSpec)

/-- ITS FALSE NEIGHBOUR: 'it returns false'. Refute it at one input. -/
def processClocksWrong : ChangeSpec := { name := "processClocks", fn := fun _ => fun
  | [d1, d2] => { results := [.lit (.bool false)], args := [d1, d2] }
  | _ => none }
def ProcessClocksWrongFalsely : Prop := processClocksRow.holds Try.pinned (OpenSpec.ofChange processClocksWrong)

/-- 'marblerunlaw19.ProcessTwo': WHATEVER THE INPUT: true; the input reads as it did. -/
def processTwoSpec : ChangeSpec := { name := "processTwo", fn := fun _ => fun
  | [d1, d2, d3] => { results := [.lit (.bool true)], args := [d1, d2, d3] }
  | _ => none }
def processTwoRow : OpenClaim := { program := "ytmchbhheoieepaa", sum := "1484f7cba3f936b1ff7a19fd19b2dc6df80d0d0b9e96b17b9a762c2c1e30ae2e", func := "marblerun/marblerunlaw19.ProcessTwo", spec := "processTwo", unfollowed := true, recurses := true, apart := false }
def ProcessTwoSaid : Prop := processTwoRow.holds Try.pinned (OpenSpec.ofChange processTwoSpec)

/-- ITS FALSE NEIGHBOUR: 'it returns false'. Refute it at one input. -/
def processTwoWrong : ChangeSpec := { name := "processTwo", fn := fun _ => fun
  | [d1, d2, d3] => { results := [.lit (.bool false)], args := [d1, d2, d3] }
  | _ => none }
def ProcessTwoWrongFalsely : Prop := processTwoRow.holds Try.pinned (OpenSpec.ofChange processTwoWrong)

/-- 'marblerunlaw19.ProcessSays': WHATEVER THE INPUT: true; the input reads as it did. -/
def processSaysSpec : ChangeSpec := { name := "processSays", fn := fun _ => fun
  | [d1, d2, d3, d4, d5] => { results := [.lit (.bool true)], args := [d1, d2, d3, d4, d5] }
  | _ => none }
def processSaysRow : OpenClaim := { program := "ytmchbhheoieepaa", sum := "1484f7cba3f936b1ff7a19fd19b2dc6df80d0d0b9e96b17b9a762c2c1e30ae2e", func := "marblerun/marblerunlaw19.ProcessSays", spec := "processSays", unfollowed := true, recurses := true, apart := false }
def ProcessSaysSaid : Prop := processSaysRow.holds Try.pinned (OpenSpec.ofChange processSaysSpec)

/-- ITS FALSE NEIGHBOUR: 'it returns false'. Refute it at one input. -/
def processSaysWrong : ChangeSpec := { name := "processSays", fn := fun _ => fun
  | [d1, d2, d3, d4, d5] => { results := [.lit (.bool false)], args := [d1, d2, d3, d4, d5] }
  | _ => none }
def ProcessSaysWrongFalsely : Prop := processSaysRow.holds Try.pinned (OpenSpec.ofChange processSaysWrong)

/-- 'marblerunlaw20.KernelChain': WHATEVER THE INPUT: true; the input reads as it did. -/
def kernelChainSpec : ChangeSpec := { name := "kernelChain", fn := fun _ => fun
  | [d1, d2, d3] => { results := [.lit (.bool true)], args := [d1, d2, d3] }
  | _ => none }
def kernelChainRow : OpenClaim := { program := "ytmchbhheoieepaa", sum := "1484f7cba3f936b1ff7a19fd19b2dc6df80d0d0b9e96b17b9a762c2c1e30ae2e", func := "marblerun/marblerunlaw20.KernelChain", spec := "kernelChain", unfollowed := true, recurses := true, apart := false }
def KernelChainSaid : Prop := kernelChainRow.holds Try.pinned (OpenSpec.ofChange kernelChainSpec)

/-- ITS FALSE NEIGHBOUR: 'it returns false'. Refute it at one input. -/
def kernelChainWrong : ChangeSpec := { name := "kernelChain", fn := fun _ => fun
  | [d1, d2, d3] => { results := [.lit (.bool false)], args := [d1, d2, d3] }
  | _ => none }
def KernelChainWrongFalsely : Prop := kernelChainRow.holds Try.pinned (OpenSpec.ofChange kernelChainWrong)

/-- 'marblerunlaw20.KernelLazy': WHATEVER THE INPUT: true; the input reads as it did. -/
def kernelLazySpec : ChangeSpec := { name := "kernelLazy", fn := fun _ => fun
  | [d1, d2] => { results := [.lit (.bool true)], args := [d1, d2] }
  | _ => none }
def kernelLazyRow : OpenClaim := { program := "ytmchbhheoieepaa", sum := "1484f7cba3f936b1ff7a19fd19b2dc6df80d0d0b9e96b17b9a762c2c1e30ae2e", func := "marblerun/marblerunlaw20.KernelLazy", spec := "kernelLazy", unfollowed := true, recurses := true, apart := false }
def KernelLazySaid : Prop := kernelLazyRow.holds Try.pinned (OpenSpec.ofChange kernelLazySpec)

/-- ITS FALSE NEIGHBOUR: 'it returns false'. Refute it at one input. -/
def kernelLazyWrong : ChangeSpec := { name := "kernelLazy", fn := fun _ => fun
  | [d1, d2] => { results := [.lit (.bool false)], args := [d1, d2] }
  | _ => none }
def KernelLazyWrongFalsely : Prop := kernelLazyRow.holds Try.pinned (OpenSpec.ofChange kernelLazyWrong)

/- THE SECOND FORM. 'bulk': how many values and letters a reading holds, each counted each time it is reached (what is shared counts as often as it is met; a slice's spare places count too). A statement '..UptoSaid' is the law's where the arguments, and the package variables that the reading takes, are together of bulk at most 1048576: NARROWER than '..Said'. Prove '..Said' where nothing that the law and all that it calls make is longer than what came in: it says more and counts as full. Else prove '..UptoSaid'. A law counts once. -/
mutual
def uptoBulk {H : Type} : DataW H → Nat
  | .lit (.string bytes) => bytes.length + 1
  | .lit _ => 1
  | .nil => 1
  | .ptr d => uptoBulk d + 1
  | .slice elems spare => uptoBulkAll elems + uptoBulkAll spare + 1
  | .agg parts => uptoBulkAll parts + 1
  | .iface _ d => uptoBulk d + 1
  | .map entries => uptoBulkEntries entries + 1
  | .held _ => 1
def uptoBulkAll {H : Type} : List (DataW H) → Nat
  | [] => 0
  | d :: r => uptoBulk d + uptoBulkAll r
def uptoBulkEntries {H : Type} : List (Lit × DataW H) → Nat
  | [] => 0
  | x :: r => uptoBulkEntry x + uptoBulkEntries r
def uptoBulkEntry {H : Type} : Lit × DataW H → Nat
  | (.string bytes, d) => bytes.length + uptoBulk d + 1
  | (_, d) => uptoBulk d + 1
 end
def uptoSmall : (H : Type) → List (DataW H) → Bool := fun _ ds => decide (uptoBulkAll ds ≤ 1048576)
def OpenSpec.upto (s : _root_.Go.ChangeSpec) : _root_.Go.OpenSpec := { _root_.Go.OpenSpec.ofChange s with cond := some uptoSmall }

/-- 'marblerunlaw19.ProcessAlone', WHERE WHAT IT READS IS OF BULK AT MOST 1048576: true; the input reads as it did. -/
def processAloneUptoRow : OpenClaim := { program := "ytmchbhheoieepaa", sum := "1484f7cba3f936b1ff7a19fd19b2dc6df80d0d0b9e96b17b9a762c2c1e30ae2e", func := "marblerun/marblerunlaw19.ProcessAlone", spec := "processAlone", unfollowed := true, recurses := true, apart := false, narrowed := true }
def ProcessAloneUptoSaid : Prop := processAloneUptoRow.holds Try.pinned (OpenSpec.upto processAloneSpec)

/-- 'marblerunlaw19.ProcessNever', WHERE WHAT IT READS IS OF BULK AT MOST 1048576: true; the input reads as it did. -/
def processNeverUptoRow : OpenClaim := { program := "ytmchbhheoieepaa", sum := "1484f7cba3f936b1ff7a19fd19b2dc6df80d0d0b9e96b17b9a762c2c1e30ae2e", func := "marblerun/marblerunlaw19.ProcessNever", spec := "processNever", unfollowed := true, recurses := true, apart := false, narrowed := true }
def ProcessNeverUptoSaid : Prop := processNeverUptoRow.holds Try.pinned (OpenSpec.upto processNeverSpec)

/-- 'marblerunlaw19.ProcessErrs', WHERE WHAT IT READS IS OF BULK AT MOST 1048576: true; the input reads as it did. -/
def processErrsUptoRow : OpenClaim := { program := "ytmchbhheoieepaa", sum := "1484f7cba3f936b1ff7a19fd19b2dc6df80d0d0b9e96b17b9a762c2c1e30ae2e", func := "marblerun/marblerunlaw19.ProcessErrs", spec := "processErrs", unfollowed := true, recurses := true, apart := false, narrowed := true }
def ProcessErrsUptoSaid : Prop := processErrsUptoRow.holds Try.pinned (OpenSpec.upto processErrsSpec)

/-- 'marblerunlaw19.ProcessClocks', WHERE WHAT IT READS IS OF BULK AT MOST 1048576: true; the input reads as it did. -/
def processClocksUptoRow : OpenClaim := { program := "ytmchbhheoieepaa", sum := "1484f7cba3f936b1ff7a19fd19b2dc6df80d0d0b9e96b17b9a762c2c1e30ae2e", func := "marblerun/marblerunlaw19.ProcessClocks", spec := "processClocks", unfollowed := true, recurses := true, apart := false, narrowed := true }
def ProcessClocksUptoSaid : Prop := processClocksUptoRow.holds Try.pinned (OpenSpec.upto processClocksSpec)

/-- 'marblerunlaw19.ProcessTwo', WHERE WHAT IT READS IS OF BULK AT MOST 1048576: true; the input reads as it did. -/
def processTwoUptoRow : OpenClaim := { program := "ytmchbhheoieepaa", sum := "1484f7cba3f936b1ff7a19fd19b2dc6df80d0d0b9e96b17b9a762c2c1e30ae2e", func := "marblerun/marblerunlaw19.ProcessTwo", spec := "processTwo", unfollowed := true, recurses := true, apart := false, narrowed := true }
def ProcessTwoUptoSaid : Prop := processTwoUptoRow.holds Try.pinned (OpenSpec.upto processTwoSpec)

/-- 'marblerunlaw19.ProcessSays', WHERE WHAT IT READS IS OF BULK AT MOST 1048576: true; the input reads as it did. -/
def processSaysUptoRow : OpenClaim := { program := "ytmchbhheoieepaa", sum := "1484f7cba3f936b1ff7a19fd19b2dc6df80d0d0b9e96b17b9a762c2c1e30ae2e", func := "marblerun/marblerunlaw19.ProcessSays", spec := "processSays", unfollowed := true, recurses := true, apart := false, narrowed := true }
def ProcessSaysUptoSaid : Prop := processSaysUptoRow.holds Try.pinned (OpenSpec.upto processSaysSpec)

/-- 'marblerunlaw20.KernelChain', WHERE WHAT IT READS IS OF BULK AT MOST 1048576: true; the input reads as it did. -/
def kernelChainUptoRow : OpenClaim := { program := "ytmchbhheoieepaa", sum := "1484f7cba3f936b1ff7a19fd19b2dc6df80d0d0b9e96b17b9a762c2c1e30ae2e", func := "marblerun/marblerunlaw20.KernelChain", spec := "kernelChain", unfollowed := true, recurses := true, apart := false, narrowed := true }
def KernelChainUptoSaid : Prop := kernelChainUptoRow.holds Try.pinned (OpenSpec.upto kernelChainSpec)

/-- 'marblerunlaw20.KernelLazy', WHERE WHAT IT READS IS OF BULK AT MOST 1048576: true; the input reads as it did. -/
def kernelLazyUptoRow : OpenClaim := { program := "ytmchbhheoieepaa", sum := "1484f7cba3f936b1ff7a19fd19b2dc6df80d0d0b9e96b17b9a762c2c1e30ae2e", func := "marblerun/marblerunlaw20.KernelLazy", spec := "kernelLazy", unfollowed := true, recurses := true, apart := false, narrowed := true }
def KernelLazyUptoSaid : Prop := kernelLazyUptoRow.holds Try.pinned (OpenSpec.upto kernelLazySpec)

end Rows
end Go.Proofs.Ytmchbhheoieepaa
