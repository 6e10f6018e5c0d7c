/-
  No cell of these rows narrows 'for every input' (looked for: loops, veiled, ifaces, maps, wideKeys, modest, calm, conditions, laid).
  DERIVED. THE GIVEN ROWS OF THIS SEAT. 12 by the template 'for every input the law returns true; each argument reads behind the call as it read before'; 0 by the template 'total and deterministic' (their statements: YtgbkpiaonlabgaaTotals.lean).
  GIVEN WITH THE SEED: the statements are not yours to turn. If you find one false, say at which input.
  Laid BY PROGRAM, IN A SANDBOX (cutbox-rows.mjs): the forced cells as the released guide's own fill.sh prints them over the translation b00c383d82dc111b… (all of the seat's roots in one cut). By AI agents, Wed Nov 11 2026. No macro, syntax, notation, axiom, sorry.
-/
import Derived.Test.YtgbkpiaonlabgaaChecked
import GoSem.Claim
import GoSem.ClaimJoined
import GoSem.ClaimMapViews
import Derived.JoinedTies
import Derived.KernelRfl
namespace Go.Proofs.Ytgbkpiaonlabgaa
/- THE CELL 'sum', in the pinned program and in every row, IS THE sha256 OF THE DUMP (.gsa) THAT YtgbkpiaonlabgaaProg.lean LOADS. Nothing in Lean hashes anything: it is a label: what it is worth is what the hold of that sum in a sandbox is worth. -/
noncomputable def Try.pinned : Pinned := { name := "ytgbkpiaonlabgaa", sum := "b00c383d82dc111bd89af4cefa001cbecd39ac0d2b8de1001d83fce4fb2b6acd", checked := Try.checked }
namespace Rows
def none {H : Type} : Left H := { results := [], args := [] }

/-- 'marblerunlaw15.LoopsFind': WHATEVER THE INPUT: true; the input reads as it did. -/
def loopsFindSpec : ChangeSpec := { name := "loopsFind", fn := fun _ => fun
  | [d] => { results := [.lit (.bool true)], args := [d] }
  | _ => none }
def loopsFindRow : OpenClaim := { program := "ytgbkpiaonlabgaa", sum := "b00c383d82dc111bd89af4cefa001cbecd39ac0d2b8de1001d83fce4fb2b6acd", func := "marblerun/marblerunlaw15.LoopsFind", spec := "loopsFind", apart := false }
def LoopsFindSaid : Prop := loopsFindRow.holds Try.pinned (OpenSpec.ofChange loopsFindSpec)

/-- ITS FALSE NEIGHBOUR: 'it returns false'. Refute it at one input. -/
def loopsFindWrong : ChangeSpec := { name := "loopsFind", fn := fun _ => fun
  | [d] => { results := [.lit (.bool false)], args := [d] }
  | _ => none }
def LoopsFindWrongFalsely : Prop := loopsFindRow.holds Try.pinned (OpenSpec.ofChange loopsFindWrong)

/-- 'marblerunlaw15.LoopsRing': WHATEVER THE INPUT: true; the input reads as it did. -/
def loopsRingSpec : ChangeSpec := { name := "loopsRing", fn := fun _ => fun
  | [d1, d2, d3] => { results := [.lit (.bool true)], args := [d1, d2, d3] }
  | _ => none }
def loopsRingRow : OpenClaim := { program := "ytgbkpiaonlabgaa", sum := "b00c383d82dc111bd89af4cefa001cbecd39ac0d2b8de1001d83fce4fb2b6acd", func := "marblerun/marblerunlaw15.LoopsRing", spec := "loopsRing", apart := false }
def LoopsRingSaid : Prop := loopsRingRow.holds Try.pinned (OpenSpec.ofChange loopsRingSpec)

/-- ITS FALSE NEIGHBOUR: 'it returns false'. Refute it at one input. -/
def loopsRingWrong : ChangeSpec := { name := "loopsRing", fn := fun _ => fun
  | [d1, d2, d3] => { results := [.lit (.bool false)], args := [d1, d2, d3] }
  | _ => none }
def LoopsRingWrongFalsely : Prop := loopsRingRow.holds Try.pinned (OpenSpec.ofChange loopsRingWrong)

/-- 'marblerunlaw15.LoopsNone': WHATEVER THE INPUT: true; the input reads as it did. -/
def loopsNoneSpec : ChangeSpec := { name := "loopsNone", fn := fun _ => fun
  | [d1, d2] => { results := [.lit (.bool true)], args := [d1, d2] }
  | _ => none }
def loopsNoneRow : OpenClaim := { program := "ytgbkpiaonlabgaa", sum := "b00c383d82dc111bd89af4cefa001cbecd39ac0d2b8de1001d83fce4fb2b6acd", func := "marblerun/marblerunlaw15.LoopsNone", spec := "loopsNone", apart := false }
def LoopsNoneSaid : Prop := loopsNoneRow.holds Try.pinned (OpenSpec.ofChange loopsNoneSpec)

/-- ITS FALSE NEIGHBOUR: 'it returns false'. Refute it at one input. -/
def loopsNoneWrong : ChangeSpec := { name := "loopsNone", fn := fun _ => fun
  | [d1, d2] => { results := [.lit (.bool false)], args := [d1, d2] }
  | _ => none }
def LoopsNoneWrongFalsely : Prop := loopsNoneRow.holds Try.pinned (OpenSpec.ofChange loopsNoneWrong)

/-- 'marblerunlaw15.LoopsTail': WHATEVER THE INPUT: true; the input reads as it did. -/
def loopsTailSpec : ChangeSpec := { name := "loopsTail", fn := fun _ => fun
  | [d1, d2, d3] => { results := [.lit (.bool true)], args := [d1, d2, d3] }
  | _ => none }
def loopsTailRow : OpenClaim := { program := "ytgbkpiaonlabgaa", sum := "b00c383d82dc111bd89af4cefa001cbecd39ac0d2b8de1001d83fce4fb2b6acd", func := "marblerun/marblerunlaw15.LoopsTail", spec := "loopsTail", apart := false }
def LoopsTailSaid : Prop := loopsTailRow.holds Try.pinned (OpenSpec.ofChange loopsTailSpec)

/-- ITS FALSE NEIGHBOUR: 'it returns false'. Refute it at one input. -/
def loopsTailWrong : ChangeSpec := { name := "loopsTail", fn := fun _ => fun
  | [d1, d2, d3] => { results := [.lit (.bool false)], args := [d1, d2, d3] }
  | _ => none }
def LoopsTailWrongFalsely : Prop := loopsTailRow.holds Try.pinned (OpenSpec.ofChange loopsTailWrong)

/-- 'marblerunlaw18.MailPlays': WHATEVER THE INPUT: true; the input reads as it did. -/
def mailPlaysSpec : ChangeSpec := { name := "mailPlays", fn := fun _ => fun
  | [d1, d2] => { results := [.lit (.bool true)], args := [d1, d2] }
  | _ => none }
def mailPlaysRow : OpenClaim := { program := "ytgbkpiaonlabgaa", sum := "b00c383d82dc111bd89af4cefa001cbecd39ac0d2b8de1001d83fce4fb2b6acd", func := "marblerun/marblerunlaw18.MailPlays", spec := "mailPlays", unfollowed := true, recurses := true, apart := false }
def MailPlaysSaid : Prop := mailPlaysRow.holds Try.pinned (OpenSpec.ofChange mailPlaysSpec)

/-- ITS FALSE NEIGHBOUR: 'it returns false'. Refute it at one input. -/
def mailPlaysWrong : ChangeSpec := { name := "mailPlays", fn := fun _ => fun
  | [d1, d2] => { results := [.lit (.bool false)], args := [d1, d2] }
  | _ => none }
def MailPlaysWrongFalsely : Prop := mailPlaysRow.holds Try.pinned (OpenSpec.ofChange mailPlaysWrong)

/-- 'marblerunlaw18.MailNil': WHATEVER THE INPUT: true; the input reads as it did. -/
def mailNilSpec : ChangeSpec := { name := "mailNil", fn := fun _ => fun
  | [d1, d2, d3] => { results := [.lit (.bool true)], args := [d1, d2, d3] }
  | _ => none }
def mailNilRow : OpenClaim := { program := "ytgbkpiaonlabgaa", sum := "b00c383d82dc111bd89af4cefa001cbecd39ac0d2b8de1001d83fce4fb2b6acd", func := "marblerun/marblerunlaw18.MailNil", spec := "mailNil", unfollowed := true, recurses := true, apart := false }
def MailNilSaid : Prop := mailNilRow.holds Try.pinned (OpenSpec.ofChange mailNilSpec)

/-- ITS FALSE NEIGHBOUR: 'it returns false'. Refute it at one input. -/
def mailNilWrong : ChangeSpec := { name := "mailNil", fn := fun _ => fun
  | [d1, d2, d3] => { results := [.lit (.bool false)], args := [d1, d2, d3] }
  | _ => none }
def MailNilWrongFalsely : Prop := mailNilRow.holds Try.pinned (OpenSpec.ofChange mailNilWrong)

/-- 'marblerunlaw18.MailRows': WHATEVER THE INPUT: true; the input reads as it did. -/
def mailRowsSpec : ChangeSpec := { name := "mailRows", fn := fun _ => fun
  | [d1, d2] => { results := [.lit (.bool true)], args := [d1, d2] }
  | _ => none }
def mailRowsRow : OpenClaim := { program := "ytgbkpiaonlabgaa", sum := "b00c383d82dc111bd89af4cefa001cbecd39ac0d2b8de1001d83fce4fb2b6acd", func := "marblerun/marblerunlaw18.MailRows", spec := "mailRows", unfollowed := true, recurses := true, apart := false }
def MailRowsSaid : Prop := mailRowsRow.holds Try.pinned (OpenSpec.ofChange mailRowsSpec)

/-- ITS FALSE NEIGHBOUR: 'it returns false'. Refute it at one input. -/
def mailRowsWrong : ChangeSpec := { name := "mailRows", fn := fun _ => fun
  | [d1, d2] => { results := [.lit (.bool false)], args := [d1, d2] }
  | _ => none }
def MailRowsWrongFalsely : Prop := mailRowsRow.holds Try.pinned (OpenSpec.ofChange mailRowsWrong)

/-- 'marblerunlaw18.MailTwice': WHATEVER THE INPUT: true; the input reads as it did. -/
def mailTwiceSpec : ChangeSpec := { name := "mailTwice", fn := fun _ => fun
  | [d1, d2] => { results := [.lit (.bool true)], args := [d1, d2] }
  | _ => none }
def mailTwiceRow : OpenClaim := { program := "ytgbkpiaonlabgaa", sum := "b00c383d82dc111bd89af4cefa001cbecd39ac0d2b8de1001d83fce4fb2b6acd", func := "marblerun/marblerunlaw18.MailTwice", spec := "mailTwice", unfollowed := true, recurses := true, apart := false }
def MailTwiceSaid : Prop := mailTwiceRow.holds Try.pinned (OpenSpec.ofChange mailTwiceSpec)

/-- ITS FALSE NEIGHBOUR: 'it returns false'. Refute it at one input. -/
def mailTwiceWrong : ChangeSpec := { name := "mailTwice", fn := fun _ => fun
  | [d1, d2] => { results := [.lit (.bool false)], args := [d1, d2] }
  | _ => none }
def MailTwiceWrongFalsely : Prop := mailTwiceRow.holds Try.pinned (OpenSpec.ofChange mailTwiceWrong)

/-- 'marblerunlaw17.LaneOf': WHATEVER THE INPUT: true; the input reads as it did. -/
def laneOfSpec : ChangeSpec := { name := "laneOf", fn := fun _ => fun
  | [d1, d2, d3] => { results := [.lit (.bool true)], args := [d1, d2, d3] }
  | _ => none }
def laneOfRow : OpenClaim := { program := "ytgbkpiaonlabgaa", sum := "b00c383d82dc111bd89af4cefa001cbecd39ac0d2b8de1001d83fce4fb2b6acd", func := "marblerun/marblerunlaw17.LaneOf", spec := "laneOf", unfollowed := true, recurses := true, apart := false }
def LaneOfSaid : Prop := laneOfRow.holds Try.pinned (OpenSpec.ofChange laneOfSpec)

/-- ITS FALSE NEIGHBOUR: 'it returns false'. Refute it at one input. -/
def laneOfWrong : ChangeSpec := { name := "laneOf", fn := fun _ => fun
  | [d1, d2, d3] => { results := [.lit (.bool false)], args := [d1, d2, d3] }
  | _ => none }
def LaneOfWrongFalsely : Prop := laneOfRow.holds Try.pinned (OpenSpec.ofChange laneOfWrong)

/-- 'marblerunlaw17.LaneLeast': WHATEVER THE INPUT: true; the input reads as it did. -/
def laneLeastSpec : ChangeSpec := { name := "laneLeast", fn := fun _ => fun
  | [d] => { results := [.lit (.bool true)], args := [d] }
  | _ => none }
def laneLeastRow : OpenClaim := { program := "ytgbkpiaonlabgaa", sum := "b00c383d82dc111bd89af4cefa001cbecd39ac0d2b8de1001d83fce4fb2b6acd", func := "marblerun/marblerunlaw17.LaneLeast", spec := "laneLeast", unfollowed := true, recurses := true, apart := false }
def LaneLeastSaid : Prop := laneLeastRow.holds Try.pinned (OpenSpec.ofChange laneLeastSpec)

/-- ITS FALSE NEIGHBOUR: 'it returns false'. Refute it at one input. -/
def laneLeastWrong : ChangeSpec := { name := "laneLeast", fn := fun _ => fun
  | [d] => { results := [.lit (.bool false)], args := [d] }
  | _ => none }
def LaneLeastWrongFalsely : Prop := laneLeastRow.holds Try.pinned (OpenSpec.ofChange laneLeastWrong)

/-- 'marblerunlaw17.LaneRounds': WHATEVER THE INPUT: true; the input reads as it did. -/
def laneRoundsSpec : ChangeSpec := { name := "laneRounds", fn := fun _ => fun
  | [d1, d2, d3] => { results := [.lit (.bool true)], args := [d1, d2, d3] }
  | _ => none }
def laneRoundsRow : OpenClaim := { program := "ytgbkpiaonlabgaa", sum := "b00c383d82dc111bd89af4cefa001cbecd39ac0d2b8de1001d83fce4fb2b6acd", func := "marblerun/marblerunlaw17.LaneRounds", spec := "laneRounds", unfollowed := true, recurses := true, apart := false }
def LaneRoundsSaid : Prop := laneRoundsRow.holds Try.pinned (OpenSpec.ofChange laneRoundsSpec)

/-- ITS FALSE NEIGHBOUR: 'it returns false'. Refute it at one input. -/
def laneRoundsWrong : ChangeSpec := { name := "laneRounds", fn := fun _ => fun
  | [d1, d2, d3] => { results := [.lit (.bool false)], args := [d1, d2, d3] }
  | _ => none }
def LaneRoundsWrongFalsely : Prop := laneRoundsRow.holds Try.pinned (OpenSpec.ofChange laneRoundsWrong)

/-- 'marblerunlaw17.LaneRing': WHATEVER THE INPUT: true; the input reads as it did. -/
def laneRingSpec : ChangeSpec := { name := "laneRing", fn := fun _ => fun
  | [d] => { results := [.lit (.bool true)], args := [d] }
  | _ => none }
def laneRingRow : OpenClaim := { program := "ytgbkpiaonlabgaa", sum := "b00c383d82dc111bd89af4cefa001cbecd39ac0d2b8de1001d83fce4fb2b6acd", func := "marblerun/marblerunlaw17.LaneRing", spec := "laneRing", unfollowed := true, recurses := true, apart := false }
def LaneRingSaid : Prop := laneRingRow.holds Try.pinned (OpenSpec.ofChange laneRingSpec)

/-- ITS FALSE NEIGHBOUR: 'it returns false'. Refute it at one input. -/
def laneRingWrong : ChangeSpec := { name := "laneRing", fn := fun _ => fun
  | [d] => { results := [.lit (.bool false)], args := [d] }
  | _ => none }
def LaneRingWrongFalsely : Prop := laneRingRow.holds Try.pinned (OpenSpec.ofChange laneRingWrong)

/- THE SECOND FORM. 'bulk': how many values and letters a reading holds, each counted each time it is reached (what is shared counts as often as it is met; a slice's spare places count too). A statement '..UptoSaid' is the law's where the arguments, and the package variables that the reading takes, are together of bulk at most 1048576: NARROWER than '..Said'. Prove '..Said' where nothing that the law and all that it calls make is longer than what came in: it says more and counts as full. Else prove '..UptoSaid'. A law counts once. -/
mutual
def uptoBulk {H : Type} : DataW H → Nat
  | .lit (.string bytes) => bytes.length + 1
  | .lit _ => 1
  | .nil => 1
  | .ptr d => uptoBulk d + 1
  | .slice elems spare => uptoBulkAll elems + uptoBulkAll spare + 1
  | .agg parts => uptoBulkAll parts + 1
  | .iface _ d => uptoBulk d + 1
  | .map entries => uptoBulkEntries entries + 1
  | .held _ => 1
def uptoBulkAll {H : Type} : List (DataW H) → Nat
  | [] => 0
  | d :: r => uptoBulk d + uptoBulkAll r
def uptoBulkEntries {H : Type} : List (Lit × DataW H) → Nat
  | [] => 0
  | x :: r => uptoBulkEntry x + uptoBulkEntries r
def uptoBulkEntry {H : Type} : Lit × DataW H → Nat
  | (.string bytes, d) => bytes.length + uptoBulk d + 1
  | (_, d) => uptoBulk d + 1
 end
def uptoSmall : (H : Type) → List (DataW H) → Bool := fun _ ds => decide (uptoBulkAll ds ≤ 1048576)
def OpenSpec.upto (s : _root_.Go.ChangeSpec) : _root_.Go.OpenSpec := { _root_.Go.OpenSpec.ofChange s with cond := some uptoSmall }

/-- 'marblerunlaw15.LoopsFind', WHERE WHAT IT READS IS OF BULK AT MOST 1048576: true; the input reads as it did. -/
def loopsFindUptoRow : OpenClaim := { program := "ytgbkpiaonlabgaa", sum := "b00c383d82dc111bd89af4cefa001cbecd39ac0d2b8de1001d83fce4fb2b6acd", func := "marblerun/marblerunlaw15.LoopsFind", spec := "loopsFind", apart := false, narrowed := true }
def LoopsFindUptoSaid : Prop := loopsFindUptoRow.holds Try.pinned (OpenSpec.upto loopsFindSpec)

/-- 'marblerunlaw15.LoopsRing', WHERE WHAT IT READS IS OF BULK AT MOST 1048576: true; the input reads as it did. -/
def loopsRingUptoRow : OpenClaim := { program := "ytgbkpiaonlabgaa", sum := "b00c383d82dc111bd89af4cefa001cbecd39ac0d2b8de1001d83fce4fb2b6acd", func := "marblerun/marblerunlaw15.LoopsRing", spec := "loopsRing", apart := false, narrowed := true }
def LoopsRingUptoSaid : Prop := loopsRingUptoRow.holds Try.pinned (OpenSpec.upto loopsRingSpec)

/-- 'marblerunlaw15.LoopsNone', WHERE WHAT IT READS IS OF BULK AT MOST 1048576: true; the input reads as it did. -/
def loopsNoneUptoRow : OpenClaim := { program := "ytgbkpiaonlabgaa", sum := "b00c383d82dc111bd89af4cefa001cbecd39ac0d2b8de1001d83fce4fb2b6acd", func := "marblerun/marblerunlaw15.LoopsNone", spec := "loopsNone", apart := false, narrowed := true }
def LoopsNoneUptoSaid : Prop := loopsNoneUptoRow.holds Try.pinned (OpenSpec.upto loopsNoneSpec)

/-- 'marblerunlaw15.LoopsTail', WHERE WHAT IT READS IS OF BULK AT MOST 1048576: true; the input reads as it did. -/
def loopsTailUptoRow : OpenClaim := { program := "ytgbkpiaonlabgaa", sum := "b00c383d82dc111bd89af4cefa001cbecd39ac0d2b8de1001d83fce4fb2b6acd", func := "marblerun/marblerunlaw15.LoopsTail", spec := "loopsTail", apart := false, narrowed := true }
def LoopsTailUptoSaid : Prop := loopsTailUptoRow.holds Try.pinned (OpenSpec.upto loopsTailSpec)

/-- 'marblerunlaw18.MailPlays', WHERE WHAT IT READS IS OF BULK AT MOST 1048576: true; the input reads as it did. -/
def mailPlaysUptoRow : OpenClaim := { program := "ytgbkpiaonlabgaa", sum := "b00c383d82dc111bd89af4cefa001cbecd39ac0d2b8de1001d83fce4fb2b6acd", func := "marblerun/marblerunlaw18.MailPlays", spec := "mailPlays", unfollowed := true, recurses := true, apart := false, narrowed := true }
def MailPlaysUptoSaid : Prop := mailPlaysUptoRow.holds Try.pinned (OpenSpec.upto mailPlaysSpec)

/-- 'marblerunlaw18.MailNil', WHERE WHAT IT READS IS OF BULK AT MOST 1048576: true; the input reads as it did. -/
def mailNilUptoRow : OpenClaim := { program := "ytgbkpiaonlabgaa", sum := "b00c383d82dc111bd89af4cefa001cbecd39ac0d2b8de1001d83fce4fb2b6acd", func := "marblerun/marblerunlaw18.MailNil", spec := "mailNil", unfollowed := true, recurses := true, apart := false, narrowed := true }
def MailNilUptoSaid : Prop := mailNilUptoRow.holds Try.pinned (OpenSpec.upto mailNilSpec)

/-- 'marblerunlaw18.MailRows', WHERE WHAT IT READS IS OF BULK AT MOST 1048576: true; the input reads as it did. -/
def mailRowsUptoRow : OpenClaim := { program := "ytgbkpiaonlabgaa", sum := "b00c383d82dc111bd89af4cefa001cbecd39ac0d2b8de1001d83fce4fb2b6acd", func := "marblerun/marblerunlaw18.MailRows", spec := "mailRows", unfollowed := true, recurses := true, apart := false, narrowed := true }
def MailRowsUptoSaid : Prop := mailRowsUptoRow.holds Try.pinned (OpenSpec.upto mailRowsSpec)

/-- 'marblerunlaw18.MailTwice', WHERE WHAT IT READS IS OF BULK AT MOST 1048576: true; the input reads as it did. -/
def mailTwiceUptoRow : OpenClaim := { program := "ytgbkpiaonlabgaa", sum := "b00c383d82dc111bd89af4cefa001cbecd39ac0d2b8de1001d83fce4fb2b6acd", func := "marblerun/marblerunlaw18.MailTwice", spec := "mailTwice", unfollowed := true, recurses := true, apart := false, narrowed := true }
def MailTwiceUptoSaid : Prop := mailTwiceUptoRow.holds Try.pinned (OpenSpec.upto mailTwiceSpec)

/-- 'marblerunlaw17.LaneOf', WHERE WHAT IT READS IS OF BULK AT MOST 1048576: true; the input reads as it did. -/
def laneOfUptoRow : OpenClaim := { program := "ytgbkpiaonlabgaa", sum := "b00c383d82dc111bd89af4cefa001cbecd39ac0d2b8de1001d83fce4fb2b6acd", func := "marblerun/marblerunlaw17.LaneOf", spec := "laneOf", unfollowed := true, recurses := true, apart := false, narrowed := true }
def LaneOfUptoSaid : Prop := laneOfUptoRow.holds Try.pinned (OpenSpec.upto laneOfSpec)

/-- 'marblerunlaw17.LaneLeast', WHERE WHAT IT READS IS OF BULK AT MOST 1048576: true; the input reads as it did. -/
def laneLeastUptoRow : OpenClaim := { program := "ytgbkpiaonlabgaa", sum := "b00c383d82dc111bd89af4cefa001cbecd39ac0d2b8de1001d83fce4fb2b6acd", func := "marblerun/marblerunlaw17.LaneLeast", spec := "laneLeast", unfollowed := true, recurses := true, apart := false, narrowed := true }
def LaneLeastUptoSaid : Prop := laneLeastUptoRow.holds Try.pinned (OpenSpec.upto laneLeastSpec)

/-- 'marblerunlaw17.LaneRounds', WHERE WHAT IT READS IS OF BULK AT MOST 1048576: true; the input reads as it did. -/
def laneRoundsUptoRow : OpenClaim := { program := "ytgbkpiaonlabgaa", sum := "b00c383d82dc111bd89af4cefa001cbecd39ac0d2b8de1001d83fce4fb2b6acd", func := "marblerun/marblerunlaw17.LaneRounds", spec := "laneRounds", unfollowed := true, recurses := true, apart := false, narrowed := true }
def LaneRoundsUptoSaid : Prop := laneRoundsUptoRow.holds Try.pinned (OpenSpec.upto laneRoundsSpec)

/-- 'marblerunlaw17.LaneRing', WHERE WHAT IT READS IS OF BULK AT MOST 1048576: true; the input reads as it did. -/
def laneRingUptoRow : OpenClaim := { program := "ytgbkpiaonlabgaa", sum := "b00c383d82dc111bd89af4cefa001cbecd39ac0d2b8de1001d83fce4fb2b6acd", func := "marblerun/marblerunlaw17.LaneRing", spec := "laneRing", unfollowed := true, recurses := true, apart := false, narrowed := true }
def LaneRingUptoSaid : Prop := laneRingUptoRow.holds Try.pinned (OpenSpec.upto laneRingSpec)

end Rows
end Go.Proofs.Ytgbkpiaonlabgaa
