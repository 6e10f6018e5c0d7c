/-
  No cell of these rows narrows 'for every input' (looked for: loops, veiled, ifaces, maps, wideKeys, modest, calm, conditions, laid).
  DERIVED. THE GIVEN ROWS OF THIS SEAT. 14 by the template 'for every input the law returns true; each argument reads behind the call as it read before'; 0 by the template 'total and deterministic' (their statements: YtloaoofdbilpeaaTotals.lean).
  GIVEN WITH THE SEED: the statements are not yours to turn. If you find one false, say at which input.
  Laid BY PROGRAM, IN A SANDBOX (cutbox-rows.mjs): the forced cells as the released guide's own fill.sh prints them over the translation eda9b77ca1288487… (all of the seat's roots in one cut). By AI agents, Wed Nov 11 2026. No macro, syntax, notation, axiom, sorry.
-/
import Derived.Test.YtloaoofdbilpeaaChecked
import GoSem.Claim
import GoSem.ClaimJoined
import GoSem.ClaimMapViews
import Derived.JoinedTies
import Derived.KernelRfl
namespace Go.Proofs.Ytloaoofdbilpeaa
/- THE CELL 'sum', in the pinned program and in every row, IS THE sha256 OF THE DUMP (.gsa) THAT YtloaoofdbilpeaaProg.lean LOADS. Nothing in Lean hashes anything: it is a label: what it is worth is what the hold of that sum in a sandbox is worth. -/
noncomputable def Try.pinned : Pinned := { name := "ytloaoofdbilpeaa", sum := "eda9b77ca1288487197004b3c1e83691c7b6a845d703811a219fafed27d6093e", checked := Try.checked }
namespace Rows
def none {H : Type} : Left H := { results := [], args := [] }

/-- 'marblerunlaw04.LexTokens': WHATEVER THE INPUT: true; the input reads as it did. -/
def lexTokensSpec : ChangeSpec := { name := "lexTokens", fn := fun _ => fun
  | [d] => { results := [.lit (.bool true)], args := [d] }
  | _ => none }
def lexTokensRow : OpenClaim := { program := "ytloaoofdbilpeaa", sum := "eda9b77ca1288487197004b3c1e83691c7b6a845d703811a219fafed27d6093e", func := "marblerun/marblerunlaw04.LexTokens", spec := "lexTokens", inPlace := ["internal/bytealg.IndexByteString", "internal/bytealg.CountString", "internal/bytealg.IndexString"], named := ["internal/bytealg.MaxLen"], apart := false }
def LexTokensSaid : Prop := lexTokensRow.holds Try.pinned (OpenSpec.ofChange lexTokensSpec)

/-- ITS FALSE NEIGHBOUR: 'it returns false'. Refute it at one input. -/
def lexTokensWrong : ChangeSpec := { name := "lexTokens", fn := fun _ => fun
  | [d] => { results := [.lit (.bool false)], args := [d] }
  | _ => none }
def LexTokensWrongFalsely : Prop := lexTokensRow.holds Try.pinned (OpenSpec.ofChange lexTokensWrong)

/-- 'marblerunlaw04.LexPlaces': WHATEVER THE INPUT: true; the input reads as it did. -/
def lexPlacesSpec : ChangeSpec := { name := "lexPlaces", fn := fun _ => fun
  | [d1, d2, d3] => { results := [.lit (.bool true)], args := [d1, d2, d3] }
  | _ => none }
def lexPlacesRow : OpenClaim := { program := "ytloaoofdbilpeaa", sum := "eda9b77ca1288487197004b3c1e83691c7b6a845d703811a219fafed27d6093e", func := "marblerun/marblerunlaw04.LexPlaces", spec := "lexPlaces", inPlace := ["internal/bytealg.IndexByteString", "internal/bytealg.CountString", "internal/bytealg.IndexString"], named := ["internal/bytealg.MaxLen"], apart := false }
def LexPlacesSaid : Prop := lexPlacesRow.holds Try.pinned (OpenSpec.ofChange lexPlacesSpec)

/-- ITS FALSE NEIGHBOUR: 'it returns false'. Refute it at one input. -/
def lexPlacesWrong : ChangeSpec := { name := "lexPlaces", fn := fun _ => fun
  | [d1, d2, d3] => { results := [.lit (.bool false)], args := [d1, d2, d3] }
  | _ => none }
def LexPlacesWrongFalsely : Prop := lexPlacesRow.holds Try.pinned (OpenSpec.ofChange lexPlacesWrong)

/-- 'marblerunlaw04.LexNumbers': WHATEVER THE INPUT: true; the input reads as it did. -/
def lexNumbersSpec : ChangeSpec := { name := "lexNumbers", fn := fun _ => fun
  | [d1, d2] => { results := [.lit (.bool true)], args := [d1, d2] }
  | _ => none }
def lexNumbersRow : OpenClaim := { program := "ytloaoofdbilpeaa", sum := "eda9b77ca1288487197004b3c1e83691c7b6a845d703811a219fafed27d6093e", func := "marblerun/marblerunlaw04.LexNumbers", spec := "lexNumbers", inPlace := ["internal/bytealg.IndexByteString", "internal/bytealg.CountString", "internal/bytealg.IndexString"], named := ["internal/bytealg.MaxLen"], apart := false }
def LexNumbersSaid : Prop := lexNumbersRow.holds Try.pinned (OpenSpec.ofChange lexNumbersSpec)

/-- ITS FALSE NEIGHBOUR: 'it returns false'. Refute it at one input. -/
def lexNumbersWrong : ChangeSpec := { name := "lexNumbers", fn := fun _ => fun
  | [d1, d2] => { results := [.lit (.bool false)], args := [d1, d2] }
  | _ => none }
def LexNumbersWrongFalsely : Prop := lexNumbersRow.holds Try.pinned (OpenSpec.ofChange lexNumbersWrong)

/-- 'marblerunlaw04.LexBlanks': WHATEVER THE INPUT: true; the input reads as it did. -/
def lexBlanksSpec : ChangeSpec := { name := "lexBlanks", fn := fun _ => fun
  | [d1, d2] => { results := [.lit (.bool true)], args := [d1, d2] }
  | _ => none }
def lexBlanksRow : OpenClaim := { program := "ytloaoofdbilpeaa", sum := "eda9b77ca1288487197004b3c1e83691c7b6a845d703811a219fafed27d6093e", func := "marblerun/marblerunlaw04.LexBlanks", spec := "lexBlanks", inPlace := ["internal/bytealg.IndexByteString", "internal/bytealg.CountString", "internal/bytealg.IndexString"], named := ["internal/bytealg.MaxLen"], apart := false }
def LexBlanksSaid : Prop := lexBlanksRow.holds Try.pinned (OpenSpec.ofChange lexBlanksSpec)

/-- ITS FALSE NEIGHBOUR: 'it returns false'. Refute it at one input. -/
def lexBlanksWrong : ChangeSpec := { name := "lexBlanks", fn := fun _ => fun
  | [d1, d2] => { results := [.lit (.bool false)], args := [d1, d2] }
  | _ => none }
def LexBlanksWrongFalsely : Prop := lexBlanksRow.holds Try.pinned (OpenSpec.ofChange lexBlanksWrong)

/-- 'marblerunlaw04.LexFirst': WHATEVER THE INPUT: true; the input reads as it did. -/
def lexFirstSpec : ChangeSpec := { name := "lexFirst", fn := fun _ => fun
  | [d1, d2, d3] => { results := [.lit (.bool true)], args := [d1, d2, d3] }
  | _ => none }
def lexFirstRow : OpenClaim := { program := "ytloaoofdbilpeaa", sum := "eda9b77ca1288487197004b3c1e83691c7b6a845d703811a219fafed27d6093e", func := "marblerun/marblerunlaw04.LexFirst", spec := "lexFirst", inPlace := ["internal/bytealg.IndexByteString", "internal/bytealg.CountString", "internal/bytealg.IndexString"], named := ["internal/bytealg.MaxLen"], apart := false }
def LexFirstSaid : Prop := lexFirstRow.holds Try.pinned (OpenSpec.ofChange lexFirstSpec)

/-- ITS FALSE NEIGHBOUR: 'it returns false'. Refute it at one input. -/
def lexFirstWrong : ChangeSpec := { name := "lexFirst", fn := fun _ => fun
  | [d1, d2, d3] => { results := [.lit (.bool false)], args := [d1, d2, d3] }
  | _ => none }
def LexFirstWrongFalsely : Prop := lexFirstRow.holds Try.pinned (OpenSpec.ofChange lexFirstWrong)

/-- 'marblerunlaw04.LexNames': WHATEVER THE INPUT: true; the input reads as it did. -/
def lexNamesSpec : ChangeSpec := { name := "lexNames", fn := fun _ => fun
  | [d] => { results := [.lit (.bool true)], args := [d] }
  | _ => none }
def lexNamesRow : OpenClaim := { program := "ytloaoofdbilpeaa", sum := "eda9b77ca1288487197004b3c1e83691c7b6a845d703811a219fafed27d6093e", func := "marblerun/marblerunlaw04.LexNames", spec := "lexNames", inPlace := ["internal/bytealg.IndexByteString", "internal/bytealg.CountString", "internal/bytealg.IndexString"], named := ["internal/bytealg.MaxLen"], apart := false }
def LexNamesSaid : Prop := lexNamesRow.holds Try.pinned (OpenSpec.ofChange lexNamesSpec)

/-- ITS FALSE NEIGHBOUR: 'it returns false'. Refute it at one input. -/
def lexNamesWrong : ChangeSpec := { name := "lexNames", fn := fun _ => fun
  | [d] => { results := [.lit (.bool false)], args := [d] }
  | _ => none }
def LexNamesWrongFalsely : Prop := lexNamesRow.holds Try.pinned (OpenSpec.ofChange lexNamesWrong)

/-- 'marblerunlaw06.ParseTexts': WHATEVER THE INPUT: true; the input reads as it did. -/
def parseTextsSpec : ChangeSpec := { name := "parseTexts", fn := fun _ => fun
  | [d] => { results := [.lit (.bool true)], args := [d] }
  | _ => none }
def parseTextsRow : OpenClaim := { program := "ytloaoofdbilpeaa", sum := "eda9b77ca1288487197004b3c1e83691c7b6a845d703811a219fafed27d6093e", func := "marblerun/marblerunlaw06.ParseTexts", spec := "parseTexts", inPlace := ["internal/bytealg.IndexByteString", "internal/bytealg.CountString", "internal/bytealg.IndexString"], recurses := true, named := ["internal/bytealg.MaxLen"], apart := false }
def ParseTextsSaid : Prop := parseTextsRow.holds Try.pinned (OpenSpec.ofChange parseTextsSpec)

/-- ITS FALSE NEIGHBOUR: 'it returns false'. Refute it at one input. -/
def parseTextsWrong : ChangeSpec := { name := "parseTexts", fn := fun _ => fun
  | [d] => { results := [.lit (.bool false)], args := [d] }
  | _ => none }
def ParseTextsWrongFalsely : Prop := parseTextsRow.holds Try.pinned (OpenSpec.ofChange parseTextsWrong)

/-- 'marblerunlaw06.ParseFaults': WHATEVER THE INPUT: true; the input reads as it did. -/
def parseFaultsSpec : ChangeSpec := { name := "parseFaults", fn := fun _ => fun
  | [d] => { results := [.lit (.bool true)], args := [d] }
  | _ => none }
def parseFaultsRow : OpenClaim := { program := "ytloaoofdbilpeaa", sum := "eda9b77ca1288487197004b3c1e83691c7b6a845d703811a219fafed27d6093e", func := "marblerun/marblerunlaw06.ParseFaults", spec := "parseFaults", inPlace := ["internal/bytealg.IndexByteString", "internal/bytealg.CountString", "internal/bytealg.IndexString"], named := ["internal/bytealg.MaxLen"], apart := false }
def ParseFaultsSaid : Prop := parseFaultsRow.holds Try.pinned (OpenSpec.ofChange parseFaultsSpec)

/-- ITS FALSE NEIGHBOUR: 'it returns false'. Refute it at one input. -/
def parseFaultsWrong : ChangeSpec := { name := "parseFaults", fn := fun _ => fun
  | [d] => { results := [.lit (.bool false)], args := [d] }
  | _ => none }
def ParseFaultsWrongFalsely : Prop := parseFaultsRow.holds Try.pinned (OpenSpec.ofChange parseFaultsWrong)

/-- 'marblerunlaw06.ParseBounds': WHATEVER THE INPUT: true; the input reads as it did. -/
def parseBoundsSpec : ChangeSpec := { name := "parseBounds", fn := fun _ => fun
  | [d1, d2] => { results := [.lit (.bool true)], args := [d1, d2] }
  | _ => none }
def parseBoundsRow : OpenClaim := { program := "ytloaoofdbilpeaa", sum := "eda9b77ca1288487197004b3c1e83691c7b6a845d703811a219fafed27d6093e", func := "marblerun/marblerunlaw06.ParseBounds", spec := "parseBounds", inPlace := ["internal/bytealg.IndexByteString", "internal/bytealg.CountString", "internal/bytealg.IndexString"], named := ["internal/bytealg.MaxLen"], apart := false }
def ParseBoundsSaid : Prop := parseBoundsRow.holds Try.pinned (OpenSpec.ofChange parseBoundsSpec)

/-- ITS FALSE NEIGHBOUR: 'it returns false'. Refute it at one input. -/
def parseBoundsWrong : ChangeSpec := { name := "parseBounds", fn := fun _ => fun
  | [d1, d2] => { results := [.lit (.bool false)], args := [d1, d2] }
  | _ => none }
def ParseBoundsWrongFalsely : Prop := parseBoundsRow.holds Try.pinned (OpenSpec.ofChange parseBoundsWrong)

/-- 'marblerunlaw06.ParseAhead': WHATEVER THE INPUT: true; the input reads as it did. -/
def parseAheadSpec : ChangeSpec := { name := "parseAhead", fn := fun _ => fun
  | [d] => { results := [.lit (.bool true)], args := [d] }
  | _ => none }
def parseAheadRow : OpenClaim := { program := "ytloaoofdbilpeaa", sum := "eda9b77ca1288487197004b3c1e83691c7b6a845d703811a219fafed27d6093e", func := "marblerun/marblerunlaw06.ParseAhead", spec := "parseAhead", inPlace := ["internal/bytealg.IndexByteString", "internal/bytealg.CountString", "internal/bytealg.IndexString"], named := ["internal/bytealg.MaxLen"], apart := false }
def ParseAheadSaid : Prop := parseAheadRow.holds Try.pinned (OpenSpec.ofChange parseAheadSpec)

/-- ITS FALSE NEIGHBOUR: 'it returns false'. Refute it at one input. -/
def parseAheadWrong : ChangeSpec := { name := "parseAhead", fn := fun _ => fun
  | [d] => { results := [.lit (.bool false)], args := [d] }
  | _ => none }
def ParseAheadWrongFalsely : Prop := parseAheadRow.holds Try.pinned (OpenSpec.ofChange parseAheadWrong)

/-- 'marblerunlaw06.ParseDefaults': WHATEVER THE INPUT: true; the input reads as it did. -/
def parseDefaultsSpec : ChangeSpec := { name := "parseDefaults", fn := fun _ => fun
  | [d1, d2, d3, d4] => { results := [.lit (.bool true)], args := [d1, d2, d3, d4] }
  | _ => none }
def parseDefaultsRow : OpenClaim := { program := "ytloaoofdbilpeaa", sum := "eda9b77ca1288487197004b3c1e83691c7b6a845d703811a219fafed27d6093e", func := "marblerun/marblerunlaw06.ParseDefaults", spec := "parseDefaults", inPlace := ["internal/bytealg.IndexByteString", "internal/bytealg.CountString", "internal/bytealg.IndexString"], recurses := true, named := ["internal/bytealg.MaxLen"], apart := false }
def ParseDefaultsSaid : Prop := parseDefaultsRow.holds Try.pinned (OpenSpec.ofChange parseDefaultsSpec)

/-- ITS FALSE NEIGHBOUR: 'it returns false'. Refute it at one input. -/
def parseDefaultsWrong : ChangeSpec := { name := "parseDefaults", fn := fun _ => fun
  | [d1, d2, d3, d4] => { results := [.lit (.bool false)], args := [d1, d2, d3, d4] }
  | _ => none }
def ParseDefaultsWrongFalsely : Prop := parseDefaultsRow.holds Try.pinned (OpenSpec.ofChange parseDefaultsWrong)

/-- 'marblerunlaw06.ParseRaw': WHATEVER THE INPUT: true; the input reads as it did. -/
def parseRawSpec : ChangeSpec := { name := "parseRaw", fn := fun _ => fun
  | [d] => { results := [.lit (.bool true)], args := [d] }
  | _ => none }
def parseRawRow : OpenClaim := { program := "ytloaoofdbilpeaa", sum := "eda9b77ca1288487197004b3c1e83691c7b6a845d703811a219fafed27d6093e", func := "marblerun/marblerunlaw06.ParseRaw", spec := "parseRaw", inPlace := ["internal/bytealg.IndexByteString", "internal/bytealg.CountString", "internal/bytealg.IndexString"], unfollowed := true, recurses := true, named := ["internal/bytealg.MaxLen"], apart := false }
def ParseRawSaid : Prop := parseRawRow.holds Try.pinned (OpenSpec.ofChange parseRawSpec)

/-- ITS FALSE NEIGHBOUR: 'it returns false'. Refute it at one input. -/
def parseRawWrong : ChangeSpec := { name := "parseRaw", fn := fun _ => fun
  | [d] => { results := [.lit (.bool false)], args := [d] }
  | _ => none }
def ParseRawWrongFalsely : Prop := parseRawRow.holds Try.pinned (OpenSpec.ofChange parseRawWrong)

/-- 'marblerunlaw06.ParseWords': WHATEVER THE INPUT: true; the input reads as it did. -/
def parseWordsSpec : ChangeSpec := { name := "parseWords", fn := fun _ => fun
  | [d] => { results := [.lit (.bool true)], args := [d] }
  | _ => none }
def parseWordsRow : OpenClaim := { program := "ytloaoofdbilpeaa", sum := "eda9b77ca1288487197004b3c1e83691c7b6a845d703811a219fafed27d6093e", func := "marblerun/marblerunlaw06.ParseWords", spec := "parseWords", inPlace := ["internal/bytealg.IndexByteString", "internal/bytealg.CountString", "internal/bytealg.IndexString"], unfollowed := true, recurses := true, named := ["internal/bytealg.MaxLen"], apart := false }
def ParseWordsSaid : Prop := parseWordsRow.holds Try.pinned (OpenSpec.ofChange parseWordsSpec)

/-- ITS FALSE NEIGHBOUR: 'it returns false'. Refute it at one input. -/
def parseWordsWrong : ChangeSpec := { name := "parseWords", fn := fun _ => fun
  | [d] => { results := [.lit (.bool false)], args := [d] }
  | _ => none }
def ParseWordsWrongFalsely : Prop := parseWordsRow.holds Try.pinned (OpenSpec.ofChange parseWordsWrong)

/-- 'marblerunlaw06.ParseNear': WHATEVER THE INPUT: true; the input reads as it did. -/
def parseNearSpec : ChangeSpec := { name := "parseNear", fn := fun _ => fun
  | [d1, d2, d3, d4] => { results := [.lit (.bool true)], args := [d1, d2, d3, d4] }
  | _ => none }
def parseNearRow : OpenClaim := { program := "ytloaoofdbilpeaa", sum := "eda9b77ca1288487197004b3c1e83691c7b6a845d703811a219fafed27d6093e", func := "marblerun/marblerunlaw06.ParseNear", spec := "parseNear", inPlace := ["internal/bytealg.IndexByteString", "internal/bytealg.CountString", "internal/bytealg.IndexString"], unfollowed := true, recurses := true, named := ["internal/bytealg.MaxLen"], apart := false }
def ParseNearSaid : Prop := parseNearRow.holds Try.pinned (OpenSpec.ofChange parseNearSpec)

/-- ITS FALSE NEIGHBOUR: 'it returns false'. Refute it at one input. -/
def parseNearWrong : ChangeSpec := { name := "parseNear", fn := fun _ => fun
  | [d1, d2, d3, d4] => { results := [.lit (.bool false)], args := [d1, d2, d3, d4] }
  | _ => none }
def ParseNearWrongFalsely : Prop := parseNearRow.holds Try.pinned (OpenSpec.ofChange parseNearWrong)

/- THE SECOND FORM. 'bulk': how many values and letters a reading holds, each counted each time it is reached (what is shared counts as often as it is met; a slice's spare places count too). A statement '..UptoSaid' is the law's where the arguments, and the package variables that the reading takes, are together of bulk at most 1048576: NARROWER than '..Said'. Prove '..Said' where nothing that the law and all that it calls make is longer than what came in: it says more and counts as full. Else prove '..UptoSaid'. A law counts once. -/
mutual
def uptoBulk {H : Type} : DataW H → Nat
  | .lit (.string bytes) => bytes.length + 1
  | .lit _ => 1
  | .nil => 1
  | .ptr d => uptoBulk d + 1
  | .slice elems spare => uptoBulkAll elems + uptoBulkAll spare + 1
  | .agg parts => uptoBulkAll parts + 1
  | .iface _ d => uptoBulk d + 1
  | .map entries => uptoBulkEntries entries + 1
  | .held _ => 1
def uptoBulkAll {H : Type} : List (DataW H) → Nat
  | [] => 0
  | d :: r => uptoBulk d + uptoBulkAll r
def uptoBulkEntries {H : Type} : List (Lit × DataW H) → Nat
  | [] => 0
  | x :: r => uptoBulkEntry x + uptoBulkEntries r
def uptoBulkEntry {H : Type} : Lit × DataW H → Nat
  | (.string bytes, d) => bytes.length + uptoBulk d + 1
  | (_, d) => uptoBulk d + 1
 end
def uptoSmall : (H : Type) → List (DataW H) → Bool := fun _ ds => decide (uptoBulkAll ds ≤ 1048576)
def OpenSpec.upto (s : _root_.Go.ChangeSpec) : _root_.Go.OpenSpec := { _root_.Go.OpenSpec.ofChange s with cond := some uptoSmall }

/-- 'marblerunlaw04.LexTokens', WHERE WHAT IT READS IS OF BULK AT MOST 1048576: true; the input reads as it did. -/
def lexTokensUptoRow : OpenClaim := { program := "ytloaoofdbilpeaa", sum := "eda9b77ca1288487197004b3c1e83691c7b6a845d703811a219fafed27d6093e", func := "marblerun/marblerunlaw04.LexTokens", spec := "lexTokens", inPlace := ["internal/bytealg.IndexByteString", "internal/bytealg.CountString", "internal/bytealg.IndexString"], named := ["internal/bytealg.MaxLen"], apart := false, narrowed := true }
def LexTokensUptoSaid : Prop := lexTokensUptoRow.holds Try.pinned (OpenSpec.upto lexTokensSpec)

/-- 'marblerunlaw04.LexPlaces', WHERE WHAT IT READS IS OF BULK AT MOST 1048576: true; the input reads as it did. -/
def lexPlacesUptoRow : OpenClaim := { program := "ytloaoofdbilpeaa", sum := "eda9b77ca1288487197004b3c1e83691c7b6a845d703811a219fafed27d6093e", func := "marblerun/marblerunlaw04.LexPlaces", spec := "lexPlaces", inPlace := ["internal/bytealg.IndexByteString", "internal/bytealg.CountString", "internal/bytealg.IndexString"], named := ["internal/bytealg.MaxLen"], apart := false, narrowed := true }
def LexPlacesUptoSaid : Prop := lexPlacesUptoRow.holds Try.pinned (OpenSpec.upto lexPlacesSpec)

/-- 'marblerunlaw04.LexNumbers', WHERE WHAT IT READS IS OF BULK AT MOST 1048576: true; the input reads as it did. -/
def lexNumbersUptoRow : OpenClaim := { program := "ytloaoofdbilpeaa", sum := "eda9b77ca1288487197004b3c1e83691c7b6a845d703811a219fafed27d6093e", func := "marblerun/marblerunlaw04.LexNumbers", spec := "lexNumbers", inPlace := ["internal/bytealg.IndexByteString", "internal/bytealg.CountString", "internal/bytealg.IndexString"], named := ["internal/bytealg.MaxLen"], apart := false, narrowed := true }
def LexNumbersUptoSaid : Prop := lexNumbersUptoRow.holds Try.pinned (OpenSpec.upto lexNumbersSpec)

/-- 'marblerunlaw04.LexBlanks', WHERE WHAT IT READS IS OF BULK AT MOST 1048576: true; the input reads as it did. -/
def lexBlanksUptoRow : OpenClaim := { program := "ytloaoofdbilpeaa", sum := "eda9b77ca1288487197004b3c1e83691c7b6a845d703811a219fafed27d6093e", func := "marblerun/marblerunlaw04.LexBlanks", spec := "lexBlanks", inPlace := ["internal/bytealg.IndexByteString", "internal/bytealg.CountString", "internal/bytealg.IndexString"], named := ["internal/bytealg.MaxLen"], apart := false, narrowed := true }
def LexBlanksUptoSaid : Prop := lexBlanksUptoRow.holds Try.pinned (OpenSpec.upto lexBlanksSpec)

/-- 'marblerunlaw04.LexFirst', WHERE WHAT IT READS IS OF BULK AT MOST 1048576: true; the input reads as it did. -/
def lexFirstUptoRow : OpenClaim := { program := "ytloaoofdbilpeaa", sum := "eda9b77ca1288487197004b3c1e83691c7b6a845d703811a219fafed27d6093e", func := "marblerun/marblerunlaw04.LexFirst", spec := "lexFirst", inPlace := ["internal/bytealg.IndexByteString", "internal/bytealg.CountString", "internal/bytealg.IndexString"], named := ["internal/bytealg.MaxLen"], apart := false, narrowed := true }
def LexFirstUptoSaid : Prop := lexFirstUptoRow.holds Try.pinned (OpenSpec.upto lexFirstSpec)

/-- 'marblerunlaw04.LexNames', WHERE WHAT IT READS IS OF BULK AT MOST 1048576: true; the input reads as it did. -/
def lexNamesUptoRow : OpenClaim := { program := "ytloaoofdbilpeaa", sum := "eda9b77ca1288487197004b3c1e83691c7b6a845d703811a219fafed27d6093e", func := "marblerun/marblerunlaw04.LexNames", spec := "lexNames", inPlace := ["internal/bytealg.IndexByteString", "internal/bytealg.CountString", "internal/bytealg.IndexString"], named := ["internal/bytealg.MaxLen"], apart := false, narrowed := true }
def LexNamesUptoSaid : Prop := lexNamesUptoRow.holds Try.pinned (OpenSpec.upto lexNamesSpec)

/-- 'marblerunlaw06.ParseTexts', WHERE WHAT IT READS IS OF BULK AT MOST 1048576: true; the input reads as it did. -/
def parseTextsUptoRow : OpenClaim := { program := "ytloaoofdbilpeaa", sum := "eda9b77ca1288487197004b3c1e83691c7b6a845d703811a219fafed27d6093e", func := "marblerun/marblerunlaw06.ParseTexts", spec := "parseTexts", inPlace := ["internal/bytealg.IndexByteString", "internal/bytealg.CountString", "internal/bytealg.IndexString"], recurses := true, named := ["internal/bytealg.MaxLen"], apart := false, narrowed := true }
def ParseTextsUptoSaid : Prop := parseTextsUptoRow.holds Try.pinned (OpenSpec.upto parseTextsSpec)

/-- 'marblerunlaw06.ParseFaults', WHERE WHAT IT READS IS OF BULK AT MOST 1048576: true; the input reads as it did. -/
def parseFaultsUptoRow : OpenClaim := { program := "ytloaoofdbilpeaa", sum := "eda9b77ca1288487197004b3c1e83691c7b6a845d703811a219fafed27d6093e", func := "marblerun/marblerunlaw06.ParseFaults", spec := "parseFaults", inPlace := ["internal/bytealg.IndexByteString", "internal/bytealg.CountString", "internal/bytealg.IndexString"], named := ["internal/bytealg.MaxLen"], apart := false, narrowed := true }
def ParseFaultsUptoSaid : Prop := parseFaultsUptoRow.holds Try.pinned (OpenSpec.upto parseFaultsSpec)

/-- 'marblerunlaw06.ParseBounds', WHERE WHAT IT READS IS OF BULK AT MOST 1048576: true; the input reads as it did. -/
def parseBoundsUptoRow : OpenClaim := { program := "ytloaoofdbilpeaa", sum := "eda9b77ca1288487197004b3c1e83691c7b6a845d703811a219fafed27d6093e", func := "marblerun/marblerunlaw06.ParseBounds", spec := "parseBounds", inPlace := ["internal/bytealg.IndexByteString", "internal/bytealg.CountString", "internal/bytealg.IndexString"], named := ["internal/bytealg.MaxLen"], apart := false, narrowed := true }
def ParseBoundsUptoSaid : Prop := parseBoundsUptoRow.holds Try.pinned (OpenSpec.upto parseBoundsSpec)

/-- 'marblerunlaw06.ParseAhead', WHERE WHAT IT READS IS OF BULK AT MOST 1048576: true; the input reads as it did. -/
def parseAheadUptoRow : OpenClaim := { program := "ytloaoofdbilpeaa", sum := "eda9b77ca1288487197004b3c1e83691c7b6a845d703811a219fafed27d6093e", func := "marblerun/marblerunlaw06.ParseAhead", spec := "parseAhead", inPlace := ["internal/bytealg.IndexByteString", "internal/bytealg.CountString", "internal/bytealg.IndexString"], named := ["internal/bytealg.MaxLen"], apart := false, narrowed := true }
def ParseAheadUptoSaid : Prop := parseAheadUptoRow.holds Try.pinned (OpenSpec.upto parseAheadSpec)

/-- 'marblerunlaw06.ParseDefaults', WHERE WHAT IT READS IS OF BULK AT MOST 1048576: true; the input reads as it did. -/
def parseDefaultsUptoRow : OpenClaim := { program := "ytloaoofdbilpeaa", sum := "eda9b77ca1288487197004b3c1e83691c7b6a845d703811a219fafed27d6093e", func := "marblerun/marblerunlaw06.ParseDefaults", spec := "parseDefaults", inPlace := ["internal/bytealg.IndexByteString", "internal/bytealg.CountString", "internal/bytealg.IndexString"], recurses := true, named := ["internal/bytealg.MaxLen"], apart := false, narrowed := true }
def ParseDefaultsUptoSaid : Prop := parseDefaultsUptoRow.holds Try.pinned (OpenSpec.upto parseDefaultsSpec)

/-- 'marblerunlaw06.ParseRaw', WHERE WHAT IT READS IS OF BULK AT MOST 1048576: true; the input reads as it did. -/
def parseRawUptoRow : OpenClaim := { program := "ytloaoofdbilpeaa", sum := "eda9b77ca1288487197004b3c1e83691c7b6a845d703811a219fafed27d6093e", func := "marblerun/marblerunlaw06.ParseRaw", spec := "parseRaw", inPlace := ["internal/bytealg.IndexByteString", "internal/bytealg.CountString", "internal/bytealg.IndexString"], unfollowed := true, recurses := true, named := ["internal/bytealg.MaxLen"], apart := false, narrowed := true }
def ParseRawUptoSaid : Prop := parseRawUptoRow.holds Try.pinned (OpenSpec.upto parseRawSpec)

/-- 'marblerunlaw06.ParseWords', WHERE WHAT IT READS IS OF BULK AT MOST 1048576: true; the input reads as it did. -/
def parseWordsUptoRow : OpenClaim := { program := "ytloaoofdbilpeaa", sum := "eda9b77ca1288487197004b3c1e83691c7b6a845d703811a219fafed27d6093e", func := "marblerun/marblerunlaw06.ParseWords", spec := "parseWords", inPlace := ["internal/bytealg.IndexByteString", "internal/bytealg.CountString", "internal/bytealg.IndexString"], unfollowed := true, recurses := true, named := ["internal/bytealg.MaxLen"], apart := false, narrowed := true }
def ParseWordsUptoSaid : Prop := parseWordsUptoRow.holds Try.pinned (OpenSpec.upto parseWordsSpec)

/-- 'marblerunlaw06.ParseNear', WHERE WHAT IT READS IS OF BULK AT MOST 1048576: true; the input reads as it did. -/
def parseNearUptoRow : OpenClaim := { program := "ytloaoofdbilpeaa", sum := "eda9b77ca1288487197004b3c1e83691c7b6a845d703811a219fafed27d6093e", func := "marblerun/marblerunlaw06.ParseNear", spec := "parseNear", inPlace := ["internal/bytealg.IndexByteString", "internal/bytealg.CountString", "internal/bytealg.IndexString"], unfollowed := true, recurses := true, named := ["internal/bytealg.MaxLen"], apart := false, narrowed := true }
def ParseNearUptoSaid : Prop := parseNearUptoRow.holds Try.pinned (OpenSpec.upto parseNearSpec)

end Rows
end Go.Proofs.Ytloaoofdbilpeaa
