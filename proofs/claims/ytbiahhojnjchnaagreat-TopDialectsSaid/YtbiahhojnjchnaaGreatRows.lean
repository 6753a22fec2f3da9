/-
  NARROWER THAN 'FOR EVERY INPUT', by the rows' own cells (each row's printed sentence says how): ParseNumbers: loops.
  DERIVED. THE GIVEN ROWS OF THIS SEAT. 9 by the template 'for every input the law returns true; each argument reads behind the call as it read before'; 0 by the template 'total and deterministic' (their statements: YtbiahhojnjchnaaGreatTotals.lean).
  GIVEN WITH THE SEED: the statements are not yours to turn. If you find one false, say at which input.
  Laid BY PROGRAM, IN A SANDBOX (cutbox-rows.mjs): the forced cells as the released guide's own fill.sh prints them over the translation a9b8194391ea057b… (all of the seat's roots in one cut). By AI agents, Wed Nov 11 2026. No macro, syntax, notation, axiom, sorry.
-/
import Derived.Test.YtbiahhojnjchnaaGreatChecked
import GoSem.Claim
import GoSem.ClaimJoined
import GoSem.ClaimMapViews
import Derived.JoinedTies
import Derived.KernelRfl
namespace Go.Proofs.YtbiahhojnjchnaaGreat
/- THE CELL 'sum', in the pinned program and in every row, IS THE sha256 OF THE DUMP (.gsa) THAT YtbiahhojnjchnaaGreatProg.lean LOADS. Nothing in Lean hashes anything: it is a label: what it is worth is what the hold of that sum in a sandbox is worth. -/
noncomputable def Tryz.pinned : Pinned := { name := "ytbiahhojnjchnaagreat", sum := "a9b8194391ea057b814a715a685fbf5004fc8b381d0e5173bac4588bb65cc23f", checked := Tryz.checked }
namespace Rows
def none {H : Type} : Left H := { results := [], args := [] }

/-- 'thicketlaw.BracketParses': WHATEVER THE INPUT: true; the input reads as it did. -/
def bracketParsesSpec : ChangeSpec := { name := "bracketParses", fn := fun _ => fun
  | [d1, d2, d3, d4] => { results := [.lit (.bool true)], args := [d1, d2, d3, d4] }
  | _ => none }
def bracketParsesRow : OpenClaim := { program := "ytbiahhojnjchnaagreat", sum := "a9b8194391ea057b814a715a685fbf5004fc8b381d0e5173bac4588bb65cc23f", func := "thicket/thicketlaw.BracketParses", spec := "bracketParses", inPlace := ["internal/abi.NoEscape"], unfollowed := true, recurses := true, apart := false }
def BracketParsesSaid : Prop := bracketParsesRow.holds Tryz.pinned (OpenSpec.ofChange bracketParsesSpec)

/-- ITS FALSE NEIGHBOUR: 'it returns false'. Refute it at one input. -/
def bracketParsesWrong : ChangeSpec := { name := "bracketParses", fn := fun _ => fun
  | [d1, d2, d3, d4] => { results := [.lit (.bool false)], args := [d1, d2, d3, d4] }
  | _ => none }
def BracketParsesWrongFalsely : Prop := bracketParsesRow.holds Tryz.pinned (OpenSpec.ofChange bracketParsesWrong)

/-- 'thicketlaw.BracketFolds': WHATEVER THE INPUT: true; the input reads as it did. -/
def bracketFoldsSpec : ChangeSpec := { name := "bracketFolds", fn := fun _ => fun
  | [d1, d2] => { results := [.lit (.bool true)], args := [d1, d2] }
  | _ => none }
def bracketFoldsRow : OpenClaim := { program := "ytbiahhojnjchnaagreat", sum := "a9b8194391ea057b814a715a685fbf5004fc8b381d0e5173bac4588bb65cc23f", func := "thicket/thicketlaw.BracketFolds", spec := "bracketFolds", inPlace := ["internal/abi.NoEscape"], unfollowed := true, recurses := true, apart := false }
def BracketFoldsSaid : Prop := bracketFoldsRow.holds Tryz.pinned (OpenSpec.ofChange bracketFoldsSpec)

/-- ITS FALSE NEIGHBOUR: 'it returns false'. Refute it at one input. -/
def bracketFoldsWrong : ChangeSpec := { name := "bracketFolds", fn := fun _ => fun
  | [d1, d2] => { results := [.lit (.bool false)], args := [d1, d2] }
  | _ => none }
def BracketFoldsWrongFalsely : Prop := bracketFoldsRow.holds Tryz.pinned (OpenSpec.ofChange bracketFoldsWrong)

/-- 'thicketlaw.BracketTurns': WHATEVER THE INPUT: true; the input reads as it did. -/
def bracketTurnsSpec : ChangeSpec := { name := "bracketTurns", fn := fun _ => fun
  | [d1, d2, d3, d4] => { results := [.lit (.bool true)], args := [d1, d2, d3, d4] }
  | _ => none }
def bracketTurnsRow : OpenClaim := { program := "ytbiahhojnjchnaagreat", sum := "a9b8194391ea057b814a715a685fbf5004fc8b381d0e5173bac4588bb65cc23f", func := "thicket/thicketlaw.BracketTurns", spec := "bracketTurns", inPlace := ["internal/abi.NoEscape"], unfollowed := true, recurses := true, apart := false }
def BracketTurnsSaid : Prop := bracketTurnsRow.holds Tryz.pinned (OpenSpec.ofChange bracketTurnsSpec)

/-- ITS FALSE NEIGHBOUR: 'it returns false'. Refute it at one input. -/
def bracketTurnsWrong : ChangeSpec := { name := "bracketTurns", fn := fun _ => fun
  | [d1, d2, d3, d4] => { results := [.lit (.bool false)], args := [d1, d2, d3, d4] }
  | _ => none }
def BracketTurnsWrongFalsely : Prop := bracketTurnsRow.holds Tryz.pinned (OpenSpec.ofChange bracketTurnsWrong)

/-- 'thicketlaw.ParseBars': WHATEVER THE INPUT: true; the input reads as it did. -/
def parseBarsSpec : ChangeSpec := { name := "parseBars", fn := fun _ => fun
  | [d1, d2, d3] => { results := [.lit (.bool true)], args := [d1, d2, d3] }
  | _ => none }
def parseBarsRow : OpenClaim := { program := "ytbiahhojnjchnaagreat", sum := "a9b8194391ea057b814a715a685fbf5004fc8b381d0e5173bac4588bb65cc23f", func := "thicket/thicketlaw.ParseBars", spec := "parseBars", inPlace := ["internal/abi.NoEscape"], unfollowed := true, recurses := true, apart := false }
def ParseBarsSaid : Prop := parseBarsRow.holds Tryz.pinned (OpenSpec.ofChange parseBarsSpec)

/-- ITS FALSE NEIGHBOUR: 'it returns false'. Refute it at one input. -/
def parseBarsWrong : ChangeSpec := { name := "parseBars", fn := fun _ => fun
  | [d1, d2, d3] => { results := [.lit (.bool false)], args := [d1, d2, d3] }
  | _ => none }
def ParseBarsWrongFalsely : Prop := parseBarsRow.holds Tryz.pinned (OpenSpec.ofChange parseBarsWrong)

/-- 'thicketlaw.ParseParses': WHATEVER THE INPUT: true; the input reads as it did. -/
def parseParsesSpec : ChangeSpec := { name := "parseParses", fn := fun _ => fun
  | [d1, d2, d3] => { results := [.lit (.bool true)], args := [d1, d2, d3] }
  | _ => none }
def parseParsesRow : OpenClaim := { program := "ytbiahhojnjchnaagreat", sum := "a9b8194391ea057b814a715a685fbf5004fc8b381d0e5173bac4588bb65cc23f", func := "thicket/thicketlaw.ParseParses", spec := "parseParses", inPlace := ["internal/abi.NoEscape"], unfollowed := true, recurses := true, apart := false }
def ParseParsesSaid : Prop := parseParsesRow.holds Tryz.pinned (OpenSpec.ofChange parseParsesSpec)

/-- ITS FALSE NEIGHBOUR: 'it returns false'. Refute it at one input. -/
def parseParsesWrong : ChangeSpec := { name := "parseParses", fn := fun _ => fun
  | [d1, d2, d3] => { results := [.lit (.bool false)], args := [d1, d2, d3] }
  | _ => none }
def ParseParsesWrongFalsely : Prop := parseParsesRow.holds Tryz.pinned (OpenSpec.ofChange parseParsesWrong)

/-- 'thicketlaw.ParseNumbers': WHATEVER THE INPUT: true; the input reads as it did. -/
def parseNumbersSpec : ChangeSpec := { name := "parseNumbers", fn := fun _ => fun
  | [d1, d2] => { results := [.lit (.bool true)], args := [d1, d2] }
  | _ => none }
def parseNumbersRow : OpenClaim := { program := "ytbiahhojnjchnaagreat", sum := "a9b8194391ea057b814a715a685fbf5004fc8b381d0e5173bac4588bb65cc23f", func := "thicket/thicketlaw.ParseNumbers", spec := "parseNumbers", inPlace := ["internal/abi.NoEscape"], unfollowed := true, recurses := true, loops := true, apart := false }
def ParseNumbersSaid : Prop := parseNumbersRow.holds Tryz.pinned (OpenSpec.ofChange parseNumbersSpec)

/-- ITS FALSE NEIGHBOUR: 'it returns false'. Refute it at one input. -/
def parseNumbersWrong : ChangeSpec := { name := "parseNumbers", fn := fun _ => fun
  | [d1, d2] => { results := [.lit (.bool false)], args := [d1, d2] }
  | _ => none }
def ParseNumbersWrongFalsely : Prop := parseNumbersRow.holds Tryz.pinned (OpenSpec.ofChange parseNumbersWrong)

/-- 'thicketlaw.ParseGroups': WHATEVER THE INPUT: true; the input reads as it did. -/
def parseGroupsSpec : ChangeSpec := { name := "parseGroups", fn := fun _ => fun
  | [d1, d2] => { results := [.lit (.bool true)], args := [d1, d2] }
  | _ => none }
def parseGroupsRow : OpenClaim := { program := "ytbiahhojnjchnaagreat", sum := "a9b8194391ea057b814a715a685fbf5004fc8b381d0e5173bac4588bb65cc23f", func := "thicket/thicketlaw.ParseGroups", spec := "parseGroups", inPlace := ["internal/abi.NoEscape"], unfollowed := true, recurses := true, apart := false }
def ParseGroupsSaid : Prop := parseGroupsRow.holds Tryz.pinned (OpenSpec.ofChange parseGroupsSpec)

/-- ITS FALSE NEIGHBOUR: 'it returns false'. Refute it at one input. -/
def parseGroupsWrong : ChangeSpec := { name := "parseGroups", fn := fun _ => fun
  | [d1, d2] => { results := [.lit (.bool false)], args := [d1, d2] }
  | _ => none }
def ParseGroupsWrongFalsely : Prop := parseGroupsRow.holds Tryz.pinned (OpenSpec.ofChange parseGroupsWrong)

/-- 'thicketlaw.TopDialects': WHATEVER THE INPUT: true; the input reads as it did. -/
def topDialectsSpec : ChangeSpec := { name := "topDialects", fn := fun _ => fun
  | [d1, d2] => { results := [.lit (.bool true)], args := [d1, d2] }
  | _ => none }
def topDialectsRow : OpenClaim := { program := "ytbiahhojnjchnaagreat", sum := "a9b8194391ea057b814a715a685fbf5004fc8b381d0e5173bac4588bb65cc23f", func := "thicket/thicketlaw.TopDialects", spec := "topDialects", inPlace := ["internal/abi.NoEscape"], unfollowed := true, recurses := true, apart := false }
def TopDialectsSaid : Prop := topDialectsRow.holds Tryz.pinned (OpenSpec.ofChange topDialectsSpec)

/-- ITS FALSE NEIGHBOUR: 'it returns false'. Refute it at one input. -/
def topDialectsWrong : ChangeSpec := { name := "topDialects", fn := fun _ => fun
  | [d1, d2] => { results := [.lit (.bool false)], args := [d1, d2] }
  | _ => none }
def TopDialectsWrongFalsely : Prop := topDialectsRow.holds Tryz.pinned (OpenSpec.ofChange topDialectsWrong)

/-- 'thicketlaw.ParseRight': WHATEVER THE INPUT: true; the input reads as it did. -/
def parseRightSpec : ChangeSpec := { name := "parseRight", fn := fun _ => fun
  | [d1, d2, d3] => { results := [.lit (.bool true)], args := [d1, d2, d3] }
  | _ => none }
def parseRightRow : OpenClaim := { program := "ytbiahhojnjchnaagreat", sum := "a9b8194391ea057b814a715a685fbf5004fc8b381d0e5173bac4588bb65cc23f", func := "thicket/thicketlaw.ParseRight", spec := "parseRight", inPlace := ["internal/abi.NoEscape"], unfollowed := true, recurses := true, apart := false }
def ParseRightSaid : Prop := parseRightRow.holds Tryz.pinned (OpenSpec.ofChange parseRightSpec)

/-- ITS FALSE NEIGHBOUR: 'it returns false'. Refute it at one input. -/
def parseRightWrong : ChangeSpec := { name := "parseRight", fn := fun _ => fun
  | [d1, d2, d3] => { results := [.lit (.bool false)], args := [d1, d2, d3] }
  | _ => none }
def ParseRightWrongFalsely : Prop := parseRightRow.holds Tryz.pinned (OpenSpec.ofChange parseRightWrong)

/- THE SECOND FORM. 'bulk': how many values and letters a reading holds, each counted each time it is reached (what is shared counts as often as it is met; a slice's spare places count too). A statement '..UptoSaid' is the law's where the arguments, and the package variables that the reading takes, are together of bulk at most 1048576: NARROWER than '..Said'. Prove '..Said' where nothing that the law and all that it calls make is longer than what came in: it says more and counts as full. Else prove '..UptoSaid'. A law counts once. -/
mutual
def uptoBulk {H : Type} : DataW H → Nat
  | .lit (.string bytes) => bytes.length + 1
  | .lit _ => 1
  | .nil => 1
  | .ptr d => uptoBulk d + 1
  | .slice elems spare => uptoBulkAll elems + uptoBulkAll spare + 1
  | .agg parts => uptoBulkAll parts + 1
  | .iface _ d => uptoBulk d + 1
  | .map entries => uptoBulkEntries entries + 1
  | .held _ => 1
def uptoBulkAll {H : Type} : List (DataW H) → Nat
  | [] => 0
  | d :: r => uptoBulk d + uptoBulkAll r
def uptoBulkEntries {H : Type} : List (Lit × DataW H) → Nat
  | [] => 0
  | x :: r => uptoBulkEntry x + uptoBulkEntries r
def uptoBulkEntry {H : Type} : Lit × DataW H → Nat
  | (.string bytes, d) => bytes.length + uptoBulk d + 1
  | (_, d) => uptoBulk d + 1
 end
def uptoSmall : (H : Type) → List (DataW H) → Bool := fun _ ds => decide (uptoBulkAll ds ≤ 1048576)
def OpenSpec.upto (s : _root_.Go.ChangeSpec) : _root_.Go.OpenSpec := { _root_.Go.OpenSpec.ofChange s with cond := some uptoSmall }

/-- 'thicketlaw.BracketParses', WHERE WHAT IT READS IS OF BULK AT MOST 1048576: true; the input reads as it did. -/
def bracketParsesUptoRow : OpenClaim := { program := "ytbiahhojnjchnaagreat", sum := "a9b8194391ea057b814a715a685fbf5004fc8b381d0e5173bac4588bb65cc23f", func := "thicket/thicketlaw.BracketParses", spec := "bracketParses", inPlace := ["internal/abi.NoEscape"], unfollowed := true, recurses := true, apart := false, narrowed := true }
def BracketParsesUptoSaid : Prop := bracketParsesUptoRow.holds Tryz.pinned (OpenSpec.upto bracketParsesSpec)

/-- 'thicketlaw.BracketFolds', WHERE WHAT IT READS IS OF BULK AT MOST 1048576: true; the input reads as it did. -/
def bracketFoldsUptoRow : OpenClaim := { program := "ytbiahhojnjchnaagreat", sum := "a9b8194391ea057b814a715a685fbf5004fc8b381d0e5173bac4588bb65cc23f", func := "thicket/thicketlaw.BracketFolds", spec := "bracketFolds", inPlace := ["internal/abi.NoEscape"], unfollowed := true, recurses := true, apart := false, narrowed := true }
def BracketFoldsUptoSaid : Prop := bracketFoldsUptoRow.holds Tryz.pinned (OpenSpec.upto bracketFoldsSpec)

/-- 'thicketlaw.BracketTurns', WHERE WHAT IT READS IS OF BULK AT MOST 1048576: true; the input reads as it did. -/
def bracketTurnsUptoRow : OpenClaim := { program := "ytbiahhojnjchnaagreat", sum := "a9b8194391ea057b814a715a685fbf5004fc8b381d0e5173bac4588bb65cc23f", func := "thicket/thicketlaw.BracketTurns", spec := "bracketTurns", inPlace := ["internal/abi.NoEscape"], unfollowed := true, recurses := true, apart := false, narrowed := true }
def BracketTurnsUptoSaid : Prop := bracketTurnsUptoRow.holds Tryz.pinned (OpenSpec.upto bracketTurnsSpec)

/-- 'thicketlaw.ParseBars', WHERE WHAT IT READS IS OF BULK AT MOST 1048576: true; the input reads as it did. -/
def parseBarsUptoRow : OpenClaim := { program := "ytbiahhojnjchnaagreat", sum := "a9b8194391ea057b814a715a685fbf5004fc8b381d0e5173bac4588bb65cc23f", func := "thicket/thicketlaw.ParseBars", spec := "parseBars", inPlace := ["internal/abi.NoEscape"], unfollowed := true, recurses := true, apart := false, narrowed := true }
def ParseBarsUptoSaid : Prop := parseBarsUptoRow.holds Tryz.pinned (OpenSpec.upto parseBarsSpec)

/-- 'thicketlaw.ParseParses', WHERE WHAT IT READS IS OF BULK AT MOST 1048576: true; the input reads as it did. -/
def parseParsesUptoRow : OpenClaim := { program := "ytbiahhojnjchnaagreat", sum := "a9b8194391ea057b814a715a685fbf5004fc8b381d0e5173bac4588bb65cc23f", func := "thicket/thicketlaw.ParseParses", spec := "parseParses", inPlace := ["internal/abi.NoEscape"], unfollowed := true, recurses := true, apart := false, narrowed := true }
def ParseParsesUptoSaid : Prop := parseParsesUptoRow.holds Tryz.pinned (OpenSpec.upto parseParsesSpec)

/-- 'thicketlaw.ParseNumbers', WHERE WHAT IT READS IS OF BULK AT MOST 1048576: true; the input reads as it did. -/
def parseNumbersUptoRow : OpenClaim := { program := "ytbiahhojnjchnaagreat", sum := "a9b8194391ea057b814a715a685fbf5004fc8b381d0e5173bac4588bb65cc23f", func := "thicket/thicketlaw.ParseNumbers", spec := "parseNumbers", inPlace := ["internal/abi.NoEscape"], unfollowed := true, recurses := true, loops := true, apart := false, narrowed := true }
def ParseNumbersUptoSaid : Prop := parseNumbersUptoRow.holds Tryz.pinned (OpenSpec.upto parseNumbersSpec)

/-- 'thicketlaw.ParseGroups', WHERE WHAT IT READS IS OF BULK AT MOST 1048576: true; the input reads as it did. -/
def parseGroupsUptoRow : OpenClaim := { program := "ytbiahhojnjchnaagreat", sum := "a9b8194391ea057b814a715a685fbf5004fc8b381d0e5173bac4588bb65cc23f", func := "thicket/thicketlaw.ParseGroups", spec := "parseGroups", inPlace := ["internal/abi.NoEscape"], unfollowed := true, recurses := true, apart := false, narrowed := true }
def ParseGroupsUptoSaid : Prop := parseGroupsUptoRow.holds Tryz.pinned (OpenSpec.upto parseGroupsSpec)

/-- 'thicketlaw.TopDialects', WHERE WHAT IT READS IS OF BULK AT MOST 1048576: true; the input reads as it did. -/
def topDialectsUptoRow : OpenClaim := { program := "ytbiahhojnjchnaagreat", sum := "a9b8194391ea057b814a715a685fbf5004fc8b381d0e5173bac4588bb65cc23f", func := "thicket/thicketlaw.TopDialects", spec := "topDialects", inPlace := ["internal/abi.NoEscape"], unfollowed := true, recurses := true, apart := false, narrowed := true }
def TopDialectsUptoSaid : Prop := topDialectsUptoRow.holds Tryz.pinned (OpenSpec.upto topDialectsSpec)

/-- 'thicketlaw.ParseRight', WHERE WHAT IT READS IS OF BULK AT MOST 1048576: true; the input reads as it did. -/
def parseRightUptoRow : OpenClaim := { program := "ytbiahhojnjchnaagreat", sum := "a9b8194391ea057b814a715a685fbf5004fc8b381d0e5173bac4588bb65cc23f", func := "thicket/thicketlaw.ParseRight", spec := "parseRight", inPlace := ["internal/abi.NoEscape"], unfollowed := true, recurses := true, apart := false, narrowed := true }
def ParseRightUptoSaid : Prop := parseRightUptoRow.holds Tryz.pinned (OpenSpec.upto parseRightSpec)

end Rows
end Go.Proofs.YtbiahhojnjchnaaGreat
