/-
  No cell of these rows narrows 'for every input' (looked for: loops, veiled, ifaces, maps, wideKeys, modest, calm, conditions, laid).
  DERIVED. THE GIVEN ROWS OF THIS SEAT. 23 by the template 'for every input the law returns true; each argument reads behind the call as it read before'; 0 by the template 'total and deterministic' (their statements: YtehlijnhhbdbhaaTotals.lean).
  GIVEN WITH THE SEED: the statements are not yours to turn. If you find one false, say at which input.
  Laid BY PROGRAM, IN A SANDBOX (cutbox-rows.mjs): the forced cells as the released guide's own fill.sh prints them over the translation 6b2bd7ea4c9308dd… (all of the seat's roots in one cut). By AI agents, Wed Nov 11 2026. No macro, syntax, notation, axiom, sorry.
-/
import Derived.Test.YtehlijnhhbdbhaaChecked
import GoSem.Claim
import GoSem.ClaimJoined
import GoSem.ClaimMapViews
import Derived.JoinedTies
import Derived.KernelRfl
namespace Go.Proofs.Ytehlijnhhbdbhaa
/- THE CELL 'sum', in the pinned program and in every row, IS THE sha256 OF THE DUMP (.gsa) THAT YtehlijnhhbdbhaaProg.lean LOADS. Nothing in Lean hashes anything: it is a label: what it is worth is what the hold of that sum in a sandbox is worth. -/
noncomputable def Try.pinned : Pinned := { name := "ytehlijnhhbdbhaa", sum := "6b2bd7ea4c9308dde30bec63260c67b6b5bea06f91acb6626fe87ed594170c95", checked := Try.checked }
namespace Rows
def none {H : Type} : Left H := { results := [], args := [] }

/-- 'thicketlaw.SetMakes': WHATEVER THE INPUT: true; the input reads as it did. -/
def setMakesSpec : ChangeSpec := { name := "setMakes", fn := fun _ => fun
  | [d] => { results := [.lit (.bool true)], args := [d] }
  | _ => none }
def setMakesRow : OpenClaim := { program := "ytehlijnhhbdbhaa", sum := "6b2bd7ea4c9308dde30bec63260c67b6b5bea06f91acb6626fe87ed594170c95", func := "thicket/thicketlaw.SetMakes", spec := "setMakes", unfollowed := true, recurses := true, apart := false }
def SetMakesSaid : Prop := setMakesRow.holds Try.pinned (OpenSpec.ofChange setMakesSpec)

/-- ITS FALSE NEIGHBOUR: 'it returns false'. Refute it at one input. -/
def setMakesWrong : ChangeSpec := { name := "setMakes", fn := fun _ => fun
  | [d] => { results := [.lit (.bool false)], args := [d] }
  | _ => none }
def SetMakesWrongFalsely : Prop := setMakesRow.holds Try.pinned (OpenSpec.ofChange setMakesWrong)

/-- 'thicketlaw.SetNots': WHATEVER THE INPUT: true; the input reads as it did. -/
def setNotsSpec : ChangeSpec := { name := "setNots", fn := fun _ => fun
  | [d] => { results := [.lit (.bool true)], args := [d] }
  | _ => none }
def setNotsRow : OpenClaim := { program := "ytehlijnhhbdbhaa", sum := "6b2bd7ea4c9308dde30bec63260c67b6b5bea06f91acb6626fe87ed594170c95", func := "thicket/thicketlaw.SetNots", spec := "setNots", unfollowed := true, recurses := true, apart := false }
def SetNotsSaid : Prop := setNotsRow.holds Try.pinned (OpenSpec.ofChange setNotsSpec)

/-- ITS FALSE NEIGHBOUR: 'it returns false'. Refute it at one input. -/
def setNotsWrong : ChangeSpec := { name := "setNots", fn := fun _ => fun
  | [d] => { results := [.lit (.bool false)], args := [d] }
  | _ => none }
def SetNotsWrongFalsely : Prop := setNotsRow.holds Try.pinned (OpenSpec.ofChange setNotsWrong)

/-- 'thicketlaw.SetChecks': WHATEVER THE INPUT: true; the input reads as it did. -/
def setChecksSpec : ChangeSpec := { name := "setChecks", fn := fun _ => fun
  | [d] => { results := [.lit (.bool true)], args := [d] }
  | _ => none }
def setChecksRow : OpenClaim := { program := "ytehlijnhhbdbhaa", sum := "6b2bd7ea4c9308dde30bec63260c67b6b5bea06f91acb6626fe87ed594170c95", func := "thicket/thicketlaw.SetChecks", spec := "setChecks", unfollowed := true, recurses := true, apart := false }
def SetChecksSaid : Prop := setChecksRow.holds Try.pinned (OpenSpec.ofChange setChecksSpec)

/-- ITS FALSE NEIGHBOUR: 'it returns false'. Refute it at one input. -/
def setChecksWrong : ChangeSpec := { name := "setChecks", fn := fun _ => fun
  | [d] => { results := [.lit (.bool false)], args := [d] }
  | _ => none }
def SetChecksWrongFalsely : Prop := setChecksRow.holds Try.pinned (OpenSpec.ofChange setChecksWrong)

/-- 'thicketlaw.SetMeets': WHATEVER THE INPUT: true; the input reads as it did. -/
def setMeetsSpec : ChangeSpec := { name := "setMeets", fn := fun _ => fun
  | [d1, d2] => { results := [.lit (.bool true)], args := [d1, d2] }
  | _ => none }
def setMeetsRow : OpenClaim := { program := "ytehlijnhhbdbhaa", sum := "6b2bd7ea4c9308dde30bec63260c67b6b5bea06f91acb6626fe87ed594170c95", func := "thicket/thicketlaw.SetMeets", spec := "setMeets", unfollowed := true, recurses := true, apart := false }
def SetMeetsSaid : Prop := setMeetsRow.holds Try.pinned (OpenSpec.ofChange setMeetsSpec)

/-- ITS FALSE NEIGHBOUR: 'it returns false'. Refute it at one input. -/
def setMeetsWrong : ChangeSpec := { name := "setMeets", fn := fun _ => fun
  | [d1, d2] => { results := [.lit (.bool false)], args := [d1, d2] }
  | _ => none }
def SetMeetsWrongFalsely : Prop := setMeetsRow.holds Try.pinned (OpenSpec.ofChange setMeetsWrong)

/-- 'thicketlaw.SetLess': WHATEVER THE INPUT: true; the input reads as it did. -/
def setLessSpec : ChangeSpec := { name := "setLess", fn := fun _ => fun
  | [d1, d2] => { results := [.lit (.bool true)], args := [d1, d2] }
  | _ => none }
def setLessRow : OpenClaim := { program := "ytehlijnhhbdbhaa", sum := "6b2bd7ea4c9308dde30bec63260c67b6b5bea06f91acb6626fe87ed594170c95", func := "thicket/thicketlaw.SetLess", spec := "setLess", unfollowed := true, recurses := true, apart := false }
def SetLessSaid : Prop := setLessRow.holds Try.pinned (OpenSpec.ofChange setLessSpec)

/-- ITS FALSE NEIGHBOUR: 'it returns false'. Refute it at one input. -/
def setLessWrong : ChangeSpec := { name := "setLess", fn := fun _ => fun
  | [d1, d2] => { results := [.lit (.bool false)], args := [d1, d2] }
  | _ => none }
def SetLessWrongFalsely : Prop := setLessRow.holds Try.pinned (OpenSpec.ofChange setLessWrong)

/-- 'thicketlaw.SetUnions': WHATEVER THE INPUT: true; the input reads as it did. -/
def setUnionsSpec : ChangeSpec := { name := "setUnions", fn := fun _ => fun
  | [d1, d2] => { results := [.lit (.bool true)], args := [d1, d2] }
  | _ => none }
def setUnionsRow : OpenClaim := { program := "ytehlijnhhbdbhaa", sum := "6b2bd7ea4c9308dde30bec63260c67b6b5bea06f91acb6626fe87ed594170c95", func := "thicket/thicketlaw.SetUnions", spec := "setUnions", unfollowed := true, recurses := true, apart := false }
def SetUnionsSaid : Prop := setUnionsRow.holds Try.pinned (OpenSpec.ofChange setUnionsSpec)

/-- ITS FALSE NEIGHBOUR: 'it returns false'. Refute it at one input. -/
def setUnionsWrong : ChangeSpec := { name := "setUnions", fn := fun _ => fun
  | [d1, d2] => { results := [.lit (.bool false)], args := [d1, d2] }
  | _ => none }
def SetUnionsWrongFalsely : Prop := setUnionsRow.holds Try.pinned (OpenSpec.ofChange setUnionsWrong)

/-- 'thicketlaw.SetSpreads': WHATEVER THE INPUT: true; the input reads as it did. -/
def setSpreadsSpec : ChangeSpec := { name := "setSpreads", fn := fun _ => fun
  | [d1, d2, d3] => { results := [.lit (.bool true)], args := [d1, d2, d3] }
  | _ => none }
def setSpreadsRow : OpenClaim := { program := "ytehlijnhhbdbhaa", sum := "6b2bd7ea4c9308dde30bec63260c67b6b5bea06f91acb6626fe87ed594170c95", func := "thicket/thicketlaw.SetSpreads", spec := "setSpreads", unfollowed := true, recurses := true, apart := false }
def SetSpreadsSaid : Prop := setSpreadsRow.holds Try.pinned (OpenSpec.ofChange setSpreadsSpec)

/-- ITS FALSE NEIGHBOUR: 'it returns false'. Refute it at one input. -/
def setSpreadsWrong : ChangeSpec := { name := "setSpreads", fn := fun _ => fun
  | [d1, d2, d3] => { results := [.lit (.bool false)], args := [d1, d2, d3] }
  | _ => none }
def SetSpreadsWrongFalsely : Prop := setSpreadsRow.holds Try.pinned (OpenSpec.ofChange setSpreadsWrong)

/-- 'thicketlaw.SetHas': WHATEVER THE INPUT: true; the input reads as it did. -/
def setHasSpec : ChangeSpec := { name := "setHas", fn := fun _ => fun
  | [d1, d2] => { results := [.lit (.bool true)], args := [d1, d2] }
  | _ => none }
def setHasRow : OpenClaim := { program := "ytehlijnhhbdbhaa", sum := "6b2bd7ea4c9308dde30bec63260c67b6b5bea06f91acb6626fe87ed594170c95", func := "thicket/thicketlaw.SetHas", spec := "setHas", unfollowed := true, recurses := true, apart := false }
def SetHasSaid : Prop := setHasRow.holds Try.pinned (OpenSpec.ofChange setHasSpec)

/-- ITS FALSE NEIGHBOUR: 'it returns false'. Refute it at one input. -/
def setHasWrong : ChangeSpec := { name := "setHas", fn := fun _ => fun
  | [d1, d2] => { results := [.lit (.bool false)], args := [d1, d2] }
  | _ => none }
def SetHasWrongFalsely : Prop := setHasRow.holds Try.pinned (OpenSpec.ofChange setHasWrong)

/-- 'thicketlaw.SetTurns': WHATEVER THE INPUT: true; the input reads as it did. -/
def setTurnsSpec : ChangeSpec := { name := "setTurns", fn := fun _ => fun
  | [d1, d2] => { results := [.lit (.bool true)], args := [d1, d2] }
  | _ => none }
def setTurnsRow : OpenClaim := { program := "ytehlijnhhbdbhaa", sum := "6b2bd7ea4c9308dde30bec63260c67b6b5bea06f91acb6626fe87ed594170c95", func := "thicket/thicketlaw.SetTurns", spec := "setTurns", unfollowed := true, recurses := true, apart := false }
def SetTurnsSaid : Prop := setTurnsRow.holds Try.pinned (OpenSpec.ofChange setTurnsSpec)

/-- ITS FALSE NEIGHBOUR: 'it returns false'. Refute it at one input. -/
def setTurnsWrong : ChangeSpec := { name := "setTurns", fn := fun _ => fun
  | [d1, d2] => { results := [.lit (.bool false)], args := [d1, d2] }
  | _ => none }
def SetTurnsWrongFalsely : Prop := setTurnsRow.holds Try.pinned (OpenSpec.ofChange setTurnsWrong)

/-- 'thicketlaw.SetCounts': WHATEVER THE INPUT: true; the input reads as it did. -/
def setCountsSpec : ChangeSpec := { name := "setCounts", fn := fun _ => fun
  | [d1, d2] => { results := [.lit (.bool true)], args := [d1, d2] }
  | _ => none }
def setCountsRow : OpenClaim := { program := "ytehlijnhhbdbhaa", sum := "6b2bd7ea4c9308dde30bec63260c67b6b5bea06f91acb6626fe87ed594170c95", func := "thicket/thicketlaw.SetCounts", spec := "setCounts", unfollowed := true, recurses := true, apart := false }
def SetCountsSaid : Prop := setCountsRow.holds Try.pinned (OpenSpec.ofChange setCountsSpec)

/-- ITS FALSE NEIGHBOUR: 'it returns false'. Refute it at one input. -/
def setCountsWrong : ChangeSpec := { name := "setCounts", fn := fun _ => fun
  | [d1, d2] => { results := [.lit (.bool false)], args := [d1, d2] }
  | _ => none }
def SetCountsWrongFalsely : Prop := setCountsRow.holds Try.pinned (OpenSpec.ofChange setCountsWrong)

/-- 'thicketlaw.SetSame': WHATEVER THE INPUT: true; the input reads as it did. -/
def setSameSpec : ChangeSpec := { name := "setSame", fn := fun _ => fun
  | [d1, d2] => { results := [.lit (.bool true)], args := [d1, d2] }
  | _ => none }
def setSameRow : OpenClaim := { program := "ytehlijnhhbdbhaa", sum := "6b2bd7ea4c9308dde30bec63260c67b6b5bea06f91acb6626fe87ed594170c95", func := "thicket/thicketlaw.SetSame", spec := "setSame", unfollowed := true, recurses := true, apart := false }
def SetSameSaid : Prop := setSameRow.holds Try.pinned (OpenSpec.ofChange setSameSpec)

/-- ITS FALSE NEIGHBOUR: 'it returns false'. Refute it at one input. -/
def setSameWrong : ChangeSpec := { name := "setSame", fn := fun _ => fun
  | [d1, d2] => { results := [.lit (.bool false)], args := [d1, d2] }
  | _ => none }
def SetSameWrongFalsely : Prop := setSameRow.holds Try.pinned (OpenSpec.ofChange setSameWrong)

/-- 'thicketlaw.SplitRoads': WHATEVER THE INPUT: true; the input reads as it did. -/
def splitRoadsSpec : ChangeSpec := { name := "splitRoads", fn := fun _ => fun
  | [d1, d2, d3, d4] => { results := [.lit (.bool true)], args := [d1, d2, d3, d4] }
  | _ => none }
def splitRoadsRow : OpenClaim := { program := "ytehlijnhhbdbhaa", sum := "6b2bd7ea4c9308dde30bec63260c67b6b5bea06f91acb6626fe87ed594170c95", func := "thicket/thicketlaw.SplitRoads", spec := "splitRoads", unfollowed := true, recurses := true, apart := false }
def SplitRoadsSaid : Prop := splitRoadsRow.holds Try.pinned (OpenSpec.ofChange splitRoadsSpec)

/-- ITS FALSE NEIGHBOUR: 'it returns false'. Refute it at one input. -/
def splitRoadsWrong : ChangeSpec := { name := "splitRoads", fn := fun _ => fun
  | [d1, d2, d3, d4] => { results := [.lit (.bool false)], args := [d1, d2, d3, d4] }
  | _ => none }
def SplitRoadsWrongFalsely : Prop := splitRoadsRow.holds Try.pinned (OpenSpec.ofChange splitRoadsWrong)

/-- 'thicketlaw.SplitAlongs': WHATEVER THE INPUT: true; the input reads as it did. -/
def splitAlongsSpec : ChangeSpec := { name := "splitAlongs", fn := fun _ => fun
  | [d1, d2, d3, d4] => { results := [.lit (.bool true)], args := [d1, d2, d3, d4] }
  | _ => none }
def splitAlongsRow : OpenClaim := { program := "ytehlijnhhbdbhaa", sum := "6b2bd7ea4c9308dde30bec63260c67b6b5bea06f91acb6626fe87ed594170c95", func := "thicket/thicketlaw.SplitAlongs", spec := "splitAlongs", unfollowed := true, recurses := true, apart := false }
def SplitAlongsSaid : Prop := splitAlongsRow.holds Try.pinned (OpenSpec.ofChange splitAlongsSpec)

/-- ITS FALSE NEIGHBOUR: 'it returns false'. Refute it at one input. -/
def splitAlongsWrong : ChangeSpec := { name := "splitAlongs", fn := fun _ => fun
  | [d1, d2, d3, d4] => { results := [.lit (.bool false)], args := [d1, d2, d3, d4] }
  | _ => none }
def SplitAlongsWrongFalsely : Prop := splitAlongsRow.holds Try.pinned (OpenSpec.ofChange splitAlongsWrong)

/-- 'thicketlaw.SplitCounts': WHATEVER THE INPUT: true; the input reads as it did. -/
def splitCountsSpec : ChangeSpec := { name := "splitCounts", fn := fun _ => fun
  | [d1, d2] => { results := [.lit (.bool true)], args := [d1, d2] }
  | _ => none }
def splitCountsRow : OpenClaim := { program := "ytehlijnhhbdbhaa", sum := "6b2bd7ea4c9308dde30bec63260c67b6b5bea06f91acb6626fe87ed594170c95", func := "thicket/thicketlaw.SplitCounts", spec := "splitCounts", unfollowed := true, recurses := true, apart := false }
def SplitCountsSaid : Prop := splitCountsRow.holds Try.pinned (OpenSpec.ofChange splitCountsSpec)

/-- ITS FALSE NEIGHBOUR: 'it returns false'. Refute it at one input. -/
def splitCountsWrong : ChangeSpec := { name := "splitCounts", fn := fun _ => fun
  | [d1, d2] => { results := [.lit (.bool false)], args := [d1, d2] }
  | _ => none }
def SplitCountsWrongFalsely : Prop := splitCountsRow.holds Try.pinned (OpenSpec.ofChange splitCountsWrong)

/-- 'thicketlaw.FoldClasses': WHATEVER THE INPUT: true; the input reads as it did. -/
def foldClassesSpec : ChangeSpec := { name := "foldClasses", fn := fun _ => fun
  | [d] => { results := [.lit (.bool true)], args := [d] }
  | _ => none }
def foldClassesRow : OpenClaim := { program := "ytehlijnhhbdbhaa", sum := "6b2bd7ea4c9308dde30bec63260c67b6b5bea06f91acb6626fe87ed594170c95", func := "thicket/thicketlaw.FoldClasses", spec := "foldClasses", unfollowed := true, recurses := true, apart := false }
def FoldClassesSaid : Prop := foldClassesRow.holds Try.pinned (OpenSpec.ofChange foldClassesSpec)

/-- ITS FALSE NEIGHBOUR: 'it returns false'. Refute it at one input. -/
def foldClassesWrong : ChangeSpec := { name := "foldClasses", fn := fun _ => fun
  | [d] => { results := [.lit (.bool false)], args := [d] }
  | _ => none }
def FoldClassesWrongFalsely : Prop := foldClassesRow.holds Try.pinned (OpenSpec.ofChange foldClassesWrong)

/-- 'thicketlaw.FoldOrbits': WHATEVER THE INPUT: true; the input reads as it did. -/
def foldOrbitsSpec : ChangeSpec := { name := "foldOrbits", fn := fun _ => fun
  | [d] => { results := [.lit (.bool true)], args := [d] }
  | _ => none }
def foldOrbitsRow : OpenClaim := { program := "ytehlijnhhbdbhaa", sum := "6b2bd7ea4c9308dde30bec63260c67b6b5bea06f91acb6626fe87ed594170c95", func := "thicket/thicketlaw.FoldOrbits", spec := "foldOrbits", unfollowed := true, recurses := true, apart := false }
def FoldOrbitsSaid : Prop := foldOrbitsRow.holds Try.pinned (OpenSpec.ofChange foldOrbitsSpec)

/-- ITS FALSE NEIGHBOUR: 'it returns false'. Refute it at one input. -/
def foldOrbitsWrong : ChangeSpec := { name := "foldOrbits", fn := fun _ => fun
  | [d] => { results := [.lit (.bool false)], args := [d] }
  | _ => none }
def FoldOrbitsWrongFalsely : Prop := foldOrbitsRow.holds Try.pinned (OpenSpec.ofChange foldOrbitsWrong)

/-- 'thicketlaw.FoldLeast': WHATEVER THE INPUT: true; the input reads as it did. -/
def foldLeastSpec : ChangeSpec := { name := "foldLeast", fn := fun _ => fun
  | [d1, d2] => { results := [.lit (.bool true)], args := [d1, d2] }
  | _ => none }
def foldLeastRow : OpenClaim := { program := "ytehlijnhhbdbhaa", sum := "6b2bd7ea4c9308dde30bec63260c67b6b5bea06f91acb6626fe87ed594170c95", func := "thicket/thicketlaw.FoldLeast", spec := "foldLeast", unfollowed := true, recurses := true, apart := false }
def FoldLeastSaid : Prop := foldLeastRow.holds Try.pinned (OpenSpec.ofChange foldLeastSpec)

/-- ITS FALSE NEIGHBOUR: 'it returns false'. Refute it at one input. -/
def foldLeastWrong : ChangeSpec := { name := "foldLeast", fn := fun _ => fun
  | [d1, d2] => { results := [.lit (.bool false)], args := [d1, d2] }
  | _ => none }
def FoldLeastWrongFalsely : Prop := foldLeastRow.holds Try.pinned (OpenSpec.ofChange foldLeastWrong)

/-- 'thicketlaw.FoldIn': WHATEVER THE INPUT: true; the input reads as it did. -/
def foldInSpec : ChangeSpec := { name := "foldIn", fn := fun _ => fun
  | [d1, d2] => { results := [.lit (.bool true)], args := [d1, d2] }
  | _ => none }
def foldInRow : OpenClaim := { program := "ytehlijnhhbdbhaa", sum := "6b2bd7ea4c9308dde30bec63260c67b6b5bea06f91acb6626fe87ed594170c95", func := "thicket/thicketlaw.FoldIn", spec := "foldIn", unfollowed := true, recurses := true, apart := false }
def FoldInSaid : Prop := foldInRow.holds Try.pinned (OpenSpec.ofChange foldInSpec)

/-- ITS FALSE NEIGHBOUR: 'it returns false'. Refute it at one input. -/
def foldInWrong : ChangeSpec := { name := "foldIn", fn := fun _ => fun
  | [d1, d2] => { results := [.lit (.bool false)], args := [d1, d2] }
  | _ => none }
def FoldInWrongFalsely : Prop := foldInRow.holds Try.pinned (OpenSpec.ofChange foldInWrong)

/-- 'thicketlaw.FoldAlike': WHATEVER THE INPUT: true; the input reads as it did. -/
def foldAlikeSpec : ChangeSpec := { name := "foldAlike", fn := fun _ => fun
  | [d1, d2] => { results := [.lit (.bool true)], args := [d1, d2] }
  | _ => none }
def foldAlikeRow : OpenClaim := { program := "ytehlijnhhbdbhaa", sum := "6b2bd7ea4c9308dde30bec63260c67b6b5bea06f91acb6626fe87ed594170c95", func := "thicket/thicketlaw.FoldAlike", spec := "foldAlike", unfollowed := true, recurses := true, apart := false }
def FoldAlikeSaid : Prop := foldAlikeRow.holds Try.pinned (OpenSpec.ofChange foldAlikeSpec)

/-- ITS FALSE NEIGHBOUR: 'it returns false'. Refute it at one input. -/
def foldAlikeWrong : ChangeSpec := { name := "foldAlike", fn := fun _ => fun
  | [d1, d2] => { results := [.lit (.bool false)], args := [d1, d2] }
  | _ => none }
def FoldAlikeWrongFalsely : Prop := foldAlikeRow.holds Try.pinned (OpenSpec.ofChange foldAlikeWrong)

/-- 'thicketlaw.FoldOnes': WHATEVER THE INPUT: true; the input reads as it did. -/
def foldOnesSpec : ChangeSpec := { name := "foldOnes", fn := fun _ => fun
  | [d] => { results := [.lit (.bool true)], args := [d] }
  | _ => none }
def foldOnesRow : OpenClaim := { program := "ytehlijnhhbdbhaa", sum := "6b2bd7ea4c9308dde30bec63260c67b6b5bea06f91acb6626fe87ed594170c95", func := "thicket/thicketlaw.FoldOnes", spec := "foldOnes", unfollowed := true, recurses := true, apart := false }
def FoldOnesSaid : Prop := foldOnesRow.holds Try.pinned (OpenSpec.ofChange foldOnesSpec)

/-- ITS FALSE NEIGHBOUR: 'it returns false'. Refute it at one input. -/
def foldOnesWrong : ChangeSpec := { name := "foldOnes", fn := fun _ => fun
  | [d] => { results := [.lit (.bool false)], args := [d] }
  | _ => none }
def FoldOnesWrongFalsely : Prop := foldOnesRow.holds Try.pinned (OpenSpec.ofChange foldOnesWrong)

/-- 'thicketlaw.SetFolds': WHATEVER THE INPUT: true; the input reads as it did. -/
def setFoldsSpec : ChangeSpec := { name := "setFolds", fn := fun _ => fun
  | [d] => { results := [.lit (.bool true)], args := [d] }
  | _ => none }
def setFoldsRow : OpenClaim := { program := "ytehlijnhhbdbhaa", sum := "6b2bd7ea4c9308dde30bec63260c67b6b5bea06f91acb6626fe87ed594170c95", func := "thicket/thicketlaw.SetFolds", spec := "setFolds", unfollowed := true, recurses := true, apart := false }
def SetFoldsSaid : Prop := setFoldsRow.holds Try.pinned (OpenSpec.ofChange setFoldsSpec)

/-- ITS FALSE NEIGHBOUR: 'it returns false'. Refute it at one input. -/
def setFoldsWrong : ChangeSpec := { name := "setFolds", fn := fun _ => fun
  | [d] => { results := [.lit (.bool false)], args := [d] }
  | _ => none }
def SetFoldsWrongFalsely : Prop := setFoldsRow.holds Try.pinned (OpenSpec.ofChange setFoldsWrong)

/-- 'thicketlaw.SetFoldsOnce': WHATEVER THE INPUT: true; the input reads as it did. -/
def setFoldsOnceSpec : ChangeSpec := { name := "setFoldsOnce", fn := fun _ => fun
  | [d] => { results := [.lit (.bool true)], args := [d] }
  | _ => none }
def setFoldsOnceRow : OpenClaim := { program := "ytehlijnhhbdbhaa", sum := "6b2bd7ea4c9308dde30bec63260c67b6b5bea06f91acb6626fe87ed594170c95", func := "thicket/thicketlaw.SetFoldsOnce", spec := "setFoldsOnce", unfollowed := true, recurses := true, apart := false }
def SetFoldsOnceSaid : Prop := setFoldsOnceRow.holds Try.pinned (OpenSpec.ofChange setFoldsOnceSpec)

/-- ITS FALSE NEIGHBOUR: 'it returns false'. Refute it at one input. -/
def setFoldsOnceWrong : ChangeSpec := { name := "setFoldsOnce", fn := fun _ => fun
  | [d] => { results := [.lit (.bool false)], args := [d] }
  | _ => none }
def SetFoldsOnceWrongFalsely : Prop := setFoldsOnceRow.holds Try.pinned (OpenSpec.ofChange setFoldsOnceWrong)

/-- 'thicketlaw.SplitSame': WHATEVER THE INPUT: true; the input reads as it did. -/
def splitSameSpec : ChangeSpec := { name := "splitSame", fn := fun _ => fun
  | [d1, d2, d3, d4] => { results := [.lit (.bool true)], args := [d1, d2, d3, d4] }
  | _ => none }
def splitSameRow : OpenClaim := { program := "ytehlijnhhbdbhaa", sum := "6b2bd7ea4c9308dde30bec63260c67b6b5bea06f91acb6626fe87ed594170c95", func := "thicket/thicketlaw.SplitSame", spec := "splitSame", unfollowed := true, recurses := true, apart := false }
def SplitSameSaid : Prop := splitSameRow.holds Try.pinned (OpenSpec.ofChange splitSameSpec)

/-- ITS FALSE NEIGHBOUR: 'it returns false'. Refute it at one input. -/
def splitSameWrong : ChangeSpec := { name := "splitSame", fn := fun _ => fun
  | [d1, d2, d3, d4] => { results := [.lit (.bool false)], args := [d1, d2, d3, d4] }
  | _ => none }
def SplitSameWrongFalsely : Prop := splitSameRow.holds Try.pinned (OpenSpec.ofChange splitSameWrong)

/- THE SECOND FORM. 'bulk': how many values and letters a reading holds, each counted each time it is reached (what is shared counts as often as it is met; a slice's spare places count too). A statement '..UptoSaid' is the law's where the arguments, and the package variables that the reading takes, are together of bulk at most 1048576: NARROWER than '..Said'. Prove '..Said' where nothing that the law and all that it calls make is longer than what came in: it says more and counts as full. Else prove '..UptoSaid'. A law counts once. -/
mutual
def uptoBulk {H : Type} : DataW H → Nat
  | .lit (.string bytes) => bytes.length + 1
  | .lit _ => 1
  | .nil => 1
  | .ptr d => uptoBulk d + 1
  | .slice elems spare => uptoBulkAll elems + uptoBulkAll spare + 1
  | .agg parts => uptoBulkAll parts + 1
  | .iface _ d => uptoBulk d + 1
  | .map entries => uptoBulkEntries entries + 1
  | .held _ => 1
def uptoBulkAll {H : Type} : List (DataW H) → Nat
  | [] => 0
  | d :: r => uptoBulk d + uptoBulkAll r
def uptoBulkEntries {H : Type} : List (Lit × DataW H) → Nat
  | [] => 0
  | x :: r => uptoBulkEntry x + uptoBulkEntries r
def uptoBulkEntry {H : Type} : Lit × DataW H → Nat
  | (.string bytes, d) => bytes.length + uptoBulk d + 1
  | (_, d) => uptoBulk d + 1
 end
def uptoSmall : (H : Type) → List (DataW H) → Bool := fun _ ds => decide (uptoBulkAll ds ≤ 1048576)
def OpenSpec.upto (s : _root_.Go.ChangeSpec) : _root_.Go.OpenSpec := { _root_.Go.OpenSpec.ofChange s with cond := some uptoSmall }

/-- 'thicketlaw.SetMakes', WHERE WHAT IT READS IS OF BULK AT MOST 1048576: true; the input reads as it did. -/
def setMakesUptoRow : OpenClaim := { program := "ytehlijnhhbdbhaa", sum := "6b2bd7ea4c9308dde30bec63260c67b6b5bea06f91acb6626fe87ed594170c95", func := "thicket/thicketlaw.SetMakes", spec := "setMakes", unfollowed := true, recurses := true, apart := false, narrowed := true }
def SetMakesUptoSaid : Prop := setMakesUptoRow.holds Try.pinned (OpenSpec.upto setMakesSpec)

/-- 'thicketlaw.SetNots', WHERE WHAT IT READS IS OF BULK AT MOST 1048576: true; the input reads as it did. -/
def setNotsUptoRow : OpenClaim := { program := "ytehlijnhhbdbhaa", sum := "6b2bd7ea4c9308dde30bec63260c67b6b5bea06f91acb6626fe87ed594170c95", func := "thicket/thicketlaw.SetNots", spec := "setNots", unfollowed := true, recurses := true, apart := false, narrowed := true }
def SetNotsUptoSaid : Prop := setNotsUptoRow.holds Try.pinned (OpenSpec.upto setNotsSpec)

/-- 'thicketlaw.SetChecks', WHERE WHAT IT READS IS OF BULK AT MOST 1048576: true; the input reads as it did. -/
def setChecksUptoRow : OpenClaim := { program := "ytehlijnhhbdbhaa", sum := "6b2bd7ea4c9308dde30bec63260c67b6b5bea06f91acb6626fe87ed594170c95", func := "thicket/thicketlaw.SetChecks", spec := "setChecks", unfollowed := true, recurses := true, apart := false, narrowed := true }
def SetChecksUptoSaid : Prop := setChecksUptoRow.holds Try.pinned (OpenSpec.upto setChecksSpec)

/-- 'thicketlaw.SetMeets', WHERE WHAT IT READS IS OF BULK AT MOST 1048576: true; the input reads as it did. -/
def setMeetsUptoRow : OpenClaim := { program := "ytehlijnhhbdbhaa", sum := "6b2bd7ea4c9308dde30bec63260c67b6b5bea06f91acb6626fe87ed594170c95", func := "thicket/thicketlaw.SetMeets", spec := "setMeets", unfollowed := true, recurses := true, apart := false, narrowed := true }
def SetMeetsUptoSaid : Prop := setMeetsUptoRow.holds Try.pinned (OpenSpec.upto setMeetsSpec)

/-- 'thicketlaw.SetLess', WHERE WHAT IT READS IS OF BULK AT MOST 1048576: true; the input reads as it did. -/
def setLessUptoRow : OpenClaim := { program := "ytehlijnhhbdbhaa", sum := "6b2bd7ea4c9308dde30bec63260c67b6b5bea06f91acb6626fe87ed594170c95", func := "thicket/thicketlaw.SetLess", spec := "setLess", unfollowed := true, recurses := true, apart := false, narrowed := true }
def SetLessUptoSaid : Prop := setLessUptoRow.holds Try.pinned (OpenSpec.upto setLessSpec)

/-- 'thicketlaw.SetUnions', WHERE WHAT IT READS IS OF BULK AT MOST 1048576: true; the input reads as it did. -/
def setUnionsUptoRow : OpenClaim := { program := "ytehlijnhhbdbhaa", sum := "6b2bd7ea4c9308dde30bec63260c67b6b5bea06f91acb6626fe87ed594170c95", func := "thicket/thicketlaw.SetUnions", spec := "setUnions", unfollowed := true, recurses := true, apart := false, narrowed := true }
def SetUnionsUptoSaid : Prop := setUnionsUptoRow.holds Try.pinned (OpenSpec.upto setUnionsSpec)

/-- 'thicketlaw.SetSpreads', WHERE WHAT IT READS IS OF BULK AT MOST 1048576: true; the input reads as it did. -/
def setSpreadsUptoRow : OpenClaim := { program := "ytehlijnhhbdbhaa", sum := "6b2bd7ea4c9308dde30bec63260c67b6b5bea06f91acb6626fe87ed594170c95", func := "thicket/thicketlaw.SetSpreads", spec := "setSpreads", unfollowed := true, recurses := true, apart := false, narrowed := true }
def SetSpreadsUptoSaid : Prop := setSpreadsUptoRow.holds Try.pinned (OpenSpec.upto setSpreadsSpec)

/-- 'thicketlaw.SetHas', WHERE WHAT IT READS IS OF BULK AT MOST 1048576: true; the input reads as it did. -/
def setHasUptoRow : OpenClaim := { program := "ytehlijnhhbdbhaa", sum := "6b2bd7ea4c9308dde30bec63260c67b6b5bea06f91acb6626fe87ed594170c95", func := "thicket/thicketlaw.SetHas", spec := "setHas", unfollowed := true, recurses := true, apart := false, narrowed := true }
def SetHasUptoSaid : Prop := setHasUptoRow.holds Try.pinned (OpenSpec.upto setHasSpec)

/-- 'thicketlaw.SetTurns', WHERE WHAT IT READS IS OF BULK AT MOST 1048576: true; the input reads as it did. -/
def setTurnsUptoRow : OpenClaim := { program := "ytehlijnhhbdbhaa", sum := "6b2bd7ea4c9308dde30bec63260c67b6b5bea06f91acb6626fe87ed594170c95", func := "thicket/thicketlaw.SetTurns", spec := "setTurns", unfollowed := true, recurses := true, apart := false, narrowed := true }
def SetTurnsUptoSaid : Prop := setTurnsUptoRow.holds Try.pinned (OpenSpec.upto setTurnsSpec)

/-- 'thicketlaw.SetCounts', WHERE WHAT IT READS IS OF BULK AT MOST 1048576: true; the input reads as it did. -/
def setCountsUptoRow : OpenClaim := { program := "ytehlijnhhbdbhaa", sum := "6b2bd7ea4c9308dde30bec63260c67b6b5bea06f91acb6626fe87ed594170c95", func := "thicket/thicketlaw.SetCounts", spec := "setCounts", unfollowed := true, recurses := true, apart := false, narrowed := true }
def SetCountsUptoSaid : Prop := setCountsUptoRow.holds Try.pinned (OpenSpec.upto setCountsSpec)

/-- 'thicketlaw.SetSame', WHERE WHAT IT READS IS OF BULK AT MOST 1048576: true; the input reads as it did. -/
def setSameUptoRow : OpenClaim := { program := "ytehlijnhhbdbhaa", sum := "6b2bd7ea4c9308dde30bec63260c67b6b5bea06f91acb6626fe87ed594170c95", func := "thicket/thicketlaw.SetSame", spec := "setSame", unfollowed := true, recurses := true, apart := false, narrowed := true }
def SetSameUptoSaid : Prop := setSameUptoRow.holds Try.pinned (OpenSpec.upto setSameSpec)

/-- 'thicketlaw.SplitRoads', WHERE WHAT IT READS IS OF BULK AT MOST 1048576: true; the input reads as it did. -/
def splitRoadsUptoRow : OpenClaim := { program := "ytehlijnhhbdbhaa", sum := "6b2bd7ea4c9308dde30bec63260c67b6b5bea06f91acb6626fe87ed594170c95", func := "thicket/thicketlaw.SplitRoads", spec := "splitRoads", unfollowed := true, recurses := true, apart := false, narrowed := true }
def SplitRoadsUptoSaid : Prop := splitRoadsUptoRow.holds Try.pinned (OpenSpec.upto splitRoadsSpec)

/-- 'thicketlaw.SplitAlongs', WHERE WHAT IT READS IS OF BULK AT MOST 1048576: true; the input reads as it did. -/
def splitAlongsUptoRow : OpenClaim := { program := "ytehlijnhhbdbhaa", sum := "6b2bd7ea4c9308dde30bec63260c67b6b5bea06f91acb6626fe87ed594170c95", func := "thicket/thicketlaw.SplitAlongs", spec := "splitAlongs", unfollowed := true, recurses := true, apart := false, narrowed := true }
def SplitAlongsUptoSaid : Prop := splitAlongsUptoRow.holds Try.pinned (OpenSpec.upto splitAlongsSpec)

/-- 'thicketlaw.SplitCounts', WHERE WHAT IT READS IS OF BULK AT MOST 1048576: true; the input reads as it did. -/
def splitCountsUptoRow : OpenClaim := { program := "ytehlijnhhbdbhaa", sum := "6b2bd7ea4c9308dde30bec63260c67b6b5bea06f91acb6626fe87ed594170c95", func := "thicket/thicketlaw.SplitCounts", spec := "splitCounts", unfollowed := true, recurses := true, apart := false, narrowed := true }
def SplitCountsUptoSaid : Prop := splitCountsUptoRow.holds Try.pinned (OpenSpec.upto splitCountsSpec)

/-- 'thicketlaw.FoldClasses', WHERE WHAT IT READS IS OF BULK AT MOST 1048576: true; the input reads as it did. -/
def foldClassesUptoRow : OpenClaim := { program := "ytehlijnhhbdbhaa", sum := "6b2bd7ea4c9308dde30bec63260c67b6b5bea06f91acb6626fe87ed594170c95", func := "thicket/thicketlaw.FoldClasses", spec := "foldClasses", unfollowed := true, recurses := true, apart := false, narrowed := true }
def FoldClassesUptoSaid : Prop := foldClassesUptoRow.holds Try.pinned (OpenSpec.upto foldClassesSpec)

/-- 'thicketlaw.FoldOrbits', WHERE WHAT IT READS IS OF BULK AT MOST 1048576: true; the input reads as it did. -/
def foldOrbitsUptoRow : OpenClaim := { program := "ytehlijnhhbdbhaa", sum := "6b2bd7ea4c9308dde30bec63260c67b6b5bea06f91acb6626fe87ed594170c95", func := "thicket/thicketlaw.FoldOrbits", spec := "foldOrbits", unfollowed := true, recurses := true, apart := false, narrowed := true }
def FoldOrbitsUptoSaid : Prop := foldOrbitsUptoRow.holds Try.pinned (OpenSpec.upto foldOrbitsSpec)

/-- 'thicketlaw.FoldLeast', WHERE WHAT IT READS IS OF BULK AT MOST 1048576: true; the input reads as it did. -/
def foldLeastUptoRow : OpenClaim := { program := "ytehlijnhhbdbhaa", sum := "6b2bd7ea4c9308dde30bec63260c67b6b5bea06f91acb6626fe87ed594170c95", func := "thicket/thicketlaw.FoldLeast", spec := "foldLeast", unfollowed := true, recurses := true, apart := false, narrowed := true }
def FoldLeastUptoSaid : Prop := foldLeastUptoRow.holds Try.pinned (OpenSpec.upto foldLeastSpec)

/-- 'thicketlaw.FoldIn', WHERE WHAT IT READS IS OF BULK AT MOST 1048576: true; the input reads as it did. -/
def foldInUptoRow : OpenClaim := { program := "ytehlijnhhbdbhaa", sum := "6b2bd7ea4c9308dde30bec63260c67b6b5bea06f91acb6626fe87ed594170c95", func := "thicket/thicketlaw.FoldIn", spec := "foldIn", unfollowed := true, recurses := true, apart := false, narrowed := true }
def FoldInUptoSaid : Prop := foldInUptoRow.holds Try.pinned (OpenSpec.upto foldInSpec)

/-- 'thicketlaw.FoldAlike', WHERE WHAT IT READS IS OF BULK AT MOST 1048576: true; the input reads as it did. -/
def foldAlikeUptoRow : OpenClaim := { program := "ytehlijnhhbdbhaa", sum := "6b2bd7ea4c9308dde30bec63260c67b6b5bea06f91acb6626fe87ed594170c95", func := "thicket/thicketlaw.FoldAlike", spec := "foldAlike", unfollowed := true, recurses := true, apart := false, narrowed := true }
def FoldAlikeUptoSaid : Prop := foldAlikeUptoRow.holds Try.pinned (OpenSpec.upto foldAlikeSpec)

/-- 'thicketlaw.FoldOnes', WHERE WHAT IT READS IS OF BULK AT MOST 1048576: true; the input reads as it did. -/
def foldOnesUptoRow : OpenClaim := { program := "ytehlijnhhbdbhaa", sum := "6b2bd7ea4c9308dde30bec63260c67b6b5bea06f91acb6626fe87ed594170c95", func := "thicket/thicketlaw.FoldOnes", spec := "foldOnes", unfollowed := true, recurses := true, apart := false, narrowed := true }
def FoldOnesUptoSaid : Prop := foldOnesUptoRow.holds Try.pinned (OpenSpec.upto foldOnesSpec)

/-- 'thicketlaw.SetFolds', WHERE WHAT IT READS IS OF BULK AT MOST 1048576: true; the input reads as it did. -/
def setFoldsUptoRow : OpenClaim := { program := "ytehlijnhhbdbhaa", sum := "6b2bd7ea4c9308dde30bec63260c67b6b5bea06f91acb6626fe87ed594170c95", func := "thicket/thicketlaw.SetFolds", spec := "setFolds", unfollowed := true, recurses := true, apart := false, narrowed := true }
def SetFoldsUptoSaid : Prop := setFoldsUptoRow.holds Try.pinned (OpenSpec.upto setFoldsSpec)

/-- 'thicketlaw.SetFoldsOnce', WHERE WHAT IT READS IS OF BULK AT MOST 1048576: true; the input reads as it did. -/
def setFoldsOnceUptoRow : OpenClaim := { program := "ytehlijnhhbdbhaa", sum := "6b2bd7ea4c9308dde30bec63260c67b6b5bea06f91acb6626fe87ed594170c95", func := "thicket/thicketlaw.SetFoldsOnce", spec := "setFoldsOnce", unfollowed := true, recurses := true, apart := false, narrowed := true }
def SetFoldsOnceUptoSaid : Prop := setFoldsOnceUptoRow.holds Try.pinned (OpenSpec.upto setFoldsOnceSpec)

/-- 'thicketlaw.SplitSame', WHERE WHAT IT READS IS OF BULK AT MOST 1048576: true; the input reads as it did. -/
def splitSameUptoRow : OpenClaim := { program := "ytehlijnhhbdbhaa", sum := "6b2bd7ea4c9308dde30bec63260c67b6b5bea06f91acb6626fe87ed594170c95", func := "thicket/thicketlaw.SplitSame", spec := "splitSame", unfollowed := true, recurses := true, apart := false, narrowed := true }
def SplitSameUptoSaid : Prop := splitSameUptoRow.holds Try.pinned (OpenSpec.upto splitSameSpec)

end Rows
end Go.Proofs.Ytehlijnhhbdbhaa
