/-
  DERIVED. GIVEN WITH THE SEED: THE CARDS: each row of YtbekjfoefjnidaaDoorRows.lean that lists a variable, with what it lists TIED to the program's text (the seventh form; the later family's looks); each row that meets fmt, with fmt's text TOLD by the authors' own Lean function (tested against real Go, not proved from fmt's source: count such statements apart). THE CARD IS WHAT COUNTS. Prove the row's statement (the work); the ties are given (YtbekjfoefjnidaaDoorTie.lean); close each card by the builder's one call (the guide's Derived/Test/ToyasCard.lean, 'card_holds'). Laid BY PROGRAM, IN A SANDBOX (cutbox-door.mjs). By AI agents, Wed Nov 11 2026. No macro, syntax, notation, axiom, sorry.
-/
import Derived.Test.YtbekjfoefjnidaaDoorRows
import GoSem.ClaimSeven
namespace Go.Proofs.YtbekjfoefjnidaaDoor
namespace Rows

/-- THE TIED CARD OF 'thicketlaw.ShowChecks'. -/
def showChecksCard : Claim7 := { stood := { row := showChecksRow, standIns := [], harness := (true, "5608bea83278b0124508f30a819029637b0d3e8aa77ed0d3ae7260ead2a9ffbc"), looks := false }, kinds := [], alts := [], laidByText := true, laidKinds := [.data, .data, .data], laidTests := true, laidLooks := .later }
def ShowChecksCardSaid : Prop := Claim7.holds Tryd.pinned (.plain (OpenSpec.ofChange showChecksSpec)) showChecksCard

/-- THE TIED CARD OF 'thicketlaw.ShowShows'. -/
def showShowsCard : Claim7 := { stood := { row := showShowsRow, standIns := [], harness := (true, "5608bea83278b0124508f30a819029637b0d3e8aa77ed0d3ae7260ead2a9ffbc"), looks := false }, kinds := [], alts := [], laidByText := true, laidKinds := [.data, .data, .data], laidTests := true, laidLooks := .later }
def ShowShowsCardSaid : Prop := Claim7.holds Tryd.pinned (.plain (OpenSpec.ofChange showShowsSpec)) showShowsCard

/-- THE TIED CARD OF 'thicketlaw.ShowNodes'. -/
def showNodesCard : Claim7 := { stood := { row := showNodesRow, standIns := [], harness := (true, "5608bea83278b0124508f30a819029637b0d3e8aa77ed0d3ae7260ead2a9ffbc"), looks := false }, kinds := [], alts := [], laidByText := true, laidKinds := [.data, .data, .data], laidTests := true, laidLooks := .later }
def ShowNodesCardSaid : Prop := Claim7.holds Tryd.pinned (.plain (OpenSpec.ofChange showNodesSpec)) showNodesCard

/-- THE SECOND FORM's CARD OF 'thicketlaw.ShowChecks'. -/
def showChecksUptoCard : Claim7 := { stood := { row := showChecksUptoRow, standIns := [], harness := (true, "5608bea83278b0124508f30a819029637b0d3e8aa77ed0d3ae7260ead2a9ffbc"), looks := false }, kinds := [], alts := [], laidByText := true, laidKinds := [.data, .data, .data], laidTests := true, laidLooks := .later }
def ShowChecksUptoCardSaid : Prop := Claim7.holds Tryd.pinned (.plain (OpenSpec.upto showChecksSpec)) showChecksUptoCard

/-- THE SECOND FORM's CARD OF 'thicketlaw.ShowShows'. -/
def showShowsUptoCard : Claim7 := { stood := { row := showShowsUptoRow, standIns := [], harness := (true, "5608bea83278b0124508f30a819029637b0d3e8aa77ed0d3ae7260ead2a9ffbc"), looks := false }, kinds := [], alts := [], laidByText := true, laidKinds := [.data, .data, .data], laidTests := true, laidLooks := .later }
def ShowShowsUptoCardSaid : Prop := Claim7.holds Tryd.pinned (.plain (OpenSpec.upto showShowsSpec)) showShowsUptoCard

/-- THE SECOND FORM's CARD OF 'thicketlaw.ShowNodes'. -/
def showNodesUptoCard : Claim7 := { stood := { row := showNodesUptoRow, standIns := [], harness := (true, "5608bea83278b0124508f30a819029637b0d3e8aa77ed0d3ae7260ead2a9ffbc"), looks := false }, kinds := [], alts := [], laidByText := true, laidKinds := [.data, .data, .data], laidTests := true, laidLooks := .later }
def ShowNodesUptoCardSaid : Prop := Claim7.holds Tryd.pinned (.plain (OpenSpec.upto showNodesSpec)) showNodesUptoCard
end Rows
end Go.Proofs.YtbekjfoefjnidaaDoor
