/-
  NARROWER THAN 'FOR EVERY INPUT', by the rows' own cells (each row's printed sentence says how): FactsWrap: loops · FactsOf: loops · FactsChecks: loops · FactsFirst: loops.
  DERIVED. THE GIVEN ROWS OF THIS SEAT. 4 by the template 'for every input the law returns true; each argument reads behind the call as it read before'; 0 by the template 'total and deterministic' (their statements: YtbekjfoefjnidaaTotals.lean).
  GIVEN WITH THE SEED: the statements are not yours to turn. If you find one false, say at which input.
  Laid BY PROGRAM, IN A SANDBOX (cutbox-rows.mjs): the forced cells as the released guide's own fill.sh prints them over the translation 5aa02f654d94f7cb… (all of the seat's roots in one cut). By AI agents, Wed Nov 11 2026. No macro, syntax, notation, axiom, sorry.
-/
import Derived.Test.YtbekjfoefjnidaaChecked
import GoSem.Claim
import GoSem.ClaimJoined
import GoSem.ClaimMapViews
import Derived.JoinedTies
import Derived.KernelRfl
namespace Go.Proofs.Ytbekjfoefjnidaa
/- THE CELL 'sum', in the pinned program and in every row, IS THE sha256 OF THE DUMP (.gsa) THAT YtbekjfoefjnidaaProg.lean LOADS. Nothing in Lean hashes anything: it is a label: what it is worth is what the hold of that sum in a sandbox is worth. -/
noncomputable def Try.pinned : Pinned := { name := "ytbekjfoefjnidaa", sum := "5aa02f654d94f7cb454c6a960117557a82033f97907809034c2d473f2e3b7d93", checked := Try.checked }
namespace Rows
def none {H : Type} : Left H := { results := [], args := [] }

/-- 'thicketlaw.FactsWrap': WHATEVER THE INPUT: true; the input reads as it did. -/
def factsWrapSpec : ChangeSpec := { name := "factsWrap", fn := fun _ => fun
  | [d] => { results := [.lit (.bool true)], args := [d] }
  | _ => none }
def factsWrapRow : OpenClaim := { program := "ytbekjfoefjnidaa", sum := "5aa02f654d94f7cb454c6a960117557a82033f97907809034c2d473f2e3b7d93", func := "thicket/thicketlaw.FactsWrap", spec := "factsWrap", unfollowed := true, recurses := true, loops := true, apart := false }
def FactsWrapSaid : Prop := factsWrapRow.holds Try.pinned (OpenSpec.ofChange factsWrapSpec)

/-- ITS FALSE NEIGHBOUR: 'it returns false'. Refute it at one input. -/
def factsWrapWrong : ChangeSpec := { name := "factsWrap", fn := fun _ => fun
  | [d] => { results := [.lit (.bool false)], args := [d] }
  | _ => none }
def FactsWrapWrongFalsely : Prop := factsWrapRow.holds Try.pinned (OpenSpec.ofChange factsWrapWrong)

/-- 'thicketlaw.FactsOf': WHATEVER THE INPUT: true; the input reads as it did. -/
def factsOfSpec : ChangeSpec := { name := "factsOf", fn := fun _ => fun
  | [d] => { results := [.lit (.bool true)], args := [d] }
  | _ => none }
def factsOfRow : OpenClaim := { program := "ytbekjfoefjnidaa", sum := "5aa02f654d94f7cb454c6a960117557a82033f97907809034c2d473f2e3b7d93", func := "thicket/thicketlaw.FactsOf", spec := "factsOf", unfollowed := true, recurses := true, loops := true, apart := false }
def FactsOfSaid : Prop := factsOfRow.holds Try.pinned (OpenSpec.ofChange factsOfSpec)

/-- ITS FALSE NEIGHBOUR: 'it returns false'. Refute it at one input. -/
def factsOfWrong : ChangeSpec := { name := "factsOf", fn := fun _ => fun
  | [d] => { results := [.lit (.bool false)], args := [d] }
  | _ => none }
def FactsOfWrongFalsely : Prop := factsOfRow.holds Try.pinned (OpenSpec.ofChange factsOfWrong)

/-- 'thicketlaw.FactsChecks': WHATEVER THE INPUT: true; the input reads as it did. -/
def factsChecksSpec : ChangeSpec := { name := "factsChecks", fn := fun _ => fun
  | [d] => { results := [.lit (.bool true)], args := [d] }
  | _ => none }
def factsChecksRow : OpenClaim := { program := "ytbekjfoefjnidaa", sum := "5aa02f654d94f7cb454c6a960117557a82033f97907809034c2d473f2e3b7d93", func := "thicket/thicketlaw.FactsChecks", spec := "factsChecks", unfollowed := true, recurses := true, loops := true, apart := false }
def FactsChecksSaid : Prop := factsChecksRow.holds Try.pinned (OpenSpec.ofChange factsChecksSpec)

/-- ITS FALSE NEIGHBOUR: 'it returns false'. Refute it at one input. -/
def factsChecksWrong : ChangeSpec := { name := "factsChecks", fn := fun _ => fun
  | [d] => { results := [.lit (.bool false)], args := [d] }
  | _ => none }
def FactsChecksWrongFalsely : Prop := factsChecksRow.holds Try.pinned (OpenSpec.ofChange factsChecksWrong)

/-- 'thicketlaw.FactsFirst': WHATEVER THE INPUT: true; the input reads as it did. -/
def factsFirstSpec : ChangeSpec := { name := "factsFirst", fn := fun _ => fun
  | [d] => { results := [.lit (.bool true)], args := [d] }
  | _ => none }
def factsFirstRow : OpenClaim := { program := "ytbekjfoefjnidaa", sum := "5aa02f654d94f7cb454c6a960117557a82033f97907809034c2d473f2e3b7d93", func := "thicket/thicketlaw.FactsFirst", spec := "factsFirst", unfollowed := true, recurses := true, loops := true, apart := false }
def FactsFirstSaid : Prop := factsFirstRow.holds Try.pinned (OpenSpec.ofChange factsFirstSpec)

/-- ITS FALSE NEIGHBOUR: 'it returns false'. Refute it at one input. -/
def factsFirstWrong : ChangeSpec := { name := "factsFirst", fn := fun _ => fun
  | [d] => { results := [.lit (.bool false)], args := [d] }
  | _ => none }
def FactsFirstWrongFalsely : Prop := factsFirstRow.holds Try.pinned (OpenSpec.ofChange factsFirstWrong)

/- THE SECOND FORM. 'bulk': how many values and letters a reading holds, each counted each time it is reached (what is shared counts as often as it is met; a slice's spare places count too). A statement '..UptoSaid' is the law's where the arguments, and the package variables that the reading takes, are together of bulk at most 1048576: NARROWER than '..Said'. Prove '..Said' where nothing that the law and all that it calls make is longer than what came in: it says more and counts as full. Else prove '..UptoSaid'. A law counts once. -/
mutual
def uptoBulk {H : Type} : DataW H → Nat
  | .lit (.string bytes) => bytes.length + 1
  | .lit _ => 1
  | .nil => 1
  | .ptr d => uptoBulk d + 1
  | .slice elems spare => uptoBulkAll elems + uptoBulkAll spare + 1
  | .agg parts => uptoBulkAll parts + 1
  | .iface _ d => uptoBulk d + 1
  | .map entries => uptoBulkEntries entries + 1
  | .held _ => 1
def uptoBulkAll {H : Type} : List (DataW H) → Nat
  | [] => 0
  | d :: r => uptoBulk d + uptoBulkAll r
def uptoBulkEntries {H : Type} : List (Lit × DataW H) → Nat
  | [] => 0
  | x :: r => uptoBulkEntry x + uptoBulkEntries r
def uptoBulkEntry {H : Type} : Lit × DataW H → Nat
  | (.string bytes, d) => bytes.length + uptoBulk d + 1
  | (_, d) => uptoBulk d + 1
 end
def uptoSmall : (H : Type) → List (DataW H) → Bool := fun _ ds => decide (uptoBulkAll ds ≤ 1048576)
def OpenSpec.upto (s : _root_.Go.ChangeSpec) : _root_.Go.OpenSpec := { _root_.Go.OpenSpec.ofChange s with cond := some uptoSmall }

/-- 'thicketlaw.FactsWrap', WHERE WHAT IT READS IS OF BULK AT MOST 1048576: true; the input reads as it did. -/
def factsWrapUptoRow : OpenClaim := { program := "ytbekjfoefjnidaa", sum := "5aa02f654d94f7cb454c6a960117557a82033f97907809034c2d473f2e3b7d93", func := "thicket/thicketlaw.FactsWrap", spec := "factsWrap", unfollowed := true, recurses := true, loops := true, apart := false, narrowed := true }
def FactsWrapUptoSaid : Prop := factsWrapUptoRow.holds Try.pinned (OpenSpec.upto factsWrapSpec)

/-- 'thicketlaw.FactsOf', WHERE WHAT IT READS IS OF BULK AT MOST 1048576: true; the input reads as it did. -/
def factsOfUptoRow : OpenClaim := { program := "ytbekjfoefjnidaa", sum := "5aa02f654d94f7cb454c6a960117557a82033f97907809034c2d473f2e3b7d93", func := "thicket/thicketlaw.FactsOf", spec := "factsOf", unfollowed := true, recurses := true, loops := true, apart := false, narrowed := true }
def FactsOfUptoSaid : Prop := factsOfUptoRow.holds Try.pinned (OpenSpec.upto factsOfSpec)

/-- 'thicketlaw.FactsChecks', WHERE WHAT IT READS IS OF BULK AT MOST 1048576: true; the input reads as it did. -/
def factsChecksUptoRow : OpenClaim := { program := "ytbekjfoefjnidaa", sum := "5aa02f654d94f7cb454c6a960117557a82033f97907809034c2d473f2e3b7d93", func := "thicket/thicketlaw.FactsChecks", spec := "factsChecks", unfollowed := true, recurses := true, loops := true, apart := false, narrowed := true }
def FactsChecksUptoSaid : Prop := factsChecksUptoRow.holds Try.pinned (OpenSpec.upto factsChecksSpec)

/-- 'thicketlaw.FactsFirst', WHERE WHAT IT READS IS OF BULK AT MOST 1048576: true; the input reads as it did. -/
def factsFirstUptoRow : OpenClaim := { program := "ytbekjfoefjnidaa", sum := "5aa02f654d94f7cb454c6a960117557a82033f97907809034c2d473f2e3b7d93", func := "thicket/thicketlaw.FactsFirst", spec := "factsFirst", unfollowed := true, recurses := true, loops := true, apart := false, narrowed := true }
def FactsFirstUptoSaid : Prop := factsFirstUptoRow.holds Try.pinned (OpenSpec.upto factsFirstSpec)

end Rows
end Go.Proofs.Ytbekjfoefjnidaa
