/-
  No cell of these rows narrows 'for every input' (looked for: loops, veiled, ifaces, maps, wideKeys, modest, calm, conditions, laid).
  DERIVED. THE GIVEN ROWS OF THIS SEAT. 8 by the template 'for every input the law returns true; each argument reads behind the call as it read before'; 0 by the template 'total and deterministic' (their statements: YtlgpnofkfpeacaaTotals.lean).
  GIVEN WITH THE SEED: the statements are not yours to turn. If you find one false, say at which input.
  Laid BY PROGRAM, IN A SANDBOX (cutbox-rows.mjs): the forced cells as the released guide's own fill.sh prints them over the translation ecf590800b8b85de… (all of the seat's roots in one cut). By AI agents, Wed Nov 11 2026. No macro, syntax, notation, axiom, sorry.
-/
import Derived.Test.YtlgpnofkfpeacaaChecked
import GoSem.Claim
import GoSem.ClaimJoined
import GoSem.ClaimMapViews
import Derived.JoinedTies
import Derived.KernelRfl
namespace Go.Proofs.Ytlgpnofkfpeacaa
/- THE CELL 'sum', in the pinned program and in every row, IS THE sha256 OF THE DUMP (.gsa) THAT YtlgpnofkfpeacaaProg.lean LOADS. Nothing in Lean hashes anything: it is a label: what it is worth is what the hold of that sum in a sandbox is worth. -/
noncomputable def Try.pinned : Pinned := { name := "ytlgpnofkfpeacaa", sum := "ecf590800b8b85de4220276b0fbff99bc3d82dbf96ce8c2ada8399ef2745dc9c", checked := Try.checked }
namespace Rows
def none {H : Type} : Left H := { results := [], args := [] }

/-- 'thicketlaw.EncodeReads': WHATEVER THE INPUT: true; the input reads as it did. -/
def encodeReadsSpec : ChangeSpec := { name := "encodeReads", fn := fun _ => fun
  | [d1, d2] => { results := [.lit (.bool true)], args := [d1, d2] }
  | _ => none }
def encodeReadsRow : OpenClaim := { program := "ytlgpnofkfpeacaa", sum := "ecf590800b8b85de4220276b0fbff99bc3d82dbf96ce8c2ada8399ef2745dc9c", func := "thicket/thicketlaw.EncodeReads", spec := "encodeReads", unfollowed := true, recurses := true, apart := false }
def EncodeReadsSaid : Prop := encodeReadsRow.holds Try.pinned (OpenSpec.ofChange encodeReadsSpec)

/-- ITS FALSE NEIGHBOUR: 'it returns false'. Refute it at one input. -/
def encodeReadsWrong : ChangeSpec := { name := "encodeReads", fn := fun _ => fun
  | [d1, d2] => { results := [.lit (.bool false)], args := [d1, d2] }
  | _ => none }
def EncodeReadsWrongFalsely : Prop := encodeReadsRow.holds Try.pinned (OpenSpec.ofChange encodeReadsWrong)

/-- 'thicketlaw.EncodeWrites': WHATEVER THE INPUT: true; the input reads as it did. -/
def encodeWritesSpec : ChangeSpec := { name := "encodeWrites", fn := fun _ => fun
  | [d1, d2] => { results := [.lit (.bool true)], args := [d1, d2] }
  | _ => none }
def encodeWritesRow : OpenClaim := { program := "ytlgpnofkfpeacaa", sum := "ecf590800b8b85de4220276b0fbff99bc3d82dbf96ce8c2ada8399ef2745dc9c", func := "thicket/thicketlaw.EncodeWrites", spec := "encodeWrites", unfollowed := true, recurses := true, apart := false }
def EncodeWritesSaid : Prop := encodeWritesRow.holds Try.pinned (OpenSpec.ofChange encodeWritesSpec)

/-- ITS FALSE NEIGHBOUR: 'it returns false'. Refute it at one input. -/
def encodeWritesWrong : ChangeSpec := { name := "encodeWrites", fn := fun _ => fun
  | [d1, d2] => { results := [.lit (.bool false)], args := [d1, d2] }
  | _ => none }
def EncodeWritesWrongFalsely : Prop := encodeWritesRow.holds Try.pinned (OpenSpec.ofChange encodeWritesWrong)

/-- 'thicketlaw.EncodeJoins': WHATEVER THE INPUT: true; the input reads as it did. -/
def encodeJoinsSpec : ChangeSpec := { name := "encodeJoins", fn := fun _ => fun
  | [d1, d2, d3] => { results := [.lit (.bool true)], args := [d1, d2, d3] }
  | _ => none }
def encodeJoinsRow : OpenClaim := { program := "ytlgpnofkfpeacaa", sum := "ecf590800b8b85de4220276b0fbff99bc3d82dbf96ce8c2ada8399ef2745dc9c", func := "thicket/thicketlaw.EncodeJoins", spec := "encodeJoins", unfollowed := true, recurses := true, apart := false }
def EncodeJoinsSaid : Prop := encodeJoinsRow.holds Try.pinned (OpenSpec.ofChange encodeJoinsSpec)

/-- ITS FALSE NEIGHBOUR: 'it returns false'. Refute it at one input. -/
def encodeJoinsWrong : ChangeSpec := { name := "encodeJoins", fn := fun _ => fun
  | [d1, d2, d3] => { results := [.lit (.bool false)], args := [d1, d2, d3] }
  | _ => none }
def EncodeJoinsWrongFalsely : Prop := encodeJoinsRow.holds Try.pinned (OpenSpec.ofChange encodeJoinsWrong)

/-- 'thicketlaw.EncodeStarts': WHATEVER THE INPUT: true; the input reads as it did. -/
def encodeStartsSpec : ChangeSpec := { name := "encodeStarts", fn := fun _ => fun
  | [d1, d2] => { results := [.lit (.bool true)], args := [d1, d2] }
  | _ => none }
def encodeStartsRow : OpenClaim := { program := "ytlgpnofkfpeacaa", sum := "ecf590800b8b85de4220276b0fbff99bc3d82dbf96ce8c2ada8399ef2745dc9c", func := "thicket/thicketlaw.EncodeStarts", spec := "encodeStarts", unfollowed := true, recurses := true, apart := false }
def EncodeStartsSaid : Prop := encodeStartsRow.holds Try.pinned (OpenSpec.ofChange encodeStartsSpec)

/-- ITS FALSE NEIGHBOUR: 'it returns false'. Refute it at one input. -/
def encodeStartsWrong : ChangeSpec := { name := "encodeStarts", fn := fun _ => fun
  | [d1, d2] => { results := [.lit (.bool false)], args := [d1, d2] }
  | _ => none }
def EncodeStartsWrongFalsely : Prop := encodeStartsRow.holds Try.pinned (OpenSpec.ofChange encodeStartsWrong)

/-- 'thicketlaw.EncodeCuts': WHATEVER THE INPUT: true; the input reads as it did. -/
def encodeCutsSpec : ChangeSpec := { name := "encodeCuts", fn := fun _ => fun
  | [d1, d2, d3] => { results := [.lit (.bool true)], args := [d1, d2, d3] }
  | _ => none }
def encodeCutsRow : OpenClaim := { program := "ytlgpnofkfpeacaa", sum := "ecf590800b8b85de4220276b0fbff99bc3d82dbf96ce8c2ada8399ef2745dc9c", func := "thicket/thicketlaw.EncodeCuts", spec := "encodeCuts", unfollowed := true, recurses := true, apart := false }
def EncodeCutsSaid : Prop := encodeCutsRow.holds Try.pinned (OpenSpec.ofChange encodeCutsSpec)

/-- ITS FALSE NEIGHBOUR: 'it returns false'. Refute it at one input. -/
def encodeCutsWrong : ChangeSpec := { name := "encodeCuts", fn := fun _ => fun
  | [d1, d2, d3] => { results := [.lit (.bool false)], args := [d1, d2, d3] }
  | _ => none }
def EncodeCutsWrongFalsely : Prop := encodeCutsRow.holds Try.pinned (OpenSpec.ofChange encodeCutsWrong)

/-- 'thicketlaw.EncodeNexts': WHATEVER THE INPUT: true; the input reads as it did. -/
def encodeNextsSpec : ChangeSpec := { name := "encodeNexts", fn := fun _ => fun
  | [d1, d2, d3] => { results := [.lit (.bool true)], args := [d1, d2, d3] }
  | _ => none }
def encodeNextsRow : OpenClaim := { program := "ytlgpnofkfpeacaa", sum := "ecf590800b8b85de4220276b0fbff99bc3d82dbf96ce8c2ada8399ef2745dc9c", func := "thicket/thicketlaw.EncodeNexts", spec := "encodeNexts", unfollowed := true, recurses := true, apart := false }
def EncodeNextsSaid : Prop := encodeNextsRow.holds Try.pinned (OpenSpec.ofChange encodeNextsSpec)

/-- ITS FALSE NEIGHBOUR: 'it returns false'. Refute it at one input. -/
def encodeNextsWrong : ChangeSpec := { name := "encodeNexts", fn := fun _ => fun
  | [d1, d2, d3] => { results := [.lit (.bool false)], args := [d1, d2, d3] }
  | _ => none }
def EncodeNextsWrongFalsely : Prop := encodeNextsRow.holds Try.pinned (OpenSpec.ofChange encodeNextsWrong)

/-- 'thicketlaw.EncodeBacks': WHATEVER THE INPUT: true; the input reads as it did. -/
def encodeBacksSpec : ChangeSpec := { name := "encodeBacks", fn := fun _ => fun
  | [d1, d2, d3] => { results := [.lit (.bool true)], args := [d1, d2, d3] }
  | _ => none }
def encodeBacksRow : OpenClaim := { program := "ytlgpnofkfpeacaa", sum := "ecf590800b8b85de4220276b0fbff99bc3d82dbf96ce8c2ada8399ef2745dc9c", func := "thicket/thicketlaw.EncodeBacks", spec := "encodeBacks", unfollowed := true, recurses := true, apart := false }
def EncodeBacksSaid : Prop := encodeBacksRow.holds Try.pinned (OpenSpec.ofChange encodeBacksSpec)

/-- ITS FALSE NEIGHBOUR: 'it returns false'. Refute it at one input. -/
def encodeBacksWrong : ChangeSpec := { name := "encodeBacks", fn := fun _ => fun
  | [d1, d2, d3] => { results := [.lit (.bool false)], args := [d1, d2, d3] }
  | _ => none }
def EncodeBacksWrongFalsely : Prop := encodeBacksRow.holds Try.pinned (OpenSpec.ofChange encodeBacksWrong)

/-- 'thicketlaw.EncodeBack': WHATEVER THE INPUT: true; the input reads as it did. -/
def encodeBackSpec : ChangeSpec := { name := "encodeBack", fn := fun _ => fun
  | [d1, d2, d3] => { results := [.lit (.bool true)], args := [d1, d2, d3] }
  | _ => none }
def encodeBackRow : OpenClaim := { program := "ytlgpnofkfpeacaa", sum := "ecf590800b8b85de4220276b0fbff99bc3d82dbf96ce8c2ada8399ef2745dc9c", func := "thicket/thicketlaw.EncodeBack", spec := "encodeBack", unfollowed := true, recurses := true, apart := false }
def EncodeBackSaid : Prop := encodeBackRow.holds Try.pinned (OpenSpec.ofChange encodeBackSpec)

/-- ITS FALSE NEIGHBOUR: 'it returns false'. Refute it at one input. -/
def encodeBackWrong : ChangeSpec := { name := "encodeBack", fn := fun _ => fun
  | [d1, d2, d3] => { results := [.lit (.bool false)], args := [d1, d2, d3] }
  | _ => none }
def EncodeBackWrongFalsely : Prop := encodeBackRow.holds Try.pinned (OpenSpec.ofChange encodeBackWrong)

/- THE SECOND FORM. 'bulk': how many values and letters a reading holds, each counted each time it is reached (what is shared counts as often as it is met; a slice's spare places count too). A statement '..UptoSaid' is the law's where the arguments, and the package variables that the reading takes, are together of bulk at most 1048576: NARROWER than '..Said'. Prove '..Said' where nothing that the law and all that it calls make is longer than what came in: it says more and counts as full. Else prove '..UptoSaid'. A law counts once. -/
mutual
def uptoBulk {H : Type} : DataW H → Nat
  | .lit (.string bytes) => bytes.length + 1
  | .lit _ => 1
  | .nil => 1
  | .ptr d => uptoBulk d + 1
  | .slice elems spare => uptoBulkAll elems + uptoBulkAll spare + 1
  | .agg parts => uptoBulkAll parts + 1
  | .iface _ d => uptoBulk d + 1
  | .map entries => uptoBulkEntries entries + 1
  | .held _ => 1
def uptoBulkAll {H : Type} : List (DataW H) → Nat
  | [] => 0
  | d :: r => uptoBulk d + uptoBulkAll r
def uptoBulkEntries {H : Type} : List (Lit × DataW H) → Nat
  | [] => 0
  | x :: r => uptoBulkEntry x + uptoBulkEntries r
def uptoBulkEntry {H : Type} : Lit × DataW H → Nat
  | (.string bytes, d) => bytes.length + uptoBulk d + 1
  | (_, d) => uptoBulk d + 1
 end
def uptoSmall : (H : Type) → List (DataW H) → Bool := fun _ ds => decide (uptoBulkAll ds ≤ 1048576)
def OpenSpec.upto (s : _root_.Go.ChangeSpec) : _root_.Go.OpenSpec := { _root_.Go.OpenSpec.ofChange s with cond := some uptoSmall }

/-- 'thicketlaw.EncodeReads', WHERE WHAT IT READS IS OF BULK AT MOST 1048576: true; the input reads as it did. -/
def encodeReadsUptoRow : OpenClaim := { program := "ytlgpnofkfpeacaa", sum := "ecf590800b8b85de4220276b0fbff99bc3d82dbf96ce8c2ada8399ef2745dc9c", func := "thicket/thicketlaw.EncodeReads", spec := "encodeReads", unfollowed := true, recurses := true, apart := false, narrowed := true }
def EncodeReadsUptoSaid : Prop := encodeReadsUptoRow.holds Try.pinned (OpenSpec.upto encodeReadsSpec)

/-- 'thicketlaw.EncodeWrites', WHERE WHAT IT READS IS OF BULK AT MOST 1048576: true; the input reads as it did. -/
def encodeWritesUptoRow : OpenClaim := { program := "ytlgpnofkfpeacaa", sum := "ecf590800b8b85de4220276b0fbff99bc3d82dbf96ce8c2ada8399ef2745dc9c", func := "thicket/thicketlaw.EncodeWrites", spec := "encodeWrites", unfollowed := true, recurses := true, apart := false, narrowed := true }
def EncodeWritesUptoSaid : Prop := encodeWritesUptoRow.holds Try.pinned (OpenSpec.upto encodeWritesSpec)

/-- 'thicketlaw.EncodeJoins', WHERE WHAT IT READS IS OF BULK AT MOST 1048576: true; the input reads as it did. -/
def encodeJoinsUptoRow : OpenClaim := { program := "ytlgpnofkfpeacaa", sum := "ecf590800b8b85de4220276b0fbff99bc3d82dbf96ce8c2ada8399ef2745dc9c", func := "thicket/thicketlaw.EncodeJoins", spec := "encodeJoins", unfollowed := true, recurses := true, apart := false, narrowed := true }
def EncodeJoinsUptoSaid : Prop := encodeJoinsUptoRow.holds Try.pinned (OpenSpec.upto encodeJoinsSpec)

/-- 'thicketlaw.EncodeStarts', WHERE WHAT IT READS IS OF BULK AT MOST 1048576: true; the input reads as it did. -/
def encodeStartsUptoRow : OpenClaim := { program := "ytlgpnofkfpeacaa", sum := "ecf590800b8b85de4220276b0fbff99bc3d82dbf96ce8c2ada8399ef2745dc9c", func := "thicket/thicketlaw.EncodeStarts", spec := "encodeStarts", unfollowed := true, recurses := true, apart := false, narrowed := true }
def EncodeStartsUptoSaid : Prop := encodeStartsUptoRow.holds Try.pinned (OpenSpec.upto encodeStartsSpec)

/-- 'thicketlaw.EncodeCuts', WHERE WHAT IT READS IS OF BULK AT MOST 1048576: true; the input reads as it did. -/
def encodeCutsUptoRow : OpenClaim := { program := "ytlgpnofkfpeacaa", sum := "ecf590800b8b85de4220276b0fbff99bc3d82dbf96ce8c2ada8399ef2745dc9c", func := "thicket/thicketlaw.EncodeCuts", spec := "encodeCuts", unfollowed := true, recurses := true, apart := false, narrowed := true }
def EncodeCutsUptoSaid : Prop := encodeCutsUptoRow.holds Try.pinned (OpenSpec.upto encodeCutsSpec)

/-- 'thicketlaw.EncodeNexts', WHERE WHAT IT READS IS OF BULK AT MOST 1048576: true; the input reads as it did. -/
def encodeNextsUptoRow : OpenClaim := { program := "ytlgpnofkfpeacaa", sum := "ecf590800b8b85de4220276b0fbff99bc3d82dbf96ce8c2ada8399ef2745dc9c", func := "thicket/thicketlaw.EncodeNexts", spec := "encodeNexts", unfollowed := true, recurses := true, apart := false, narrowed := true }
def EncodeNextsUptoSaid : Prop := encodeNextsUptoRow.holds Try.pinned (OpenSpec.upto encodeNextsSpec)

/-- 'thicketlaw.EncodeBacks', WHERE WHAT IT READS IS OF BULK AT MOST 1048576: true; the input reads as it did. -/
def encodeBacksUptoRow : OpenClaim := { program := "ytlgpnofkfpeacaa", sum := "ecf590800b8b85de4220276b0fbff99bc3d82dbf96ce8c2ada8399ef2745dc9c", func := "thicket/thicketlaw.EncodeBacks", spec := "encodeBacks", unfollowed := true, recurses := true, apart := false, narrowed := true }
def EncodeBacksUptoSaid : Prop := encodeBacksUptoRow.holds Try.pinned (OpenSpec.upto encodeBacksSpec)

/-- 'thicketlaw.EncodeBack', WHERE WHAT IT READS IS OF BULK AT MOST 1048576: true; the input reads as it did. -/
def encodeBackUptoRow : OpenClaim := { program := "ytlgpnofkfpeacaa", sum := "ecf590800b8b85de4220276b0fbff99bc3d82dbf96ce8c2ada8399ef2745dc9c", func := "thicket/thicketlaw.EncodeBack", spec := "encodeBack", unfollowed := true, recurses := true, apart := false, narrowed := true }
def EncodeBackUptoSaid : Prop := encodeBackUptoRow.holds Try.pinned (OpenSpec.upto encodeBackSpec)

end Rows
end Go.Proofs.Ytlgpnofkfpeacaa
