/-
  What is wrong with ranges, by the program: walked.
-/
import Derived.Test.YtoilhjpbkbdifaaGreatSetD
namespace Go.Proofs.YtoilhjpbkbdifaaGreat
open Go.RowKit
set_option linter.unusedVariables false
theorem all_okR_snoc (a : List (Int × Int)) (k : Nat) (hk : k < a.length) (h : (a.take k).all okR = true) (hr : okR a[k] = true) : (a.take (k + 1)).all okR = true := by
  rw [take_snoc' a k hk, List.all_append, h]; simp [hr]
def idxBad (a : List (Int × Int)) : Int := if a.all okR then -1 else 0
end Go.Proofs.YtoilhjpbkbdifaaGreat
