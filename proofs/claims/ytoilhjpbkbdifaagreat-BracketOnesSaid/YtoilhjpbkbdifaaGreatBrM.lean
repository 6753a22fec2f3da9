/- BracketOnes: the sort paid. -/
import Derived.Test.YtoilhjpbkbdifaaGreatBrL
import Derived.Test.YtoilhjpbkbdifaaGreatSetQ
set_option linter.unusedVariables false
set_option linter.unusedSimpArgs false
namespace Go.Proofs.YtoilhjpbkbdifaaGreat
open Go.RowKit
theorem bracketOnesC (d : Int) (l : List Int) (A : Option Addr) (n c : Nat) (p : Int) (w : World) (hnc : n ≤ c) (hc : c ≤ maxLen) (hbd : ∀ x ∈ l, -9223372036854775808 ≤ x ∧ x ≤ 9223372036854775807) (ha : Rds w w.heap.size 1 A n (ints l)) :
    Calls Tryz.prog 3 #[.int .i64 d, .slice A n c, .int .i64 p] w fun e w' => e = .returned (.bool true) ∧ Below w.heap.size w w' :=
  lawBracketOnes (Lib.hid sortC) d l A n c p w hnc hc hbd ha
end Go.Proofs.YtoilhjpbkbdifaaGreat
