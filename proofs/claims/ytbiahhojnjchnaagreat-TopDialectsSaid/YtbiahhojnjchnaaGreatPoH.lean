/-
  The law TopDialects, its premise paid.
-/
import Derived.Test.YtbiahhojnjchnaaGreatPoG
import Derived.Test.YtbiahhojnjchnaaGreatPnX
set_option linter.unusedVariables false
set_option linter.unusedSimpArgs false
namespace Go.Proofs.YtbiahhojnjchnaaGreat
open Go.RowKit
theorem topDialectsC (l:List Int) (A:Option Addr) (n c:Nat) (fo:Bool) (w:World) (hnc:n≤c) (hc:c≤maxLen) (hbd:∀ x ∈ l,-9223372036854775808≤x∧x≤9223372036854775807) (ha:Rds w w.heap.size 1 A n (ints l)) :
  Calls Tryz.prog 10 #[.slice A n c,.bool fo] w fun e w'=>e=.returned (.bool true)∧Below w.heap.size w w' :=
 lawTopDialects (Lib.hid foldC) l A n c fo w (Nat.le_trans hnc hc) hbd ha
end Go.Proofs.YtbiahhojnjchnaaGreat
