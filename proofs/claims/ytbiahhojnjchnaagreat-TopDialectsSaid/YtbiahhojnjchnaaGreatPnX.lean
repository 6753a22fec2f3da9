/-
  What folds a set: paid.
-/
import Derived.Test.YtbiahhojnjchnaaGreatPnL
import Derived.Test.YtbiahhojnjchnaaGreatGL
set_option linter.unusedVariables false
set_option linter.unusedSimpArgs false
namespace Go.Proofs.YtbiahhojnjchnaaGreat
open Go.RowKit
def foldF (f:Int→Prop) (q:Int):Prop:=f q∨∃ p,(∃ x,x ∈ besP p)∧f p∧q ∈ orb p
theorem foldC:FoldC foldF:=fun a A n c w hn hc hcan ha=>(rawFold112 a A n c w (by omega) hcan ha).mono fun e w' h=>by
 obtain ⟨out,h1,_,h2⟩:=h
 exact ⟨out,h1,h2⟩
end Go.Proofs.YtbiahhojnjchnaaGreat
