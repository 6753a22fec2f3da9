/-
  The law ParseNumbers, its premise paid.
-/
import Derived.Test.YtbiahhojnjchnaaGreatPnU
import Derived.Test.YtbiahhojnjchnaaGreatPnV
import Derived.Test.YtbiahhojnjchnaaGreatGL
set_option linter.unusedVariables false
set_option linter.unusedSimpArgs false
namespace Go.Proofs.YtbiahhojnjchnaaGreat
open Go.RowKit
def foldF (f:Int→Prop) (q:Int):Prop:=f q∨∃ p,(∃ x,x ∈ besP p)∧f p∧q ∈ orb p
theorem foldC:FoldC foldF:=fun a A n c w hn hc hcan ha=>(rawFold112 a A n c w (by omega) hcan ha).mono fun e w' h=>by
 obtain ⟨out,h1,_,h2⟩:=h
 exact ⟨out,h1,h2⟩
theorem lawNumbers (d:ND) (gr:Int) (nA:Option Addr) (nn nc:Nat) (ns:List (ByteArray × Int)) (nm:ByteArray) (w:World) (ha:Rds w w.heap.size 2 nA nn (nms ns)) (hn:nn≤maxLen) :
  Calls Tryz.prog 8 #[.agg (patVals d gr nA nn nc).toArray,.string nm] w fun e w'=>e=.returned (.bool true)∧Below w.heap.size w w':=by
 rw [← patV_eq]
 exact lawParseNumbers (Lib.hid foldC) d gr nA nn nc ns nm w ha hn
end Go.Proofs.YtbiahhojnjchnaaGreat
