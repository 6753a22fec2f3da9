/-
  The tokens of a pattern without backslashes and braces: joined.
-/
import Derived.Test.YtbiahhojnjchnaaGreatPnB
import Derived.Test.YtbiahhojnjchnaaGreatTkV0
import Derived.Test.YtbiahhojnjchnaaGreatTkV1
import Derived.Test.YtbiahhojnjchnaaGreatTkF2
set_option linter.unusedVariables false
set_option linter.unusedSimpArgs false
namespace Go.Proofs.YtbiahhojnjchnaaGreat
open Go.RowKit
theorem tokC_plain {d:Int} {l:List Int} (h:∀ p,ptAt l p≠92∧ptAt l p≠123):TokC d l:=by
 intro at_ A n c w h0 h1 hn hc ha
 refine raw15 d at_ l (fun b n c A w hat hS=>token27z hat hS (fun _ lo hi W hW=>?_) (fun e=>absurd e (h at_).1) (fun _ _ W hW=>open176 hW) (fun e=>absurd e (h at_).2)) A n c w h0 h1 (by omega) hc ha
 exact repeat39 lo hi hW
end Go.Proofs.YtbiahhojnjchnaaGreat
