/- Escaped of the reference: walked, all together. -/
import Derived.Test.YtmjlmjlkghpknaaTkAL
import Derived.Test.YtmjlmjlkghpknaaTkAM
import Derived.Test.YtmjlmjlkghpknaaTkAO
import Derived.Test.YtmjlmjlkghpknaaTkAP
import Derived.Test.YtmjlmjlkghpknaaTkAQ
import Derived.Test.YtmjlmjlkghpknaaTkAS
import Derived.Test.YtmjlmjlkghpknaaTkAT
import Derived.Test.YtmjlmjlkghpknaaTkAU
import Derived.Test.YtmjlmjlkghpknaaTkAV
set_option linter.unusedVariables false
set_option linter.unusedSimpArgs false
namespace Go.Proofs.Ytmjlmjlkghpknaa
open Go.RowKit
theorem escaped20 (d at_:Int) (l:List Int) (A:Option Addr) (n c:Nat) (w:World) (h:Pts w.heap.size n c A l w) (hd1:1≤d) (hd3:d≤3) (h0:0≤at_) (h1:at_≤n) (hok:∀ q,-1≤ptAt l q∧ptAt l q≤1114111) :
  Calls Try.prog 20 #[.int .i64 d,.slice A n c,.int .i64 at_] w fun e w'=>ROut (escapedP d l at_) e∧Below w.heap.size w w':=by
 have hd:d=1∨d=2∨d=3:=by omega
 rcases hd with rfl|rfl|rfl
 ·by_cases hS:ptAt l at_=100∨ptAt l at_=68∨ptAt l at_=119∨ptAt l at_=87∨ptAt l at_=115∨ptAt l at_=83∨ptAt l at_=104∨ptAt l at_=72
  ·exact escaped20_oneA at_ l A n c w h h0 h1 hS
  ·by_cases h2:ptAt l at_=98∨ptAt l at_=66∨ptAt l at_=65∨ptAt l at_=122
   ·exact escaped20_oneB1a at_ l A n c w h h0 h1 hS h2
   ·by_cases h3:ptAt l at_=110∨ptAt l at_=116∨ptAt l at_=114∨ptAt l at_=102∨ptAt l at_=118∨ptAt l at_=97∨ptAt l at_=101
    ·exact escaped20_oneB1b at_ l A n c w h h0 h1 hS h3
    ·have hn:¬ (ptAt l at_=98∨ptAt l at_=66∨ptAt l at_=65∨ptAt l at_=122∨ptAt l at_=110∨ptAt l at_=116∨ptAt l at_=114∨ptAt l at_=102∨ptAt l at_=118∨ptAt l at_=97∨ptAt l at_=101):=by omega
     by_cases h4:(49≤ptAt l at_∧ptAt l at_≤57)∨ptAt l at_=120∨ptAt l at_=117
     ·exact escaped20_oneB2 at_ l A n c w h h0 h1 hok hS ⟨hn,h4⟩
     ·by_cases h5:ptAt l at_=107
      ·exact escaped20_oneB3a at_ l A n c w h h0 h1 hS ⟨hn,h4,h5⟩
      ·exact escaped20_oneB3b at_ l A n c w h h0 h1 hS ⟨hn,h4,h5⟩
 ·exact escaped20_two at_ l A n c w h h0 h1
 ·by_cases hS:ptAt l at_=119∨ptAt l at_=87∨ptAt l at_=98∨ptAt l at_=66∨ptAt l at_=96∨ptAt l at_=39
  ·exact escaped20_threeC1 at_ l A n c w h h0 h1 hS
  ·exact escaped20_threeC2 at_ l A n c w h h0 h1 hS
theorem pts_ok {l:List Int} (h:l.all okPt=true) (q:Int):-1≤ptAt l q∧ptAt l q≤1114111:=by
 refine ⟨?_,pts_small h q⟩
 unfold ptAt
 split
 ·rename_i hq
  have:=List.all_eq_true.1 h (l[q.toNat]'(by omega)) (List.getElem_mem _)
  unfold okPt at this;simp at this;omega
 ·omega
end Go.Proofs.Ytmjlmjlkghpknaa
