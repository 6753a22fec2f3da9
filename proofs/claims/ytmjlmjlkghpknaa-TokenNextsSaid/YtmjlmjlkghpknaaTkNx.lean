/- TokenNexts: walked. -/
import Derived.Test.YtmjlmjlkghpknaaTkLc
import Derived.Test.YtmjlmjlkghpknaaTkAX
import Derived.Test.YtmjlmjlkghpknaaTkZ
set_option linter.unusedVariables false
set_option linter.unusedSimpArgs false
namespace Go.Proofs.Ytmjlmjlkghpknaa
open Go.RowKit
set_option maxRecDepth 100000 in
set_option maxHeartbeats 4000000 in
theorem lawTokenNexts (d:Int) (l:List Int) (A:Option Addr) (n c:Nat) (at_:Int) (w:World) (hnc:n≤c) (hc:c≤maxLen) (ha:Rds w w.heap.size 1 A n (ints l)) :
  Calls Try.prog 3 #[.int .i64 d,.slice A n c,.int .i64 at_] w fun e w'=>e=.returned (.bool true)∧Below w.heap.size w w':=by
 have hnm:n≤maxLen:=Nat.le_trans hnc hc
 have HLN:=Lib.hid ha.ints_len
 have C8:=Lib.hid (next8 d at_ l A n c w hnm hnc ha)
 have C9:=Lib.hid (fun w' (hb:Below w.heap.size w w')=>right9 d l A n c w.heap.size w' hnm (ha.below hb (Nat.le_refl _)))
 obtain ⟨ee,he⟩:∃ e,e=rightE d l:=⟨_,rfl⟩
 have HE:=Lib.hid he
 rw [← he] at C9
 have hm:=hnm
 unfold maxLen at hm
 clear he
 by_cases h0:ee=0
 ·have HRT:=Lib.hid (rightE_ok (d:=d) (l:=l) (by rw [← HE.out];exact h0))
  have hn3:n≤300:=by rw [← HLN.out];exact HRT.out.1
  obtain ⟨hd1,hd3⟩:=HRT.out.2.2
  by_cases h1:0≤at_∧at_ < n
  ·obtain ⟨h11,h12⟩:=h1
   have h12i:¬ (n:Int)≤at_:=by omega
   have h11i:¬ at_ < 0:=by omega
   have C10:=Lib.hid (fun w' (hb:Below w.heap.size w w')=>tokenAt10 d at_ l A n c w' ⟨(ha.below hb (Nat.le_refl _)).more hb.size,by omega⟩ hd1 hd3 (pts_ok HRT.out.2.1) h11 h12)
   rw [show nextR d l at_=tokenP d l at_ from by unfold nextR;rw [← HE.out,if_neg (by omega),if_neg (by rw [HLN.out];omega)]] at C8
   obtain ⟨r,hr⟩:∃ r,r=tokenP d l at_:=⟨_,rfl⟩
   rw [← hr] at C8 C10
   have HER:=Lib.hid (fun x (h:r=.error x)=>token_er d l at_ x (hr.symm.trans h))
   clear hr ha
   subst h0
   cases r with
   | error x =>
    have hx:(x == 0)=false:=by simpa using HER.out x rfl
    have hx2:(x != 0)=true:=by simpa using HER.out x rfl
    clear HER
    go_enter Try.func3,Try.ntmps3
    go_wp2_with (first
     | (go_at_call 8;(with_reducible refine C8.out.mono ?_);rintro e w1 ⟨hE,hb⟩;obtain rfl:=(show e=.returned (.tuple #[.agg #[.int .i64 0,.int .i64 0,.string ⟨#[]⟩,.bool false,.int .i64 0,.int .i64 0,.int .i64 0,.int .i64 0],.int .i64 (0),.int .i64 (x)]) from hE);have HB1:=Lib.hid hb;have HB2:=Lib.hid (show Below w.heap.size w (w1.alloc (.cells #[.int .i64 0,.int .i64 0,.string ⟨#[]⟩,.bool false,.int .i64 0,.int .i64 0,.int .i64 0,.int .i64 0] 24)) from hb.alloc hb.size _);have hz1:=hb.size;clear hE hb)
     | (go_at_call 9;(with_reducible refine (C9.out _ HB2.out).mono ?_);rintro e w' ⟨rfl,rfl⟩)
     | (go_at_call 10;(with_reducible refine (C10.out _ (HB2.out.alloc HB2.out.size (.cells #[.int .i64 0,.int .i64 0,.string ⟨#[]⟩,.bool false,.int .i64 0,.int .i64 0,.int .i64 0,.int .i64 0] 24))).mono ?_);rintro e w3 ⟨hE,hb⟩;obtain rfl:=(show e=.returned (.tuple #[.agg #[.int .i64 0,.int .i64 0,.string ⟨#[]⟩,.bool false,.int .i64 0,.int .i64 0,.int .i64 0,.int .i64 0],.int .i64 (0),.int .i64 (x)]) from hE);have HB3:=Lib.hid ((HB2.out.alloc HB2.out.size (.cells #[.int .i64 0,.int .i64 0,.string ⟨#[]⟩,.bool false,.int .i64 0,.int .i64 0,.int .i64 0,.int .i64 0] 24)).trans (hb.mono (HB2.out.alloc HB2.out.size (.cells #[.int .i64 0,.int .i64 0,.string ⟨#[]⟩,.bool false,.int .i64 0,.int .i64 0,.int .i64 0,.int .i64 0] 24)).size));have R7:=Lib.hid (row_next (hz_alloc (heap_alloc_new w1 _)) hb);have R11:=Lib.hid (show w3.heap[w1.heap.size+1]?=some Z24 from row_next (by have:=heap_alloc_new (w1.alloc (.cells #[.int .i64 0,.int .i64 0,.string ⟨#[]⟩,.bool false,.int .i64 0,.int .i64 0,.int .i64 0,.int .i64 0] 24)) (.cells #[.int .i64 0,.int .i64 0,.string ⟨#[]⟩,.bool false,.int .i64 0,.int .i64 0,.int .i64 0,.int .i64 0] 24);rw [show (World.alloc w1 (.cells #[.int .i64 0,.int .i64 0,.string ⟨#[]⟩,.bool false,.int .i64 0,.int .i64 0,.int .i64 0,.int .i64 0] 24)).heap.size=w1.heap.size+1 from by simp] at this;exact this) hb);have hz3:=hb.size;clear hE hb)
     | ((with_reducible apply store24 (g:=w1.heap.size+1));rfl;(with_reducible rfl);rfl;rfl;(exact R11.out);rfl;rfl)
     | (go_at_call 11;refine (tokenBegun11 _).mono ?_;rintro e w5 ⟨rfl,hb⟩;obtain ⟨a1,a2,a3,a4,a5,a6,a7,a8⟩:=cells8 (show w5.heap[w1.heap.size]?=some (.cells #[.int .i64 0,.int .i64 0,.string ⟨#[]⟩,.bool false,.int .i64 0,.int .i64 0,.int .i64 0,.int .i64 0] 24 (0,0)) from row_next (hz_row R7.out (by omega)) hb);obtain ⟨b1,b2,b3,b4,b5,b6,b7,b8⟩:=cells8 (show w5.heap[w1.heap.size+1]?=some (.cells #[.int .i64 0,.int .i64 0,.string ⟨#[]⟩,.bool false,.int .i64 0,.int .i64 0,.int .i64 0,.int .i64 0] 24 (0,0)) from row_next (row24 R11.out) hb);have HB5:=Lib.hid ((Below.setRow HB3.out (g:=w1.heap.size+1) (by omega) #[.int .i64 0,.int .i64 0,.string ⟨#[]⟩,.bool false,.int .i64 0,.int .i64 0,.int .i64 0,.int .i64 0]).trans (hb.mono (Below.setRow HB3.out (g:=w1.heap.size+1) (by omega) #[.int .i64 0,.int .i64 0,.string ⟨#[]⟩,.bool false,.int .i64 0,.int .i64 0,.int .i64 0,.int .i64 0]).size));clear hb))
    go_ret
    exact ⟨rfl,HB5.out⟩
   | ok q =>
    clear HER
    go_enter Try.func3,Try.ntmps3
    go_wp2_with (first
     | (go_at_call 8;(with_reducible refine C8.out.mono ?_);rintro e w1 ⟨hE,hb⟩;obtain rfl:=(show e=.returned (.tuple #[.agg #[.int .i64 q.1.kind,.int .i64 q.1.num,.string ⟨q.1.text.toArray⟩,.bool q.1.not_,.int .i64 q.1.least,.int .i64 q.1.most,.int .i64 q.1.way,.int .i64 q.1.fold],.int .i64 (q.2),.int .i64 (0)]) from hE);have HB1:=Lib.hid hb;have HB2:=Lib.hid (show Below w.heap.size w (w1.alloc (.cells #[.int .i64 q.1.kind,.int .i64 q.1.num,.string ⟨q.1.text.toArray⟩,.bool q.1.not_,.int .i64 q.1.least,.int .i64 q.1.most,.int .i64 q.1.way,.int .i64 q.1.fold] 24)) from hb.alloc hb.size _);have hz1:=hb.size;clear hE hb)
     | (go_at_call 9;(with_reducible refine (C9.out _ HB2.out).mono ?_);rintro e w' ⟨rfl,rfl⟩)
     | (go_at_call 10;(with_reducible refine (C10.out _ (HB2.out.alloc HB2.out.size (.cells #[.int .i64 0,.int .i64 0,.string ⟨#[]⟩,.bool false,.int .i64 0,.int .i64 0,.int .i64 0,.int .i64 0] 24))).mono ?_);rintro e w3 ⟨hE,hb⟩;obtain rfl:=(show e=.returned (.tuple #[.agg #[.int .i64 q.1.kind,.int .i64 q.1.num,.string ⟨q.1.text.toArray⟩,.bool q.1.not_,.int .i64 q.1.least,.int .i64 q.1.most,.int .i64 q.1.way,.int .i64 q.1.fold],.int .i64 (q.2),.int .i64 (0)]) from hE);have HB3:=Lib.hid ((HB2.out.alloc HB2.out.size (.cells #[.int .i64 0,.int .i64 0,.string ⟨#[]⟩,.bool false,.int .i64 0,.int .i64 0,.int .i64 0,.int .i64 0] 24)).trans (hb.mono (HB2.out.alloc HB2.out.size (.cells #[.int .i64 0,.int .i64 0,.string ⟨#[]⟩,.bool false,.int .i64 0,.int .i64 0,.int .i64 0,.int .i64 0] 24)).size));have R7:=Lib.hid (row_next (hz_alloc (heap_alloc_new w1 _)) hb);have R11:=Lib.hid (show w3.heap[w1.heap.size+1]?=some Z24 from row_next (by have:=heap_alloc_new (w1.alloc (.cells #[.int .i64 q.1.kind,.int .i64 q.1.num,.string ⟨q.1.text.toArray⟩,.bool q.1.not_,.int .i64 q.1.least,.int .i64 q.1.most,.int .i64 q.1.way,.int .i64 q.1.fold] 24)) (.cells #[.int .i64 0,.int .i64 0,.string ⟨#[]⟩,.bool false,.int .i64 0,.int .i64 0,.int .i64 0,.int .i64 0] 24);rw [show (World.alloc w1 (.cells #[.int .i64 q.1.kind,.int .i64 q.1.num,.string ⟨q.1.text.toArray⟩,.bool q.1.not_,.int .i64 q.1.least,.int .i64 q.1.most,.int .i64 q.1.way,.int .i64 q.1.fold] 24)).heap.size=w1.heap.size+1 from by simp] at this;exact this) hb);have hz3:=hb.size;clear hE hb)
     | ((with_reducible apply store24 (g:=w1.heap.size+1));rfl;(with_reducible rfl);rfl;rfl;(exact R11.out);rfl;rfl)
     | (go_at_call 11;refine (tokenBegun11 _).mono ?_;rintro e w5 ⟨rfl,hb⟩;obtain ⟨a1,a2,a3,a4,a5,a6,a7,a8⟩:=cells8 (show w5.heap[w1.heap.size]?=some (.cells #[.int .i64 q.1.kind,.int .i64 q.1.num,.string ⟨q.1.text.toArray⟩,.bool q.1.not_,.int .i64 q.1.least,.int .i64 q.1.most,.int .i64 q.1.way,.int .i64 q.1.fold] 24 (0,0)) from row_next (hz_row R7.out (by omega)) hb);obtain ⟨b1,b2,b3,b4,b5,b6,b7,b8⟩:=cells8 (show w5.heap[w1.heap.size+1]?=some (.cells #[.int .i64 q.1.kind,.int .i64 q.1.num,.string ⟨q.1.text.toArray⟩,.bool q.1.not_,.int .i64 q.1.least,.int .i64 q.1.most,.int .i64 q.1.way,.int .i64 q.1.fold] 24 (0,0)) from row_next (row24 R11.out) hb);have HB5:=Lib.hid ((Below.setRow HB3.out (g:=w1.heap.size+1) (by omega) #[.int .i64 q.1.kind,.int .i64 q.1.num,.string ⟨q.1.text.toArray⟩,.bool q.1.not_,.int .i64 q.1.least,.int .i64 q.1.most,.int .i64 q.1.way,.int .i64 q.1.fold]).trans (hb.mono (Below.setRow HB3.out (g:=w1.heap.size+1) (by omega) #[.int .i64 q.1.kind,.int .i64 q.1.num,.string ⟨q.1.text.toArray⟩,.bool q.1.not_,.int .i64 q.1.least,.int .i64 q.1.most,.int .i64 q.1.way,.int .i64 q.1.fold]).size));clear hb))
    go_ret
    exact ⟨rfl,HB5.out⟩
  ·rw [show nextR d l at_=.error 3 from by unfold nextR;rw [← HE.out,if_neg (by omega),if_pos (by rw [HLN.out];omega)]] at C8
   have h1':at_ < 0∨(¬ at_ < 0∧(n:Int)≤at_):=by omega
   clear h1 ha
   subst h0
   rcases h1' with h1|⟨h1,h2⟩
   ·go_enter Try.func3,Try.ntmps3
    go_wp2_with (first
     | (go_at_call 8;(with_reducible refine C8.out.mono ?_);rintro e w1 ⟨hE,hb⟩;obtain rfl:=(show e=.returned (.tuple #[.agg #[.int .i64 0,.int .i64 0,.string ⟨#[]⟩,.bool false,.int .i64 0,.int .i64 0,.int .i64 0,.int .i64 0],.int .i64 (0),.int .i64 (3)]) from hE);have HB1:=Lib.hid hb;have HB2:=Lib.hid (show Below w.heap.size w (w1.alloc (.cells #[.int .i64 0,.int .i64 0,.string ⟨#[]⟩,.bool false,.int .i64 0,.int .i64 0,.int .i64 0,.int .i64 0] 24)) from hb.alloc hb.size _);have hz1:=hb.size;clear hE hb)
     | (go_at_call 9;(with_reducible refine (C9.out _ HB2.out).mono ?_);rintro e w' ⟨rfl,rfl⟩)
     | (go_at_call 11;refine (tokenBegun11 _).mono ?_;rintro e w5 ⟨rfl,hb⟩;obtain ⟨a1,a2,a3,a4,a5,a6,a7,a8⟩:=cells8 (show w5.heap[w1.heap.size]?=some (.cells #[.int .i64 0,.int .i64 0,.string ⟨#[]⟩,.bool false,.int .i64 0,.int .i64 0,.int .i64 0,.int .i64 0] 24 (0,0)) from row_next (hz_alloc (heap_alloc_new w1 _)) hb);obtain ⟨b1,b2,b3,b4,b5,b6,b7,b8⟩:=cells8 (show w5.heap[w1.heap.size+1]?=some (.cells #[.int .i64 0,.int .i64 0,.string ⟨#[]⟩,.bool false,.int .i64 0,.int .i64 0,.int .i64 0,.int .i64 0] 24 (0,0)) from row_next (by have:=heap_alloc_new (w1.alloc (.cells #[.int .i64 0,.int .i64 0,.string ⟨#[]⟩,.bool false,.int .i64 0,.int .i64 0,.int .i64 0,.int .i64 0] 24)) (.cells #[.int .i64 0,.int .i64 0,.string ⟨#[]⟩,.bool false,.int .i64 0,.int .i64 0,.int .i64 0,.int .i64 0] 24);rw [show (World.alloc w1 (.cells #[.int .i64 0,.int .i64 0,.string ⟨#[]⟩,.bool false,.int .i64 0,.int .i64 0,.int .i64 0,.int .i64 0] 24)).heap.size=w1.heap.size+1 from by simp] at this;exact this) hb);have HB5:=Lib.hid ((HB2.out.alloc HB2.out.size (.cells #[.int .i64 0,.int .i64 0,.string ⟨#[]⟩,.bool false,.int .i64 0,.int .i64 0,.int .i64 0,.int .i64 0] 24)).trans (hb.mono (HB2.out.alloc HB2.out.size (.cells #[.int .i64 0,.int .i64 0,.string ⟨#[]⟩,.bool false,.int .i64 0,.int .i64 0,.int .i64 0,.int .i64 0] 24)).size));clear hb))
    go_ret
    exact ⟨rfl,HB5.out⟩
   ·go_enter Try.func3,Try.ntmps3
    go_wp2_with (first
     | (go_at_call 8;(with_reducible refine C8.out.mono ?_);rintro e w1 ⟨hE,hb⟩;obtain rfl:=(show e=.returned (.tuple #[.agg #[.int .i64 0,.int .i64 0,.string ⟨#[]⟩,.bool false,.int .i64 0,.int .i64 0,.int .i64 0,.int .i64 0],.int .i64 (0),.int .i64 (3)]) from hE);have HB1:=Lib.hid hb;have HB2:=Lib.hid (show Below w.heap.size w (w1.alloc (.cells #[.int .i64 0,.int .i64 0,.string ⟨#[]⟩,.bool false,.int .i64 0,.int .i64 0,.int .i64 0,.int .i64 0] 24)) from hb.alloc hb.size _);have hz1:=hb.size;clear hE hb)
     | (go_at_call 9;(with_reducible refine (C9.out _ HB2.out).mono ?_);rintro e w' ⟨rfl,rfl⟩)
     | (go_at_call 11;refine (tokenBegun11 _).mono ?_;rintro e w5 ⟨rfl,hb⟩;obtain ⟨a1,a2,a3,a4,a5,a6,a7,a8⟩:=cells8 (show w5.heap[w1.heap.size]?=some (.cells #[.int .i64 0,.int .i64 0,.string ⟨#[]⟩,.bool false,.int .i64 0,.int .i64 0,.int .i64 0,.int .i64 0] 24 (0,0)) from row_next (hz_alloc (heap_alloc_new w1 _)) hb);obtain ⟨b1,b2,b3,b4,b5,b6,b7,b8⟩:=cells8 (show w5.heap[w1.heap.size+1]?=some (.cells #[.int .i64 0,.int .i64 0,.string ⟨#[]⟩,.bool false,.int .i64 0,.int .i64 0,.int .i64 0,.int .i64 0] 24 (0,0)) from row_next (by have:=heap_alloc_new (w1.alloc (.cells #[.int .i64 0,.int .i64 0,.string ⟨#[]⟩,.bool false,.int .i64 0,.int .i64 0,.int .i64 0,.int .i64 0] 24)) (.cells #[.int .i64 0,.int .i64 0,.string ⟨#[]⟩,.bool false,.int .i64 0,.int .i64 0,.int .i64 0,.int .i64 0] 24);rw [show (World.alloc w1 (.cells #[.int .i64 0,.int .i64 0,.string ⟨#[]⟩,.bool false,.int .i64 0,.int .i64 0,.int .i64 0,.int .i64 0] 24)).heap.size=w1.heap.size+1 from by simp] at this;exact this) hb);have HB5:=Lib.hid ((HB2.out.alloc HB2.out.size (.cells #[.int .i64 0,.int .i64 0,.string ⟨#[]⟩,.bool false,.int .i64 0,.int .i64 0,.int .i64 0,.int .i64 0] 24)).trans (hb.mono (HB2.out.alloc HB2.out.size (.cells #[.int .i64 0,.int .i64 0,.string ⟨#[]⟩,.bool false,.int .i64 0,.int .i64 0,.int .i64 0,.int .i64 0] 24)).size));clear hb))
    go_ret
    exact ⟨rfl,HB5.out⟩
 ·rw [show nextR d l at_=.error ee from by unfold nextR;rw [← HE.out,if_pos h0]] at C8
  have hz:(ee == 0)=false:=by simpa using h0
  have hz2:(ee != 0)=true:=by simpa using h0
  clear h0 ha
  go_enter Try.func3,Try.ntmps3
  go_wp2_with (first
   | (go_at_call 8;(with_reducible refine C8.out.mono ?_);rintro e w1 ⟨hE,hb⟩;obtain rfl:=(show e=.returned (.tuple #[.agg #[.int .i64 0,.int .i64 0,.string ⟨#[]⟩,.bool false,.int .i64 0,.int .i64 0,.int .i64 0,.int .i64 0],.int .i64 (0),.int .i64 (ee)]) from hE);have HB1:=Lib.hid hb;have HB2:=Lib.hid (show Below w.heap.size w (w1.alloc (.cells #[.int .i64 0,.int .i64 0,.string ⟨#[]⟩,.bool false,.int .i64 0,.int .i64 0,.int .i64 0,.int .i64 0] 24)) from hb.alloc hb.size _);have hz1:=hb.size;clear hE hb)
   | (go_at_call 9;(with_reducible refine (C9.out _ HB2.out).mono ?_);rintro e w' ⟨rfl,rfl⟩)
   | (go_at_call 11;refine (tokenBegun11 _).mono ?_;rintro e w5 ⟨rfl,hb⟩;obtain ⟨a1,a2,a3,a4,a5,a6,a7,a8⟩:=cells8 (show w5.heap[w1.heap.size]?=some (.cells #[.int .i64 0,.int .i64 0,.string ⟨#[]⟩,.bool false,.int .i64 0,.int .i64 0,.int .i64 0,.int .i64 0] 24 (0,0)) from row_next (hz_alloc (heap_alloc_new w1 _)) hb);obtain ⟨b1,b2,b3,b4,b5,b6,b7,b8⟩:=cells8 (show w5.heap[w1.heap.size+1]?=some (.cells #[.int .i64 0,.int .i64 0,.string ⟨#[]⟩,.bool false,.int .i64 0,.int .i64 0,.int .i64 0,.int .i64 0] 24 (0,0)) from row_next (by have:=heap_alloc_new (w1.alloc (.cells #[.int .i64 0,.int .i64 0,.string ⟨#[]⟩,.bool false,.int .i64 0,.int .i64 0,.int .i64 0,.int .i64 0] 24)) (.cells #[.int .i64 0,.int .i64 0,.string ⟨#[]⟩,.bool false,.int .i64 0,.int .i64 0,.int .i64 0,.int .i64 0] 24);rw [show (World.alloc w1 (.cells #[.int .i64 0,.int .i64 0,.string ⟨#[]⟩,.bool false,.int .i64 0,.int .i64 0,.int .i64 0,.int .i64 0] 24)).heap.size=w1.heap.size+1 from by simp] at this;exact this) hb);have HB5:=Lib.hid ((HB2.out.alloc HB2.out.size (.cells #[.int .i64 0,.int .i64 0,.string ⟨#[]⟩,.bool false,.int .i64 0,.int .i64 0,.int .i64 0,.int .i64 0] 24)).trans (hb.mono (HB2.out.alloc HB2.out.size (.cells #[.int .i64 0,.int .i64 0,.string ⟨#[]⟩,.bool false,.int .i64 0,.int .i64 0,.int .i64 0,.int .i64 0] 24)).size));clear hb))
  go_ret
  exact ⟨rfl,HB5.out⟩
end Go.Proofs.Ytmjlmjlkghpknaa
