/- Interval of the reference: walked, with a comma. -/
import Derived.Test.YtmjlmjlkghpknaaTkAG
set_option linter.unusedVariables false
set_option linter.unusedSimpArgs false
namespace Go.Proofs.Ytmjlmjlkghpknaa
open Go.RowKit
set_option maxRecDepth 100000 in
set_option maxHeartbeats 8000000 in
theorem interval22_comma (d at_:Int) (l:List Int) (A:Option Addr) (n c:Nat) (w:World) (h:Pts w.heap.size n c A l w) (h0:0≤at_) (h1:at_≤n) (hc:ptAt l (at_+(runLen isDig l at_ 3:Int))=44) :
  Calls Try.prog 22 #[.int .i64 d,.slice A n c,.int .i64 at_] w fun e w'=>IvOut (intervalP d l at_) e∧Below w.heap.size w w':=by
 have hsm:=h.small
 have hln:=h.len
 have HP:=Lib.hid (fun w' (hb:Below w.heap.size w w')=>h.next hb)
 have HP':=Lib.hid (fun w' (hb:Below w.heap.size w w')=>Pts.more (h.next hb) hb.size)
 have HB0:=Lib.hid (show Below w.heap.size w (w.alloc (.cells #[.int .i64 0,.int .i64 0,.string ⟨#[]⟩,.bool false,.int .i64 0,.int .i64 0,.int .i64 0,.int .i64 0] 24)) from (Below.refl _ _).alloc (Nat.le_refl _) _)
 have HZ0:=Lib.hid (show (w.alloc (.cells #[.int .i64 0,.int .i64 0,.string ⟨#[]⟩,.bool false,.int .i64 0,.int .i64 0,.int .i64 0,.int .i64 0] 24)).heap[w.heap.size]?=some Z24 from hz_new)
 have hs0:(w.alloc (.cells #[.int .i64 0,.int .i64 0,.string ⟨#[]⟩,.bool false,.int .i64 0,.int .i64 0,.int .i64 0,.int .i64 0] 24)).heap.size=w.heap.size+1:=by simp
 obtain ⟨W,hW⟩:∃ W,W=(w.alloc (.cells #[.int .i64 0,.int .i64 0,.string ⟨#[]⟩,.bool false,.int .i64 0,.int .i64 0,.int .i64 0,.int .i64 0] 24)):=⟨_,rfl⟩
 rw [← hW] at HB0 HZ0 hs0
 obtain ⟨na,hna⟩:∃ x,x=at_+(runLen isDig l at_ 3:Int):=⟨_,rfl⟩
 obtain ⟨av,hav⟩:∃ x,x=decN (runPts l at_ (runLen isDig l at_ 3)):=⟨_,rfl⟩
 have hnl:=dig_le l 3 at_ (by omega)
 have havd:=runPts_dec l at_ 3 _ (Nat.le_refl _) (Nat.le_refl _)
 have D1:=Lib.hid (fun w' (hb:Below w.heap.size w w')=>(show Calls Try.prog 32 #[.slice A n c,.int .i64 at_,.int .i64 3] w' (fun e w''=>e=.returned (.tuple #[.int .i64 (decN (runPts l at_ (runLen isDig l at_ 3))),.int .i64 (at_+(runLen isDig l at_ 3:Int))])∧w'=w'') from digits32 l at_ 3 A n c _ w' (by unfold maxLen;omega) (Nat.le_refl _) h0 (by omega) (h.next hb).row))
 rw [← hav] at havd
 rw [← hna] at hnl
 rw [← hna,← hav] at D1
 have hnn:at_≤na:=by omega
 rw [hln] at hnl
 obtain ⟨ha0,ha9⟩:=havd
 rw [← hna] at hc
 have HC:=Lib.hid hc
 obtain ⟨nb,hnb⟩:∃ x,x=na+1+(runLen isDig l (na+1) 3:Int):=⟨_,rfl⟩
 obtain ⟨bv,hbv⟩:∃ x,x=decN (runPts l (na+1) (runLen isDig l (na+1) 3)):=⟨_,rfl⟩
 have hcp:=pt_or l na
 have hnl2:=dig_le l 3 (na+1) (by omega)
 have hbvd:=runPts_dec l (na+1) 3 _ (Nat.le_refl _) (Nat.le_refl _)
 have D2:=Lib.hid (fun w' (hb:Below w.heap.size w w')=>(show Calls Try.prog 32 #[.slice A n c,.int .i64 (na+1),.int .i64 3] w' (fun e w''=>e=.returned (.tuple #[.int .i64 (decN (runPts l (na+1) (runLen isDig l (na+1) 3))),.int .i64 (na+1+(runLen isDig l (na+1) 3:Int))])∧w'=w'') from digits32 l (na+1) 3 A n c _ w' (by unfold maxLen;omega) (Nat.le_refl _) (by omega) (by omega) (h.next hb).row))
 rw [← hbv] at hbvd
 rw [← hnb] at hnl2
 rw [← hnb,← hbv] at D2
 have hnn2:na+1≤nb:=by omega
 rw [hln] at hnl2
 obtain ⟨hb0,hb9⟩:=hbvd
 obtain ⟨al,bl,hE,hdA,hdB,hF,hS,ha00⟩:=interval_comma (d:=d) hna hav hc hnb hbv
 have HF:=Lib.hid hF
 have HS:=Lib.hid hS
 have HZ:=Lib.hid ha00
 have hq:=Lib.hid (fun p=>in_pt hln (p:=p))
 clear hna hav hnb hbv hc hcp hln h hF hS ha00
 by_cases hd:d=3
 ·have hd3:=hd
  subst hd3
  clear hd
  by_cases hk:ptAt l nb=92
  ·have HK:=Lib.hid hk
   by_cases hf:at_ < na
   ·have hAl:=HF.out.1 hf
    by_cases hs:na+1 < nb
    ·have hBl:=HS.out.1 hs
     by_cases hz:ptAt l (nb+1)=125
     ·have HZC:=Lib.hid hz
      have hin:nb+1+1≤n:=hq.out _ (by rw [hz];decide)
      by_cases hr:bv < av
      ·rw [show intervalP 3 l at_=some (.error 3) from by rw [hE,intervalE_three _ _ _ _ hk,close_some (least:=av) (most:=bv) hz (.inl hAl) hdA (by rw [if_pos (Nat.pos_of_ne_zero hBl)];exact hdB),times_range hb0 hr]]
       clear hE HF HZ hdA hz hq hdB HS
       go_enter Try.func22,Try.ntmps22
       go_upto_region 1 with (fail)
       rw [← hW]
       clear hW
       go_wp2_with (first
        | (go_at_call 32;(with_reducible refine (D1.out _ HB0.out).mono ?_);rintro e w' ⟨rfl,rfl⟩)
        | (go_at_call 18;(with_reducible refine (says_b 44 44 (na) true (HP.out _ HB0.out) ⟨by omega,by omega⟩ rfl (by rw [decide_eq_true HC.out])).mono ?_);rintro e w1 ⟨rfl,hb,hs⟩;have hs1:w1.heap.size=w.heap.size+1:=hs.trans hs0;have HB1:=Lib.hid (HB0.out.trans (hb.mono HB0.out.size));have HZ1:=Lib.hid ((hb.block w.heap.size (by omega)).trans HZ0.out);have hl1:w.heap.size < w1.heap.size:=(by omega);clear hb hs)
        | (go_at_call 32;(with_reducible refine (D2.out _ HB1.out).mono ?_);rintro e w' ⟨rfl,rfl⟩)
        | (go_at_call 18;(with_reducible refine (says_b 92 92 (nb) true (HP.out _ HB1.out) ⟨by omega,by omega⟩ rfl (by rw [decide_eq_true HK.out])).mono ?_);rintro e w2 ⟨rfl,hb,hs⟩;have hs2:w2.heap.size=w.heap.size+1:=hs.trans hs1;have HB2:=Lib.hid (HB1.out.trans (hb.mono HB1.out.size));have HZ2:=Lib.hid ((hb.block w.heap.size (by omega)).trans HZ1.out);have hl2:w.heap.size < w2.heap.size:=(by omega);clear hb hs)
        | (go_at_call 18;(with_reducible refine (says_b 125 125 (nb+1) true (HP.out _ HB2.out) ⟨by omega,by omega⟩ rfl (by rw [decide_eq_true HZC.out])).mono ?_);rintro e w3 ⟨rfl,hb,hs⟩;have hs3:w3.heap.size=w.heap.size+1:=hs.trans hs2;have HB3:=Lib.hid (HB2.out.trans (hb.mono HB2.out.size));have HZ3:=Lib.hid ((hb.block w.heap.size (by omega)).trans HZ2.out);have hl3:w.heap.size < w3.heap.size:=(by omega);clear hb hs)
        | ((with_reducible apply store24 (g:=w.heap.size));rfl;(with_reducible rfl);rfl;rfl;(exact HZ3.out);rfl;rfl))
       ((try simp only [Exit.inBlock,Exit.then]);refine bodyPost_ret (v:=_) (results24r Try.results22 _ _ w.heap.size _ (.int .i64 0) (.bool true) (.int .i64 3) ?_ ?_ ?_ ?_ (row24 ?_) ?_) rfl ?_;rfl;rfl;rfl;rfl;(exact HZ3.out);rfl;exact And.intro rfl (Below.setRow (HB3.out) (Nat.le_refl _) _))
      have hr2:¬ bv < av:=hr
      by_cases hm1:100 < av
      ·rw [show intervalP 3 l at_=some (.error 2) from by rw [hE,intervalE_three _ _ _ _ hk,close_some (least:=av) (most:=bv) hz (.inl hAl) hdA (by rw [if_pos (Nat.pos_of_ne_zero hBl)];exact hdB),times_many (fun x=>hr x.2) (.inl hm1)]]
       clear hE HF HZ hdA hz hq hdB HS
       go_enter Try.func22,Try.ntmps22
       go_upto_region 1 with (fail)
       rw [← hW]
       clear hW
       go_wp2_with (first
        | (go_at_call 32;(with_reducible refine (D1.out _ HB0.out).mono ?_);rintro e w' ⟨rfl,rfl⟩)
        | (go_at_call 18;(with_reducible refine (says_b 44 44 (na) true (HP.out _ HB0.out) ⟨by omega,by omega⟩ rfl (by rw [decide_eq_true HC.out])).mono ?_);rintro e w1 ⟨rfl,hb,hs⟩;have hs1:w1.heap.size=w.heap.size+1:=hs.trans hs0;have HB1:=Lib.hid (HB0.out.trans (hb.mono HB0.out.size));have HZ1:=Lib.hid ((hb.block w.heap.size (by omega)).trans HZ0.out);have hl1:w.heap.size < w1.heap.size:=(by omega);clear hb hs)
        | (go_at_call 32;(with_reducible refine (D2.out _ HB1.out).mono ?_);rintro e w' ⟨rfl,rfl⟩)
        | (go_at_call 18;(with_reducible refine (says_b 92 92 (nb) true (HP.out _ HB1.out) ⟨by omega,by omega⟩ rfl (by rw [decide_eq_true HK.out])).mono ?_);rintro e w2 ⟨rfl,hb,hs⟩;have hs2:w2.heap.size=w.heap.size+1:=hs.trans hs1;have HB2:=Lib.hid (HB1.out.trans (hb.mono HB1.out.size));have HZ2:=Lib.hid ((hb.block w.heap.size (by omega)).trans HZ1.out);have hl2:w.heap.size < w2.heap.size:=(by omega);clear hb hs)
        | (go_at_call 18;(with_reducible refine (says_b 125 125 (nb+1) true (HP.out _ HB2.out) ⟨by omega,by omega⟩ rfl (by rw [decide_eq_true HZC.out])).mono ?_);rintro e w3 ⟨rfl,hb,hs⟩;have hs3:w3.heap.size=w.heap.size+1:=hs.trans hs2;have HB3:=Lib.hid (HB2.out.trans (hb.mono HB2.out.size));have HZ3:=Lib.hid ((hb.block w.heap.size (by omega)).trans HZ2.out);have hl3:w.heap.size < w3.heap.size:=(by omega);clear hb hs)
        | ((with_reducible apply store24 (g:=w.heap.size));rfl;(with_reducible rfl);rfl;rfl;(exact HZ3.out);rfl;rfl))
       ((try simp only [Exit.inBlock,Exit.then]);refine bodyPost_ret (v:=_) (results24r Try.results22 _ _ w.heap.size _ (.int .i64 0) (.bool true) (.int .i64 2) ?_ ?_ ?_ ?_ (row24 ?_) ?_) rfl ?_;rfl;rfl;rfl;rfl;(exact HZ3.out);rfl;exact And.intro rfl (Below.setRow (HB3.out) (Nat.le_refl _) _))
      by_cases hm2:100 < bv
      ·rw [show intervalP 3 l at_=some (.error 2) from by rw [hE,intervalE_three _ _ _ _ hk,close_some (least:=av) (most:=bv) hz (.inl hAl) hdA (by rw [if_pos (Nat.pos_of_ne_zero hBl)];exact hdB),times_many (fun x=>hr x.2) (.inr hm2)]]
       clear hE HF HZ hdA hz hq hdB HS
       go_enter Try.func22,Try.ntmps22
       go_upto_region 1 with (fail)
       rw [← hW]
       clear hW
       go_wp2_with (first
        | (go_at_call 32;(with_reducible refine (D1.out _ HB0.out).mono ?_);rintro e w' ⟨rfl,rfl⟩)
        | (go_at_call 18;(with_reducible refine (says_b 44 44 (na) true (HP.out _ HB0.out) ⟨by omega,by omega⟩ rfl (by rw [decide_eq_true HC.out])).mono ?_);rintro e w1 ⟨rfl,hb,hs⟩;have hs1:w1.heap.size=w.heap.size+1:=hs.trans hs0;have HB1:=Lib.hid (HB0.out.trans (hb.mono HB0.out.size));have HZ1:=Lib.hid ((hb.block w.heap.size (by omega)).trans HZ0.out);have hl1:w.heap.size < w1.heap.size:=(by omega);clear hb hs)
        | (go_at_call 32;(with_reducible refine (D2.out _ HB1.out).mono ?_);rintro e w' ⟨rfl,rfl⟩)
        | (go_at_call 18;(with_reducible refine (says_b 92 92 (nb) true (HP.out _ HB1.out) ⟨by omega,by omega⟩ rfl (by rw [decide_eq_true HK.out])).mono ?_);rintro e w2 ⟨rfl,hb,hs⟩;have hs2:w2.heap.size=w.heap.size+1:=hs.trans hs1;have HB2:=Lib.hid (HB1.out.trans (hb.mono HB1.out.size));have HZ2:=Lib.hid ((hb.block w.heap.size (by omega)).trans HZ1.out);have hl2:w.heap.size < w2.heap.size:=(by omega);clear hb hs)
        | (go_at_call 18;(with_reducible refine (says_b 125 125 (nb+1) true (HP.out _ HB2.out) ⟨by omega,by omega⟩ rfl (by rw [decide_eq_true HZC.out])).mono ?_);rintro e w3 ⟨rfl,hb,hs⟩;have hs3:w3.heap.size=w.heap.size+1:=hs.trans hs2;have HB3:=Lib.hid (HB2.out.trans (hb.mono HB2.out.size));have HZ3:=Lib.hid ((hb.block w.heap.size (by omega)).trans HZ2.out);have hl3:w.heap.size < w3.heap.size:=(by omega);clear hb hs)
        | ((with_reducible apply store24 (g:=w.heap.size));rfl;(with_reducible rfl);rfl;rfl;(exact HZ3.out);rfl;rfl))
       ((try simp only [Exit.inBlock,Exit.then]);refine bodyPost_ret (v:=_) (results24r Try.results22 _ _ w.heap.size _ (.int .i64 0) (.bool true) (.int .i64 2) ?_ ?_ ?_ ?_ (row24 ?_) ?_) rfl ?_;rfl;rfl;rfl;rfl;(exact HZ3.out);rfl;exact And.intro rfl (Below.setRow (HB3.out) (Nat.le_refl _) _))
      rw [show intervalP 3 l at_=some (.ok (repeatP 3 l (nb+1+1) av (bv))) from by rw [hE,intervalE_three _ _ _ _ hk,close_some (least:=av) (most:=bv) hz (.inl hAl) hdA (by rw [if_pos (Nat.pos_of_ne_zero hBl)];exact hdB),times_ok (fun x=>hr x.2) (by omega) (by omega)]]
      clear hE HF HZ hdA hz hq hdB HS
      go_enter Try.func22,Try.ntmps22
      go_upto_region 1 with (fail)
      rw [← hW]
      clear hW
      go_wp2_with (first
       | (go_at_call 32;(with_reducible refine (D1.out _ HB0.out).mono ?_);rintro e w' ⟨rfl,rfl⟩)
       | (go_at_call 18;(with_reducible refine (says_b 44 44 (na) true (HP.out _ HB0.out) ⟨by omega,by omega⟩ rfl (by rw [decide_eq_true HC.out])).mono ?_);rintro e w1 ⟨rfl,hb,hs⟩;have hs1:w1.heap.size=w.heap.size+1:=hs.trans hs0;have HB1:=Lib.hid (HB0.out.trans (hb.mono HB0.out.size));have HZ1:=Lib.hid ((hb.block w.heap.size (by omega)).trans HZ0.out);have hl1:w.heap.size < w1.heap.size:=(by omega);clear hb hs)
       | (go_at_call 32;(with_reducible refine (D2.out _ HB1.out).mono ?_);rintro e w' ⟨rfl,rfl⟩)
       | (go_at_call 18;(with_reducible refine (says_b 92 92 (nb) true (HP.out _ HB1.out) ⟨by omega,by omega⟩ rfl (by rw [decide_eq_true HK.out])).mono ?_);rintro e w2 ⟨rfl,hb,hs⟩;have hs2:w2.heap.size=w.heap.size+1:=hs.trans hs1;have HB2:=Lib.hid (HB1.out.trans (hb.mono HB1.out.size));have HZ2:=Lib.hid ((hb.block w.heap.size (by omega)).trans HZ1.out);have hl2:w.heap.size < w2.heap.size:=(by omega);clear hb hs)
       | (go_at_call 18;(with_reducible refine (says_b 125 125 (nb+1) true (HP.out _ HB2.out) ⟨by omega,by omega⟩ rfl (by rw [decide_eq_true HZC.out])).mono ?_);rintro e w3 ⟨rfl,hb,hs⟩;have hs3:w3.heap.size=w.heap.size+1:=hs.trans hs2;have HB3:=Lib.hid (HB2.out.trans (hb.mono HB2.out.size));have HZ3:=Lib.hid ((hb.block w.heap.size (by omega)).trans HZ2.out);have hl3:w.heap.size < w3.heap.size:=(by omega);clear hb hs)
       | (go_at_call 19;(with_reducible refine (repeat19 3 (nb+1+1) av (bv) l A n c w3 (HP'.out _ HB3.out) (by omega) (by omega)).mono ?_);rintro e w4 ⟨he,hb⟩;obtain rfl:=(show e=.returned (.tuple #[.agg #[.int .i64 (repeatP 3 l (nb+1+1) av (bv)).1.kind,.int .i64 (repeatP 3 l (nb+1+1) av (bv)).1.num,.string ⟨(repeatP 3 l (nb+1+1) av (bv)).1.text.toArray⟩,.bool (repeatP 3 l (nb+1+1) av (bv)).1.not_,.int .i64 (repeatP 3 l (nb+1+1) av (bv)).1.least,.int .i64 (repeatP 3 l (nb+1+1) av (bv)).1.most,.int .i64 (repeatP 3 l (nb+1+1) av (bv)).1.way,.int .i64 (repeatP 3 l (nb+1+1) av (bv)).1.fold],.int .i64 (repeatP 3 l (nb+1+1) av (bv)).2]) from he);have HB4:=Lib.hid (HB3.out.trans (hb.mono HB3.out.size));have HZ4:=Lib.hid ((hb.block w.heap.size (by omega)).trans HZ3.out);have hs4:=hb.size;have hl4:w.heap.size < w4.heap.size:=(by omega);clear hb he)
       | ((with_reducible apply store24 (g:=w.heap.size));rfl;(with_reducible rfl);rfl;rfl;(exact hz_alloc HZ4.out);rfl;rfl))
      ((try simp only [Exit.inBlock,Exit.then]);refine bodyPost_ret (v:=_) (results24r Try.results22 _ _ w.heap.size _ (.int .i64 (repeatP 3 l (nb+1+1) av (bv)).2) (.bool true) (.int .i64 0) ?_ ?_ ?_ ?_ (row24 ?_) ?_) rfl ?_;rfl;rfl;rfl;rfl;(exact hz_alloc HZ4.out);rfl;exact And.intro rfl (Below.setRow (HB4.out.alloc (by omega) _) (Nat.le_refl _) _))
     ·have HZC:=Lib.hid hz
      rw [show intervalP 3 l at_=none from by rw [hE,intervalE_three _ _ _ _ hk,close_none hz]]
      clear hE HF HZ hdA hz hq hdB HS
      go_enter Try.func22,Try.ntmps22
      go_upto_region 1 with (fail)
      rw [← hW]
      clear hW
      go_wp2_with (first
       | (go_at_call 32;(with_reducible refine (D1.out _ HB0.out).mono ?_);rintro e w' ⟨rfl,rfl⟩)
       | (go_at_call 18;(with_reducible refine (says_b 44 44 (na) true (HP.out _ HB0.out) ⟨by omega,by omega⟩ rfl (by rw [decide_eq_true HC.out])).mono ?_);rintro e w1 ⟨rfl,hb,hs⟩;have hs1:w1.heap.size=w.heap.size+1:=hs.trans hs0;have HB1:=Lib.hid (HB0.out.trans (hb.mono HB0.out.size));have HZ1:=Lib.hid ((hb.block w.heap.size (by omega)).trans HZ0.out);have hl1:w.heap.size < w1.heap.size:=(by omega);clear hb hs)
       | (go_at_call 32;(with_reducible refine (D2.out _ HB1.out).mono ?_);rintro e w' ⟨rfl,rfl⟩)
       | (go_at_call 18;(with_reducible refine (says_b 92 92 (nb) true (HP.out _ HB1.out) ⟨by omega,by omega⟩ rfl (by rw [decide_eq_true HK.out])).mono ?_);rintro e w2 ⟨rfl,hb,hs⟩;have hs2:w2.heap.size=w.heap.size+1:=hs.trans hs1;have HB2:=Lib.hid (HB1.out.trans (hb.mono HB1.out.size));have HZ2:=Lib.hid ((hb.block w.heap.size (by omega)).trans HZ1.out);have hl2:w.heap.size < w2.heap.size:=(by omega);clear hb hs)
       | (go_at_call 18;(with_reducible refine (says_b 125 125 (nb+1) false (HP.out _ HB2.out) ⟨by omega,by omega⟩ rfl (by rw [decide_eq_false HZC.out])).mono ?_);rintro e w3 ⟨rfl,hb,hs⟩;have hs3:w3.heap.size=w.heap.size+1:=hs.trans hs2;have HB3:=Lib.hid (HB2.out.trans (hb.mono HB2.out.size));have HZ3:=Lib.hid ((hb.block w.heap.size (by omega)).trans HZ2.out);have hl3:w.heap.size < w3.heap.size:=(by omega);clear hb hs)
       | ((with_reducible apply store24 (g:=w.heap.size));rfl;(with_reducible rfl);rfl;rfl;(exact HZ3.out);rfl;rfl))
      ((try simp only [Exit.inBlock,Exit.then]);refine bodyPost_ret (v:=_) (results24r Try.results22 _ _ w.heap.size _ (.int .i64 0) (.bool false) (.int .i64 0) ?_ ?_ ?_ ?_ (row24 ?_) ?_) rfl ?_;rfl;rfl;rfl;rfl;(exact HZ3.out);rfl;exact And.intro rfl (Below.setRow (HB3.out) (Nat.le_refl _) _))
    ·have hsb:decide (na+1 < nb)=false:=decide_eq_false hs
     have hBl:bl.length=0:=Nat.eq_zero_of_not_pos (fun hx=>hs (HS.out.2 (Nat.ne_of_gt hx)))
     by_cases hz:ptAt l (nb+1)=125
     ·have HZC:=Lib.hid hz
      have hin:nb+1+1≤n:=hq.out _ (by rw [hz];decide)
      by_cases hm1:100 < av
      ·rw [show intervalP 3 l at_=some (.error 2) from by rw [hE,intervalE_three _ _ _ _ hk,close_some (least:=av) (most:=-1) hz (.inl hAl) hdA (by rw [hBl,if_neg (by decide)]),times_many (fun x=>by omega) (.inl hm1)]]
       clear hE HF HZ hdA hz hq hdB HS
       go_enter Try.func22,Try.ntmps22
       go_upto_region 1 with (fail)
       rw [← hW]
       clear hW
       go_wp2_with (first
        | (go_at_call 32;(with_reducible refine (D1.out _ HB0.out).mono ?_);rintro e w' ⟨rfl,rfl⟩)
        | (go_at_call 18;(with_reducible refine (says_b 44 44 (na) true (HP.out _ HB0.out) ⟨by omega,by omega⟩ rfl (by rw [decide_eq_true HC.out])).mono ?_);rintro e w1 ⟨rfl,hb,hs⟩;have hs1:w1.heap.size=w.heap.size+1:=hs.trans hs0;have HB1:=Lib.hid (HB0.out.trans (hb.mono HB0.out.size));have HZ1:=Lib.hid ((hb.block w.heap.size (by omega)).trans HZ0.out);have hl1:w.heap.size < w1.heap.size:=(by omega);clear hb hs)
        | (go_at_call 32;(with_reducible refine (D2.out _ HB1.out).mono ?_);rintro e w' ⟨rfl,rfl⟩)
        | (go_at_call 18;(with_reducible refine (says_b 92 92 (nb) true (HP.out _ HB1.out) ⟨by omega,by omega⟩ rfl (by rw [decide_eq_true HK.out])).mono ?_);rintro e w2 ⟨rfl,hb,hs⟩;have hs2:w2.heap.size=w.heap.size+1:=hs.trans hs1;have HB2:=Lib.hid (HB1.out.trans (hb.mono HB1.out.size));have HZ2:=Lib.hid ((hb.block w.heap.size (by omega)).trans HZ1.out);have hl2:w.heap.size < w2.heap.size:=(by omega);clear hb hs)
        | (go_at_call 18;(with_reducible refine (says_b 125 125 (nb+1) true (HP.out _ HB2.out) ⟨by omega,by omega⟩ rfl (by rw [decide_eq_true HZC.out])).mono ?_);rintro e w3 ⟨rfl,hb,hs⟩;have hs3:w3.heap.size=w.heap.size+1:=hs.trans hs2;have HB3:=Lib.hid (HB2.out.trans (hb.mono HB2.out.size));have HZ3:=Lib.hid ((hb.block w.heap.size (by omega)).trans HZ2.out);have hl3:w.heap.size < w3.heap.size:=(by omega);clear hb hs)
        | ((with_reducible apply store24 (g:=w.heap.size));rfl;(with_reducible rfl);rfl;rfl;(exact HZ3.out);rfl;rfl))
       ((try simp only [Exit.inBlock,Exit.then]);refine bodyPost_ret (v:=_) (results24r Try.results22 _ _ w.heap.size _ (.int .i64 0) (.bool true) (.int .i64 2) ?_ ?_ ?_ ?_ (row24 ?_) ?_) rfl ?_;rfl;rfl;rfl;rfl;(exact HZ3.out);rfl;exact And.intro rfl (Below.setRow (HB3.out) (Nat.le_refl _) _))
      rw [show intervalP 3 l at_=some (.ok (repeatP 3 l (nb+1+1) av (-1))) from by rw [hE,intervalE_three _ _ _ _ hk,close_some (least:=av) (most:=-1) hz (.inl hAl) hdA (by rw [hBl,if_neg (by decide)]),times_ok (fun x=>by omega) (by omega) (by omega)]]
      clear hE HF HZ hdA hz hq hdB HS
      go_enter Try.func22,Try.ntmps22
      go_upto_region 1 with (fail)
      rw [← hW]
      clear hW
      go_wp2_with (first
       | (go_at_call 32;(with_reducible refine (D1.out _ HB0.out).mono ?_);rintro e w' ⟨rfl,rfl⟩)
       | (go_at_call 18;(with_reducible refine (says_b 44 44 (na) true (HP.out _ HB0.out) ⟨by omega,by omega⟩ rfl (by rw [decide_eq_true HC.out])).mono ?_);rintro e w1 ⟨rfl,hb,hs⟩;have hs1:w1.heap.size=w.heap.size+1:=hs.trans hs0;have HB1:=Lib.hid (HB0.out.trans (hb.mono HB0.out.size));have HZ1:=Lib.hid ((hb.block w.heap.size (by omega)).trans HZ0.out);have hl1:w.heap.size < w1.heap.size:=(by omega);clear hb hs)
       | (go_at_call 32;(with_reducible refine (D2.out _ HB1.out).mono ?_);rintro e w' ⟨rfl,rfl⟩)
       | (go_at_call 18;(with_reducible refine (says_b 92 92 (nb) true (HP.out _ HB1.out) ⟨by omega,by omega⟩ rfl (by rw [decide_eq_true HK.out])).mono ?_);rintro e w2 ⟨rfl,hb,hs⟩;have hs2:w2.heap.size=w.heap.size+1:=hs.trans hs1;have HB2:=Lib.hid (HB1.out.trans (hb.mono HB1.out.size));have HZ2:=Lib.hid ((hb.block w.heap.size (by omega)).trans HZ1.out);have hl2:w.heap.size < w2.heap.size:=(by omega);clear hb hs)
       | (go_at_call 18;(with_reducible refine (says_b 125 125 (nb+1) true (HP.out _ HB2.out) ⟨by omega,by omega⟩ rfl (by rw [decide_eq_true HZC.out])).mono ?_);rintro e w3 ⟨rfl,hb,hs⟩;have hs3:w3.heap.size=w.heap.size+1:=hs.trans hs2;have HB3:=Lib.hid (HB2.out.trans (hb.mono HB2.out.size));have HZ3:=Lib.hid ((hb.block w.heap.size (by omega)).trans HZ2.out);have hl3:w.heap.size < w3.heap.size:=(by omega);clear hb hs)
       | (go_at_call 19;(with_reducible refine (repeat19 3 (nb+1+1) av (-1) l A n c w3 (HP'.out _ HB3.out) (by omega) (by omega)).mono ?_);rintro e w4 ⟨he,hb⟩;obtain rfl:=(show e=.returned (.tuple #[.agg #[.int .i64 (repeatP 3 l (nb+1+1) av (-1)).1.kind,.int .i64 (repeatP 3 l (nb+1+1) av (-1)).1.num,.string ⟨(repeatP 3 l (nb+1+1) av (-1)).1.text.toArray⟩,.bool (repeatP 3 l (nb+1+1) av (-1)).1.not_,.int .i64 (repeatP 3 l (nb+1+1) av (-1)).1.least,.int .i64 (repeatP 3 l (nb+1+1) av (-1)).1.most,.int .i64 (repeatP 3 l (nb+1+1) av (-1)).1.way,.int .i64 (repeatP 3 l (nb+1+1) av (-1)).1.fold],.int .i64 (repeatP 3 l (nb+1+1) av (-1)).2]) from he);have HB4:=Lib.hid (HB3.out.trans (hb.mono HB3.out.size));have HZ4:=Lib.hid ((hb.block w.heap.size (by omega)).trans HZ3.out);have hs4:=hb.size;have hl4:w.heap.size < w4.heap.size:=(by omega);clear hb he)
       | ((with_reducible apply store24 (g:=w.heap.size));rfl;(with_reducible rfl);rfl;rfl;(exact hz_alloc HZ4.out);rfl;rfl))
      ((try simp only [Exit.inBlock,Exit.then]);refine bodyPost_ret (v:=_) (results24r Try.results22 _ _ w.heap.size _ (.int .i64 (repeatP 3 l (nb+1+1) av (-1)).2) (.bool true) (.int .i64 0) ?_ ?_ ?_ ?_ (row24 ?_) ?_) rfl ?_;rfl;rfl;rfl;rfl;(exact hz_alloc HZ4.out);rfl;exact And.intro rfl (Below.setRow (HB4.out.alloc (by omega) _) (Nat.le_refl _) _))
     ·have HZC:=Lib.hid hz
      rw [show intervalP 3 l at_=none from by rw [hE,intervalE_three _ _ _ _ hk,close_none hz]]
      clear hE HF HZ hdA hz hq hdB HS
      go_enter Try.func22,Try.ntmps22
      go_upto_region 1 with (fail)
      rw [← hW]
      clear hW
      go_wp2_with (first
       | (go_at_call 32;(with_reducible refine (D1.out _ HB0.out).mono ?_);rintro e w' ⟨rfl,rfl⟩)
       | (go_at_call 18;(with_reducible refine (says_b 44 44 (na) true (HP.out _ HB0.out) ⟨by omega,by omega⟩ rfl (by rw [decide_eq_true HC.out])).mono ?_);rintro e w1 ⟨rfl,hb,hs⟩;have hs1:w1.heap.size=w.heap.size+1:=hs.trans hs0;have HB1:=Lib.hid (HB0.out.trans (hb.mono HB0.out.size));have HZ1:=Lib.hid ((hb.block w.heap.size (by omega)).trans HZ0.out);have hl1:w.heap.size < w1.heap.size:=(by omega);clear hb hs)
       | (go_at_call 32;(with_reducible refine (D2.out _ HB1.out).mono ?_);rintro e w' ⟨rfl,rfl⟩)
       | (go_at_call 18;(with_reducible refine (says_b 92 92 (nb) true (HP.out _ HB1.out) ⟨by omega,by omega⟩ rfl (by rw [decide_eq_true HK.out])).mono ?_);rintro e w2 ⟨rfl,hb,hs⟩;have hs2:w2.heap.size=w.heap.size+1:=hs.trans hs1;have HB2:=Lib.hid (HB1.out.trans (hb.mono HB1.out.size));have HZ2:=Lib.hid ((hb.block w.heap.size (by omega)).trans HZ1.out);have hl2:w.heap.size < w2.heap.size:=(by omega);clear hb hs)
       | (go_at_call 18;(with_reducible refine (says_b 125 125 (nb+1) false (HP.out _ HB2.out) ⟨by omega,by omega⟩ rfl (by rw [decide_eq_false HZC.out])).mono ?_);rintro e w3 ⟨rfl,hb,hs⟩;have hs3:w3.heap.size=w.heap.size+1:=hs.trans hs2;have HB3:=Lib.hid (HB2.out.trans (hb.mono HB2.out.size));have HZ3:=Lib.hid ((hb.block w.heap.size (by omega)).trans HZ2.out);have hl3:w.heap.size < w3.heap.size:=(by omega);clear hb hs)
       | ((with_reducible apply store24 (g:=w.heap.size));rfl;(with_reducible rfl);rfl;rfl;(exact HZ3.out);rfl;rfl))
      ((try simp only [Exit.inBlock,Exit.then]);refine bodyPost_ret (v:=_) (results24r Try.results22 _ _ w.heap.size _ (.int .i64 0) (.bool false) (.int .i64 0) ?_ ?_ ?_ ?_ (row24 ?_) ?_) rfl ?_;rfl;rfl;rfl;rfl;(exact HZ3.out);rfl;exact And.intro rfl (Below.setRow (HB3.out) (Nat.le_refl _) _))
   ·have hfb:decide (at_ < na)=false:=decide_eq_false hf
    have hA0:al.length=0:=Nat.eq_zero_of_not_pos (fun hx=>hf (HF.out.2 (Nat.ne_of_gt hx)))
    by_cases hs:na+1 < nb
    ·have hBl:=HS.out.1 hs
     by_cases hz:ptAt l (nb+1)=125
     ·have HZC:=Lib.hid hz
      have hin:nb+1+1≤n:=hq.out _ (by rw [hz];decide)
      by_cases hm1:100 < bv
      ·rw [show intervalP 3 l at_=some (.error 2) from by rw [hE,intervalE_three _ _ _ _ hk,close_some (least:=0) (most:=bv) hz (.inr hBl) (by rw [hdA];exact HZ.out hA0) (by rw [if_pos (Nat.pos_of_ne_zero hBl)];exact hdB),times_many (fun x=>by omega) (.inr hm1)]]
       clear hE HF HZ hdA hz hq hdB HS
       go_enter Try.func22,Try.ntmps22
       go_upto_region 1 with (fail)
       rw [← hW]
       clear hW
       go_wp2_with (first
        | (go_at_call 32;(with_reducible refine (D1.out _ HB0.out).mono ?_);rintro e w' ⟨rfl,rfl⟩)
        | (go_at_call 18;(with_reducible refine (says_b 44 44 (na) true (HP.out _ HB0.out) ⟨by omega,by omega⟩ rfl (by rw [decide_eq_true HC.out])).mono ?_);rintro e w1 ⟨rfl,hb,hs⟩;have hs1:w1.heap.size=w.heap.size+1:=hs.trans hs0;have HB1:=Lib.hid (HB0.out.trans (hb.mono HB0.out.size));have HZ1:=Lib.hid ((hb.block w.heap.size (by omega)).trans HZ0.out);have hl1:w.heap.size < w1.heap.size:=(by omega);clear hb hs)
        | (go_at_call 32;(with_reducible refine (D2.out _ HB1.out).mono ?_);rintro e w' ⟨rfl,rfl⟩)
        | (go_at_call 18;(with_reducible refine (says_b 92 92 (nb) true (HP.out _ HB1.out) ⟨by omega,by omega⟩ rfl (by rw [decide_eq_true HK.out])).mono ?_);rintro e w2 ⟨rfl,hb,hs⟩;have hs2:w2.heap.size=w.heap.size+1:=hs.trans hs1;have HB2:=Lib.hid (HB1.out.trans (hb.mono HB1.out.size));have HZ2:=Lib.hid ((hb.block w.heap.size (by omega)).trans HZ1.out);have hl2:w.heap.size < w2.heap.size:=(by omega);clear hb hs)
        | (go_at_call 18;(with_reducible refine (says_b 125 125 (nb+1) true (HP.out _ HB2.out) ⟨by omega,by omega⟩ rfl (by rw [decide_eq_true HZC.out])).mono ?_);rintro e w3 ⟨rfl,hb,hs⟩;have hs3:w3.heap.size=w.heap.size+1:=hs.trans hs2;have HB3:=Lib.hid (HB2.out.trans (hb.mono HB2.out.size));have HZ3:=Lib.hid ((hb.block w.heap.size (by omega)).trans HZ2.out);have hl3:w.heap.size < w3.heap.size:=(by omega);clear hb hs)
        | ((with_reducible apply store24 (g:=w.heap.size));rfl;(with_reducible rfl);rfl;rfl;(exact HZ3.out);rfl;rfl))
       ((try simp only [Exit.inBlock,Exit.then]);refine bodyPost_ret (v:=_) (results24r Try.results22 _ _ w.heap.size _ (.int .i64 0) (.bool true) (.int .i64 2) ?_ ?_ ?_ ?_ (row24 ?_) ?_) rfl ?_;rfl;rfl;rfl;rfl;(exact HZ3.out);rfl;exact And.intro rfl (Below.setRow (HB3.out) (Nat.le_refl _) _))
      rw [show intervalP 3 l at_=some (.ok (repeatP 3 l (nb+1+1) 0 (bv))) from by rw [hE,intervalE_three _ _ _ _ hk,close_some (least:=0) (most:=bv) hz (.inr hBl) (by rw [hdA];exact HZ.out hA0) (by rw [if_pos (Nat.pos_of_ne_zero hBl)];exact hdB),times_ok (fun x=>by omega) (by omega) (by omega)]]
      clear hE HF HZ hdA hz hq hdB HS
      go_enter Try.func22,Try.ntmps22
      go_upto_region 1 with (fail)
      rw [← hW]
      clear hW
      go_wp2_with (first
       | (go_at_call 32;(with_reducible refine (D1.out _ HB0.out).mono ?_);rintro e w' ⟨rfl,rfl⟩)
       | (go_at_call 18;(with_reducible refine (says_b 44 44 (na) true (HP.out _ HB0.out) ⟨by omega,by omega⟩ rfl (by rw [decide_eq_true HC.out])).mono ?_);rintro e w1 ⟨rfl,hb,hs⟩;have hs1:w1.heap.size=w.heap.size+1:=hs.trans hs0;have HB1:=Lib.hid (HB0.out.trans (hb.mono HB0.out.size));have HZ1:=Lib.hid ((hb.block w.heap.size (by omega)).trans HZ0.out);have hl1:w.heap.size < w1.heap.size:=(by omega);clear hb hs)
       | (go_at_call 32;(with_reducible refine (D2.out _ HB1.out).mono ?_);rintro e w' ⟨rfl,rfl⟩)
       | (go_at_call 18;(with_reducible refine (says_b 92 92 (nb) true (HP.out _ HB1.out) ⟨by omega,by omega⟩ rfl (by rw [decide_eq_true HK.out])).mono ?_);rintro e w2 ⟨rfl,hb,hs⟩;have hs2:w2.heap.size=w.heap.size+1:=hs.trans hs1;have HB2:=Lib.hid (HB1.out.trans (hb.mono HB1.out.size));have HZ2:=Lib.hid ((hb.block w.heap.size (by omega)).trans HZ1.out);have hl2:w.heap.size < w2.heap.size:=(by omega);clear hb hs)
       | (go_at_call 18;(with_reducible refine (says_b 125 125 (nb+1) true (HP.out _ HB2.out) ⟨by omega,by omega⟩ rfl (by rw [decide_eq_true HZC.out])).mono ?_);rintro e w3 ⟨rfl,hb,hs⟩;have hs3:w3.heap.size=w.heap.size+1:=hs.trans hs2;have HB3:=Lib.hid (HB2.out.trans (hb.mono HB2.out.size));have HZ3:=Lib.hid ((hb.block w.heap.size (by omega)).trans HZ2.out);have hl3:w.heap.size < w3.heap.size:=(by omega);clear hb hs)
       | (go_at_call 19;(with_reducible refine (repeat19 3 (nb+1+1) 0 (bv) l A n c w3 (HP'.out _ HB3.out) (by omega) (by omega)).mono ?_);rintro e w4 ⟨he,hb⟩;obtain rfl:=(show e=.returned (.tuple #[.agg #[.int .i64 (repeatP 3 l (nb+1+1) 0 (bv)).1.kind,.int .i64 (repeatP 3 l (nb+1+1) 0 (bv)).1.num,.string ⟨(repeatP 3 l (nb+1+1) 0 (bv)).1.text.toArray⟩,.bool (repeatP 3 l (nb+1+1) 0 (bv)).1.not_,.int .i64 (repeatP 3 l (nb+1+1) 0 (bv)).1.least,.int .i64 (repeatP 3 l (nb+1+1) 0 (bv)).1.most,.int .i64 (repeatP 3 l (nb+1+1) 0 (bv)).1.way,.int .i64 (repeatP 3 l (nb+1+1) 0 (bv)).1.fold],.int .i64 (repeatP 3 l (nb+1+1) 0 (bv)).2]) from he);have HB4:=Lib.hid (HB3.out.trans (hb.mono HB3.out.size));have HZ4:=Lib.hid ((hb.block w.heap.size (by omega)).trans HZ3.out);have hs4:=hb.size;have hl4:w.heap.size < w4.heap.size:=(by omega);clear hb he)
       | ((with_reducible apply store24 (g:=w.heap.size));rfl;(with_reducible rfl);rfl;rfl;(exact hz_alloc HZ4.out);rfl;rfl))
      ((try simp only [Exit.inBlock,Exit.then]);refine bodyPost_ret (v:=_) (results24r Try.results22 _ _ w.heap.size _ (.int .i64 (repeatP 3 l (nb+1+1) 0 (bv)).2) (.bool true) (.int .i64 0) ?_ ?_ ?_ ?_ (row24 ?_) ?_) rfl ?_;rfl;rfl;rfl;rfl;(exact hz_alloc HZ4.out);rfl;exact And.intro rfl (Below.setRow (HB4.out.alloc (by omega) _) (Nat.le_refl _) _))
     ·have HZC:=Lib.hid hz
      rw [show intervalP 3 l at_=none from by rw [hE,intervalE_three _ _ _ _ hk,close_none hz]]
      clear hE HF HZ hdA hz hq hdB HS
      go_enter Try.func22,Try.ntmps22
      go_upto_region 1 with (fail)
      rw [← hW]
      clear hW
      go_wp2_with (first
       | (go_at_call 32;(with_reducible refine (D1.out _ HB0.out).mono ?_);rintro e w' ⟨rfl,rfl⟩)
       | (go_at_call 18;(with_reducible refine (says_b 44 44 (na) true (HP.out _ HB0.out) ⟨by omega,by omega⟩ rfl (by rw [decide_eq_true HC.out])).mono ?_);rintro e w1 ⟨rfl,hb,hs⟩;have hs1:w1.heap.size=w.heap.size+1:=hs.trans hs0;have HB1:=Lib.hid (HB0.out.trans (hb.mono HB0.out.size));have HZ1:=Lib.hid ((hb.block w.heap.size (by omega)).trans HZ0.out);have hl1:w.heap.size < w1.heap.size:=(by omega);clear hb hs)
       | (go_at_call 32;(with_reducible refine (D2.out _ HB1.out).mono ?_);rintro e w' ⟨rfl,rfl⟩)
       | (go_at_call 18;(with_reducible refine (says_b 92 92 (nb) true (HP.out _ HB1.out) ⟨by omega,by omega⟩ rfl (by rw [decide_eq_true HK.out])).mono ?_);rintro e w2 ⟨rfl,hb,hs⟩;have hs2:w2.heap.size=w.heap.size+1:=hs.trans hs1;have HB2:=Lib.hid (HB1.out.trans (hb.mono HB1.out.size));have HZ2:=Lib.hid ((hb.block w.heap.size (by omega)).trans HZ1.out);have hl2:w.heap.size < w2.heap.size:=(by omega);clear hb hs)
       | (go_at_call 18;(with_reducible refine (says_b 125 125 (nb+1) false (HP.out _ HB2.out) ⟨by omega,by omega⟩ rfl (by rw [decide_eq_false HZC.out])).mono ?_);rintro e w3 ⟨rfl,hb,hs⟩;have hs3:w3.heap.size=w.heap.size+1:=hs.trans hs2;have HB3:=Lib.hid (HB2.out.trans (hb.mono HB2.out.size));have HZ3:=Lib.hid ((hb.block w.heap.size (by omega)).trans HZ2.out);have hl3:w.heap.size < w3.heap.size:=(by omega);clear hb hs)
       | ((with_reducible apply store24 (g:=w.heap.size));rfl;(with_reducible rfl);rfl;rfl;(exact HZ3.out);rfl;rfl))
      ((try simp only [Exit.inBlock,Exit.then]);refine bodyPost_ret (v:=_) (results24r Try.results22 _ _ w.heap.size _ (.int .i64 0) (.bool false) (.int .i64 0) ?_ ?_ ?_ ?_ (row24 ?_) ?_) rfl ?_;rfl;rfl;rfl;rfl;(exact HZ3.out);rfl;exact And.intro rfl (Below.setRow (HB3.out) (Nat.le_refl _) _))
    ·have hsb:decide (na+1 < nb)=false:=decide_eq_false hs
     have hB0:bl.length=0:=Nat.eq_zero_of_not_pos (fun hx=>hs (HS.out.2 (Nat.ne_of_gt hx)))
     rw [show intervalP 3 l at_=none from by rw [hE,intervalE_three _ _ _ _ hk,close_empty hA0 hB0]]
     clear hE HF HZ hdA hA0 hq hdB HS hB0
     go_enter Try.func22,Try.ntmps22
     go_upto_region 1 with (fail)
     rw [← hW]
     clear hW
     go_wp2_with (first
      | (go_at_call 32;(with_reducible refine (D1.out _ HB0.out).mono ?_);rintro e w' ⟨rfl,rfl⟩)
      | (go_at_call 18;(with_reducible refine (says_b 44 44 (na) true (HP.out _ HB0.out) ⟨by omega,by omega⟩ rfl (by rw [decide_eq_true HC.out])).mono ?_);rintro e w1 ⟨rfl,hb,hs⟩;have hs1:w1.heap.size=w.heap.size+1:=hs.trans hs0;have HB1:=Lib.hid (HB0.out.trans (hb.mono HB0.out.size));have HZ1:=Lib.hid ((hb.block w.heap.size (by omega)).trans HZ0.out);have hl1:w.heap.size < w1.heap.size:=(by omega);clear hb hs)
      | (go_at_call 32;(with_reducible refine (D2.out _ HB1.out).mono ?_);rintro e w' ⟨rfl,rfl⟩)
      | (go_at_call 18;(with_reducible refine (says_b 92 92 (nb) true (HP.out _ HB1.out) ⟨by omega,by omega⟩ rfl (by rw [decide_eq_true HK.out])).mono ?_);rintro e w2 ⟨rfl,hb,hs⟩;have hs2:w2.heap.size=w.heap.size+1:=hs.trans hs1;have HB2:=Lib.hid (HB1.out.trans (hb.mono HB1.out.size));have HZ2:=Lib.hid ((hb.block w.heap.size (by omega)).trans HZ1.out);have hl2:w.heap.size < w2.heap.size:=(by omega);clear hb hs)
      | ((with_reducible apply store24 (g:=w.heap.size));rfl;(with_reducible rfl);rfl;rfl;(exact HZ2.out);rfl;rfl))
     ((try simp only [Exit.inBlock,Exit.then]);refine bodyPost_ret (v:=_) (results24r Try.results22 _ _ w.heap.size _ (.int .i64 0) (.bool false) (.int .i64 0) ?_ ?_ ?_ ?_ (row24 ?_) ?_) rfl ?_;rfl;rfl;rfl;rfl;(exact HZ2.out);rfl;exact And.intro rfl (Below.setRow (HB2.out) (Nat.le_refl _) _))
  ·have HK:=Lib.hid hk
   rw [show intervalP 3 l at_=none from by rw [hE,intervalE_slash _ _ _ _ hk]]
   clear hE HF HZ hdA hk hq hdB HS
   go_enter Try.func22,Try.ntmps22
   go_upto_region 1 with (fail)
   rw [← hW]
   clear hW
   go_wp2_with (first
    | (go_at_call 32;(with_reducible refine (D1.out _ HB0.out).mono ?_);rintro e w' ⟨rfl,rfl⟩)
    | (go_at_call 18;(with_reducible refine (says_b 44 44 (na) true (HP.out _ HB0.out) ⟨by omega,by omega⟩ rfl (by rw [decide_eq_true HC.out])).mono ?_);rintro e w1 ⟨rfl,hb,hs⟩;have hs1:w1.heap.size=w.heap.size+1:=hs.trans hs0;have HB1:=Lib.hid (HB0.out.trans (hb.mono HB0.out.size));have HZ1:=Lib.hid ((hb.block w.heap.size (by omega)).trans HZ0.out);have hl1:w.heap.size < w1.heap.size:=(by omega);clear hb hs)
    | (go_at_call 32;(with_reducible refine (D2.out _ HB1.out).mono ?_);rintro e w' ⟨rfl,rfl⟩)
    | (go_at_call 18;(with_reducible refine (says_b 92 92 (nb) false (HP.out _ HB1.out) ⟨by omega,by omega⟩ rfl (by rw [decide_eq_false HK.out])).mono ?_);rintro e w2 ⟨rfl,hb,hs⟩;have hs2:w2.heap.size=w.heap.size+1:=hs.trans hs1;have HB2:=Lib.hid (HB1.out.trans (hb.mono HB1.out.size));have HZ2:=Lib.hid ((hb.block w.heap.size (by omega)).trans HZ1.out);have hl2:w.heap.size < w2.heap.size:=(by omega);clear hb hs)
    | ((with_reducible apply store24 (g:=w.heap.size));rfl;(with_reducible rfl);rfl;rfl;(exact HZ2.out);rfl;rfl))
   ((try simp only [Exit.inBlock,Exit.then]);refine bodyPost_ret (v:=_) (results24r Try.results22 _ _ w.heap.size _ (.int .i64 0) (.bool false) (.int .i64 0) ?_ ?_ ?_ ?_ (row24 ?_) ?_) rfl ?_;rfl;rfl;rfl;rfl;(exact HZ2.out);rfl;exact And.intro rfl (Below.setRow (HB2.out) (Nat.le_refl _) _))
 ·have hdb:(d == 3)=false:=by simpa using hd
  by_cases hf:at_ < na
  ·have hAl:=HF.out.1 hf
   by_cases hs:na+1 < nb
   ·have hBl:=HS.out.1 hs
    by_cases hz:ptAt l (nb)=125
    ·have HZC:=Lib.hid hz
     have hin:nb+1≤n:=hq.out _ (by rw [hz];decide)
     by_cases hr:bv < av
     ·rw [show intervalP d l at_=some (.error 3) from by rw [hE,intervalE_two hd,close_some (least:=av) (most:=bv) hz (.inl hAl) hdA (by rw [if_pos (Nat.pos_of_ne_zero hBl)];exact hdB),times_range hb0 hr]]
      clear hE HF HZ hdA hz hq hdB HS
      go_enter Try.func22,Try.ntmps22
      go_upto_region 1 with (fail)
      rw [← hW]
      clear hW
      go_wp2_with (first
       | (go_at_call 32;(with_reducible refine (D1.out _ HB0.out).mono ?_);rintro e w' ⟨rfl,rfl⟩)
       | (go_at_call 18;(with_reducible refine (says_b 44 44 (na) true (HP.out _ HB0.out) ⟨by omega,by omega⟩ rfl (by rw [decide_eq_true HC.out])).mono ?_);rintro e w1 ⟨rfl,hb,hs⟩;have hs1:w1.heap.size=w.heap.size+1:=hs.trans hs0;have HB1:=Lib.hid (HB0.out.trans (hb.mono HB0.out.size));have HZ1:=Lib.hid ((hb.block w.heap.size (by omega)).trans HZ0.out);have hl1:w.heap.size < w1.heap.size:=(by omega);clear hb hs)
       | (go_at_call 32;(with_reducible refine (D2.out _ HB1.out).mono ?_);rintro e w' ⟨rfl,rfl⟩)
       | (go_at_call 18;(with_reducible refine (says_b 125 125 (nb) true (HP.out _ HB1.out) ⟨by omega,by omega⟩ rfl (by rw [decide_eq_true HZC.out])).mono ?_);rintro e w2 ⟨rfl,hb,hs⟩;have hs2:w2.heap.size=w.heap.size+1:=hs.trans hs1;have HB2:=Lib.hid (HB1.out.trans (hb.mono HB1.out.size));have HZ2:=Lib.hid ((hb.block w.heap.size (by omega)).trans HZ1.out);have hl2:w.heap.size < w2.heap.size:=(by omega);clear hb hs)
       | ((with_reducible apply store24 (g:=w.heap.size));rfl;(with_reducible rfl);rfl;rfl;(exact HZ2.out);rfl;rfl))
      ((try simp only [Exit.inBlock,Exit.then]);refine bodyPost_ret (v:=_) (results24r Try.results22 _ _ w.heap.size _ (.int .i64 0) (.bool true) (.int .i64 3) ?_ ?_ ?_ ?_ (row24 ?_) ?_) rfl ?_;rfl;rfl;rfl;rfl;(exact HZ2.out);rfl;exact And.intro rfl (Below.setRow (HB2.out) (Nat.le_refl _) _))
     have hr2:¬ bv < av:=hr
     by_cases hm1:100 < av
     ·rw [show intervalP d l at_=some (.error 2) from by rw [hE,intervalE_two hd,close_some (least:=av) (most:=bv) hz (.inl hAl) hdA (by rw [if_pos (Nat.pos_of_ne_zero hBl)];exact hdB),times_many (fun x=>hr x.2) (.inl hm1)]]
      clear hE HF HZ hdA hz hq hdB HS
      go_enter Try.func22,Try.ntmps22
      go_upto_region 1 with (fail)
      rw [← hW]
      clear hW
      go_wp2_with (first
       | (go_at_call 32;(with_reducible refine (D1.out _ HB0.out).mono ?_);rintro e w' ⟨rfl,rfl⟩)
       | (go_at_call 18;(with_reducible refine (says_b 44 44 (na) true (HP.out _ HB0.out) ⟨by omega,by omega⟩ rfl (by rw [decide_eq_true HC.out])).mono ?_);rintro e w1 ⟨rfl,hb,hs⟩;have hs1:w1.heap.size=w.heap.size+1:=hs.trans hs0;have HB1:=Lib.hid (HB0.out.trans (hb.mono HB0.out.size));have HZ1:=Lib.hid ((hb.block w.heap.size (by omega)).trans HZ0.out);have hl1:w.heap.size < w1.heap.size:=(by omega);clear hb hs)
       | (go_at_call 32;(with_reducible refine (D2.out _ HB1.out).mono ?_);rintro e w' ⟨rfl,rfl⟩)
       | (go_at_call 18;(with_reducible refine (says_b 125 125 (nb) true (HP.out _ HB1.out) ⟨by omega,by omega⟩ rfl (by rw [decide_eq_true HZC.out])).mono ?_);rintro e w2 ⟨rfl,hb,hs⟩;have hs2:w2.heap.size=w.heap.size+1:=hs.trans hs1;have HB2:=Lib.hid (HB1.out.trans (hb.mono HB1.out.size));have HZ2:=Lib.hid ((hb.block w.heap.size (by omega)).trans HZ1.out);have hl2:w.heap.size < w2.heap.size:=(by omega);clear hb hs)
       | ((with_reducible apply store24 (g:=w.heap.size));rfl;(with_reducible rfl);rfl;rfl;(exact HZ2.out);rfl;rfl))
      ((try simp only [Exit.inBlock,Exit.then]);refine bodyPost_ret (v:=_) (results24r Try.results22 _ _ w.heap.size _ (.int .i64 0) (.bool true) (.int .i64 2) ?_ ?_ ?_ ?_ (row24 ?_) ?_) rfl ?_;rfl;rfl;rfl;rfl;(exact HZ2.out);rfl;exact And.intro rfl (Below.setRow (HB2.out) (Nat.le_refl _) _))
     by_cases hm2:100 < bv
     ·rw [show intervalP d l at_=some (.error 2) from by rw [hE,intervalE_two hd,close_some (least:=av) (most:=bv) hz (.inl hAl) hdA (by rw [if_pos (Nat.pos_of_ne_zero hBl)];exact hdB),times_many (fun x=>hr x.2) (.inr hm2)]]
      clear hE HF HZ hdA hz hq hdB HS
      go_enter Try.func22,Try.ntmps22
      go_upto_region 1 with (fail)
      rw [← hW]
      clear hW
      go_wp2_with (first
       | (go_at_call 32;(with_reducible refine (D1.out _ HB0.out).mono ?_);rintro e w' ⟨rfl,rfl⟩)
       | (go_at_call 18;(with_reducible refine (says_b 44 44 (na) true (HP.out _ HB0.out) ⟨by omega,by omega⟩ rfl (by rw [decide_eq_true HC.out])).mono ?_);rintro e w1 ⟨rfl,hb,hs⟩;have hs1:w1.heap.size=w.heap.size+1:=hs.trans hs0;have HB1:=Lib.hid (HB0.out.trans (hb.mono HB0.out.size));have HZ1:=Lib.hid ((hb.block w.heap.size (by omega)).trans HZ0.out);have hl1:w.heap.size < w1.heap.size:=(by omega);clear hb hs)
       | (go_at_call 32;(with_reducible refine (D2.out _ HB1.out).mono ?_);rintro e w' ⟨rfl,rfl⟩)
       | (go_at_call 18;(with_reducible refine (says_b 125 125 (nb) true (HP.out _ HB1.out) ⟨by omega,by omega⟩ rfl (by rw [decide_eq_true HZC.out])).mono ?_);rintro e w2 ⟨rfl,hb,hs⟩;have hs2:w2.heap.size=w.heap.size+1:=hs.trans hs1;have HB2:=Lib.hid (HB1.out.trans (hb.mono HB1.out.size));have HZ2:=Lib.hid ((hb.block w.heap.size (by omega)).trans HZ1.out);have hl2:w.heap.size < w2.heap.size:=(by omega);clear hb hs)
       | ((with_reducible apply store24 (g:=w.heap.size));rfl;(with_reducible rfl);rfl;rfl;(exact HZ2.out);rfl;rfl))
      ((try simp only [Exit.inBlock,Exit.then]);refine bodyPost_ret (v:=_) (results24r Try.results22 _ _ w.heap.size _ (.int .i64 0) (.bool true) (.int .i64 2) ?_ ?_ ?_ ?_ (row24 ?_) ?_) rfl ?_;rfl;rfl;rfl;rfl;(exact HZ2.out);rfl;exact And.intro rfl (Below.setRow (HB2.out) (Nat.le_refl _) _))
     rw [show intervalP d l at_=some (.ok (repeatP d l (nb+1) av (bv))) from by rw [hE,intervalE_two hd,close_some (least:=av) (most:=bv) hz (.inl hAl) hdA (by rw [if_pos (Nat.pos_of_ne_zero hBl)];exact hdB),times_ok (fun x=>hr x.2) (by omega) (by omega)]]
     clear hE HF HZ hdA hz hq hdB HS
     go_enter Try.func22,Try.ntmps22
     go_upto_region 1 with (fail)
     rw [← hW]
     clear hW
     go_wp2_with (first
      | (go_at_call 32;(with_reducible refine (D1.out _ HB0.out).mono ?_);rintro e w' ⟨rfl,rfl⟩)
      | (go_at_call 18;(with_reducible refine (says_b 44 44 (na) true (HP.out _ HB0.out) ⟨by omega,by omega⟩ rfl (by rw [decide_eq_true HC.out])).mono ?_);rintro e w1 ⟨rfl,hb,hs⟩;have hs1:w1.heap.size=w.heap.size+1:=hs.trans hs0;have HB1:=Lib.hid (HB0.out.trans (hb.mono HB0.out.size));have HZ1:=Lib.hid ((hb.block w.heap.size (by omega)).trans HZ0.out);have hl1:w.heap.size < w1.heap.size:=(by omega);clear hb hs)
      | (go_at_call 32;(with_reducible refine (D2.out _ HB1.out).mono ?_);rintro e w' ⟨rfl,rfl⟩)
      | (go_at_call 18;(with_reducible refine (says_b 125 125 (nb) true (HP.out _ HB1.out) ⟨by omega,by omega⟩ rfl (by rw [decide_eq_true HZC.out])).mono ?_);rintro e w2 ⟨rfl,hb,hs⟩;have hs2:w2.heap.size=w.heap.size+1:=hs.trans hs1;have HB2:=Lib.hid (HB1.out.trans (hb.mono HB1.out.size));have HZ2:=Lib.hid ((hb.block w.heap.size (by omega)).trans HZ1.out);have hl2:w.heap.size < w2.heap.size:=(by omega);clear hb hs)
      | (go_at_call 19;(with_reducible refine (repeat19 d (nb+1) av (bv) l A n c w2 (HP'.out _ HB2.out) (by omega) (by omega)).mono ?_);rintro e w3 ⟨he,hb⟩;obtain rfl:=(show e=.returned (.tuple #[.agg #[.int .i64 (repeatP d l (nb+1) av (bv)).1.kind,.int .i64 (repeatP d l (nb+1) av (bv)).1.num,.string ⟨(repeatP d l (nb+1) av (bv)).1.text.toArray⟩,.bool (repeatP d l (nb+1) av (bv)).1.not_,.int .i64 (repeatP d l (nb+1) av (bv)).1.least,.int .i64 (repeatP d l (nb+1) av (bv)).1.most,.int .i64 (repeatP d l (nb+1) av (bv)).1.way,.int .i64 (repeatP d l (nb+1) av (bv)).1.fold],.int .i64 (repeatP d l (nb+1) av (bv)).2]) from he);have HB3:=Lib.hid (HB2.out.trans (hb.mono HB2.out.size));have HZ3:=Lib.hid ((hb.block w.heap.size (by omega)).trans HZ2.out);have hs3:=hb.size;have hl3:w.heap.size < w3.heap.size:=(by omega);clear hb he)
      | ((with_reducible apply store24 (g:=w.heap.size));rfl;(with_reducible rfl);rfl;rfl;(exact hz_alloc HZ3.out);rfl;rfl))
     ((try simp only [Exit.inBlock,Exit.then]);refine bodyPost_ret (v:=_) (results24r Try.results22 _ _ w.heap.size _ (.int .i64 (repeatP d l (nb+1) av (bv)).2) (.bool true) (.int .i64 0) ?_ ?_ ?_ ?_ (row24 ?_) ?_) rfl ?_;rfl;rfl;rfl;rfl;(exact hz_alloc HZ3.out);rfl;exact And.intro rfl (Below.setRow (HB3.out.alloc (by omega) _) (Nat.le_refl _) _))
    ·have HZC:=Lib.hid hz
     rw [show intervalP d l at_=none from by rw [hE,intervalE_two hd,close_none hz]]
     clear hE HF HZ hdA hz hq hdB HS
     go_enter Try.func22,Try.ntmps22
     go_upto_region 1 with (fail)
     rw [← hW]
     clear hW
     go_wp2_with (first
      | (go_at_call 32;(with_reducible refine (D1.out _ HB0.out).mono ?_);rintro e w' ⟨rfl,rfl⟩)
      | (go_at_call 18;(with_reducible refine (says_b 44 44 (na) true (HP.out _ HB0.out) ⟨by omega,by omega⟩ rfl (by rw [decide_eq_true HC.out])).mono ?_);rintro e w1 ⟨rfl,hb,hs⟩;have hs1:w1.heap.size=w.heap.size+1:=hs.trans hs0;have HB1:=Lib.hid (HB0.out.trans (hb.mono HB0.out.size));have HZ1:=Lib.hid ((hb.block w.heap.size (by omega)).trans HZ0.out);have hl1:w.heap.size < w1.heap.size:=(by omega);clear hb hs)
      | (go_at_call 32;(with_reducible refine (D2.out _ HB1.out).mono ?_);rintro e w' ⟨rfl,rfl⟩)
      | (go_at_call 18;(with_reducible refine (says_b 125 125 (nb) false (HP.out _ HB1.out) ⟨by omega,by omega⟩ rfl (by rw [decide_eq_false HZC.out])).mono ?_);rintro e w2 ⟨rfl,hb,hs⟩;have hs2:w2.heap.size=w.heap.size+1:=hs.trans hs1;have HB2:=Lib.hid (HB1.out.trans (hb.mono HB1.out.size));have HZ2:=Lib.hid ((hb.block w.heap.size (by omega)).trans HZ1.out);have hl2:w.heap.size < w2.heap.size:=(by omega);clear hb hs)
      | ((with_reducible apply store24 (g:=w.heap.size));rfl;(with_reducible rfl);rfl;rfl;(exact HZ2.out);rfl;rfl))
     ((try simp only [Exit.inBlock,Exit.then]);refine bodyPost_ret (v:=_) (results24r Try.results22 _ _ w.heap.size _ (.int .i64 0) (.bool false) (.int .i64 0) ?_ ?_ ?_ ?_ (row24 ?_) ?_) rfl ?_;rfl;rfl;rfl;rfl;(exact HZ2.out);rfl;exact And.intro rfl (Below.setRow (HB2.out) (Nat.le_refl _) _))
   ·have hsb:decide (na+1 < nb)=false:=decide_eq_false hs
    have hBl:bl.length=0:=Nat.eq_zero_of_not_pos (fun hx=>hs (HS.out.2 (Nat.ne_of_gt hx)))
    by_cases hz:ptAt l (nb)=125
    ·have HZC:=Lib.hid hz
     have hin:nb+1≤n:=hq.out _ (by rw [hz];decide)
     by_cases hm1:100 < av
     ·rw [show intervalP d l at_=some (.error 2) from by rw [hE,intervalE_two hd,close_some (least:=av) (most:=-1) hz (.inl hAl) hdA (by rw [hBl,if_neg (by decide)]),times_many (fun x=>by omega) (.inl hm1)]]
      clear hE HF HZ hdA hz hq hdB HS
      go_enter Try.func22,Try.ntmps22
      go_upto_region 1 with (fail)
      rw [← hW]
      clear hW
      go_wp2_with (first
       | (go_at_call 32;(with_reducible refine (D1.out _ HB0.out).mono ?_);rintro e w' ⟨rfl,rfl⟩)
       | (go_at_call 18;(with_reducible refine (says_b 44 44 (na) true (HP.out _ HB0.out) ⟨by omega,by omega⟩ rfl (by rw [decide_eq_true HC.out])).mono ?_);rintro e w1 ⟨rfl,hb,hs⟩;have hs1:w1.heap.size=w.heap.size+1:=hs.trans hs0;have HB1:=Lib.hid (HB0.out.trans (hb.mono HB0.out.size));have HZ1:=Lib.hid ((hb.block w.heap.size (by omega)).trans HZ0.out);have hl1:w.heap.size < w1.heap.size:=(by omega);clear hb hs)
       | (go_at_call 32;(with_reducible refine (D2.out _ HB1.out).mono ?_);rintro e w' ⟨rfl,rfl⟩)
       | (go_at_call 18;(with_reducible refine (says_b 125 125 (nb) true (HP.out _ HB1.out) ⟨by omega,by omega⟩ rfl (by rw [decide_eq_true HZC.out])).mono ?_);rintro e w2 ⟨rfl,hb,hs⟩;have hs2:w2.heap.size=w.heap.size+1:=hs.trans hs1;have HB2:=Lib.hid (HB1.out.trans (hb.mono HB1.out.size));have HZ2:=Lib.hid ((hb.block w.heap.size (by omega)).trans HZ1.out);have hl2:w.heap.size < w2.heap.size:=(by omega);clear hb hs)
       | ((with_reducible apply store24 (g:=w.heap.size));rfl;(with_reducible rfl);rfl;rfl;(exact HZ2.out);rfl;rfl))
      ((try simp only [Exit.inBlock,Exit.then]);refine bodyPost_ret (v:=_) (results24r Try.results22 _ _ w.heap.size _ (.int .i64 0) (.bool true) (.int .i64 2) ?_ ?_ ?_ ?_ (row24 ?_) ?_) rfl ?_;rfl;rfl;rfl;rfl;(exact HZ2.out);rfl;exact And.intro rfl (Below.setRow (HB2.out) (Nat.le_refl _) _))
     rw [show intervalP d l at_=some (.ok (repeatP d l (nb+1) av (-1))) from by rw [hE,intervalE_two hd,close_some (least:=av) (most:=-1) hz (.inl hAl) hdA (by rw [hBl,if_neg (by decide)]),times_ok (fun x=>by omega) (by omega) (by omega)]]
     clear hE HF HZ hdA hz hq hdB HS
     go_enter Try.func22,Try.ntmps22
     go_upto_region 1 with (fail)
     rw [← hW]
     clear hW
     go_wp2_with (first
      | (go_at_call 32;(with_reducible refine (D1.out _ HB0.out).mono ?_);rintro e w' ⟨rfl,rfl⟩)
      | (go_at_call 18;(with_reducible refine (says_b 44 44 (na) true (HP.out _ HB0.out) ⟨by omega,by omega⟩ rfl (by rw [decide_eq_true HC.out])).mono ?_);rintro e w1 ⟨rfl,hb,hs⟩;have hs1:w1.heap.size=w.heap.size+1:=hs.trans hs0;have HB1:=Lib.hid (HB0.out.trans (hb.mono HB0.out.size));have HZ1:=Lib.hid ((hb.block w.heap.size (by omega)).trans HZ0.out);have hl1:w.heap.size < w1.heap.size:=(by omega);clear hb hs)
      | (go_at_call 32;(with_reducible refine (D2.out _ HB1.out).mono ?_);rintro e w' ⟨rfl,rfl⟩)
      | (go_at_call 18;(with_reducible refine (says_b 125 125 (nb) true (HP.out _ HB1.out) ⟨by omega,by omega⟩ rfl (by rw [decide_eq_true HZC.out])).mono ?_);rintro e w2 ⟨rfl,hb,hs⟩;have hs2:w2.heap.size=w.heap.size+1:=hs.trans hs1;have HB2:=Lib.hid (HB1.out.trans (hb.mono HB1.out.size));have HZ2:=Lib.hid ((hb.block w.heap.size (by omega)).trans HZ1.out);have hl2:w.heap.size < w2.heap.size:=(by omega);clear hb hs)
      | (go_at_call 19;(with_reducible refine (repeat19 d (nb+1) av (-1) l A n c w2 (HP'.out _ HB2.out) (by omega) (by omega)).mono ?_);rintro e w3 ⟨he,hb⟩;obtain rfl:=(show e=.returned (.tuple #[.agg #[.int .i64 (repeatP d l (nb+1) av (-1)).1.kind,.int .i64 (repeatP d l (nb+1) av (-1)).1.num,.string ⟨(repeatP d l (nb+1) av (-1)).1.text.toArray⟩,.bool (repeatP d l (nb+1) av (-1)).1.not_,.int .i64 (repeatP d l (nb+1) av (-1)).1.least,.int .i64 (repeatP d l (nb+1) av (-1)).1.most,.int .i64 (repeatP d l (nb+1) av (-1)).1.way,.int .i64 (repeatP d l (nb+1) av (-1)).1.fold],.int .i64 (repeatP d l (nb+1) av (-1)).2]) from he);have HB3:=Lib.hid (HB2.out.trans (hb.mono HB2.out.size));have HZ3:=Lib.hid ((hb.block w.heap.size (by omega)).trans HZ2.out);have hs3:=hb.size;have hl3:w.heap.size < w3.heap.size:=(by omega);clear hb he)
      | ((with_reducible apply store24 (g:=w.heap.size));rfl;(with_reducible rfl);rfl;rfl;(exact hz_alloc HZ3.out);rfl;rfl))
     ((try simp only [Exit.inBlock,Exit.then]);refine bodyPost_ret (v:=_) (results24r Try.results22 _ _ w.heap.size _ (.int .i64 (repeatP d l (nb+1) av (-1)).2) (.bool true) (.int .i64 0) ?_ ?_ ?_ ?_ (row24 ?_) ?_) rfl ?_;rfl;rfl;rfl;rfl;(exact hz_alloc HZ3.out);rfl;exact And.intro rfl (Below.setRow (HB3.out.alloc (by omega) _) (Nat.le_refl _) _))
    ·have HZC:=Lib.hid hz
     rw [show intervalP d l at_=none from by rw [hE,intervalE_two hd,close_none hz]]
     clear hE HF HZ hdA hz hq hdB HS
     go_enter Try.func22,Try.ntmps22
     go_upto_region 1 with (fail)
     rw [← hW]
     clear hW
     go_wp2_with (first
      | (go_at_call 32;(with_reducible refine (D1.out _ HB0.out).mono ?_);rintro e w' ⟨rfl,rfl⟩)
      | (go_at_call 18;(with_reducible refine (says_b 44 44 (na) true (HP.out _ HB0.out) ⟨by omega,by omega⟩ rfl (by rw [decide_eq_true HC.out])).mono ?_);rintro e w1 ⟨rfl,hb,hs⟩;have hs1:w1.heap.size=w.heap.size+1:=hs.trans hs0;have HB1:=Lib.hid (HB0.out.trans (hb.mono HB0.out.size));have HZ1:=Lib.hid ((hb.block w.heap.size (by omega)).trans HZ0.out);have hl1:w.heap.size < w1.heap.size:=(by omega);clear hb hs)
      | (go_at_call 32;(with_reducible refine (D2.out _ HB1.out).mono ?_);rintro e w' ⟨rfl,rfl⟩)
      | (go_at_call 18;(with_reducible refine (says_b 125 125 (nb) false (HP.out _ HB1.out) ⟨by omega,by omega⟩ rfl (by rw [decide_eq_false HZC.out])).mono ?_);rintro e w2 ⟨rfl,hb,hs⟩;have hs2:w2.heap.size=w.heap.size+1:=hs.trans hs1;have HB2:=Lib.hid (HB1.out.trans (hb.mono HB1.out.size));have HZ2:=Lib.hid ((hb.block w.heap.size (by omega)).trans HZ1.out);have hl2:w.heap.size < w2.heap.size:=(by omega);clear hb hs)
      | ((with_reducible apply store24 (g:=w.heap.size));rfl;(with_reducible rfl);rfl;rfl;(exact HZ2.out);rfl;rfl))
     ((try simp only [Exit.inBlock,Exit.then]);refine bodyPost_ret (v:=_) (results24r Try.results22 _ _ w.heap.size _ (.int .i64 0) (.bool false) (.int .i64 0) ?_ ?_ ?_ ?_ (row24 ?_) ?_) rfl ?_;rfl;rfl;rfl;rfl;(exact HZ2.out);rfl;exact And.intro rfl (Below.setRow (HB2.out) (Nat.le_refl _) _))
  ·have hfb:decide (at_ < na)=false:=decide_eq_false hf
   have hA0:al.length=0:=Nat.eq_zero_of_not_pos (fun hx=>hf (HF.out.2 (Nat.ne_of_gt hx)))
   by_cases hs:na+1 < nb
   ·have hBl:=HS.out.1 hs
    by_cases hz:ptAt l (nb)=125
    ·have HZC:=Lib.hid hz
     have hin:nb+1≤n:=hq.out _ (by rw [hz];decide)
     by_cases hm1:100 < bv
     ·rw [show intervalP d l at_=some (.error 2) from by rw [hE,intervalE_two hd,close_some (least:=0) (most:=bv) hz (.inr hBl) (by rw [hdA];exact HZ.out hA0) (by rw [if_pos (Nat.pos_of_ne_zero hBl)];exact hdB),times_many (fun x=>by omega) (.inr hm1)]]
      clear hE HF HZ hdA hz hq hdB HS
      go_enter Try.func22,Try.ntmps22
      go_upto_region 1 with (fail)
      rw [← hW]
      clear hW
      go_wp2_with (first
       | (go_at_call 32;(with_reducible refine (D1.out _ HB0.out).mono ?_);rintro e w' ⟨rfl,rfl⟩)
       | (go_at_call 18;(with_reducible refine (says_b 44 44 (na) true (HP.out _ HB0.out) ⟨by omega,by omega⟩ rfl (by rw [decide_eq_true HC.out])).mono ?_);rintro e w1 ⟨rfl,hb,hs⟩;have hs1:w1.heap.size=w.heap.size+1:=hs.trans hs0;have HB1:=Lib.hid (HB0.out.trans (hb.mono HB0.out.size));have HZ1:=Lib.hid ((hb.block w.heap.size (by omega)).trans HZ0.out);have hl1:w.heap.size < w1.heap.size:=(by omega);clear hb hs)
       | (go_at_call 32;(with_reducible refine (D2.out _ HB1.out).mono ?_);rintro e w' ⟨rfl,rfl⟩)
       | (go_at_call 18;(with_reducible refine (says_b 125 125 (nb) true (HP.out _ HB1.out) ⟨by omega,by omega⟩ rfl (by rw [decide_eq_true HZC.out])).mono ?_);rintro e w2 ⟨rfl,hb,hs⟩;have hs2:w2.heap.size=w.heap.size+1:=hs.trans hs1;have HB2:=Lib.hid (HB1.out.trans (hb.mono HB1.out.size));have HZ2:=Lib.hid ((hb.block w.heap.size (by omega)).trans HZ1.out);have hl2:w.heap.size < w2.heap.size:=(by omega);clear hb hs)
       | ((with_reducible apply store24 (g:=w.heap.size));rfl;(with_reducible rfl);rfl;rfl;(exact HZ2.out);rfl;rfl))
      ((try simp only [Exit.inBlock,Exit.then]);refine bodyPost_ret (v:=_) (results24r Try.results22 _ _ w.heap.size _ (.int .i64 0) (.bool true) (.int .i64 2) ?_ ?_ ?_ ?_ (row24 ?_) ?_) rfl ?_;rfl;rfl;rfl;rfl;(exact HZ2.out);rfl;exact And.intro rfl (Below.setRow (HB2.out) (Nat.le_refl _) _))
     rw [show intervalP d l at_=some (.ok (repeatP d l (nb+1) 0 (bv))) from by rw [hE,intervalE_two hd,close_some (least:=0) (most:=bv) hz (.inr hBl) (by rw [hdA];exact HZ.out hA0) (by rw [if_pos (Nat.pos_of_ne_zero hBl)];exact hdB),times_ok (fun x=>by omega) (by omega) (by omega)]]
     clear hE HF HZ hdA hz hq hdB HS
     go_enter Try.func22,Try.ntmps22
     go_upto_region 1 with (fail)
     rw [← hW]
     clear hW
     go_wp2_with (first
      | (go_at_call 32;(with_reducible refine (D1.out _ HB0.out).mono ?_);rintro e w' ⟨rfl,rfl⟩)
      | (go_at_call 18;(with_reducible refine (says_b 44 44 (na) true (HP.out _ HB0.out) ⟨by omega,by omega⟩ rfl (by rw [decide_eq_true HC.out])).mono ?_);rintro e w1 ⟨rfl,hb,hs⟩;have hs1:w1.heap.size=w.heap.size+1:=hs.trans hs0;have HB1:=Lib.hid (HB0.out.trans (hb.mono HB0.out.size));have HZ1:=Lib.hid ((hb.block w.heap.size (by omega)).trans HZ0.out);have hl1:w.heap.size < w1.heap.size:=(by omega);clear hb hs)
      | (go_at_call 32;(with_reducible refine (D2.out _ HB1.out).mono ?_);rintro e w' ⟨rfl,rfl⟩)
      | (go_at_call 18;(with_reducible refine (says_b 125 125 (nb) true (HP.out _ HB1.out) ⟨by omega,by omega⟩ rfl (by rw [decide_eq_true HZC.out])).mono ?_);rintro e w2 ⟨rfl,hb,hs⟩;have hs2:w2.heap.size=w.heap.size+1:=hs.trans hs1;have HB2:=Lib.hid (HB1.out.trans (hb.mono HB1.out.size));have HZ2:=Lib.hid ((hb.block w.heap.size (by omega)).trans HZ1.out);have hl2:w.heap.size < w2.heap.size:=(by omega);clear hb hs)
      | (go_at_call 19;(with_reducible refine (repeat19 d (nb+1) 0 (bv) l A n c w2 (HP'.out _ HB2.out) (by omega) (by omega)).mono ?_);rintro e w3 ⟨he,hb⟩;obtain rfl:=(show e=.returned (.tuple #[.agg #[.int .i64 (repeatP d l (nb+1) 0 (bv)).1.kind,.int .i64 (repeatP d l (nb+1) 0 (bv)).1.num,.string ⟨(repeatP d l (nb+1) 0 (bv)).1.text.toArray⟩,.bool (repeatP d l (nb+1) 0 (bv)).1.not_,.int .i64 (repeatP d l (nb+1) 0 (bv)).1.least,.int .i64 (repeatP d l (nb+1) 0 (bv)).1.most,.int .i64 (repeatP d l (nb+1) 0 (bv)).1.way,.int .i64 (repeatP d l (nb+1) 0 (bv)).1.fold],.int .i64 (repeatP d l (nb+1) 0 (bv)).2]) from he);have HB3:=Lib.hid (HB2.out.trans (hb.mono HB2.out.size));have HZ3:=Lib.hid ((hb.block w.heap.size (by omega)).trans HZ2.out);have hs3:=hb.size;have hl3:w.heap.size < w3.heap.size:=(by omega);clear hb he)
      | ((with_reducible apply store24 (g:=w.heap.size));rfl;(with_reducible rfl);rfl;rfl;(exact hz_alloc HZ3.out);rfl;rfl))
     ((try simp only [Exit.inBlock,Exit.then]);refine bodyPost_ret (v:=_) (results24r Try.results22 _ _ w.heap.size _ (.int .i64 (repeatP d l (nb+1) 0 (bv)).2) (.bool true) (.int .i64 0) ?_ ?_ ?_ ?_ (row24 ?_) ?_) rfl ?_;rfl;rfl;rfl;rfl;(exact hz_alloc HZ3.out);rfl;exact And.intro rfl (Below.setRow (HB3.out.alloc (by omega) _) (Nat.le_refl _) _))
    ·have HZC:=Lib.hid hz
     rw [show intervalP d l at_=none from by rw [hE,intervalE_two hd,close_none hz]]
     clear hE HF HZ hdA hz hq hdB HS
     go_enter Try.func22,Try.ntmps22
     go_upto_region 1 with (fail)
     rw [← hW]
     clear hW
     go_wp2_with (first
      | (go_at_call 32;(with_reducible refine (D1.out _ HB0.out).mono ?_);rintro e w' ⟨rfl,rfl⟩)
      | (go_at_call 18;(with_reducible refine (says_b 44 44 (na) true (HP.out _ HB0.out) ⟨by omega,by omega⟩ rfl (by rw [decide_eq_true HC.out])).mono ?_);rintro e w1 ⟨rfl,hb,hs⟩;have hs1:w1.heap.size=w.heap.size+1:=hs.trans hs0;have HB1:=Lib.hid (HB0.out.trans (hb.mono HB0.out.size));have HZ1:=Lib.hid ((hb.block w.heap.size (by omega)).trans HZ0.out);have hl1:w.heap.size < w1.heap.size:=(by omega);clear hb hs)
      | (go_at_call 32;(with_reducible refine (D2.out _ HB1.out).mono ?_);rintro e w' ⟨rfl,rfl⟩)
      | (go_at_call 18;(with_reducible refine (says_b 125 125 (nb) false (HP.out _ HB1.out) ⟨by omega,by omega⟩ rfl (by rw [decide_eq_false HZC.out])).mono ?_);rintro e w2 ⟨rfl,hb,hs⟩;have hs2:w2.heap.size=w.heap.size+1:=hs.trans hs1;have HB2:=Lib.hid (HB1.out.trans (hb.mono HB1.out.size));have HZ2:=Lib.hid ((hb.block w.heap.size (by omega)).trans HZ1.out);have hl2:w.heap.size < w2.heap.size:=(by omega);clear hb hs)
      | ((with_reducible apply store24 (g:=w.heap.size));rfl;(with_reducible rfl);rfl;rfl;(exact HZ2.out);rfl;rfl))
     ((try simp only [Exit.inBlock,Exit.then]);refine bodyPost_ret (v:=_) (results24r Try.results22 _ _ w.heap.size _ (.int .i64 0) (.bool false) (.int .i64 0) ?_ ?_ ?_ ?_ (row24 ?_) ?_) rfl ?_;rfl;rfl;rfl;rfl;(exact HZ2.out);rfl;exact And.intro rfl (Below.setRow (HB2.out) (Nat.le_refl _) _))
   ·have hsb:decide (na+1 < nb)=false:=decide_eq_false hs
    have hB0:bl.length=0:=Nat.eq_zero_of_not_pos (fun hx=>hs (HS.out.2 (Nat.ne_of_gt hx)))
    rw [show intervalP d l at_=none from by rw [hE,intervalE_two hd,close_empty hA0 hB0]]
    clear hE HF HZ hdA hA0 hq hdB HS hB0
    go_enter Try.func22,Try.ntmps22
    go_upto_region 1 with (fail)
    rw [← hW]
    clear hW
    go_wp2_with (first
     | (go_at_call 32;(with_reducible refine (D1.out _ HB0.out).mono ?_);rintro e w' ⟨rfl,rfl⟩)
     | (go_at_call 18;(with_reducible refine (says_b 44 44 (na) true (HP.out _ HB0.out) ⟨by omega,by omega⟩ rfl (by rw [decide_eq_true HC.out])).mono ?_);rintro e w1 ⟨rfl,hb,hs⟩;have hs1:w1.heap.size=w.heap.size+1:=hs.trans hs0;have HB1:=Lib.hid (HB0.out.trans (hb.mono HB0.out.size));have HZ1:=Lib.hid ((hb.block w.heap.size (by omega)).trans HZ0.out);have hl1:w.heap.size < w1.heap.size:=(by omega);clear hb hs)
     | (go_at_call 32;(with_reducible refine (D2.out _ HB1.out).mono ?_);rintro e w' ⟨rfl,rfl⟩)
     | ((with_reducible apply store24 (g:=w.heap.size));rfl;(with_reducible rfl);rfl;rfl;(exact HZ1.out);rfl;rfl))
    ((try simp only [Exit.inBlock,Exit.then]);refine bodyPost_ret (v:=_) (results24r Try.results22 _ _ w.heap.size _ (.int .i64 0) (.bool false) (.int .i64 0) ?_ ?_ ?_ ?_ (row24 ?_) ?_) rfl ?_;rfl;rfl;rfl;rfl;(exact HZ1.out);rfl;exact And.intro rfl (Below.setRow (HB1.out) (Nat.le_refl _) _))
theorem interval22 (d at_:Int) (l:List Int) (A:Option Addr) (n c:Nat) (w:World) (h:Pts w.heap.size n c A l w) (h0:0≤at_) (h1:at_≤n) :
  Calls Try.prog 22 #[.int .i64 d,.slice A n c,.int .i64 at_] w fun e w'=>IvOut (intervalP d l at_) e∧Below w.heap.size w w':=by
 by_cases hc:ptAt l (at_+(runLen isDig l at_ 3:Int))=44
 ·exact interval22_comma d at_ l A n c w h h0 h1 hc
 ·exact interval22_plain d at_ l A n c w h h0 h1 hc
end Go.Proofs.Ytmjlmjlkghpknaa
