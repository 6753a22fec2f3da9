/- Interval of the reference: walked, without a comma. -/
import Derived.Test.YtmjlmjlkghpknaaTkAE
import Derived.Test.YtmjlmjlkghpknaaTkAB
import Derived.Test.YtmjlmjlkghpknaaTkMv
set_option linter.unusedVariables false
set_option linter.unusedSimpArgs false
namespace Go.Proofs.Ytmjlmjlkghpknaa
open Go.RowKit
def IvOut:Option TR→Ending→Prop
 | none,e=>e=.returned (.tuple #[({}:Tk).agg,.int .i64 0,.bool false,.int .i64 0])
 | some (.error x),e=>e=.returned (.tuple #[({}:Tk).agg,.int .i64 0,.bool true,.int .i64 x])
 | some (.ok q),e=>e=.returned (.tuple #[q.1.agg,.int .i64 q.2,.bool true,.int .i64 0])
theorem results24r {fn:Func} {p u v z:Tmp} (h:fn.results=#[.cell p 24,.tmp u,.tmp v,.tmp z]) (tmps:Array Value) (w:World) (g:Nat) (cs:Array Value) (x y t:Value) (hp:tmps.getD p undef=.pointer (some ⟨g,0,none⟩)) (hu:tmps.getD u undef=x) (hv:tmps.getD v undef=y) (hz:tmps.getD z undef=t) (hg:w.heap[g]?=some (.cells cs 24 (0,0))) (hs:cs.size=8) :
  (results fn tmps).run Try.prog w=.ok (.tuple #[.agg cs,x,y,t]) w:=by
 have hl:=run_loadVar_row (P:=Try.prog) w g 24 24 cs (0,0) _ hg Try.underlying24 rfl (by rw [hs];exact info24)
 have hp':tmps[p]?.getD undef=.pointer (some ⟨g,0,none⟩):=by simpa using hp
 have hu':tmps[u]?.getD undef=x:=by simpa using hu
 have hv':tmps[v]?.getD undef=y:=by simpa using hv
 have hz':tmps[z]?.getD undef=t:=by simpa using hz
 simp [results,h,hp',hu',hv',hz',asAddr,hl,Sem.run_bind]
/-- behind the numbers: the closing brace's place -/
def closeE (d:Int) (l:List Int) (p:Int) (al bl:List Int):Option TR :=
 if ptAt l p≠125 then none else if al.length+bl.length=0 then none else some (timesP d l (p+1) (decN al) (if 0 < bl.length then decN bl else -1))
theorem intervalE_three (l:List Int) (p:Int) (al bl:List Int) (h:ptAt l p=92):intervalE 3 l p al bl=closeE 3 l (p+1) al bl:=by
 unfold intervalE closeE
 rw [if_pos rfl,if_neg (fun k=>k h)]
theorem intervalE_slash (l:List Int) (p:Int) (al bl:List Int) (h:ptAt l p≠92):intervalE 3 l p al bl=none:=by
 unfold intervalE
 rw [if_pos rfl,if_pos h]
theorem intervalE_two {d:Int} (hd:d≠3) (l:List Int) (p:Int) (al bl:List Int):intervalE d l p al bl=closeE d l p al bl:=by
 unfold intervalE closeE
 rw [if_neg hd]
theorem close_none {d:Int} {l:List Int} {p:Int} {al bl:List Int} (h:ptAt l p≠125):closeE d l p al bl=none:=by unfold closeE;rw [if_pos h]
theorem close_empty {d:Int} {l:List Int} {p:Int} {al bl:List Int} (ha:al.length=0) (hb:bl.length=0):closeE d l p al bl=none:=by
 unfold closeE
 split
 ·rfl
 ·rw [if_pos (by omega)]
theorem close_some {d:Int} {l:List Int} {p least most:Int} {al bl:List Int} (h:ptAt l p=125) (hab:al.length≠0∨bl.length≠0) (hl:decN al=least) (hm:(if 0 < bl.length then decN bl else -1)=most):closeE d l p al bl=some (timesP d l (p+1) least most):=by
 unfold closeE
 rw [if_neg (fun k=>k h),if_neg (by omega),hl,hm]
theorem times_range {d:Int} {l:List Int} {p least most:Int} (h0:0≤most) (h:most < least):timesP d l p least most=.error 3:=by unfold timesP;rw [if_pos ⟨h0,h⟩]
theorem times_many {d:Int} {l:List Int} {p least most:Int} (h:¬ (0≤most∧most < least)) (h1:100 < least∨100 < most):timesP d l p least most=.error 2:=by
 unfold timesP;rw [if_neg h,if_pos (by omega)]
theorem times_ok {d:Int} {l:List Int} {p least most:Int} (h:¬ (0≤most∧most < least)) (h1:least≤100) (h2:most≤100):timesP d l p least most=.ok (repeatP d l p least most):=by
 unfold timesP;rw [if_neg h,if_neg (by omega)]
theorem runPts_len (l:List Int) (p:Int) (k:Nat):(runPts l p k).length=k:=by simp [runPts]
/-- the numbers, without a comma -/
theorem interval_plain {d:Int} {l:List Int} {at_ na av:Int} (hna:na=at_+runLen isDig l at_ 3) (hav:av=decN (runPts l at_ (runLen isDig l at_ 3))) (hc:ptAt l na≠44) :
  ∃ al:List Int,intervalP d l at_=intervalE d l na al al∧decN al=av∧(at_ < na↔al.length≠0)∧(al.length=0→av=0):=by
 refine ⟨runPts l at_ (runLen isDig l at_ 3),?_,hav.symm,?_,?_⟩
 ·have:commaB l at_=false:=by unfold commaB;rw [← hna];exact decide_eq_false hc
  unfold intervalP secondP
  rw [this]
  simp [← hna]
 ·rw [runPts_len];omega
 ·intro h;rw [runPts_len] at h;rw [hav,h];rfl
theorem interval_comma {d:Int} {l:List Int} {at_ na av nb bv:Int} (hna:na=at_+runLen isDig l at_ 3) (hav:av=decN (runPts l at_ (runLen isDig l at_ 3))) (hc:ptAt l na=44)
  (hnb:nb=na+1+runLen isDig l (na+1) 3) (hbv:bv=decN (runPts l (na+1) (runLen isDig l (na+1) 3))) :
  ∃ al bl:List Int,intervalP d l at_=intervalE d l nb al bl∧decN al=av∧decN bl=bv∧(at_ < na↔al.length≠0)∧(na+1 < nb↔bl.length≠0)∧(al.length=0→av=0):=by
 refine ⟨runPts l at_ (runLen isDig l at_ 3),runPts l (na+1) (runLen isDig l (na+1) 3),?_,hav.symm,hbv.symm,?_,?_,?_⟩
 ·have:commaB l at_=true:=by unfold commaB;rw [← hna];exact decide_eq_true hc
  unfold intervalP secondP
  rw [this,← hna]
  simp [← hnb]
 ·rw [runPts_len];omega
 ·rw [runPts_len];omega
 ·intro h;rw [runPts_len] at h;rw [hav,h];rfl
theorem in_pt {l:List Int} {n:Nat} (hl:l.length=n) {p:Int} (h:ptAt l p≠-1):p+1≤n:=by
 rcases pt_or l p with h1|h1
 ·exact absurd h1 h
 ·omega
end Go.Proofs.Ytmjlmjlkghpknaa
namespace Go.Proofs.Ytmjlmjlkghpknaa
open Go.RowKit
set_option maxRecDepth 100000 in
set_option maxHeartbeats 8000000 in
theorem interval22_plain (d at_:Int) (l:List Int) (A:Option Addr) (n c:Nat) (w:World) (h:Pts w.heap.size n c A l w) (h0:0≤at_) (h1:at_≤n) (hc:ptAt l (at_+(runLen isDig l at_ 3:Int))≠44) :
  Calls Try.prog 22 #[.int .i64 d,.slice A n c,.int .i64 at_] w fun e w'=>IvOut (intervalP d l at_) e∧Below w.heap.size w w':=by
 have hsm:=h.small
 have hln:=h.len
 have HP:=Lib.hid (fun w' (hb:Below w.heap.size w w')=>h.next hb)
 have HP':=Lib.hid (fun w' (hb:Below w.heap.size w w')=>Pts.more (h.next hb) hb.size)
 have HB0:=Lib.hid (show Below w.heap.size w (w.alloc (.cells #[.int .i64 0,.int .i64 0,.string ⟨#[]⟩,.bool false,.int .i64 0,.int .i64 0,.int .i64 0,.int .i64 0] 24)) from (Below.refl _ _).alloc (Nat.le_refl _) _)
 have HZ0:=Lib.hid (show (w.alloc (.cells #[.int .i64 0,.int .i64 0,.string ⟨#[]⟩,.bool false,.int .i64 0,.int .i64 0,.int .i64 0,.int .i64 0] 24)).heap[w.heap.size]?=some Z24 from hz_new)
 have hs0:(w.alloc (.cells #[.int .i64 0,.int .i64 0,.string ⟨#[]⟩,.bool false,.int .i64 0,.int .i64 0,.int .i64 0,.int .i64 0] 24)).heap.size=w.heap.size+1:=by simp
 obtain ⟨W,hW⟩:∃ W,W=(w.alloc (.cells #[.int .i64 0,.int .i64 0,.string ⟨#[]⟩,.bool false,.int .i64 0,.int .i64 0,.int .i64 0,.int .i64 0] 24)):=⟨_,rfl⟩
 rw [← hW] at HB0 HZ0 hs0
 obtain ⟨na,hna⟩:∃ x,x=at_+(runLen isDig l at_ 3:Int):=⟨_,rfl⟩
 obtain ⟨av,hav⟩:∃ x,x=decN (runPts l at_ (runLen isDig l at_ 3)):=⟨_,rfl⟩
 have hnl:=dig_le l 3 at_ (by omega)
 have havd:=runPts_dec l at_ 3 _ (Nat.le_refl _) (Nat.le_refl _)
 have D1:=Lib.hid (fun w' (hb:Below w.heap.size w w')=>(show Calls Try.prog 32 #[.slice A n c,.int .i64 at_,.int .i64 3] w' (fun e w''=>e=.returned (.tuple #[.int .i64 (decN (runPts l at_ (runLen isDig l at_ 3))),.int .i64 (at_+(runLen isDig l at_ 3:Int))])∧w'=w'') from digits32 l at_ 3 A n c _ w' (by unfold maxLen;omega) (Nat.le_refl _) h0 (by omega) (h.next hb).row))
 rw [← hav] at havd
 rw [← hna] at hnl
 rw [← hna,← hav] at D1
 have hnn:at_≤na:=by omega
 rw [hln] at hnl
 obtain ⟨ha0,ha9⟩:=havd
 rw [← hna] at hc
 have HC:=Lib.hid hc
 obtain ⟨al,hE,hdA,hF,ha00⟩:=interval_plain (d:=d) hna hav hc
 have HF:=Lib.hid hF
 have HZ:=Lib.hid ha00
 have hq:=Lib.hid (fun p=>in_pt hln (p:=p))
 clear hna hav hc hln h hF ha00
 by_cases hd:d=3
 ·have hd3:=hd
  subst hd3
  clear hd
  by_cases hk:ptAt l na=92
  ·have HK:=Lib.hid hk
   by_cases hf:at_ < na
   ·have hAl:=HF.out.1 hf
    by_cases hz:ptAt l (na+1)=125
    ·have HZC:=Lib.hid hz
     have hin:na+1+1≤n:=hq.out _ (by rw [hz];decide)
     by_cases hm1:100 < av
     ·rw [show intervalP 3 l at_=some (.error 2) from by rw [hE,intervalE_three _ _ _ _ hk,close_some (least:=av) (most:=av) hz (.inl hAl) hdA (by rw [if_pos (Nat.pos_of_ne_zero hAl)];exact hdA),times_many (fun x=>by omega) (.inl hm1)]]
      clear hE HF HZ hdA hz hq
      go_enter Try.func22,Try.ntmps22
      go_upto_region 1 with (fail)
      rw [← hW]
      clear hW
      go_wp2_with (first
       | (go_at_call 32;(with_reducible refine (D1.out _ HB0.out).mono ?_);rintro e w' ⟨rfl,rfl⟩)
       | (go_at_call 18;(with_reducible refine (says_b 44 44 (na) false (HP.out _ HB0.out) ⟨by omega,by omega⟩ rfl (by rw [decide_eq_false HC.out])).mono ?_);rintro e w1 ⟨rfl,hb,hs⟩;have hs1:w1.heap.size=w.heap.size+1:=hs.trans hs0;have HB1:=Lib.hid (HB0.out.trans (hb.mono HB0.out.size));have HZ1:=Lib.hid ((hb.block w.heap.size (by omega)).trans HZ0.out);have hl1:w.heap.size < w1.heap.size:=(by omega);clear hb hs)
       | (go_at_call 18;(with_reducible refine (says_b 92 92 (na) true (HP.out _ HB1.out) ⟨by omega,by omega⟩ rfl (by rw [decide_eq_true HK.out])).mono ?_);rintro e w2 ⟨rfl,hb,hs⟩;have hs2:w2.heap.size=w.heap.size+1:=hs.trans hs1;have HB2:=Lib.hid (HB1.out.trans (hb.mono HB1.out.size));have HZ2:=Lib.hid ((hb.block w.heap.size (by omega)).trans HZ1.out);have hl2:w.heap.size < w2.heap.size:=(by omega);clear hb hs)
       | (go_at_call 18;(with_reducible refine (says_b 125 125 (na+1) true (HP.out _ HB2.out) ⟨by omega,by omega⟩ rfl (by rw [decide_eq_true HZC.out])).mono ?_);rintro e w3 ⟨rfl,hb,hs⟩;have hs3:w3.heap.size=w.heap.size+1:=hs.trans hs2;have HB3:=Lib.hid (HB2.out.trans (hb.mono HB2.out.size));have HZ3:=Lib.hid ((hb.block w.heap.size (by omega)).trans HZ2.out);have hl3:w.heap.size < w3.heap.size:=(by omega);clear hb hs)
       | ((with_reducible apply store24 (g:=w.heap.size));rfl;(with_reducible rfl);rfl;rfl;(exact HZ3.out);rfl;rfl))
      ((try simp only [Exit.inBlock,Exit.then]);refine bodyPost_ret (v:=_) (results24r Try.results22 _ _ w.heap.size _ (.int .i64 0) (.bool true) (.int .i64 2) ?_ ?_ ?_ ?_ (row24 ?_) ?_) rfl ?_;rfl;rfl;rfl;rfl;(exact HZ3.out);rfl;exact And.intro rfl (Below.setRow (HB3.out) (Nat.le_refl _) _))
     rw [show intervalP 3 l at_=some (.ok (repeatP 3 l (na+1+1) av (av))) from by rw [hE,intervalE_three _ _ _ _ hk,close_some (least:=av) (most:=av) hz (.inl hAl) hdA (by rw [if_pos (Nat.pos_of_ne_zero hAl)];exact hdA),times_ok (fun x=>by omega) (by omega) (by omega)]]
     clear hE HF HZ hdA hz hq
     go_enter Try.func22,Try.ntmps22
     go_upto_region 1 with (fail)
     rw [← hW]
     clear hW
     go_wp2_with (first
      | (go_at_call 32;(with_reducible refine (D1.out _ HB0.out).mono ?_);rintro e w' ⟨rfl,rfl⟩)
      | (go_at_call 18;(with_reducible refine (says_b 44 44 (na) false (HP.out _ HB0.out) ⟨by omega,by omega⟩ rfl (by rw [decide_eq_false HC.out])).mono ?_);rintro e w1 ⟨rfl,hb,hs⟩;have hs1:w1.heap.size=w.heap.size+1:=hs.trans hs0;have HB1:=Lib.hid (HB0.out.trans (hb.mono HB0.out.size));have HZ1:=Lib.hid ((hb.block w.heap.size (by omega)).trans HZ0.out);have hl1:w.heap.size < w1.heap.size:=(by omega);clear hb hs)
      | (go_at_call 18;(with_reducible refine (says_b 92 92 (na) true (HP.out _ HB1.out) ⟨by omega,by omega⟩ rfl (by rw [decide_eq_true HK.out])).mono ?_);rintro e w2 ⟨rfl,hb,hs⟩;have hs2:w2.heap.size=w.heap.size+1:=hs.trans hs1;have HB2:=Lib.hid (HB1.out.trans (hb.mono HB1.out.size));have HZ2:=Lib.hid ((hb.block w.heap.size (by omega)).trans HZ1.out);have hl2:w.heap.size < w2.heap.size:=(by omega);clear hb hs)
      | (go_at_call 18;(with_reducible refine (says_b 125 125 (na+1) true (HP.out _ HB2.out) ⟨by omega,by omega⟩ rfl (by rw [decide_eq_true HZC.out])).mono ?_);rintro e w3 ⟨rfl,hb,hs⟩;have hs3:w3.heap.size=w.heap.size+1:=hs.trans hs2;have HB3:=Lib.hid (HB2.out.trans (hb.mono HB2.out.size));have HZ3:=Lib.hid ((hb.block w.heap.size (by omega)).trans HZ2.out);have hl3:w.heap.size < w3.heap.size:=(by omega);clear hb hs)
      | (go_at_call 19;(with_reducible refine (repeat19 3 (na+1+1) av (av) l A n c w3 (HP'.out _ HB3.out) (by omega) (by omega)).mono ?_);rintro e w4 ⟨he,hb⟩;obtain rfl:=(show e=.returned (.tuple #[.agg #[.int .i64 (repeatP 3 l (na+1+1) av (av)).1.kind,.int .i64 (repeatP 3 l (na+1+1) av (av)).1.num,.string ⟨(repeatP 3 l (na+1+1) av (av)).1.text.toArray⟩,.bool (repeatP 3 l (na+1+1) av (av)).1.not_,.int .i64 (repeatP 3 l (na+1+1) av (av)).1.least,.int .i64 (repeatP 3 l (na+1+1) av (av)).1.most,.int .i64 (repeatP 3 l (na+1+1) av (av)).1.way,.int .i64 (repeatP 3 l (na+1+1) av (av)).1.fold],.int .i64 (repeatP 3 l (na+1+1) av (av)).2]) from he);have HB4:=Lib.hid (HB3.out.trans (hb.mono HB3.out.size));have HZ4:=Lib.hid ((hb.block w.heap.size (by omega)).trans HZ3.out);have hs4:=hb.size;have hl4:w.heap.size < w4.heap.size:=(by omega);clear hb he)
      | ((with_reducible apply store24 (g:=w.heap.size));rfl;(with_reducible rfl);rfl;rfl;(exact hz_alloc HZ4.out);rfl;rfl))
     ((try simp only [Exit.inBlock,Exit.then]);refine bodyPost_ret (v:=_) (results24r Try.results22 _ _ w.heap.size _ (.int .i64 (repeatP 3 l (na+1+1) av (av)).2) (.bool true) (.int .i64 0) ?_ ?_ ?_ ?_ (row24 ?_) ?_) rfl ?_;rfl;rfl;rfl;rfl;(exact hz_alloc HZ4.out);rfl;exact And.intro rfl (Below.setRow (HB4.out.alloc (by omega) _) (Nat.le_refl _) _))
    ·have HZC:=Lib.hid hz
     rw [show intervalP 3 l at_=none from by rw [hE,intervalE_three _ _ _ _ hk,close_none hz]]
     clear hE HF HZ hdA hz hq
     go_enter Try.func22,Try.ntmps22
     go_upto_region 1 with (fail)
     rw [← hW]
     clear hW
     go_wp2_with (first
      | (go_at_call 32;(with_reducible refine (D1.out _ HB0.out).mono ?_);rintro e w' ⟨rfl,rfl⟩)
      | (go_at_call 18;(with_reducible refine (says_b 44 44 (na) false (HP.out _ HB0.out) ⟨by omega,by omega⟩ rfl (by rw [decide_eq_false HC.out])).mono ?_);rintro e w1 ⟨rfl,hb,hs⟩;have hs1:w1.heap.size=w.heap.size+1:=hs.trans hs0;have HB1:=Lib.hid (HB0.out.trans (hb.mono HB0.out.size));have HZ1:=Lib.hid ((hb.block w.heap.size (by omega)).trans HZ0.out);have hl1:w.heap.size < w1.heap.size:=(by omega);clear hb hs)
      | (go_at_call 18;(with_reducible refine (says_b 92 92 (na) true (HP.out _ HB1.out) ⟨by omega,by omega⟩ rfl (by rw [decide_eq_true HK.out])).mono ?_);rintro e w2 ⟨rfl,hb,hs⟩;have hs2:w2.heap.size=w.heap.size+1:=hs.trans hs1;have HB2:=Lib.hid (HB1.out.trans (hb.mono HB1.out.size));have HZ2:=Lib.hid ((hb.block w.heap.size (by omega)).trans HZ1.out);have hl2:w.heap.size < w2.heap.size:=(by omega);clear hb hs)
      | (go_at_call 18;(with_reducible refine (says_b 125 125 (na+1) false (HP.out _ HB2.out) ⟨by omega,by omega⟩ rfl (by rw [decide_eq_false HZC.out])).mono ?_);rintro e w3 ⟨rfl,hb,hs⟩;have hs3:w3.heap.size=w.heap.size+1:=hs.trans hs2;have HB3:=Lib.hid (HB2.out.trans (hb.mono HB2.out.size));have HZ3:=Lib.hid ((hb.block w.heap.size (by omega)).trans HZ2.out);have hl3:w.heap.size < w3.heap.size:=(by omega);clear hb hs)
      | ((with_reducible apply store24 (g:=w.heap.size));rfl;(with_reducible rfl);rfl;rfl;(exact HZ3.out);rfl;rfl))
     ((try simp only [Exit.inBlock,Exit.then]);refine bodyPost_ret (v:=_) (results24r Try.results22 _ _ w.heap.size _ (.int .i64 0) (.bool false) (.int .i64 0) ?_ ?_ ?_ ?_ (row24 ?_) ?_) rfl ?_;rfl;rfl;rfl;rfl;(exact HZ3.out);rfl;exact And.intro rfl (Below.setRow (HB3.out) (Nat.le_refl _) _))
   ·have hfb:decide (at_ < na)=false:=decide_eq_false hf
    have hA0:al.length=0:=Nat.eq_zero_of_not_pos (fun hx=>hf (HF.out.2 (Nat.ne_of_gt hx)))
    rw [show intervalP 3 l at_=none from by rw [hE,intervalE_three _ _ _ _ hk,close_empty hA0 hA0]]
    clear hE HF HZ hdA hA0 hq
    go_enter Try.func22,Try.ntmps22
    go_upto_region 1 with (fail)
    rw [← hW]
    clear hW
    go_wp2_with (first
     | (go_at_call 32;(with_reducible refine (D1.out _ HB0.out).mono ?_);rintro e w' ⟨rfl,rfl⟩)
     | (go_at_call 18;(with_reducible refine (says_b 44 44 (na) false (HP.out _ HB0.out) ⟨by omega,by omega⟩ rfl (by rw [decide_eq_false HC.out])).mono ?_);rintro e w1 ⟨rfl,hb,hs⟩;have hs1:w1.heap.size=w.heap.size+1:=hs.trans hs0;have HB1:=Lib.hid (HB0.out.trans (hb.mono HB0.out.size));have HZ1:=Lib.hid ((hb.block w.heap.size (by omega)).trans HZ0.out);have hl1:w.heap.size < w1.heap.size:=(by omega);clear hb hs)
     | (go_at_call 18;(with_reducible refine (says_b 92 92 (na) true (HP.out _ HB1.out) ⟨by omega,by omega⟩ rfl (by rw [decide_eq_true HK.out])).mono ?_);rintro e w2 ⟨rfl,hb,hs⟩;have hs2:w2.heap.size=w.heap.size+1:=hs.trans hs1;have HB2:=Lib.hid (HB1.out.trans (hb.mono HB1.out.size));have HZ2:=Lib.hid ((hb.block w.heap.size (by omega)).trans HZ1.out);have hl2:w.heap.size < w2.heap.size:=(by omega);clear hb hs)
     | ((with_reducible apply store24 (g:=w.heap.size));rfl;(with_reducible rfl);rfl;rfl;(exact HZ2.out);rfl;rfl))
    ((try simp only [Exit.inBlock,Exit.then]);refine bodyPost_ret (v:=_) (results24r Try.results22 _ _ w.heap.size _ (.int .i64 0) (.bool false) (.int .i64 0) ?_ ?_ ?_ ?_ (row24 ?_) ?_) rfl ?_;rfl;rfl;rfl;rfl;(exact HZ2.out);rfl;exact And.intro rfl (Below.setRow (HB2.out) (Nat.le_refl _) _))
  ·have HK:=Lib.hid hk
   rw [show intervalP 3 l at_=none from by rw [hE,intervalE_slash _ _ _ _ hk]]
   clear hE HF HZ hdA hk hq
   go_enter Try.func22,Try.ntmps22
   go_upto_region 1 with (fail)
   rw [← hW]
   clear hW
   go_wp2_with (first
    | (go_at_call 32;(with_reducible refine (D1.out _ HB0.out).mono ?_);rintro e w' ⟨rfl,rfl⟩)
    | (go_at_call 18;(with_reducible refine (says_b 44 44 (na) false (HP.out _ HB0.out) ⟨by omega,by omega⟩ rfl (by rw [decide_eq_false HC.out])).mono ?_);rintro e w1 ⟨rfl,hb,hs⟩;have hs1:w1.heap.size=w.heap.size+1:=hs.trans hs0;have HB1:=Lib.hid (HB0.out.trans (hb.mono HB0.out.size));have HZ1:=Lib.hid ((hb.block w.heap.size (by omega)).trans HZ0.out);have hl1:w.heap.size < w1.heap.size:=(by omega);clear hb hs)
    | (go_at_call 18;(with_reducible refine (says_b 92 92 (na) false (HP.out _ HB1.out) ⟨by omega,by omega⟩ rfl (by rw [decide_eq_false HK.out])).mono ?_);rintro e w2 ⟨rfl,hb,hs⟩;have hs2:w2.heap.size=w.heap.size+1:=hs.trans hs1;have HB2:=Lib.hid (HB1.out.trans (hb.mono HB1.out.size));have HZ2:=Lib.hid ((hb.block w.heap.size (by omega)).trans HZ1.out);have hl2:w.heap.size < w2.heap.size:=(by omega);clear hb hs)
    | ((with_reducible apply store24 (g:=w.heap.size));rfl;(with_reducible rfl);rfl;rfl;(exact HZ2.out);rfl;rfl))
   ((try simp only [Exit.inBlock,Exit.then]);refine bodyPost_ret (v:=_) (results24r Try.results22 _ _ w.heap.size _ (.int .i64 0) (.bool false) (.int .i64 0) ?_ ?_ ?_ ?_ (row24 ?_) ?_) rfl ?_;rfl;rfl;rfl;rfl;(exact HZ2.out);rfl;exact And.intro rfl (Below.setRow (HB2.out) (Nat.le_refl _) _))
 ·have hdb:(d == 3)=false:=by simpa using hd
  by_cases hf:at_ < na
  ·have hAl:=HF.out.1 hf
   by_cases hz:ptAt l (na)=125
   ·have HZC:=Lib.hid hz
    have hin:na+1≤n:=hq.out _ (by rw [hz];decide)
    by_cases hm1:100 < av
    ·rw [show intervalP d l at_=some (.error 2) from by rw [hE,intervalE_two hd,close_some (least:=av) (most:=av) hz (.inl hAl) hdA (by rw [if_pos (Nat.pos_of_ne_zero hAl)];exact hdA),times_many (fun x=>by omega) (.inl hm1)]]
     clear hE HF HZ hdA hz hq
     go_enter Try.func22,Try.ntmps22
     go_upto_region 1 with (fail)
     rw [← hW]
     clear hW
     go_wp2_with (first
      | (go_at_call 32;(with_reducible refine (D1.out _ HB0.out).mono ?_);rintro e w' ⟨rfl,rfl⟩)
      | (go_at_call 18;(with_reducible refine (says_b 44 44 (na) false (HP.out _ HB0.out) ⟨by omega,by omega⟩ rfl (by rw [decide_eq_false HC.out])).mono ?_);rintro e w1 ⟨rfl,hb,hs⟩;have hs1:w1.heap.size=w.heap.size+1:=hs.trans hs0;have HB1:=Lib.hid (HB0.out.trans (hb.mono HB0.out.size));have HZ1:=Lib.hid ((hb.block w.heap.size (by omega)).trans HZ0.out);have hl1:w.heap.size < w1.heap.size:=(by omega);clear hb hs)
      | (go_at_call 18;(with_reducible refine (says_b 125 125 (na) true (HP.out _ HB1.out) ⟨by omega,by omega⟩ rfl (by rw [decide_eq_true HZC.out])).mono ?_);rintro e w2 ⟨rfl,hb,hs⟩;have hs2:w2.heap.size=w.heap.size+1:=hs.trans hs1;have HB2:=Lib.hid (HB1.out.trans (hb.mono HB1.out.size));have HZ2:=Lib.hid ((hb.block w.heap.size (by omega)).trans HZ1.out);have hl2:w.heap.size < w2.heap.size:=(by omega);clear hb hs)
      | ((with_reducible apply store24 (g:=w.heap.size));rfl;(with_reducible rfl);rfl;rfl;(exact HZ2.out);rfl;rfl))
     ((try simp only [Exit.inBlock,Exit.then]);refine bodyPost_ret (v:=_) (results24r Try.results22 _ _ w.heap.size _ (.int .i64 0) (.bool true) (.int .i64 2) ?_ ?_ ?_ ?_ (row24 ?_) ?_) rfl ?_;rfl;rfl;rfl;rfl;(exact HZ2.out);rfl;exact And.intro rfl (Below.setRow (HB2.out) (Nat.le_refl _) _))
    rw [show intervalP d l at_=some (.ok (repeatP d l (na+1) av (av))) from by rw [hE,intervalE_two hd,close_some (least:=av) (most:=av) hz (.inl hAl) hdA (by rw [if_pos (Nat.pos_of_ne_zero hAl)];exact hdA),times_ok (fun x=>by omega) (by omega) (by omega)]]
    clear hE HF HZ hdA hz hq
    go_enter Try.func22,Try.ntmps22
    go_upto_region 1 with (fail)
    rw [← hW]
    clear hW
    go_wp2_with (first
     | (go_at_call 32;(with_reducible refine (D1.out _ HB0.out).mono ?_);rintro e w' ⟨rfl,rfl⟩)
     | (go_at_call 18;(with_reducible refine (says_b 44 44 (na) false (HP.out _ HB0.out) ⟨by omega,by omega⟩ rfl (by rw [decide_eq_false HC.out])).mono ?_);rintro e w1 ⟨rfl,hb,hs⟩;have hs1:w1.heap.size=w.heap.size+1:=hs.trans hs0;have HB1:=Lib.hid (HB0.out.trans (hb.mono HB0.out.size));have HZ1:=Lib.hid ((hb.block w.heap.size (by omega)).trans HZ0.out);have hl1:w.heap.size < w1.heap.size:=(by omega);clear hb hs)
     | (go_at_call 18;(with_reducible refine (says_b 125 125 (na) true (HP.out _ HB1.out) ⟨by omega,by omega⟩ rfl (by rw [decide_eq_true HZC.out])).mono ?_);rintro e w2 ⟨rfl,hb,hs⟩;have hs2:w2.heap.size=w.heap.size+1:=hs.trans hs1;have HB2:=Lib.hid (HB1.out.trans (hb.mono HB1.out.size));have HZ2:=Lib.hid ((hb.block w.heap.size (by omega)).trans HZ1.out);have hl2:w.heap.size < w2.heap.size:=(by omega);clear hb hs)
     | (go_at_call 19;(with_reducible refine (repeat19 d (na+1) av (av) l A n c w2 (HP'.out _ HB2.out) (by omega) (by omega)).mono ?_);rintro e w3 ⟨he,hb⟩;obtain rfl:=(show e=.returned (.tuple #[.agg #[.int .i64 (repeatP d l (na+1) av (av)).1.kind,.int .i64 (repeatP d l (na+1) av (av)).1.num,.string ⟨(repeatP d l (na+1) av (av)).1.text.toArray⟩,.bool (repeatP d l (na+1) av (av)).1.not_,.int .i64 (repeatP d l (na+1) av (av)).1.least,.int .i64 (repeatP d l (na+1) av (av)).1.most,.int .i64 (repeatP d l (na+1) av (av)).1.way,.int .i64 (repeatP d l (na+1) av (av)).1.fold],.int .i64 (repeatP d l (na+1) av (av)).2]) from he);have HB3:=Lib.hid (HB2.out.trans (hb.mono HB2.out.size));have HZ3:=Lib.hid ((hb.block w.heap.size (by omega)).trans HZ2.out);have hs3:=hb.size;have hl3:w.heap.size < w3.heap.size:=(by omega);clear hb he)
     | ((with_reducible apply store24 (g:=w.heap.size));rfl;(with_reducible rfl);rfl;rfl;(exact hz_alloc HZ3.out);rfl;rfl))
    ((try simp only [Exit.inBlock,Exit.then]);refine bodyPost_ret (v:=_) (results24r Try.results22 _ _ w.heap.size _ (.int .i64 (repeatP d l (na+1) av (av)).2) (.bool true) (.int .i64 0) ?_ ?_ ?_ ?_ (row24 ?_) ?_) rfl ?_;rfl;rfl;rfl;rfl;(exact hz_alloc HZ3.out);rfl;exact And.intro rfl (Below.setRow (HB3.out.alloc (by omega) _) (Nat.le_refl _) _))
   ·have HZC:=Lib.hid hz
    rw [show intervalP d l at_=none from by rw [hE,intervalE_two hd,close_none hz]]
    clear hE HF HZ hdA hz hq
    go_enter Try.func22,Try.ntmps22
    go_upto_region 1 with (fail)
    rw [← hW]
    clear hW
    go_wp2_with (first
     | (go_at_call 32;(with_reducible refine (D1.out _ HB0.out).mono ?_);rintro e w' ⟨rfl,rfl⟩)
     | (go_at_call 18;(with_reducible refine (says_b 44 44 (na) false (HP.out _ HB0.out) ⟨by omega,by omega⟩ rfl (by rw [decide_eq_false HC.out])).mono ?_);rintro e w1 ⟨rfl,hb,hs⟩;have hs1:w1.heap.size=w.heap.size+1:=hs.trans hs0;have HB1:=Lib.hid (HB0.out.trans (hb.mono HB0.out.size));have HZ1:=Lib.hid ((hb.block w.heap.size (by omega)).trans HZ0.out);have hl1:w.heap.size < w1.heap.size:=(by omega);clear hb hs)
     | (go_at_call 18;(with_reducible refine (says_b 125 125 (na) false (HP.out _ HB1.out) ⟨by omega,by omega⟩ rfl (by rw [decide_eq_false HZC.out])).mono ?_);rintro e w2 ⟨rfl,hb,hs⟩;have hs2:w2.heap.size=w.heap.size+1:=hs.trans hs1;have HB2:=Lib.hid (HB1.out.trans (hb.mono HB1.out.size));have HZ2:=Lib.hid ((hb.block w.heap.size (by omega)).trans HZ1.out);have hl2:w.heap.size < w2.heap.size:=(by omega);clear hb hs)
     | ((with_reducible apply store24 (g:=w.heap.size));rfl;(with_reducible rfl);rfl;rfl;(exact HZ2.out);rfl;rfl))
    ((try simp only [Exit.inBlock,Exit.then]);refine bodyPost_ret (v:=_) (results24r Try.results22 _ _ w.heap.size _ (.int .i64 0) (.bool false) (.int .i64 0) ?_ ?_ ?_ ?_ (row24 ?_) ?_) rfl ?_;rfl;rfl;rfl;rfl;(exact HZ2.out);rfl;exact And.intro rfl (Below.setRow (HB2.out) (Nat.le_refl _) _))
  ·have hfb:decide (at_ < na)=false:=decide_eq_false hf
   have hA0:al.length=0:=Nat.eq_zero_of_not_pos (fun hx=>hf (HF.out.2 (Nat.ne_of_gt hx)))
   rw [show intervalP d l at_=none from by rw [hE,intervalE_two hd,close_empty hA0 hA0]]
   clear hE HF HZ hdA hA0 hq
   go_enter Try.func22,Try.ntmps22
   go_upto_region 1 with (fail)
   rw [← hW]
   clear hW
   go_wp2_with (first
    | (go_at_call 32;(with_reducible refine (D1.out _ HB0.out).mono ?_);rintro e w' ⟨rfl,rfl⟩)
    | (go_at_call 18;(with_reducible refine (says_b 44 44 (na) false (HP.out _ HB0.out) ⟨by omega,by omega⟩ rfl (by rw [decide_eq_false HC.out])).mono ?_);rintro e w1 ⟨rfl,hb,hs⟩;have hs1:w1.heap.size=w.heap.size+1:=hs.trans hs0;have HB1:=Lib.hid (HB0.out.trans (hb.mono HB0.out.size));have HZ1:=Lib.hid ((hb.block w.heap.size (by omega)).trans HZ0.out);have hl1:w.heap.size < w1.heap.size:=(by omega);clear hb hs)
    | ((with_reducible apply store24 (g:=w.heap.size));rfl;(with_reducible rfl);rfl;rfl;(exact HZ1.out);rfl;rfl))
   ((try simp only [Exit.inBlock,Exit.then]);refine bodyPost_ret (v:=_) (results24r Try.results22 _ _ w.heap.size _ (.int .i64 0) (.bool false) (.int .i64 0) ?_ ?_ ?_ ?_ (row24 ?_) ?_) rfl ?_;rfl;rfl;rfl;rfl;(exact HZ1.out);rfl;exact And.intro rfl (Below.setRow (HB1.out) (Nat.le_refl _) _))
end Go.Proofs.Ytmjlmjlkghpknaa
