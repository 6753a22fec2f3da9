/-
  Behind an open bracket: walked.
-/
import Derived.Test.YtbiahhojnjchnaaGreatGT
set_option linter.unusedVariables false
set_option linter.unusedSimpArgs false
namespace Go.Proofs.YtbiahhojnjchnaaGreat
open Go.RowKit
set_option maxRecDepth 100000 in
set_option maxHeartbeats 16000000 in
theorem open176 {b n c:Nat} {d at_:Int} {A:Option Addr} {l:List Int} {w:World} (h:St b n c d A l at_ w) :
  Calls Tryz.prog 176 #[.pointer (some ⟨b,0,none⟩)] w fun e w'=>TOut b n c d A l (openP d l at_) e w'∧Kept b w w':=by
 have HZ:=Lib.hid (Zt.start h)
 have hlo:=h.lo
 have hlt:=h.lt
 obtain ⟨r,hr⟩:∃ r,r=openP d l at_:=⟨_,rfl⟩
 rw [← hr]
 unfold openP at hr
 have HR:=Lib.hid hr
 obtain ⟨W0,hW0⟩:∃ X,X=w.alloc (.cells #[.int .i64 0,.int .i64 0,.string ⟨#[]⟩,.bool false,.int .i64 0,.int .i64 0,.int .i64 0,.int .i64 0] 108):=⟨_,rfl⟩
 rw [← hW0] at HZ
 obtain ⟨g,hg⟩:∃ g,g=W0.heap.size:=⟨_,rfl⟩
 obtain ⟨X,hX⟩:∃ X,X=W0.alloc (.cells #[.int .i64 7,.int .i64 (11),.string ⟨#[]⟩,.bool false,.int .i64 0,.int .i64 0,.int .i64 0,.int .i64 (0)] 108):=⟨_,rfl⟩
 have HT:=Lib.hid (show X.heap[g]?=some (.cells #[.int .i64 7,.int .i64 (11),.string ⟨#[]⟩,.bool false,.int .i64 0,.int .i64 0,.int .i64 0,.int .i64 (0)] 108 (0,0)) by rw [hX,hg];exact heap_alloc_new W0 _)
 have hbg:b < g:=by rw [hg];exact HZ.out.st.lt
 have hg0:w.heap.size < g:=by rw [hg];exact lt_heap HZ.out.z
 have HZ:=Lib.hid (show Zt b n c d A l w at_ X by rw [hX];exact HZ.out.next ((Below.refl _ _).alloc (Nat.le_refl _) _))
 clear h hr
 go_enter Tryz.func176,Tryz.ntmps176
 go_upto_region 1 with (fail)
 rw [← hW0]
 clear hW0
 go_upto_region 2 with (fail)
 rw [← hX,← hg]
 clear hX hg
 obtain ⟨c0,c1,c2,f2⟩:=HZ.out.st.rd.cells
 obtain ⟨tf,ta,tb,tc,td,te,tg,th,ti⟩:=tcells HT.out
 by_cases hd:d=1
 ·subst hd
  have HR:=Lib.hid (HR.out.trans (if_neg (fun x=>x rfl)))
  by_cases h63:ptAt l at_=63
  ·have CM:=Lib.hid (may_yesT 63 HZ.out.st (by omega) h63)
   have HR:=Lib.hid (HR.out.trans (if_neg (fun x=>x h63)))
   clear h63 tf ta tb tc td te tg th ti
   go_upto_region 12 with (go_at_call 201;(with_reducible refine CM.out.mono ?_);rintro e w1 ⟨rfl,h1,k1⟩;have HZ:=Lib.hid (HZ.out.by h1 k1);have HT:=Lib.hid (kept_row HT.out k1 hbg);obtain ⟨tf,ta,tb,tc,td,te,tg,th,ti⟩:=tcells HT.out;clear h1 k1 CM)
   clear c0 c1 c2 f2
   by_cases hq:ptAt l (at_+1)=58
   ·have CM:=Lib.hid (may_yesT 58 HZ.out.st (by omega) hq)
    have HR:=Lib.hid (HR.out.trans (if_pos hq))
    clear hq
    have hE:r=.ok (openT 1 0 [],at_+1+1):=HR.out
    subst hE
    clear tf ta tb tc td te tg th ti
    go_upto_region 29 with (go_at_call 201;(with_reducible refine CM.out.mono ?_);rintro e w2 ⟨rfl,h1,k1⟩;have HZ:=Lib.hid (HZ.out.by h1 k1);have HT:=Lib.hid (kept_row HT.out k1 hbg);obtain ⟨tf,ta,tb,tc,td,te,tg,th,ti⟩:=tcells HT.out;clear h1 k1 CM)
    have HT:=Lib.hid (show (w2.setCell ⟨g,1,none⟩ (.int .i64 1)).heap[g]?=some (.cells #[.int .i64 7,.int .i64 (1),.string ⟨#[]⟩,.bool false,.int .i64 0,.int .i64 0,.int .i64 0,.int .i64 (0)] 108 (0,0)) from row_set HT.out)
    have HZ:=Lib.hid (HZ.out.set2 hg0 hbg 1 (.int .i64 1))
    obtain ⟨Y2,hY⟩:∃ Y,Y=w2.setCell ⟨g,1,none⟩ (.int .i64 1):=⟨_,rfl⟩
    rw [← hY] at HT HZ ⊢
    clear hY tf ta tb tc td te tg th ti
    obtain ⟨tf,ta,tb,tc,td,te,tg,th,ti⟩:=tcells HT.out
    go_wp2_with ((with_reducible apply store24 (g:=w.heap.size));rfl;(with_reducible rfl);rfl;rfl;(exact HZ.out.z);rfl;rfl)
    ((try simp only [Exit.inBlock,Exit.then]);refine bodyPost_ret (v:=_) (results24 Tryz.results176 _ _ w.heap.size _ ?_ (row24 HZ.out.z) ?_) rfl ?_;rfl;rfl;exact HZ.out.done (openT 1 0 []))
   ·have CM:=Lib.hid (may_noT 58 HZ.out.st (by omega) hq)
    have HR:=Lib.hid (HR.out.trans (if_neg hq))
    clear hq
    clear tf ta tb tc td te tg th ti
    go_upto_region 14 with (go_at_call 201;(with_reducible refine CM.out.mono ?_);rintro e w2 ⟨rfl,h1,k1⟩;have HZ:=Lib.hid (HZ.out.by h1 k1);have HT:=Lib.hid (kept_row HT.out k1 hbg);obtain ⟨tf,ta,tb,tc,td,te,tg,th,ti⟩:=tcells HT.out;clear h1 k1 CM)
    by_cases hq:ptAt l (at_+1)=62
    ·have CM:=Lib.hid (may_yesT 62 HZ.out.st (by omega) hq)
     have HR:=Lib.hid (HR.out.trans (if_pos hq))
     clear hq
     have hE:r=.ok (openT 13 0 [],at_+1+1):=HR.out
     subst hE
     clear tf ta tb tc td te tg th ti
     go_upto_region 29 with (go_at_call 201;(with_reducible refine CM.out.mono ?_);rintro e w2 ⟨rfl,h1,k1⟩;have HZ:=Lib.hid (HZ.out.by h1 k1);have HT:=Lib.hid (kept_row HT.out k1 hbg);obtain ⟨tf,ta,tb,tc,td,te,tg,th,ti⟩:=tcells HT.out;clear h1 k1 CM)
     have HT:=Lib.hid (show (w2.setCell ⟨g,1,none⟩ (.int .i64 13)).heap[g]?=some (.cells #[.int .i64 7,.int .i64 (13),.string ⟨#[]⟩,.bool false,.int .i64 0,.int .i64 0,.int .i64 0,.int .i64 (0)] 108 (0,0)) from row_set HT.out)
     have HZ:=Lib.hid (HZ.out.set2 hg0 hbg 1 (.int .i64 13))
     obtain ⟨Y2,hY⟩:∃ Y,Y=w2.setCell ⟨g,1,none⟩ (.int .i64 13):=⟨_,rfl⟩
     rw [← hY] at HT HZ ⊢
     clear hY tf ta tb tc td te tg th ti
     obtain ⟨tf,ta,tb,tc,td,te,tg,th,ti⟩:=tcells HT.out
     go_wp2_with ((with_reducible apply store24 (g:=w.heap.size));rfl;(with_reducible rfl);rfl;rfl;(exact HZ.out.z);rfl;rfl)
     ((try simp only [Exit.inBlock,Exit.then]);refine bodyPost_ret (v:=_) (results24 Tryz.results176 _ _ w.heap.size _ ?_ (row24 HZ.out.z) ?_) rfl ?_;rfl;rfl;exact HZ.out.done (openT 13 0 []))
    ·have CM:=Lib.hid (may_noT 62 HZ.out.st (by omega) hq)
     have HR:=Lib.hid (HR.out.trans (if_neg hq))
     clear hq
     clear tf ta tb tc td te tg th ti
     go_upto_region 16 with (go_at_call 201;(with_reducible refine CM.out.mono ?_);rintro e w2 ⟨rfl,h1,k1⟩;have HZ:=Lib.hid (HZ.out.by h1 k1);have HT:=Lib.hid (kept_row HT.out k1 hbg);obtain ⟨tf,ta,tb,tc,td,te,tg,th,ti⟩:=tcells HT.out;clear h1 k1 CM)
     by_cases hq:ptAt l (at_+1)=61
     ·have CM:=Lib.hid (may_yesT 61 HZ.out.st (by omega) hq)
      have HR:=Lib.hid (HR.out.trans (if_pos hq))
      clear hq
      have hE:r=.ok (openT 14 0 [],at_+1+1):=HR.out
      subst hE
      clear tf ta tb tc td te tg th ti
      go_upto_region 29 with (go_at_call 201;(with_reducible refine CM.out.mono ?_);rintro e w2 ⟨rfl,h1,k1⟩;have HZ:=Lib.hid (HZ.out.by h1 k1);have HT:=Lib.hid (kept_row HT.out k1 hbg);obtain ⟨tf,ta,tb,tc,td,te,tg,th,ti⟩:=tcells HT.out;clear h1 k1 CM)
      have HT:=Lib.hid (show (w2.setCell ⟨g,1,none⟩ (.int .i64 14)).heap[g]?=some (.cells #[.int .i64 7,.int .i64 (14),.string ⟨#[]⟩,.bool false,.int .i64 0,.int .i64 0,.int .i64 0,.int .i64 (0)] 108 (0,0)) from row_set HT.out)
      have HZ:=Lib.hid (HZ.out.set2 hg0 hbg 1 (.int .i64 14))
      obtain ⟨Y2,hY⟩:∃ Y,Y=w2.setCell ⟨g,1,none⟩ (.int .i64 14):=⟨_,rfl⟩
      rw [← hY] at HT HZ ⊢
      clear hY tf ta tb tc td te tg th ti
      obtain ⟨tf,ta,tb,tc,td,te,tg,th,ti⟩:=tcells HT.out
      go_wp2_with ((with_reducible apply store24 (g:=w.heap.size));rfl;(with_reducible rfl);rfl;rfl;(exact HZ.out.z);rfl;rfl)
      ((try simp only [Exit.inBlock,Exit.then]);refine bodyPost_ret (v:=_) (results24 Tryz.results176 _ _ w.heap.size _ ?_ (row24 HZ.out.z) ?_) rfl ?_;rfl;rfl;exact HZ.out.done (openT 14 0 []))
     ·have CM:=Lib.hid (may_noT 61 HZ.out.st (by omega) hq)
      have HR:=Lib.hid (HR.out.trans (if_neg hq))
      clear hq
      clear tf ta tb tc td te tg th ti
      go_upto_region 18 with (go_at_call 201;(with_reducible refine CM.out.mono ?_);rintro e w2 ⟨rfl,h1,k1⟩;have HZ:=Lib.hid (HZ.out.by h1 k1);have HT:=Lib.hid (kept_row HT.out k1 hbg);obtain ⟨tf,ta,tb,tc,td,te,tg,th,ti⟩:=tcells HT.out;clear h1 k1 CM)
      by_cases hq:ptAt l (at_+1)=33
      ·have CM:=Lib.hid (may_yesT 33 HZ.out.st (by omega) hq)
       have HR:=Lib.hid (HR.out.trans (if_pos hq))
       clear hq
       have hE:r=.ok (openT 15 0 [],at_+1+1):=HR.out
       subst hE
       clear tf ta tb tc td te tg th ti
       go_upto_region 29 with (go_at_call 201;(with_reducible refine CM.out.mono ?_);rintro e w2 ⟨rfl,h1,k1⟩;have HZ:=Lib.hid (HZ.out.by h1 k1);have HT:=Lib.hid (kept_row HT.out k1 hbg);obtain ⟨tf,ta,tb,tc,td,te,tg,th,ti⟩:=tcells HT.out;clear h1 k1 CM)
       have HT:=Lib.hid (show (w2.setCell ⟨g,1,none⟩ (.int .i64 15)).heap[g]?=some (.cells #[.int .i64 7,.int .i64 (15),.string ⟨#[]⟩,.bool false,.int .i64 0,.int .i64 0,.int .i64 0,.int .i64 (0)] 108 (0,0)) from row_set HT.out)
       have HZ:=Lib.hid (HZ.out.set2 hg0 hbg 1 (.int .i64 15))
       obtain ⟨Y2,hY⟩:∃ Y,Y=w2.setCell ⟨g,1,none⟩ (.int .i64 15):=⟨_,rfl⟩
       rw [← hY] at HT HZ ⊢
       clear hY tf ta tb tc td te tg th ti
       obtain ⟨tf,ta,tb,tc,td,te,tg,th,ti⟩:=tcells HT.out
       go_wp2_with ((with_reducible apply store24 (g:=w.heap.size));rfl;(with_reducible rfl);rfl;rfl;(exact HZ.out.z);rfl;rfl)
       ((try simp only [Exit.inBlock,Exit.then]);refine bodyPost_ret (v:=_) (results24 Tryz.results176 _ _ w.heap.size _ ?_ (row24 HZ.out.z) ?_) rfl ?_;rfl;rfl;exact HZ.out.done (openT 15 0 []))
      ·have CM:=Lib.hid (may_noT 33 HZ.out.st (by omega) hq)
       have HR:=Lib.hid (HR.out.trans (if_neg hq))
       clear hq
       clear tf ta tb tc td te tg th ti
       go_upto_region 20 with (go_at_call 201;(with_reducible refine CM.out.mono ?_);rintro e w2 ⟨rfl,h1,k1⟩;have HZ:=Lib.hid (HZ.out.by h1 k1);have HT:=Lib.hid (kept_row HT.out k1 hbg);obtain ⟨tf,ta,tb,tc,td,te,tg,th,ti⟩:=tcells HT.out;clear h1 k1 CM)
       by_cases hq:ptAt l (at_+1)=60
       ·have CM:=Lib.hid (may_yesT 60 HZ.out.st (by omega) hq)
        have HR:=Lib.hid (HR.out.trans (if_pos hq))
        clear hq
        clear tf ta tb tc td te tg th ti
        go_upto_region 25 with (go_at_call 201;(with_reducible refine CM.out.mono ?_);rintro e w3 ⟨rfl,h1,k1⟩;have HZ:=Lib.hid (HZ.out.by h1 k1);have HT:=Lib.hid (kept_row HT.out k1 hbg);obtain ⟨tf,ta,tb,tc,td,te,tg,th,ti⟩:=tcells HT.out;clear h1 k1 CM)
        by_cases hq:ptAt l (at_+1+1)=61
        ·have CM:=Lib.hid (may_yesT 61 HZ.out.st (by omega) hq)
         have HR:=Lib.hid (HR.out.trans (if_pos hq))
         clear hq
         have hE:r=.ok (openT 16 0 [],at_+1+1+1):=HR.out
         subst hE
         clear tf ta tb tc td te tg th ti
         go_upto_region 29 with (go_at_call 201;(with_reducible refine CM.out.mono ?_);rintro e w4 ⟨rfl,h1,k1⟩;have HZ:=Lib.hid (HZ.out.by h1 k1);have HT:=Lib.hid (kept_row HT.out k1 hbg);obtain ⟨tf,ta,tb,tc,td,te,tg,th,ti⟩:=tcells HT.out;clear h1 k1 CM)
         have HT:=Lib.hid (show (w4.setCell ⟨g,1,none⟩ (.int .i64 16)).heap[g]?=some (.cells #[.int .i64 7,.int .i64 (16),.string ⟨#[]⟩,.bool false,.int .i64 0,.int .i64 0,.int .i64 0,.int .i64 (0)] 108 (0,0)) from row_set HT.out)
         have HZ:=Lib.hid (HZ.out.set2 hg0 hbg 1 (.int .i64 16))
         obtain ⟨Y4,hY⟩:∃ Y,Y=w4.setCell ⟨g,1,none⟩ (.int .i64 16):=⟨_,rfl⟩
         rw [← hY] at HT HZ ⊢
         clear hY tf ta tb tc td te tg th ti
         obtain ⟨tf,ta,tb,tc,td,te,tg,th,ti⟩:=tcells HT.out
         go_wp2_with ((with_reducible apply store24 (g:=w.heap.size));rfl;(with_reducible rfl);rfl;rfl;(exact HZ.out.z);rfl;rfl)
         ((try simp only [Exit.inBlock,Exit.then]);refine bodyPost_ret (v:=_) (results24 Tryz.results176 _ _ w.heap.size _ ?_ (row24 HZ.out.z) ?_) rfl ?_;rfl;rfl;exact HZ.out.done (openT 16 0 []))
        ·have CM:=Lib.hid (may_noT 61 HZ.out.st (by omega) hq)
         have HR:=Lib.hid (HR.out.trans (if_neg hq))
         clear hq
         clear tf ta tb tc td te tg th ti
         go_upto_region 27 with (go_at_call 201;(with_reducible refine CM.out.mono ?_);rintro e w4 ⟨rfl,h1,k1⟩;have HZ:=Lib.hid (HZ.out.by h1 k1);have HT:=Lib.hid (kept_row HT.out k1 hbg);obtain ⟨tf,ta,tb,tc,td,te,tg,th,ti⟩:=tcells HT.out;clear h1 k1 CM)
         by_cases hq:ptAt l (at_+1+1)=33
         ·have CM:=Lib.hid (may_yesT 33 HZ.out.st (by omega) hq)
          have HR:=Lib.hid (HR.out.trans (if_pos hq))
          clear hq
          have hE:r=.ok (openT 17 0 [],at_+1+1+1):=HR.out
          subst hE
          clear tf ta tb tc td te tg th ti
          go_upto_region 29 with (go_at_call 201;(with_reducible refine CM.out.mono ?_);rintro e w4 ⟨rfl,h1,k1⟩;have HZ:=Lib.hid (HZ.out.by h1 k1);have HT:=Lib.hid (kept_row HT.out k1 hbg);obtain ⟨tf,ta,tb,tc,td,te,tg,th,ti⟩:=tcells HT.out;clear h1 k1 CM)
          have HT:=Lib.hid (show (w4.setCell ⟨g,1,none⟩ (.int .i64 17)).heap[g]?=some (.cells #[.int .i64 7,.int .i64 (17),.string ⟨#[]⟩,.bool false,.int .i64 0,.int .i64 0,.int .i64 0,.int .i64 (0)] 108 (0,0)) from row_set HT.out)
          have HZ:=Lib.hid (HZ.out.set2 hg0 hbg 1 (.int .i64 17))
          obtain ⟨Y4,hY⟩:∃ Y,Y=w4.setCell ⟨g,1,none⟩ (.int .i64 17):=⟨_,rfl⟩
          rw [← hY] at HT HZ ⊢
          clear hY tf ta tb tc td te tg th ti
          obtain ⟨tf,ta,tb,tc,td,te,tg,th,ti⟩:=tcells HT.out
          go_wp2_with ((with_reducible apply store24 (g:=w.heap.size));rfl;(with_reducible rfl);rfl;rfl;(exact HZ.out.z);rfl;rfl)
          ((try simp only [Exit.inBlock,Exit.then]);refine bodyPost_ret (v:=_) (results24 Tryz.results176 _ _ w.heap.size _ ?_ (row24 HZ.out.z) ?_) rfl ?_;rfl;rfl;exact HZ.out.done (openT 17 0 []))
         ·have CM:=Lib.hid (may_noT 33 HZ.out.st (by omega) hq)
          have HR:=Lib.hid (HR.out.trans (if_neg hq))
          clear hq
          clear tf ta tb tc td te tg th ti
          go_upto_region 21 with (go_at_call 201;(with_reducible refine CM.out.mono ?_);rintro e w4 ⟨rfl,h1,k1⟩;have HZ:=Lib.hid (HZ.out.by h1 k1);have HT:=Lib.hid (kept_row HT.out k1 hbg);obtain ⟨tf,ta,tb,tc,td,te,tg,th,ti⟩:=tcells HT.out;clear h1 k1 CM)
          obtain ⟨K,hK⟩:∃ K,K=nameLen l (at_+1+1):=⟨_,rfl⟩
          obtain ⟨nm,hnm⟩:∃ nm,nm=bytesP (runPts l (at_+1+1) (nameLen l (at_+1+1))):=⟨_,rfl⟩
          have HR:=Lib.hid (show r=if K=0 then .error 1 else if ptAt l (at_+1+1+K)=62 then .ok (openT 11 0 nm,at_+1+1+K+1) else .error 1 by rw [HR.out,groupP,← hnm,← hK])
          have CN:=Lib.hid (name_some nm K HZ.out.st ⟨hnm,hK⟩)
          have NK:=Lib.hid (And.intro hnm hK)
          clear hnm hK tf ta tb tc td te tg th ti
          go_upto_region 22 with (go_at_call 213;(with_reducible refine CN.out.mono ?_);rintro e w5 ⟨rfl,h1,k1⟩;have HZ:=Lib.hid (HZ.out.by h1 k1);have HT:=Lib.hid (kept_row HT.out k1 hbg);obtain ⟨tf,ta,tb,tc,td,te,tg,th,ti⟩:=tcells HT.out;clear h1 k1 CN)
          have HT:=Lib.hid (show (w5.setCell ⟨g,2,none⟩ (.string ⟨nm.toArray⟩)).heap[g]?=some (.cells #[.int .i64 7,.int .i64 (11),.string ⟨nm.toArray⟩,.bool false,.int .i64 0,.int .i64 0,.int .i64 0,.int .i64 (0)] 108 (0,0)) from row_set HT.out)
          have HZ:=Lib.hid (HZ.out.set2 hg0 hbg 2 (.string ⟨nm.toArray⟩))
          obtain ⟨Y5,hY⟩:∃ Y,Y=w5.setCell ⟨g,2,none⟩ (.string ⟨nm.toArray⟩):=⟨_,rfl⟩
          rw [← hY] at HT HZ ⊢
          clear hY tf ta tb tc td te tg th ti
          obtain ⟨tf,ta,tb,tc,td,te,tg,th,ti⟩:=tcells HT.out
          by_cases hk0:K=0
          ·have hne:nm=[]:=by rw [NK.out.1,← NK.out.2,hk0];rfl
           have hE:r=.error 1:=HR.out.trans (if_pos hk0)
           subst hE
           subst hne
           clear hk0
           go_wp2_with (go_at_call 202;(with_reducible refine (fail46 1 _).mono ?_);rintro e w6 ⟨rfl,rfl⟩)
           exact ⟨rfl,rfl,HZ.out.kp⟩
          ·have hne:=name_full NK.out hk0
           have HR:=Lib.hid (HR.out.trans (if_neg hk0))
           clear hk0
           go_upto_region 24 with (fail)
           clear hne
           by_cases hq:ptAt l (at_+1+1+K)=62
           ·have CM:=Lib.hid (must_yes 62 HZ.out.st (by omega) hq)
            have hE:r=.ok (openT 11 0 nm,at_+1+1+K+1):=HR.out.trans (if_pos hq)
            subst hE
            clear hq tf ta tb tc td te tg th ti
            go_wp2_with (first|(go_at_call 214;(with_reducible refine CM.out.mono ?_);rintro e w6 ⟨rfl,h1,k1⟩;have HZ:=Lib.hid (HZ.out.by h1 k1);have HT:=Lib.hid (kept_row HT.out k1 hbg);obtain ⟨tf,ta,tb,tc,td,te,tg,th,ti⟩:=tcells HT.out;clear h1 k1 CM)|((with_reducible apply store24 (g:=w.heap.size));rfl;(with_reducible rfl);rfl;rfl;(exact HZ.out.z);rfl;rfl))
            ((try simp only [Exit.inBlock,Exit.then]);refine bodyPost_ret (v:=_) (results24 Tryz.results176 _ _ w.heap.size _ ?_ (row24 HZ.out.z) ?_) rfl ?_;rfl;rfl;exact HZ.out.done (openT 11 0 nm))
           ·have CM:=Lib.hid (must_no 62 HZ.out.st (by omega) hq)
            have hE:r=.error 1:=HR.out.trans (if_neg hq)
            subst hE
            clear hq
            go_wp2_with (go_at_call 214;(with_reducible refine CM.out.mono ?_);rintro e w6 ⟨rfl,k1⟩)
            exact ⟨rfl,rfl,HZ.out.kp.trans k1⟩
       ·have CM:=Lib.hid (may_noT 60 HZ.out.st (by omega) hq)
        have HR:=Lib.hid (HR.out.trans (if_neg hq))
        clear hq
        clear tf ta tb tc td te tg th ti
        go_upto_region 4 with (go_at_call 201;(with_reducible refine CM.out.mono ?_);rintro e w3 ⟨rfl,h1,k1⟩;have HZ:=Lib.hid (HZ.out.by h1 k1);have HT:=Lib.hid (kept_row HT.out k1 hbg);obtain ⟨tf,ta,tb,tc,td,te,tg,th,ti⟩:=tcells HT.out;clear h1 k1 CM)
        go_upto_region 5 with (fail)
        have HT:=Lib.hid (show (w3.setCell ⟨g,7,none⟩ (.int .i64 1)).heap[g]?=some (.cells #[.int .i64 7,.int .i64 (11),.string ⟨#[]⟩,.bool false,.int .i64 0,.int .i64 0,.int .i64 0,.int .i64 (1)] 108 (0,0)) from row_set HT.out)
        have HZ:=Lib.hid (HZ.out.set2 hg0 hbg 7 (.int .i64 1))
        obtain ⟨Y3,hY⟩:∃ Y,Y=w3.setCell ⟨g,7,none⟩ (.int .i64 1):=⟨_,rfl⟩
        rw [← hY] at HT HZ ⊢
        clear hY tf ta tb tc td te tg th ti
        obtain ⟨tf,ta,tb,tc,td,te,tg,th,ti⟩:=tcells HT.out
        by_cases hq:ptAt l (at_+1)=45
        ·have CM:=Lib.hid (may_yesT 45 HZ.out.st (by omega) hq)
         have HR:=Lib.hid (HR.out.trans (if_pos hq))
         clear hq tf ta tb tc td te tg th ti
         go_upto_region 7 with (go_at_call 201;(with_reducible refine CM.out.mono ?_);rintro e w5 ⟨rfl,h1,k1⟩;have HZ:=Lib.hid (HZ.out.by h1 k1);have HT:=Lib.hid (kept_row HT.out k1 hbg);obtain ⟨tf,ta,tb,tc,td,te,tg,th,ti⟩:=tcells HT.out;clear h1 k1 CM)
         have HT:=Lib.hid (show (w5.setCell ⟨g,7,none⟩ (.int .i64 (-1))).heap[g]?=some (.cells #[.int .i64 7,.int .i64 (11),.string ⟨#[]⟩,.bool false,.int .i64 0,.int .i64 0,.int .i64 0,.int .i64 (-1)] 108 (0,0)) from row_set HT.out)
         have HZ:=Lib.hid (HZ.out.set2 hg0 hbg 7 (.int .i64 (-1)))
         obtain ⟨Y5,hY⟩:∃ Y,Y=w5.setCell ⟨g,7,none⟩ (.int .i64 (-1)):=⟨_,rfl⟩
         rw [← hY] at HT HZ ⊢
         clear hY tf ta tb tc td te tg th ti
         obtain ⟨tf,ta,tb,tc,td,te,tg,th,ti⟩:=tcells HT.out
         have HR:=Lib.hid (show r=if ptAt l (at_+1+1)≠105 then .error 1 else if ptAt l (at_+1+1+1)=41 then .ok ({ kind:=11,fold:=-1 },at_+1+1+1+1) else if ptAt l (at_+1+1+1)=58 then .ok (openT 1 (-1) [],at_+1+1+1+1) else .error 1 from HR.out)
         by_cases hq:ptAt l (at_+1+1)=105
         ·have CM:=Lib.hid (must_yes 105 HZ.out.st (by omega) hq)
          have HR:=Lib.hid (HR.out.trans (if_neg (fun x=>x hq)))
          clear hq tf ta tb tc td te tg th ti
          go_upto_region 8 with (go_at_call 214;(with_reducible refine CM.out.mono ?_);rintro e w6 ⟨rfl,h1,k1⟩;have HZ:=Lib.hid (HZ.out.by h1 k1);have HT:=Lib.hid (kept_row HT.out k1 hbg);obtain ⟨tf,ta,tb,tc,td,te,tg,th,ti⟩:=tcells HT.out;clear h1 k1 CM)
          by_cases hq:ptAt l (at_+1+1+1)=41
          ·have CM:=Lib.hid (may_yesT 41 HZ.out.st (by omega) hq)
           have hE:r=.ok ({ kind:=11,fold:=-1 },at_+1+1+1+1):=HR.out.trans (if_pos hq)
           subst hE
           clear hq tf ta tb tc td te tg th ti
           go_wp2_with (first|(go_at_call 201;(with_reducible refine CM.out.mono ?_);rintro e w7 ⟨rfl,h1,k1⟩;have HZ:=Lib.hid (HZ.out.by h1 k1);have HT:=Lib.hid (kept_row HT.out k1 hbg);obtain ⟨tf,ta,tb,tc,td,te,tg,th,ti⟩:=tcells HT.out;clear h1 k1 CM)|((with_reducible apply store24 (g:=w.heap.size));rfl;(with_reducible rfl);rfl;rfl;(exact HZ.out.z);rfl;rfl))
           ((try simp only [Exit.inBlock,Exit.then]);refine bodyPost_ret (v:=_) (results24 Tryz.results176 _ _ w.heap.size _ ?_ (row24 HZ.out.z) ?_) rfl ?_;rfl;rfl;exact HZ.out.done { kind:=11,fold:=-1 })
          ·have CM:=Lib.hid (may_noT 41 HZ.out.st (by omega) hq)
           have HR:=Lib.hid (HR.out.trans (if_neg hq))
           clear hq tf ta tb tc td te tg th ti
           go_upto_region 10 with (go_at_call 201;(with_reducible refine CM.out.mono ?_);rintro e w7 ⟨rfl,h1,k1⟩;have HZ:=Lib.hid (HZ.out.by h1 k1);have HT:=Lib.hid (kept_row HT.out k1 hbg);obtain ⟨tf,ta,tb,tc,td,te,tg,th,ti⟩:=tcells HT.out;clear h1 k1 CM)
           by_cases hq:ptAt l (at_+1+1+1)=58
           ·have CM:=Lib.hid (must_yes 58 HZ.out.st (by omega) hq)
            have hE:r=.ok (openT 1 (-1) [],at_+1+1+1+1):=HR.out.trans (if_pos hq)
            subst hE
            clear hq tf ta tb tc td te tg th ti
            go_upto_region 29 with (go_at_call 214;(with_reducible refine CM.out.mono ?_);rintro e w8 ⟨rfl,h1,k1⟩;have HZ:=Lib.hid (HZ.out.by h1 k1);have HT:=Lib.hid (kept_row HT.out k1 hbg);obtain ⟨tf,ta,tb,tc,td,te,tg,th,ti⟩:=tcells HT.out;clear h1 k1 CM)
            have HT:=Lib.hid (show (w8.setCell ⟨g,1,none⟩ (.int .i64 1)).heap[g]?=some (.cells #[.int .i64 7,.int .i64 (1),.string ⟨#[]⟩,.bool false,.int .i64 0,.int .i64 0,.int .i64 0,.int .i64 (-1)] 108 (0,0)) from row_set HT.out)
            have HZ:=Lib.hid (HZ.out.set2 hg0 hbg 1 (.int .i64 1))
            obtain ⟨Y8,hY⟩:∃ Y,Y=w8.setCell ⟨g,1,none⟩ (.int .i64 1):=⟨_,rfl⟩
            rw [← hY] at HT HZ ⊢
            clear hY tf ta tb tc td te tg th ti
            obtain ⟨tf,ta,tb,tc,td,te,tg,th,ti⟩:=tcells HT.out
            go_wp2_with ((with_reducible apply store24 (g:=w.heap.size));rfl;(with_reducible rfl);rfl;rfl;(exact HZ.out.z);rfl;rfl)
            ((try simp only [Exit.inBlock,Exit.then]);refine bodyPost_ret (v:=_) (results24 Tryz.results176 _ _ w.heap.size _ ?_ (row24 HZ.out.z) ?_) rfl ?_;rfl;rfl;exact HZ.out.done (openT 1 (-1) []))
           ·have CM:=Lib.hid (must_no 58 HZ.out.st (by omega) hq)
            have hE:r=.error 1:=HR.out.trans (if_neg hq)
            subst hE
            clear hq
            go_wp2_with (go_at_call 214;(with_reducible refine CM.out.mono ?_);rintro e w8 ⟨rfl,k1⟩)
            exact ⟨rfl,rfl,HZ.out.kp.trans k1⟩
         ·have CM:=Lib.hid (must_no 105 HZ.out.st (by omega) hq)
          have hE:r=.error 1:=HR.out.trans (if_pos hq)
          subst hE
          clear hq
          go_wp2_with (go_at_call 214;(with_reducible refine CM.out.mono ?_);rintro e w6 ⟨rfl,k1⟩)
          exact ⟨rfl,rfl,HZ.out.kp.trans k1⟩
        ·have CM:=Lib.hid (may_noT 45 HZ.out.st (by omega) hq)
         have HR:=Lib.hid (HR.out.trans (if_neg hq))
         clear hq tf ta tb tc td te tg th ti
         go_upto_region 7 with (go_at_call 201;(with_reducible refine CM.out.mono ?_);rintro e w5 ⟨rfl,h1,k1⟩;have HZ:=Lib.hid (HZ.out.by h1 k1);have HT:=Lib.hid (kept_row HT.out k1 hbg);obtain ⟨tf,ta,tb,tc,td,te,tg,th,ti⟩:=tcells HT.out;clear h1 k1 CM)
         have HR:=Lib.hid (show r=if ptAt l (at_+1)≠105 then .error 1 else if ptAt l (at_+1+1)=41 then .ok ({ kind:=11,fold:=1 },at_+1+1+1) else if ptAt l (at_+1+1)=58 then .ok (openT 1 (1) [],at_+1+1+1) else .error 1 from HR.out)
         by_cases hq:ptAt l (at_+1)=105
         ·have CM:=Lib.hid (must_yes 105 HZ.out.st (by omega) hq)
          have HR:=Lib.hid (HR.out.trans (if_neg (fun x=>x hq)))
          clear hq tf ta tb tc td te tg th ti
          go_upto_region 8 with (go_at_call 214;(with_reducible refine CM.out.mono ?_);rintro e w6 ⟨rfl,h1,k1⟩;have HZ:=Lib.hid (HZ.out.by h1 k1);have HT:=Lib.hid (kept_row HT.out k1 hbg);obtain ⟨tf,ta,tb,tc,td,te,tg,th,ti⟩:=tcells HT.out;clear h1 k1 CM)
          by_cases hq:ptAt l (at_+1+1)=41
          ·have CM:=Lib.hid (may_yesT 41 HZ.out.st (by omega) hq)
           have hE:r=.ok ({ kind:=11,fold:=1 },at_+1+1+1):=HR.out.trans (if_pos hq)
           subst hE
           clear hq tf ta tb tc td te tg th ti
           go_wp2_with (first|(go_at_call 201;(with_reducible refine CM.out.mono ?_);rintro e w7 ⟨rfl,h1,k1⟩;have HZ:=Lib.hid (HZ.out.by h1 k1);have HT:=Lib.hid (kept_row HT.out k1 hbg);obtain ⟨tf,ta,tb,tc,td,te,tg,th,ti⟩:=tcells HT.out;clear h1 k1 CM)|((with_reducible apply store24 (g:=w.heap.size));rfl;(with_reducible rfl);rfl;rfl;(exact HZ.out.z);rfl;rfl))
           ((try simp only [Exit.inBlock,Exit.then]);refine bodyPost_ret (v:=_) (results24 Tryz.results176 _ _ w.heap.size _ ?_ (row24 HZ.out.z) ?_) rfl ?_;rfl;rfl;exact HZ.out.done { kind:=11,fold:=1 })
          ·have CM:=Lib.hid (may_noT 41 HZ.out.st (by omega) hq)
           have HR:=Lib.hid (HR.out.trans (if_neg hq))
           clear hq tf ta tb tc td te tg th ti
           go_upto_region 10 with (go_at_call 201;(with_reducible refine CM.out.mono ?_);rintro e w7 ⟨rfl,h1,k1⟩;have HZ:=Lib.hid (HZ.out.by h1 k1);have HT:=Lib.hid (kept_row HT.out k1 hbg);obtain ⟨tf,ta,tb,tc,td,te,tg,th,ti⟩:=tcells HT.out;clear h1 k1 CM)
           by_cases hq:ptAt l (at_+1+1)=58
           ·have CM:=Lib.hid (must_yes 58 HZ.out.st (by omega) hq)
            have hE:r=.ok (openT 1 (1) [],at_+1+1+1):=HR.out.trans (if_pos hq)
            subst hE
            clear hq tf ta tb tc td te tg th ti
            go_upto_region 29 with (go_at_call 214;(with_reducible refine CM.out.mono ?_);rintro e w8 ⟨rfl,h1,k1⟩;have HZ:=Lib.hid (HZ.out.by h1 k1);have HT:=Lib.hid (kept_row HT.out k1 hbg);obtain ⟨tf,ta,tb,tc,td,te,tg,th,ti⟩:=tcells HT.out;clear h1 k1 CM)
            have HT:=Lib.hid (show (w8.setCell ⟨g,1,none⟩ (.int .i64 1)).heap[g]?=some (.cells #[.int .i64 7,.int .i64 (1),.string ⟨#[]⟩,.bool false,.int .i64 0,.int .i64 0,.int .i64 0,.int .i64 (1)] 108 (0,0)) from row_set HT.out)
            have HZ:=Lib.hid (HZ.out.set2 hg0 hbg 1 (.int .i64 1))
            obtain ⟨Y8,hY⟩:∃ Y,Y=w8.setCell ⟨g,1,none⟩ (.int .i64 1):=⟨_,rfl⟩
            rw [← hY] at HT HZ ⊢
            clear hY tf ta tb tc td te tg th ti
            obtain ⟨tf,ta,tb,tc,td,te,tg,th,ti⟩:=tcells HT.out
            go_wp2_with ((with_reducible apply store24 (g:=w.heap.size));rfl;(with_reducible rfl);rfl;rfl;(exact HZ.out.z);rfl;rfl)
            ((try simp only [Exit.inBlock,Exit.then]);refine bodyPost_ret (v:=_) (results24 Tryz.results176 _ _ w.heap.size _ ?_ (row24 HZ.out.z) ?_) rfl ?_;rfl;rfl;exact HZ.out.done (openT 1 (1) []))
           ·have CM:=Lib.hid (must_no 58 HZ.out.st (by omega) hq)
            have hE:r=.error 1:=HR.out.trans (if_neg hq)
            subst hE
            clear hq
            go_wp2_with (go_at_call 214;(with_reducible refine CM.out.mono ?_);rintro e w8 ⟨rfl,k1⟩)
            exact ⟨rfl,rfl,HZ.out.kp.trans k1⟩
         ·have CM:=Lib.hid (must_no 105 HZ.out.st (by omega) hq)
          have hE:r=.error 1:=HR.out.trans (if_pos hq)
          subst hE
          clear hq
          go_wp2_with (go_at_call 214;(with_reducible refine CM.out.mono ?_);rintro e w6 ⟨rfl,k1⟩)
          exact ⟨rfl,rfl,HZ.out.kp.trans k1⟩
  ·have CM:=Lib.hid (may_noT 63 HZ.out.st (by omega) h63)
   have hE:r=.ok (openT 11 0 [],at_):=HR.out.trans (if_pos h63)
   subst hE
   clear h63 tf ta tb tc td te tg th ti
   go_wp2_with (first|(go_at_call 201;(with_reducible refine CM.out.mono ?_);rintro e w1 ⟨rfl,h1,k1⟩;have HZ:=Lib.hid (HZ.out.by h1 k1);have HT:=Lib.hid (kept_row HT.out k1 hbg);obtain ⟨tf,ta,tb,tc,td,te,tg,th,ti⟩:=tcells HT.out;clear h1 k1 CM)|((with_reducible apply store24 (g:=w.heap.size));rfl;(with_reducible rfl);rfl;rfl;(exact HZ.out.z);rfl;rfl))
   ((try simp only [Exit.inBlock,Exit.then]);refine bodyPost_ret (v:=_) (results24 Tryz.results176 _ _ w.heap.size _ ?_ (row24 HZ.out.z) ?_) rfl ?_;rfl;rfl;exact HZ.out.done (openT 11 0 []))
 ·have e1:(d != 1)=true:=bne_iff_ne.2 hd
  have hE:r=.ok (openT 11 0 [],at_):=HR.out.trans (if_pos hd)
  subst hE
  clear hd
  go_wp2_with ((with_reducible apply store24 (g:=w.heap.size));rfl;(with_reducible rfl);rfl;rfl;(exact HZ.out.z);rfl;rfl)
  ((try simp only [Exit.inBlock,Exit.then]);refine bodyPost_ret (v:=_) (results24 Tryz.results176 _ _ w.heap.size _ ?_ (row24 HZ.out.z) ?_) rfl ?_;rfl;rfl;exact HZ.out.done (openT 11 0 []))
end Go.Proofs.YtbiahhojnjchnaaGreat
