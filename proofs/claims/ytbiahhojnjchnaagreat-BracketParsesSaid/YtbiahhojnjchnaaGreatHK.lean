/-
  Escaped of the reference: walked, first dialect: classes. Escaped of the reference: walked, first dialect: looks.
-/
import Derived.Test.YtbiahhojnjchnaaGreatHJ
set_option linter.unusedVariables false
set_option linter.unusedSimpArgs false
namespace Go.Proofs.YtbiahhojnjchnaaGreat
open Go.RowKit
set_option maxRecDepth 100000 in
set_option maxHeartbeats 8000000 in
theorem escaped20_oneA (at_:Int) (l:List Int) (A:Option Addr) (n c:Nat) (w:World) (h:Pts w.heap.size n c A l w) (h0:0≤at_) (h1:at_≤n) (hS:ptAt l at_=100∨ptAt l at_=68∨ptAt l at_=119∨ptAt l at_=87∨ptAt l at_=115∨ptAt l at_=83∨ptAt l at_=104∨ptAt l at_=72) :
  Calls Tryz.prog 139 #[.int .i64 1,.slice A n c,.int .i64 at_] w fun e w'=>ROutT (escapedP 1 l at_) e∧Below w.heap.size w w':=by
 have hsm:=h.small
 have hln:=h.len
 have HP:=Lib.hid (fun w' (hb:Below w.heap.size w w')=>h.next hb)
 obtain ⟨W0,hW0⟩:∃ W,W=(((w.alloc (.cells #[.slice A n c] 22)).alloc (.cells #[.int .i64 at_] 3)).alloc (.cells #[.int .i64 0,.int .i64 0,.string ⟨#[]⟩,.bool false,.int .i64 0,.int .i64 0,.int .i64 0,.int .i64 0] 108)):=⟨_,rfl⟩
 have HB0:=Lib.hid (show Below w.heap.size w W0 by rw [hW0];exact (((Below.refl _ _).alloc (Nat.le_refl _) _).alloc (by simp) _).alloc (by simp;omega) _)
 have hs0:W0.heap.size=w.heap.size+3:=by rw [hW0];simp
 have HL0:=Lib.hid (show W0.heap[w.heap.size]?=some (.cells #[.slice A n c] 22 (0,0)) by rw [hW0];exact hz_alloc (hz_alloc (heap_alloc_new w _)))
 have HA0:=Lib.hid (show W0.heap[w.heap.size+1]?=some (.cells #[.int .i64 at_] 3 (0,0)) by rw [hW0];have:=heap_alloc_new (w.alloc (.cells #[.slice A n c] 22)) (.cells #[.int .i64 at_] 3);exact hz_alloc (by simpa using this))
 have HZ0:=Lib.hid (show W0.heap[w.heap.size+2]?=some Z24 by rw [hW0];have:=hz_new (w:=(w.alloc (.cells #[.slice A n c] 22)).alloc (.cells #[.int .i64 at_] 3));simpa using this)
 obtain ⟨p,hp⟩:∃ p,p=ptAt l at_:=⟨_,rfl⟩
 have HPT:=Lib.hid hp
 rw [← hp] at hS
 have HS:=Lib.hid hS
 clear hS
 have C28:=Lib.hid (pointAt28 l at_ A n c w.heap.size W0 (by unfold maxLen;omega) (HP.out _ HB0.out).row)
 rw [← hp] at C28
 have k1:=cell_of_row _ _ 0 _ _ _ HL0.out
 have k2:=cell_of_row _ _ 0 _ _ _ HA0.out
 have k1:W0.cell? ⟨w.heap.size,0,none⟩=some (.slice A n c):=k1
 have k2:W0.cell? ⟨w.heap.size+1,0,none⟩=some (.int .i64 at_):=k2
 have hin:=Lib.hid (pt_or l at_)
 clear h hp
 by_cases hneg:p < 0
 ·go_enter Tryz.func139,Tryz.ntmps139
  go_upto_region 1 with (fail)
  rw [← hW0]
  clear hW0
  go_wp2_with (first
   | (go_at_call 92;(with_reducible refine C28.out.mono ?_);rintro e w' ⟨rfl,rfl⟩)
   | ((with_reducible apply store24 (g:=w.heap.size+2));rfl;(with_reducible rfl);rfl;rfl;(exact HZ0.out);rfl;rfl))
  ((try simp only [Exit.inBlock,Exit.then]);refine bodyPost_ret (v:=_) (results24q Tryz.results139 _ _ (w.heap.size+2) _ (.int .i64 0) (.int .i64 1) ?_ ?_ ?_ (row24 ?_) ?_) rfl ?_;rfl;rfl;rfl;(exact HZ0.out);rfl;exact And.intro (by rw [show escapedP 1 l at_=.error 1 from esc_neg HPT.out hneg];rfl) (Below.setRow HB0.out (Nat.le_add_right _ _) _))
 ·have hneg':(decide (p < 0))=false:=decide_eq_false hneg
  have hat:at_+1≤n:=by rcases hin.out with h2|h2;(rw [← HPT.out] at h2;omega);(rw [hln] at h2;omega)
  obtain ⟨r,hr⟩:∃ r,r=escapedP 1 l at_:=⟨_,rfl⟩
  have HR:=Lib.hid hr
  have HNEG:=Lib.hid hneg
  rw [← hr]
  clear hr hin
  go_enter Tryz.func139,Tryz.ntmps139
  go_upto_region 1 with (fail)
  rw [← hW0]
  clear hW0
  go_upto_region 5 with (first
   | (go_at_call 92;(with_reducible refine C28.out.mono ?_);rintro e w' ⟨rfl,rfl⟩))
  have hes:Es w (W0.alloc (.cells #[.int .i64 (at_+1)] 3)) n c A l at_ (at_+1):=⟨HB0.out.alloc (by omega) _,by simp;omega,hz_alloc HL0.out,hz_alloc HA0.out,hz_alloc HZ0.out,by have:=heap_alloc_new W0 (.cells #[.int .i64 (at_+1)] 3);rw [hs0] at this;exact this⟩
  obtain ⟨W1,hW1⟩:∃ W,W=W0.alloc (.cells #[.int .i64 (at_+1)] 3):=⟨_,rfl⟩
  rw [← hW1] at hes ⊢
  have hs1:W1.heap.size=w.heap.size+4:=by rw [hW1];simp;omega
  have HES:=Lib.hid hes
  simp only [Nat.add_assoc,Nat.reduceAdd]
  clear hW1 HB0 hs0 HL0 HA0 HZ0 C28 k1 k2 hes
  obtain ⟨k1,k2,k3,k4,l1,l2,l3,l4⟩:=HES.out.facts
  have HR:=Lib.hid (HR.out.trans (esc_one HPT.out (by have:=HNEG.out;omega)))
  go_upto_region 9 with (fail)
  obtain ⟨W2,hW2⟩:∃ X,X=W1.alloc (.cells #[.string ⟨#[100]⟩,.string ⟨#[100,105,103,105,116]⟩,.string ⟨#[119]⟩,.string ⟨#[119,111,114,100]⟩,.string ⟨#[115]⟩,.string ⟨#[115,112,97,99,101]⟩,.string ⟨#[104]⟩,.string ⟨#[120,100,105,103,105,116]⟩] 9):=⟨_,rfl⟩
  have HES:=Lib.hid (show Es w W2 n c A l at_ (at_+1) by rw [hW2];exact HES.out.next ((Below.refl _ _).alloc (Nat.le_refl _) _))
  have HC:=Lib.hid (show W2.heap[w.heap.size+4]?=some (.cells #[.string ⟨#[100]⟩,.string ⟨#[100,105,103,105,116]⟩,.string ⟨#[119]⟩,.string ⟨#[119,111,114,100]⟩,.string ⟨#[115]⟩,.string ⟨#[115,112,97,99,101]⟩,.string ⟨#[104]⟩,.string ⟨#[120,100,105,103,105,116]⟩] 9 (0,0)) by rw [hW2,← hs1];exact heap_alloc_new W1 _)
  rw [← hW2]
  clear hW2 hs1
  clear k1 k2 k3 k4 l1 l2 l3 l4
  go_wp2_with fail
  go_loopw [13] (fun i wr=>∃ (k:Nat) (i0:Int),(k=0∧i0=0∨k=1∧i0=2∨k=2∧i0=4∨k=3∧i0=6∨k=4∧i0=8)∧i=.int .i64 i0∧Hid (Q1 k p)∧Es w wr n c A l at_ (at_+1)∧wr.heap[w.heap.size+4]?=some (.cells #[.string ⟨#[100]⟩,.string ⟨#[100,105,103,105,116]⟩,.string ⟨#[119]⟩,.string ⟨#[119,111,114,100]⟩,.string ⟨#[115]⟩,.string ⟨#[115,112,97,99,101]⟩,.string ⟨#[104]⟩,.string ⟨#[120,100,105,103,105,116]⟩] 9 (0,0))) (fun i _=>8 - (intOf i).toNat)
  case atStart=>exact ⟨0,0,by omega,rfl,Lib.hid (by unfold Q1;omega),HES.out,HC.out⟩
  case round =>
   obtain ⟨k,i0,hcase,rfl,hQ,hES,hC⟩:=hrel
   have HES:=Lib.hid hES
   clear hES HC
   obtain ⟨k1,k2,k3,k4,l1,l2,l3,l4⟩:=HES.out.facts
   rcases hcase with ⟨rfl,rfl⟩|⟨rfl,rfl⟩|⟨rfl,rfl⟩|⟨rfl,rfl⟩|⟨rfl,rfl⟩
   ·have HC:=Lib.hid hC
    have c0:wr.cell? ⟨w.heap.size+4,0,none⟩=some (.string ⟨#[100]⟩):=cell_of_row _ _ 0 _ _ _ HC.out
    have c1:wr.cell? ⟨w.heap.size+4,1,none⟩=some (.string ⟨#[100,105,103,105,116]⟩):=cell_of_row _ _ 1 _ _ _ HC.out
    have hl4:=lt_heap HC.out
    have hcv:(convert 147 9 (.slice (some ⟨wr.heap.size,0,none⟩) 1 1)).run Tryz.prog (wr.alloc (.cells #[.int .u8 68] 5))=.ok (.string ⟨#[68]⟩) (wr.alloc (.cells #[.int .u8 68] 5)):=conv_one wr 68
    have hx8:(((ByteArray.mk #[100])[0]'(by decide)).toNat:Int)=100:=rfl
    obtain ⟨WA,hWA⟩:∃ X,X=wr.alloc (.cells #[.int .u8 68] 5):=⟨_,rfl⟩
    have hbA:Below wr.heap.size wr WA:=by rw [hWA];exact (Below.refl _ _).alloc (Nat.le_refl _) _
    have hsA:wr.heap.size < WA.heap.size:=by rw [hWA];simp
    clear hC
    by_cases hc:p=100
    ·subst hc
     have HE:=Lib.hid (show r=.ok ({ kind:=4,text:=[100,105,103,105,116] },at_+1) from HR.out.trans (one_class rfl))
     go_upto_region 13 with (fail)
     rw [← hWA]
     clear hWA hcv hx8 k1 k2 k3 k4 l1 l2 l3 l4 c0 c1
     have HES:=Lib.hid (HES.out.next hbA)
     have HC:=Lib.hid (row_next HC.out hbA)
     obtain ⟨k1,k2,k3,k4,l1,l2,l3,l4⟩:=HES.out.facts
     have c0:WA.cell? ⟨w.heap.size+4,0,none⟩=some (.string ⟨#[100]⟩):=cell_of_row _ _ 0 _ _ _ HC.out
     have c1:WA.cell? ⟨w.heap.size+4,1,none⟩=some (.string ⟨#[100,105,103,105,116]⟩):=cell_of_row _ _ 1 _ _ _ HC.out
     have hl4:=lt_heap HC.out
     go_wp2_with (go_at_call 178;(with_reducible refine (es_is HES.out HP.out ⟨by omega,by omega⟩ HPT.out 100 100 true rfl rfl).mono ?_);rintro e w3 ⟨rfl,hE,hb⟩;clear k1 k2 k3 k4 l1 l2 l3 l4;have HES:=Lib.hid hE;have HC:=Lib.hid (row_next HC.out hb);clear c0 c1;have c0:w3.cell? ⟨w.heap.size+4,0,none⟩=some (.string ⟨#[100]⟩):=cell_of_row _ _ 0 _ _ _ HC.out;have c1:w3.cell? ⟨w.heap.size+4,1,none⟩=some (.string ⟨#[100,105,103,105,116]⟩):=cell_of_row _ _ 1 _ _ _ HC.out;obtain ⟨k1,k2,k3,k4,l1,l2,l3,l4⟩:=HES.out.facts;have hb3:=hb.size;clear hb hE)
     have hw1:IntKind.i64.wrap (0+1)=1:=by decide
     have hw2:IntKind.i64.wrap 1=1:=by decide
     have HCD:=Lib.hid (show (World.drew w3).heap[w.heap.size+4]?=some (.cells #[.string ⟨#[100]⟩,.string ⟨#[100,105,103,105,116]⟩,.string ⟨#[119]⟩,.string ⟨#[119,111,114,100]⟩,.string ⟨#[115]⟩,.string ⟨#[115,112,97,99,101]⟩,.string ⟨#[104]⟩,.string ⟨#[120,100,105,103,105,116]⟩] 9 (0,0)) from HC.out)
     have c1d:(World.drew w3).cell? ⟨w.heap.size+4,1,none⟩=some (.string ⟨#[100,105,103,105,116]⟩):=c1
     have HD:=Lib.hid (Es.drew HES.out)
     go_region_held3 (fun w'=>w'.cell? ⟨w.heap.size+3,0,none⟩=some (.int .i64 (at_+1))∧w'.cell? ⟨w.heap.size+4,1,none⟩=some (.string ⟨#[100,105,103,105,116]⟩))
      (first
       | with_reducible exact ⟨HD.out.facts.2.2.1,c1d⟩
       | with_reducible exact ⟨HES.out.facts.2.2.1,c1⟩
       | with_reducible exact ⟨(put24_cell (by simp)).trans HES.out.facts.2.2.1,(put24_cell (by simp)).trans c1⟩)
      (first
       | ((go_at_call 178;(with_reducible refine (es_is HD.out HP.out ⟨by omega,by omega⟩ HPT.out 68 68 false rfl rfl).mono ?_);rintro e w3 ⟨rfl,hE,hb⟩;clear k1 k2 k3 k4 l1 l2 l3 l4;have HES:=Lib.hid hE;have HC:=Lib.hid (row_next HCD.out hb);clear c0 c1;have c0:w3.cell? ⟨w.heap.size+4,0,none⟩=some (.string ⟨#[100]⟩):=cell_of_row _ _ 0 _ _ _ HC.out;have c1:w3.cell? ⟨w.heap.size+4,1,none⟩=some (.string ⟨#[100,105,103,105,116]⟩):=cell_of_row _ _ 1 _ _ _ HC.out;obtain ⟨k1,k2,k3,k4,l1,l2,l3,l4⟩:=HES.out.facts;obtain ⟨⟨z0,z1,z2,z3,z4,z5,z6,z7⟩,⟨g0,g1,g2,g3,g4,g5,g6,g7⟩⟩:=HES.out.zs;clear hb hE)))
     all_goals (repeat (first|go_values|go_skip|go_guarded|go_step|go_upon))
     all_goals (try simp only [Exit.inBlock,Exit.then])
     all_goals (try go_simp)
     all_goals (refine bodyPost_ret (v:=.tuple #[.agg #[.int .i64 4,.int .i64 (0),.string ⟨#[100,105,103,105,116]⟩,.bool false,.int .i64 0,.int .i64 0,.int .i64 0,.int .i64 0],.int .i64 (at_+1),.int .i64 0]) ?_ rfl ?_)
     all_goals (first|(refine And.intro ?_ ?_;(rw [HE.out];rfl);(with_reducible exact put24_below HES.out.bel (Nat.le_add_right _ _)))|(refine results24q Tryz.results139 _ _ (w.heap.size+2) (#[.int .i64 4,.int .i64 (0),.string ⟨#[100,105,103,105,116]⟩,.bool false,.int .i64 0,.int .i64 0,.int .i64 0,.int .i64 0]) (.int .i64 (at_+1)) (.int .i64 0) ?_ ?_ ?_ ?_ ?_;rfl;rfl;rfl;(with_reducible exact put24 HES.out.row);rfl))
    by_cases hc2:p=68
    ·subst hc2
     have HE:=Lib.hid (show r=.ok ({ kind:=4,text:=[100,105,103,105,116],not_:=true },at_+1) from HR.out.trans (one_class rfl))
     go_upto_region 13 with (fail)
     rw [← hWA]
     clear hWA hcv hx8 k1 k2 k3 k4 l1 l2 l3 l4 c0 c1
     have HES:=Lib.hid (HES.out.next hbA)
     have HC:=Lib.hid (row_next HC.out hbA)
     obtain ⟨k1,k2,k3,k4,l1,l2,l3,l4⟩:=HES.out.facts
     have c0:WA.cell? ⟨w.heap.size+4,0,none⟩=some (.string ⟨#[100]⟩):=cell_of_row _ _ 0 _ _ _ HC.out
     have c1:WA.cell? ⟨w.heap.size+4,1,none⟩=some (.string ⟨#[100,105,103,105,116]⟩):=cell_of_row _ _ 1 _ _ _ HC.out
     have hl4:=lt_heap HC.out
     go_wp2_with (first
      | (go_at_call 178;(with_reducible refine (es_is HES.out HP.out ⟨by omega,by omega⟩ HPT.out 100 100 false rfl rfl).mono ?_);rintro e w3 ⟨rfl,hE,hb⟩;clear k1 k2 k3 k4 l1 l2 l3 l4;have HES:=Lib.hid hE;have HC:=Lib.hid (row_next HC.out hb);clear c0 c1;have c0:w3.cell? ⟨w.heap.size+4,0,none⟩=some (.string ⟨#[100]⟩):=cell_of_row _ _ 0 _ _ _ HC.out;have c1:w3.cell? ⟨w.heap.size+4,1,none⟩=some (.string ⟨#[100,105,103,105,116]⟩):=cell_of_row _ _ 1 _ _ _ HC.out;obtain ⟨k1,k2,k3,k4,l1,l2,l3,l4⟩:=HES.out.facts;have hb3:=hb.size;clear hb hE)
      | (go_at_call 178;(with_reducible refine (es_is HES.out HP.out ⟨by omega,by omega⟩ HPT.out 68 68 true rfl rfl).mono ?_);rintro e w3 ⟨rfl,hE,hb⟩;clear k1 k2 k3 k4 l1 l2 l3 l4;have HES:=Lib.hid hE;have HC:=Lib.hid (row_next HC.out hb);clear c0 c1;have c0:w3.cell? ⟨w.heap.size+4,0,none⟩=some (.string ⟨#[100]⟩):=cell_of_row _ _ 0 _ _ _ HC.out;have c1:w3.cell? ⟨w.heap.size+4,1,none⟩=some (.string ⟨#[100,105,103,105,116]⟩):=cell_of_row _ _ 1 _ _ _ HC.out;obtain ⟨k1,k2,k3,k4,l1,l2,l3,l4⟩:=HES.out.facts;have hb3:=hb.size;clear hb hE))
     have hw1:IntKind.i64.wrap (0+1)=1:=by decide
     have hw2:IntKind.i64.wrap 1=1:=by decide
     have HCD:=Lib.hid (show (World.drew w3).heap[w.heap.size+4]?=some (.cells #[.string ⟨#[100]⟩,.string ⟨#[100,105,103,105,116]⟩,.string ⟨#[119]⟩,.string ⟨#[119,111,114,100]⟩,.string ⟨#[115]⟩,.string ⟨#[115,112,97,99,101]⟩,.string ⟨#[104]⟩,.string ⟨#[120,100,105,103,105,116]⟩] 9 (0,0)) from HC.out)
     have c1d:(World.drew w3).cell? ⟨w.heap.size+4,1,none⟩=some (.string ⟨#[100,105,103,105,116]⟩):=c1
     have HD:=Lib.hid (Es.drew HES.out)
     go_region_held3 (fun w'=>w'.cell? ⟨w.heap.size+3,0,none⟩=some (.int .i64 (at_+1))∧w'.cell? ⟨w.heap.size+4,1,none⟩=some (.string ⟨#[100,105,103,105,116]⟩))
      (first
       | with_reducible exact ⟨HD.out.facts.2.2.1,c1d⟩
       | with_reducible exact ⟨HES.out.facts.2.2.1,c1⟩
       | with_reducible exact ⟨(put24_cell (by simp)).trans HES.out.facts.2.2.1,(put24_cell (by simp)).trans c1⟩)
      (first
       | ((go_at_call 178;(with_reducible refine (es_is HD.out HP.out ⟨by omega,by omega⟩ HPT.out 68 68 true rfl rfl).mono ?_);rintro e w3 ⟨rfl,hE,hb⟩;clear k1 k2 k3 k4 l1 l2 l3 l4;have HES:=Lib.hid hE;have HC:=Lib.hid (row_next HCD.out hb);clear c0 c1;have c0:w3.cell? ⟨w.heap.size+4,0,none⟩=some (.string ⟨#[100]⟩):=cell_of_row _ _ 0 _ _ _ HC.out;have c1:w3.cell? ⟨w.heap.size+4,1,none⟩=some (.string ⟨#[100,105,103,105,116]⟩):=cell_of_row _ _ 1 _ _ _ HC.out;obtain ⟨k1,k2,k3,k4,l1,l2,l3,l4⟩:=HES.out.facts;obtain ⟨⟨z0,z1,z2,z3,z4,z5,z6,z7⟩,⟨g0,g1,g2,g3,g4,g5,g6,g7⟩⟩:=HES.out.zs;clear hb hE)))
     all_goals (repeat (first|go_values|go_skip|go_guarded|go_step|go_upon))
     all_goals (try simp only [Exit.inBlock,Exit.then])
     all_goals (try go_simp)
     all_goals (refine bodyPost_ret (v:=.tuple #[.agg #[.int .i64 4,.int .i64 (0),.string ⟨#[100,105,103,105,116]⟩,.bool true,.int .i64 0,.int .i64 0,.int .i64 0,.int .i64 0],.int .i64 (at_+1),.int .i64 0]) ?_ rfl ?_)
     all_goals (first|(refine And.intro ?_ ?_;(rw [HE.out];rfl);(with_reducible exact put24_below HES.out.bel (Nat.le_add_right _ _)))|(refine results24q Tryz.results139 _ _ (w.heap.size+2) (#[.int .i64 4,.int .i64 (0),.string ⟨#[100,105,103,105,116]⟩,.bool true,.int .i64 0,.int .i64 0,.int .i64 0,.int .i64 0]) (.int .i64 (at_+1)) (.int .i64 0) ?_ ?_ ?_ ?_ ?_;rfl;rfl;rfl;(with_reducible exact put24 HES.out.row);rfl))
    have hqn:Q1 1 p:=by have:=hQ.out;unfold Q1 at this ⊢;omega
    have HQN:=Lib.hid hqn
    have HN1:=Lib.hid hc
    have HN2:=Lib.hid hc2
    clear hqn hc hc2
    go_upto_region 13 with (fail)
    rw [← hWA]
    clear hWA hcv hx8 k1 k2 k3 k4 l1 l2 l3 l4 c0 c1
    have HES:=Lib.hid (HES.out.next hbA)
    have HC:=Lib.hid (row_next HC.out hbA)
    obtain ⟨k1,k2,k3,k4,l1,l2,l3,l4⟩:=HES.out.facts
    have c0:WA.cell? ⟨w.heap.size+4,0,none⟩=some (.string ⟨#[100]⟩):=cell_of_row _ _ 0 _ _ _ HC.out
    have c1:WA.cell? ⟨w.heap.size+4,1,none⟩=some (.string ⟨#[100,105,103,105,116]⟩):=cell_of_row _ _ 1 _ _ _ HC.out
    have hl4:=lt_heap HC.out
    go_wp2_with (first
     | (go_at_call 178;(with_reducible refine (es_is HES.out HP.out ⟨by omega,by omega⟩ HPT.out 100 100 false rfl (decide_eq_false HN1.out).symm).mono ?_);rintro e w3 ⟨rfl,hE,hb⟩;clear k1 k2 k3 k4 l1 l2 l3 l4;have HES:=Lib.hid hE;have HC:=Lib.hid (row_next HC.out hb);clear c0 c1;have c0:w3.cell? ⟨w.heap.size+4,0,none⟩=some (.string ⟨#[100]⟩):=cell_of_row _ _ 0 _ _ _ HC.out;have c1:w3.cell? ⟨w.heap.size+4,1,none⟩=some (.string ⟨#[100,105,103,105,116]⟩):=cell_of_row _ _ 1 _ _ _ HC.out;obtain ⟨k1,k2,k3,k4,l1,l2,l3,l4⟩:=HES.out.facts;have hb3:=hb.size;clear hb hE)
     | (go_at_call 178;(with_reducible refine (es_is HES.out HP.out ⟨by omega,by omega⟩ HPT.out 68 68 false rfl (decide_eq_false HN2.out).symm).mono ?_);rintro e w3 ⟨rfl,hE,hb⟩;clear k1 k2 k3 k4 l1 l2 l3 l4;have HES:=Lib.hid hE;have HC:=Lib.hid (row_next HC.out hb);clear c0 c1;have c0:w3.cell? ⟨w.heap.size+4,0,none⟩=some (.string ⟨#[100]⟩):=cell_of_row _ _ 0 _ _ _ HC.out;have c1:w3.cell? ⟨w.heap.size+4,1,none⟩=some (.string ⟨#[100,105,103,105,116]⟩):=cell_of_row _ _ 1 _ _ _ HC.out;obtain ⟨k1,k2,k3,k4,l1,l2,l3,l4⟩:=HES.out.facts;have hb3:=hb.size;clear hb hE))
    go_roundw
    case rel=>exact ⟨1,2,by omega,rfl,HQN,HES.out,HC.out⟩
    case measure=>simp [intOf]
   ·have HC:=Lib.hid hC
    have c0:wr.cell? ⟨w.heap.size+4,2,none⟩=some (.string ⟨#[119]⟩):=cell_of_row _ _ 2 _ _ _ HC.out
    have c1:wr.cell? ⟨w.heap.size+4,3,none⟩=some (.string ⟨#[119,111,114,100]⟩):=cell_of_row _ _ 3 _ _ _ HC.out
    have hl4:=lt_heap HC.out
    have hcv:(convert 147 9 (.slice (some ⟨wr.heap.size,0,none⟩) 1 1)).run Tryz.prog (wr.alloc (.cells #[.int .u8 87] 5))=.ok (.string ⟨#[87]⟩) (wr.alloc (.cells #[.int .u8 87] 5)):=conv_one wr 87
    have hx8:(((ByteArray.mk #[119])[0]'(by decide)).toNat:Int)=119:=rfl
    obtain ⟨WA,hWA⟩:∃ X,X=wr.alloc (.cells #[.int .u8 87] 5):=⟨_,rfl⟩
    have hbA:Below wr.heap.size wr WA:=by rw [hWA];exact (Below.refl _ _).alloc (Nat.le_refl _) _
    have hsA:wr.heap.size < WA.heap.size:=by rw [hWA];simp
    clear hC
    by_cases hc:p=119
    ·subst hc
     have HE:=Lib.hid (show r=.ok ({ kind:=4,text:=[119,111,114,100] },at_+1) from HR.out.trans (one_class rfl))
     go_upto_region 13 with (fail)
     rw [← hWA]
     clear hWA hcv hx8 k1 k2 k3 k4 l1 l2 l3 l4 c0 c1
     have HES:=Lib.hid (HES.out.next hbA)
     have HC:=Lib.hid (row_next HC.out hbA)
     obtain ⟨k1,k2,k3,k4,l1,l2,l3,l4⟩:=HES.out.facts
     have c0:WA.cell? ⟨w.heap.size+4,2,none⟩=some (.string ⟨#[119]⟩):=cell_of_row _ _ 2 _ _ _ HC.out
     have c1:WA.cell? ⟨w.heap.size+4,3,none⟩=some (.string ⟨#[119,111,114,100]⟩):=cell_of_row _ _ 3 _ _ _ HC.out
     have hl4:=lt_heap HC.out
     go_wp2_with (go_at_call 178;(with_reducible refine (es_is HES.out HP.out ⟨by omega,by omega⟩ HPT.out 119 119 true rfl rfl).mono ?_);rintro e w3 ⟨rfl,hE,hb⟩;clear k1 k2 k3 k4 l1 l2 l3 l4;have HES:=Lib.hid hE;have HC:=Lib.hid (row_next HC.out hb);clear c0 c1;have c0:w3.cell? ⟨w.heap.size+4,2,none⟩=some (.string ⟨#[119]⟩):=cell_of_row _ _ 2 _ _ _ HC.out;have c1:w3.cell? ⟨w.heap.size+4,3,none⟩=some (.string ⟨#[119,111,114,100]⟩):=cell_of_row _ _ 3 _ _ _ HC.out;obtain ⟨k1,k2,k3,k4,l1,l2,l3,l4⟩:=HES.out.facts;have hb3:=hb.size;clear hb hE)
     have hw1:IntKind.i64.wrap (2+1)=3:=by decide
     have hw2:IntKind.i64.wrap 3=3:=by decide
     have HCD:=Lib.hid (show (World.drew w3).heap[w.heap.size+4]?=some (.cells #[.string ⟨#[100]⟩,.string ⟨#[100,105,103,105,116]⟩,.string ⟨#[119]⟩,.string ⟨#[119,111,114,100]⟩,.string ⟨#[115]⟩,.string ⟨#[115,112,97,99,101]⟩,.string ⟨#[104]⟩,.string ⟨#[120,100,105,103,105,116]⟩] 9 (0,0)) from HC.out)
     have c1d:(World.drew w3).cell? ⟨w.heap.size+4,3,none⟩=some (.string ⟨#[119,111,114,100]⟩):=c1
     have HD:=Lib.hid (Es.drew HES.out)
     go_region_held3 (fun w'=>w'.cell? ⟨w.heap.size+3,0,none⟩=some (.int .i64 (at_+1))∧w'.cell? ⟨w.heap.size+4,3,none⟩=some (.string ⟨#[119,111,114,100]⟩))
      (first
       | with_reducible exact ⟨HD.out.facts.2.2.1,c1d⟩
       | with_reducible exact ⟨HES.out.facts.2.2.1,c1⟩
       | with_reducible exact ⟨(put24_cell (by simp)).trans HES.out.facts.2.2.1,(put24_cell (by simp)).trans c1⟩)
      (first
       | ((go_at_call 178;(with_reducible refine (es_is HD.out HP.out ⟨by omega,by omega⟩ HPT.out 87 87 false rfl rfl).mono ?_);rintro e w3 ⟨rfl,hE,hb⟩;clear k1 k2 k3 k4 l1 l2 l3 l4;have HES:=Lib.hid hE;have HC:=Lib.hid (row_next HCD.out hb);clear c0 c1;have c0:w3.cell? ⟨w.heap.size+4,2,none⟩=some (.string ⟨#[119]⟩):=cell_of_row _ _ 2 _ _ _ HC.out;have c1:w3.cell? ⟨w.heap.size+4,3,none⟩=some (.string ⟨#[119,111,114,100]⟩):=cell_of_row _ _ 3 _ _ _ HC.out;obtain ⟨k1,k2,k3,k4,l1,l2,l3,l4⟩:=HES.out.facts;obtain ⟨⟨z0,z1,z2,z3,z4,z5,z6,z7⟩,⟨g0,g1,g2,g3,g4,g5,g6,g7⟩⟩:=HES.out.zs;clear hb hE)))
     all_goals (repeat (first|go_values|go_skip|go_guarded|go_step|go_upon))
     all_goals (try simp only [Exit.inBlock,Exit.then])
     all_goals (try go_simp)
     all_goals (refine bodyPost_ret (v:=.tuple #[.agg #[.int .i64 4,.int .i64 (0),.string ⟨#[119,111,114,100]⟩,.bool false,.int .i64 0,.int .i64 0,.int .i64 0,.int .i64 0],.int .i64 (at_+1),.int .i64 0]) ?_ rfl ?_)
     all_goals (first|(refine And.intro ?_ ?_;(rw [HE.out];rfl);(with_reducible exact put24_below HES.out.bel (Nat.le_add_right _ _)))|(refine results24q Tryz.results139 _ _ (w.heap.size+2) (#[.int .i64 4,.int .i64 (0),.string ⟨#[119,111,114,100]⟩,.bool false,.int .i64 0,.int .i64 0,.int .i64 0,.int .i64 0]) (.int .i64 (at_+1)) (.int .i64 0) ?_ ?_ ?_ ?_ ?_;rfl;rfl;rfl;(with_reducible exact put24 HES.out.row);rfl))
    by_cases hc2:p=87
    ·subst hc2
     have HE:=Lib.hid (show r=.ok ({ kind:=4,text:=[119,111,114,100],not_:=true },at_+1) from HR.out.trans (one_class rfl))
     go_upto_region 13 with (fail)
     rw [← hWA]
     clear hWA hcv hx8 k1 k2 k3 k4 l1 l2 l3 l4 c0 c1
     have HES:=Lib.hid (HES.out.next hbA)
     have HC:=Lib.hid (row_next HC.out hbA)
     obtain ⟨k1,k2,k3,k4,l1,l2,l3,l4⟩:=HES.out.facts
     have c0:WA.cell? ⟨w.heap.size+4,2,none⟩=some (.string ⟨#[119]⟩):=cell_of_row _ _ 2 _ _ _ HC.out
     have c1:WA.cell? ⟨w.heap.size+4,3,none⟩=some (.string ⟨#[119,111,114,100]⟩):=cell_of_row _ _ 3 _ _ _ HC.out
     have hl4:=lt_heap HC.out
     go_wp2_with (first
      | (go_at_call 178;(with_reducible refine (es_is HES.out HP.out ⟨by omega,by omega⟩ HPT.out 119 119 false rfl rfl).mono ?_);rintro e w3 ⟨rfl,hE,hb⟩;clear k1 k2 k3 k4 l1 l2 l3 l4;have HES:=Lib.hid hE;have HC:=Lib.hid (row_next HC.out hb);clear c0 c1;have c0:w3.cell? ⟨w.heap.size+4,2,none⟩=some (.string ⟨#[119]⟩):=cell_of_row _ _ 2 _ _ _ HC.out;have c1:w3.cell? ⟨w.heap.size+4,3,none⟩=some (.string ⟨#[119,111,114,100]⟩):=cell_of_row _ _ 3 _ _ _ HC.out;obtain ⟨k1,k2,k3,k4,l1,l2,l3,l4⟩:=HES.out.facts;have hb3:=hb.size;clear hb hE)
      | (go_at_call 178;(with_reducible refine (es_is HES.out HP.out ⟨by omega,by omega⟩ HPT.out 87 87 true rfl rfl).mono ?_);rintro e w3 ⟨rfl,hE,hb⟩;clear k1 k2 k3 k4 l1 l2 l3 l4;have HES:=Lib.hid hE;have HC:=Lib.hid (row_next HC.out hb);clear c0 c1;have c0:w3.cell? ⟨w.heap.size+4,2,none⟩=some (.string ⟨#[119]⟩):=cell_of_row _ _ 2 _ _ _ HC.out;have c1:w3.cell? ⟨w.heap.size+4,3,none⟩=some (.string ⟨#[119,111,114,100]⟩):=cell_of_row _ _ 3 _ _ _ HC.out;obtain ⟨k1,k2,k3,k4,l1,l2,l3,l4⟩:=HES.out.facts;have hb3:=hb.size;clear hb hE))
     have hw1:IntKind.i64.wrap (2+1)=3:=by decide
     have hw2:IntKind.i64.wrap 3=3:=by decide
     have HCD:=Lib.hid (show (World.drew w3).heap[w.heap.size+4]?=some (.cells #[.string ⟨#[100]⟩,.string ⟨#[100,105,103,105,116]⟩,.string ⟨#[119]⟩,.string ⟨#[119,111,114,100]⟩,.string ⟨#[115]⟩,.string ⟨#[115,112,97,99,101]⟩,.string ⟨#[104]⟩,.string ⟨#[120,100,105,103,105,116]⟩] 9 (0,0)) from HC.out)
     have c1d:(World.drew w3).cell? ⟨w.heap.size+4,3,none⟩=some (.string ⟨#[119,111,114,100]⟩):=c1
     have HD:=Lib.hid (Es.drew HES.out)
     go_region_held3 (fun w'=>w'.cell? ⟨w.heap.size+3,0,none⟩=some (.int .i64 (at_+1))∧w'.cell? ⟨w.heap.size+4,3,none⟩=some (.string ⟨#[119,111,114,100]⟩))
      (first
       | with_reducible exact ⟨HD.out.facts.2.2.1,c1d⟩
       | with_reducible exact ⟨HES.out.facts.2.2.1,c1⟩
       | with_reducible exact ⟨(put24_cell (by simp)).trans HES.out.facts.2.2.1,(put24_cell (by simp)).trans c1⟩)
      (first
       | ((go_at_call 178;(with_reducible refine (es_is HD.out HP.out ⟨by omega,by omega⟩ HPT.out 87 87 true rfl rfl).mono ?_);rintro e w3 ⟨rfl,hE,hb⟩;clear k1 k2 k3 k4 l1 l2 l3 l4;have HES:=Lib.hid hE;have HC:=Lib.hid (row_next HCD.out hb);clear c0 c1;have c0:w3.cell? ⟨w.heap.size+4,2,none⟩=some (.string ⟨#[119]⟩):=cell_of_row _ _ 2 _ _ _ HC.out;have c1:w3.cell? ⟨w.heap.size+4,3,none⟩=some (.string ⟨#[119,111,114,100]⟩):=cell_of_row _ _ 3 _ _ _ HC.out;obtain ⟨k1,k2,k3,k4,l1,l2,l3,l4⟩:=HES.out.facts;obtain ⟨⟨z0,z1,z2,z3,z4,z5,z6,z7⟩,⟨g0,g1,g2,g3,g4,g5,g6,g7⟩⟩:=HES.out.zs;clear hb hE)))
     all_goals (repeat (first|go_values|go_skip|go_guarded|go_step|go_upon))
     all_goals (try simp only [Exit.inBlock,Exit.then])
     all_goals (try go_simp)
     all_goals (refine bodyPost_ret (v:=.tuple #[.agg #[.int .i64 4,.int .i64 (0),.string ⟨#[119,111,114,100]⟩,.bool true,.int .i64 0,.int .i64 0,.int .i64 0,.int .i64 0],.int .i64 (at_+1),.int .i64 0]) ?_ rfl ?_)
     all_goals (first|(refine And.intro ?_ ?_;(rw [HE.out];rfl);(with_reducible exact put24_below HES.out.bel (Nat.le_add_right _ _)))|(refine results24q Tryz.results139 _ _ (w.heap.size+2) (#[.int .i64 4,.int .i64 (0),.string ⟨#[119,111,114,100]⟩,.bool true,.int .i64 0,.int .i64 0,.int .i64 0,.int .i64 0]) (.int .i64 (at_+1)) (.int .i64 0) ?_ ?_ ?_ ?_ ?_;rfl;rfl;rfl;(with_reducible exact put24 HES.out.row);rfl))
    have hqn:Q1 2 p:=by have:=hQ.out;unfold Q1 at this ⊢;omega
    have HQN:=Lib.hid hqn
    have HN1:=Lib.hid hc
    have HN2:=Lib.hid hc2
    clear hqn hc hc2
    go_upto_region 13 with (fail)
    rw [← hWA]
    clear hWA hcv hx8 k1 k2 k3 k4 l1 l2 l3 l4 c0 c1
    have HES:=Lib.hid (HES.out.next hbA)
    have HC:=Lib.hid (row_next HC.out hbA)
    obtain ⟨k1,k2,k3,k4,l1,l2,l3,l4⟩:=HES.out.facts
    have c0:WA.cell? ⟨w.heap.size+4,2,none⟩=some (.string ⟨#[119]⟩):=cell_of_row _ _ 2 _ _ _ HC.out
    have c1:WA.cell? ⟨w.heap.size+4,3,none⟩=some (.string ⟨#[119,111,114,100]⟩):=cell_of_row _ _ 3 _ _ _ HC.out
    have hl4:=lt_heap HC.out
    go_wp2_with (first
     | (go_at_call 178;(with_reducible refine (es_is HES.out HP.out ⟨by omega,by omega⟩ HPT.out 119 119 false rfl (decide_eq_false HN1.out).symm).mono ?_);rintro e w3 ⟨rfl,hE,hb⟩;clear k1 k2 k3 k4 l1 l2 l3 l4;have HES:=Lib.hid hE;have HC:=Lib.hid (row_next HC.out hb);clear c0 c1;have c0:w3.cell? ⟨w.heap.size+4,2,none⟩=some (.string ⟨#[119]⟩):=cell_of_row _ _ 2 _ _ _ HC.out;have c1:w3.cell? ⟨w.heap.size+4,3,none⟩=some (.string ⟨#[119,111,114,100]⟩):=cell_of_row _ _ 3 _ _ _ HC.out;obtain ⟨k1,k2,k3,k4,l1,l2,l3,l4⟩:=HES.out.facts;have hb3:=hb.size;clear hb hE)
     | (go_at_call 178;(with_reducible refine (es_is HES.out HP.out ⟨by omega,by omega⟩ HPT.out 87 87 false rfl (decide_eq_false HN2.out).symm).mono ?_);rintro e w3 ⟨rfl,hE,hb⟩;clear k1 k2 k3 k4 l1 l2 l3 l4;have HES:=Lib.hid hE;have HC:=Lib.hid (row_next HC.out hb);clear c0 c1;have c0:w3.cell? ⟨w.heap.size+4,2,none⟩=some (.string ⟨#[119]⟩):=cell_of_row _ _ 2 _ _ _ HC.out;have c1:w3.cell? ⟨w.heap.size+4,3,none⟩=some (.string ⟨#[119,111,114,100]⟩):=cell_of_row _ _ 3 _ _ _ HC.out;obtain ⟨k1,k2,k3,k4,l1,l2,l3,l4⟩:=HES.out.facts;have hb3:=hb.size;clear hb hE))
    go_roundw
    case rel=>exact ⟨2,4,by omega,rfl,HQN,HES.out,HC.out⟩
    case measure=>simp [intOf]
   ·have HC:=Lib.hid hC
    have c0:wr.cell? ⟨w.heap.size+4,4,none⟩=some (.string ⟨#[115]⟩):=cell_of_row _ _ 4 _ _ _ HC.out
    have c1:wr.cell? ⟨w.heap.size+4,5,none⟩=some (.string ⟨#[115,112,97,99,101]⟩):=cell_of_row _ _ 5 _ _ _ HC.out
    have hl4:=lt_heap HC.out
    have hcv:(convert 147 9 (.slice (some ⟨wr.heap.size,0,none⟩) 1 1)).run Tryz.prog (wr.alloc (.cells #[.int .u8 83] 5))=.ok (.string ⟨#[83]⟩) (wr.alloc (.cells #[.int .u8 83] 5)):=conv_one wr 83
    have hx8:(((ByteArray.mk #[115])[0]'(by decide)).toNat:Int)=115:=rfl
    obtain ⟨WA,hWA⟩:∃ X,X=wr.alloc (.cells #[.int .u8 83] 5):=⟨_,rfl⟩
    have hbA:Below wr.heap.size wr WA:=by rw [hWA];exact (Below.refl _ _).alloc (Nat.le_refl _) _
    have hsA:wr.heap.size < WA.heap.size:=by rw [hWA];simp
    clear hC
    by_cases hc:p=115
    ·subst hc
     have HE:=Lib.hid (show r=.ok ({ kind:=4,text:=[115,112,97,99,101] },at_+1) from HR.out.trans (one_class rfl))
     go_upto_region 13 with (fail)
     rw [← hWA]
     clear hWA hcv hx8 k1 k2 k3 k4 l1 l2 l3 l4 c0 c1
     have HES:=Lib.hid (HES.out.next hbA)
     have HC:=Lib.hid (row_next HC.out hbA)
     obtain ⟨k1,k2,k3,k4,l1,l2,l3,l4⟩:=HES.out.facts
     have c0:WA.cell? ⟨w.heap.size+4,4,none⟩=some (.string ⟨#[115]⟩):=cell_of_row _ _ 4 _ _ _ HC.out
     have c1:WA.cell? ⟨w.heap.size+4,5,none⟩=some (.string ⟨#[115,112,97,99,101]⟩):=cell_of_row _ _ 5 _ _ _ HC.out
     have hl4:=lt_heap HC.out
     go_wp2_with (go_at_call 178;(with_reducible refine (es_is HES.out HP.out ⟨by omega,by omega⟩ HPT.out 115 115 true rfl rfl).mono ?_);rintro e w3 ⟨rfl,hE,hb⟩;clear k1 k2 k3 k4 l1 l2 l3 l4;have HES:=Lib.hid hE;have HC:=Lib.hid (row_next HC.out hb);clear c0 c1;have c0:w3.cell? ⟨w.heap.size+4,4,none⟩=some (.string ⟨#[115]⟩):=cell_of_row _ _ 4 _ _ _ HC.out;have c1:w3.cell? ⟨w.heap.size+4,5,none⟩=some (.string ⟨#[115,112,97,99,101]⟩):=cell_of_row _ _ 5 _ _ _ HC.out;obtain ⟨k1,k2,k3,k4,l1,l2,l3,l4⟩:=HES.out.facts;have hb3:=hb.size;clear hb hE)
     have hw1:IntKind.i64.wrap (4+1)=5:=by decide
     have hw2:IntKind.i64.wrap 5=5:=by decide
     have HCD:=Lib.hid (show (World.drew w3).heap[w.heap.size+4]?=some (.cells #[.string ⟨#[100]⟩,.string ⟨#[100,105,103,105,116]⟩,.string ⟨#[119]⟩,.string ⟨#[119,111,114,100]⟩,.string ⟨#[115]⟩,.string ⟨#[115,112,97,99,101]⟩,.string ⟨#[104]⟩,.string ⟨#[120,100,105,103,105,116]⟩] 9 (0,0)) from HC.out)
     have c1d:(World.drew w3).cell? ⟨w.heap.size+4,5,none⟩=some (.string ⟨#[115,112,97,99,101]⟩):=c1
     have HD:=Lib.hid (Es.drew HES.out)
     go_region_held3 (fun w'=>w'.cell? ⟨w.heap.size+3,0,none⟩=some (.int .i64 (at_+1))∧w'.cell? ⟨w.heap.size+4,5,none⟩=some (.string ⟨#[115,112,97,99,101]⟩))
      (first
       | with_reducible exact ⟨HD.out.facts.2.2.1,c1d⟩
       | with_reducible exact ⟨HES.out.facts.2.2.1,c1⟩
       | with_reducible exact ⟨(put24_cell (by simp)).trans HES.out.facts.2.2.1,(put24_cell (by simp)).trans c1⟩)
      (first
       | ((go_at_call 178;(with_reducible refine (es_is HD.out HP.out ⟨by omega,by omega⟩ HPT.out 83 83 false rfl rfl).mono ?_);rintro e w3 ⟨rfl,hE,hb⟩;clear k1 k2 k3 k4 l1 l2 l3 l4;have HES:=Lib.hid hE;have HC:=Lib.hid (row_next HCD.out hb);clear c0 c1;have c0:w3.cell? ⟨w.heap.size+4,4,none⟩=some (.string ⟨#[115]⟩):=cell_of_row _ _ 4 _ _ _ HC.out;have c1:w3.cell? ⟨w.heap.size+4,5,none⟩=some (.string ⟨#[115,112,97,99,101]⟩):=cell_of_row _ _ 5 _ _ _ HC.out;obtain ⟨k1,k2,k3,k4,l1,l2,l3,l4⟩:=HES.out.facts;obtain ⟨⟨z0,z1,z2,z3,z4,z5,z6,z7⟩,⟨g0,g1,g2,g3,g4,g5,g6,g7⟩⟩:=HES.out.zs;clear hb hE)))
     all_goals (repeat (first|go_values|go_skip|go_guarded|go_step|go_upon))
     all_goals (try simp only [Exit.inBlock,Exit.then])
     all_goals (try go_simp)
     all_goals (refine bodyPost_ret (v:=.tuple #[.agg #[.int .i64 4,.int .i64 (0),.string ⟨#[115,112,97,99,101]⟩,.bool false,.int .i64 0,.int .i64 0,.int .i64 0,.int .i64 0],.int .i64 (at_+1),.int .i64 0]) ?_ rfl ?_)
     all_goals (first|(refine And.intro ?_ ?_;(rw [HE.out];rfl);(with_reducible exact put24_below HES.out.bel (Nat.le_add_right _ _)))|(refine results24q Tryz.results139 _ _ (w.heap.size+2) (#[.int .i64 4,.int .i64 (0),.string ⟨#[115,112,97,99,101]⟩,.bool false,.int .i64 0,.int .i64 0,.int .i64 0,.int .i64 0]) (.int .i64 (at_+1)) (.int .i64 0) ?_ ?_ ?_ ?_ ?_;rfl;rfl;rfl;(with_reducible exact put24 HES.out.row);rfl))
    by_cases hc2:p=83
    ·subst hc2
     have HE:=Lib.hid (show r=.ok ({ kind:=4,text:=[115,112,97,99,101],not_:=true },at_+1) from HR.out.trans (one_class rfl))
     go_upto_region 13 with (fail)
     rw [← hWA]
     clear hWA hcv hx8 k1 k2 k3 k4 l1 l2 l3 l4 c0 c1
     have HES:=Lib.hid (HES.out.next hbA)
     have HC:=Lib.hid (row_next HC.out hbA)
     obtain ⟨k1,k2,k3,k4,l1,l2,l3,l4⟩:=HES.out.facts
     have c0:WA.cell? ⟨w.heap.size+4,4,none⟩=some (.string ⟨#[115]⟩):=cell_of_row _ _ 4 _ _ _ HC.out
     have c1:WA.cell? ⟨w.heap.size+4,5,none⟩=some (.string ⟨#[115,112,97,99,101]⟩):=cell_of_row _ _ 5 _ _ _ HC.out
     have hl4:=lt_heap HC.out
     go_wp2_with (first
      | (go_at_call 178;(with_reducible refine (es_is HES.out HP.out ⟨by omega,by omega⟩ HPT.out 115 115 false rfl rfl).mono ?_);rintro e w3 ⟨rfl,hE,hb⟩;clear k1 k2 k3 k4 l1 l2 l3 l4;have HES:=Lib.hid hE;have HC:=Lib.hid (row_next HC.out hb);clear c0 c1;have c0:w3.cell? ⟨w.heap.size+4,4,none⟩=some (.string ⟨#[115]⟩):=cell_of_row _ _ 4 _ _ _ HC.out;have c1:w3.cell? ⟨w.heap.size+4,5,none⟩=some (.string ⟨#[115,112,97,99,101]⟩):=cell_of_row _ _ 5 _ _ _ HC.out;obtain ⟨k1,k2,k3,k4,l1,l2,l3,l4⟩:=HES.out.facts;have hb3:=hb.size;clear hb hE)
      | (go_at_call 178;(with_reducible refine (es_is HES.out HP.out ⟨by omega,by omega⟩ HPT.out 83 83 true rfl rfl).mono ?_);rintro e w3 ⟨rfl,hE,hb⟩;clear k1 k2 k3 k4 l1 l2 l3 l4;have HES:=Lib.hid hE;have HC:=Lib.hid (row_next HC.out hb);clear c0 c1;have c0:w3.cell? ⟨w.heap.size+4,4,none⟩=some (.string ⟨#[115]⟩):=cell_of_row _ _ 4 _ _ _ HC.out;have c1:w3.cell? ⟨w.heap.size+4,5,none⟩=some (.string ⟨#[115,112,97,99,101]⟩):=cell_of_row _ _ 5 _ _ _ HC.out;obtain ⟨k1,k2,k3,k4,l1,l2,l3,l4⟩:=HES.out.facts;have hb3:=hb.size;clear hb hE))
     have hw1:IntKind.i64.wrap (4+1)=5:=by decide
     have hw2:IntKind.i64.wrap 5=5:=by decide
     have HCD:=Lib.hid (show (World.drew w3).heap[w.heap.size+4]?=some (.cells #[.string ⟨#[100]⟩,.string ⟨#[100,105,103,105,116]⟩,.string ⟨#[119]⟩,.string ⟨#[119,111,114,100]⟩,.string ⟨#[115]⟩,.string ⟨#[115,112,97,99,101]⟩,.string ⟨#[104]⟩,.string ⟨#[120,100,105,103,105,116]⟩] 9 (0,0)) from HC.out)
     have c1d:(World.drew w3).cell? ⟨w.heap.size+4,5,none⟩=some (.string ⟨#[115,112,97,99,101]⟩):=c1
     have HD:=Lib.hid (Es.drew HES.out)
     go_region_held3 (fun w'=>w'.cell? ⟨w.heap.size+3,0,none⟩=some (.int .i64 (at_+1))∧w'.cell? ⟨w.heap.size+4,5,none⟩=some (.string ⟨#[115,112,97,99,101]⟩))
      (first
       | with_reducible exact ⟨HD.out.facts.2.2.1,c1d⟩
       | with_reducible exact ⟨HES.out.facts.2.2.1,c1⟩
       | with_reducible exact ⟨(put24_cell (by simp)).trans HES.out.facts.2.2.1,(put24_cell (by simp)).trans c1⟩)
      (first
       | ((go_at_call 178;(with_reducible refine (es_is HD.out HP.out ⟨by omega,by omega⟩ HPT.out 83 83 true rfl rfl).mono ?_);rintro e w3 ⟨rfl,hE,hb⟩;clear k1 k2 k3 k4 l1 l2 l3 l4;have HES:=Lib.hid hE;have HC:=Lib.hid (row_next HCD.out hb);clear c0 c1;have c0:w3.cell? ⟨w.heap.size+4,4,none⟩=some (.string ⟨#[115]⟩):=cell_of_row _ _ 4 _ _ _ HC.out;have c1:w3.cell? ⟨w.heap.size+4,5,none⟩=some (.string ⟨#[115,112,97,99,101]⟩):=cell_of_row _ _ 5 _ _ _ HC.out;obtain ⟨k1,k2,k3,k4,l1,l2,l3,l4⟩:=HES.out.facts;obtain ⟨⟨z0,z1,z2,z3,z4,z5,z6,z7⟩,⟨g0,g1,g2,g3,g4,g5,g6,g7⟩⟩:=HES.out.zs;clear hb hE)))
     all_goals (repeat (first|go_values|go_skip|go_guarded|go_step|go_upon))
     all_goals (try simp only [Exit.inBlock,Exit.then])
     all_goals (try go_simp)
     all_goals (refine bodyPost_ret (v:=.tuple #[.agg #[.int .i64 4,.int .i64 (0),.string ⟨#[115,112,97,99,101]⟩,.bool true,.int .i64 0,.int .i64 0,.int .i64 0,.int .i64 0],.int .i64 (at_+1),.int .i64 0]) ?_ rfl ?_)
     all_goals (first|(refine And.intro ?_ ?_;(rw [HE.out];rfl);(with_reducible exact put24_below HES.out.bel (Nat.le_add_right _ _)))|(refine results24q Tryz.results139 _ _ (w.heap.size+2) (#[.int .i64 4,.int .i64 (0),.string ⟨#[115,112,97,99,101]⟩,.bool true,.int .i64 0,.int .i64 0,.int .i64 0,.int .i64 0]) (.int .i64 (at_+1)) (.int .i64 0) ?_ ?_ ?_ ?_ ?_;rfl;rfl;rfl;(with_reducible exact put24 HES.out.row);rfl))
    have hqn:Q1 3 p:=by have:=hQ.out;unfold Q1 at this ⊢;omega
    have HQN:=Lib.hid hqn
    have HN1:=Lib.hid hc
    have HN2:=Lib.hid hc2
    clear hqn hc hc2
    go_upto_region 13 with (fail)
    rw [← hWA]
    clear hWA hcv hx8 k1 k2 k3 k4 l1 l2 l3 l4 c0 c1
    have HES:=Lib.hid (HES.out.next hbA)
    have HC:=Lib.hid (row_next HC.out hbA)
    obtain ⟨k1,k2,k3,k4,l1,l2,l3,l4⟩:=HES.out.facts
    have c0:WA.cell? ⟨w.heap.size+4,4,none⟩=some (.string ⟨#[115]⟩):=cell_of_row _ _ 4 _ _ _ HC.out
    have c1:WA.cell? ⟨w.heap.size+4,5,none⟩=some (.string ⟨#[115,112,97,99,101]⟩):=cell_of_row _ _ 5 _ _ _ HC.out
    have hl4:=lt_heap HC.out
    go_wp2_with (first
     | (go_at_call 178;(with_reducible refine (es_is HES.out HP.out ⟨by omega,by omega⟩ HPT.out 115 115 false rfl (decide_eq_false HN1.out).symm).mono ?_);rintro e w3 ⟨rfl,hE,hb⟩;clear k1 k2 k3 k4 l1 l2 l3 l4;have HES:=Lib.hid hE;have HC:=Lib.hid (row_next HC.out hb);clear c0 c1;have c0:w3.cell? ⟨w.heap.size+4,4,none⟩=some (.string ⟨#[115]⟩):=cell_of_row _ _ 4 _ _ _ HC.out;have c1:w3.cell? ⟨w.heap.size+4,5,none⟩=some (.string ⟨#[115,112,97,99,101]⟩):=cell_of_row _ _ 5 _ _ _ HC.out;obtain ⟨k1,k2,k3,k4,l1,l2,l3,l4⟩:=HES.out.facts;have hb3:=hb.size;clear hb hE)
     | (go_at_call 178;(with_reducible refine (es_is HES.out HP.out ⟨by omega,by omega⟩ HPT.out 83 83 false rfl (decide_eq_false HN2.out).symm).mono ?_);rintro e w3 ⟨rfl,hE,hb⟩;clear k1 k2 k3 k4 l1 l2 l3 l4;have HES:=Lib.hid hE;have HC:=Lib.hid (row_next HC.out hb);clear c0 c1;have c0:w3.cell? ⟨w.heap.size+4,4,none⟩=some (.string ⟨#[115]⟩):=cell_of_row _ _ 4 _ _ _ HC.out;have c1:w3.cell? ⟨w.heap.size+4,5,none⟩=some (.string ⟨#[115,112,97,99,101]⟩):=cell_of_row _ _ 5 _ _ _ HC.out;obtain ⟨k1,k2,k3,k4,l1,l2,l3,l4⟩:=HES.out.facts;have hb3:=hb.size;clear hb hE))
    go_roundw
    case rel=>exact ⟨3,6,by omega,rfl,HQN,HES.out,HC.out⟩
    case measure=>simp [intOf]
   ·have HC:=Lib.hid hC
    have c0:wr.cell? ⟨w.heap.size+4,6,none⟩=some (.string ⟨#[104]⟩):=cell_of_row _ _ 6 _ _ _ HC.out
    have c1:wr.cell? ⟨w.heap.size+4,7,none⟩=some (.string ⟨#[120,100,105,103,105,116]⟩):=cell_of_row _ _ 7 _ _ _ HC.out
    have hl4:=lt_heap HC.out
    have hcv:(convert 147 9 (.slice (some ⟨wr.heap.size,0,none⟩) 1 1)).run Tryz.prog (wr.alloc (.cells #[.int .u8 72] 5))=.ok (.string ⟨#[72]⟩) (wr.alloc (.cells #[.int .u8 72] 5)):=conv_one wr 72
    have hx8:(((ByteArray.mk #[104])[0]'(by decide)).toNat:Int)=104:=rfl
    obtain ⟨WA,hWA⟩:∃ X,X=wr.alloc (.cells #[.int .u8 72] 5):=⟨_,rfl⟩
    have hbA:Below wr.heap.size wr WA:=by rw [hWA];exact (Below.refl _ _).alloc (Nat.le_refl _) _
    have hsA:wr.heap.size < WA.heap.size:=by rw [hWA];simp
    clear hC
    by_cases hc:p=104
    ·subst hc
     have HE:=Lib.hid (show r=.ok ({ kind:=4,text:=[120,100,105,103,105,116] },at_+1) from HR.out.trans (one_class rfl))
     go_upto_region 13 with (fail)
     rw [← hWA]
     clear hWA hcv hx8 k1 k2 k3 k4 l1 l2 l3 l4 c0 c1
     have HES:=Lib.hid (HES.out.next hbA)
     have HC:=Lib.hid (row_next HC.out hbA)
     obtain ⟨k1,k2,k3,k4,l1,l2,l3,l4⟩:=HES.out.facts
     have c0:WA.cell? ⟨w.heap.size+4,6,none⟩=some (.string ⟨#[104]⟩):=cell_of_row _ _ 6 _ _ _ HC.out
     have c1:WA.cell? ⟨w.heap.size+4,7,none⟩=some (.string ⟨#[120,100,105,103,105,116]⟩):=cell_of_row _ _ 7 _ _ _ HC.out
     have hl4:=lt_heap HC.out
     go_wp2_with (go_at_call 178;(with_reducible refine (es_is HES.out HP.out ⟨by omega,by omega⟩ HPT.out 104 104 true rfl rfl).mono ?_);rintro e w3 ⟨rfl,hE,hb⟩;clear k1 k2 k3 k4 l1 l2 l3 l4;have HES:=Lib.hid hE;have HC:=Lib.hid (row_next HC.out hb);clear c0 c1;have c0:w3.cell? ⟨w.heap.size+4,6,none⟩=some (.string ⟨#[104]⟩):=cell_of_row _ _ 6 _ _ _ HC.out;have c1:w3.cell? ⟨w.heap.size+4,7,none⟩=some (.string ⟨#[120,100,105,103,105,116]⟩):=cell_of_row _ _ 7 _ _ _ HC.out;obtain ⟨k1,k2,k3,k4,l1,l2,l3,l4⟩:=HES.out.facts;have hb3:=hb.size;clear hb hE)
     have hw1:IntKind.i64.wrap (6+1)=7:=by decide
     have hw2:IntKind.i64.wrap 7=7:=by decide
     have HCD:=Lib.hid (show (World.drew w3).heap[w.heap.size+4]?=some (.cells #[.string ⟨#[100]⟩,.string ⟨#[100,105,103,105,116]⟩,.string ⟨#[119]⟩,.string ⟨#[119,111,114,100]⟩,.string ⟨#[115]⟩,.string ⟨#[115,112,97,99,101]⟩,.string ⟨#[104]⟩,.string ⟨#[120,100,105,103,105,116]⟩] 9 (0,0)) from HC.out)
     have c1d:(World.drew w3).cell? ⟨w.heap.size+4,7,none⟩=some (.string ⟨#[120,100,105,103,105,116]⟩):=c1
     have HD:=Lib.hid (Es.drew HES.out)
     go_region_held3 (fun w'=>w'.cell? ⟨w.heap.size+3,0,none⟩=some (.int .i64 (at_+1))∧w'.cell? ⟨w.heap.size+4,7,none⟩=some (.string ⟨#[120,100,105,103,105,116]⟩))
      (first
       | with_reducible exact ⟨HD.out.facts.2.2.1,c1d⟩
       | with_reducible exact ⟨HES.out.facts.2.2.1,c1⟩
       | with_reducible exact ⟨(put24_cell (by simp)).trans HES.out.facts.2.2.1,(put24_cell (by simp)).trans c1⟩)
      (first
       | ((go_at_call 178;(with_reducible refine (es_is HD.out HP.out ⟨by omega,by omega⟩ HPT.out 72 72 false rfl rfl).mono ?_);rintro e w3 ⟨rfl,hE,hb⟩;clear k1 k2 k3 k4 l1 l2 l3 l4;have HES:=Lib.hid hE;have HC:=Lib.hid (row_next HCD.out hb);clear c0 c1;have c0:w3.cell? ⟨w.heap.size+4,6,none⟩=some (.string ⟨#[104]⟩):=cell_of_row _ _ 6 _ _ _ HC.out;have c1:w3.cell? ⟨w.heap.size+4,7,none⟩=some (.string ⟨#[120,100,105,103,105,116]⟩):=cell_of_row _ _ 7 _ _ _ HC.out;obtain ⟨k1,k2,k3,k4,l1,l2,l3,l4⟩:=HES.out.facts;obtain ⟨⟨z0,z1,z2,z3,z4,z5,z6,z7⟩,⟨g0,g1,g2,g3,g4,g5,g6,g7⟩⟩:=HES.out.zs;clear hb hE)))
     all_goals (repeat (first|go_values|go_skip|go_guarded|go_step|go_upon))
     all_goals (try simp only [Exit.inBlock,Exit.then])
     all_goals (try go_simp)
     all_goals (refine bodyPost_ret (v:=.tuple #[.agg #[.int .i64 4,.int .i64 (0),.string ⟨#[120,100,105,103,105,116]⟩,.bool false,.int .i64 0,.int .i64 0,.int .i64 0,.int .i64 0],.int .i64 (at_+1),.int .i64 0]) ?_ rfl ?_)
     all_goals (first|(refine And.intro ?_ ?_;(rw [HE.out];rfl);(with_reducible exact put24_below HES.out.bel (Nat.le_add_right _ _)))|(refine results24q Tryz.results139 _ _ (w.heap.size+2) (#[.int .i64 4,.int .i64 (0),.string ⟨#[120,100,105,103,105,116]⟩,.bool false,.int .i64 0,.int .i64 0,.int .i64 0,.int .i64 0]) (.int .i64 (at_+1)) (.int .i64 0) ?_ ?_ ?_ ?_ ?_;rfl;rfl;rfl;(with_reducible exact put24 HES.out.row);rfl))
    by_cases hc2:p=72
    ·subst hc2
     have HE:=Lib.hid (show r=.ok ({ kind:=4,text:=[120,100,105,103,105,116],not_:=true },at_+1) from HR.out.trans (one_class rfl))
     go_upto_region 13 with (fail)
     rw [← hWA]
     clear hWA hcv hx8 k1 k2 k3 k4 l1 l2 l3 l4 c0 c1
     have HES:=Lib.hid (HES.out.next hbA)
     have HC:=Lib.hid (row_next HC.out hbA)
     obtain ⟨k1,k2,k3,k4,l1,l2,l3,l4⟩:=HES.out.facts
     have c0:WA.cell? ⟨w.heap.size+4,6,none⟩=some (.string ⟨#[104]⟩):=cell_of_row _ _ 6 _ _ _ HC.out
     have c1:WA.cell? ⟨w.heap.size+4,7,none⟩=some (.string ⟨#[120,100,105,103,105,116]⟩):=cell_of_row _ _ 7 _ _ _ HC.out
     have hl4:=lt_heap HC.out
     go_wp2_with (first
      | (go_at_call 178;(with_reducible refine (es_is HES.out HP.out ⟨by omega,by omega⟩ HPT.out 104 104 false rfl rfl).mono ?_);rintro e w3 ⟨rfl,hE,hb⟩;clear k1 k2 k3 k4 l1 l2 l3 l4;have HES:=Lib.hid hE;have HC:=Lib.hid (row_next HC.out hb);clear c0 c1;have c0:w3.cell? ⟨w.heap.size+4,6,none⟩=some (.string ⟨#[104]⟩):=cell_of_row _ _ 6 _ _ _ HC.out;have c1:w3.cell? ⟨w.heap.size+4,7,none⟩=some (.string ⟨#[120,100,105,103,105,116]⟩):=cell_of_row _ _ 7 _ _ _ HC.out;obtain ⟨k1,k2,k3,k4,l1,l2,l3,l4⟩:=HES.out.facts;have hb3:=hb.size;clear hb hE)
      | (go_at_call 178;(with_reducible refine (es_is HES.out HP.out ⟨by omega,by omega⟩ HPT.out 72 72 true rfl rfl).mono ?_);rintro e w3 ⟨rfl,hE,hb⟩;clear k1 k2 k3 k4 l1 l2 l3 l4;have HES:=Lib.hid hE;have HC:=Lib.hid (row_next HC.out hb);clear c0 c1;have c0:w3.cell? ⟨w.heap.size+4,6,none⟩=some (.string ⟨#[104]⟩):=cell_of_row _ _ 6 _ _ _ HC.out;have c1:w3.cell? ⟨w.heap.size+4,7,none⟩=some (.string ⟨#[120,100,105,103,105,116]⟩):=cell_of_row _ _ 7 _ _ _ HC.out;obtain ⟨k1,k2,k3,k4,l1,l2,l3,l4⟩:=HES.out.facts;have hb3:=hb.size;clear hb hE))
     have hw1:IntKind.i64.wrap (6+1)=7:=by decide
     have hw2:IntKind.i64.wrap 7=7:=by decide
     have HCD:=Lib.hid (show (World.drew w3).heap[w.heap.size+4]?=some (.cells #[.string ⟨#[100]⟩,.string ⟨#[100,105,103,105,116]⟩,.string ⟨#[119]⟩,.string ⟨#[119,111,114,100]⟩,.string ⟨#[115]⟩,.string ⟨#[115,112,97,99,101]⟩,.string ⟨#[104]⟩,.string ⟨#[120,100,105,103,105,116]⟩] 9 (0,0)) from HC.out)
     have c1d:(World.drew w3).cell? ⟨w.heap.size+4,7,none⟩=some (.string ⟨#[120,100,105,103,105,116]⟩):=c1
     have HD:=Lib.hid (Es.drew HES.out)
     go_region_held3 (fun w'=>w'.cell? ⟨w.heap.size+3,0,none⟩=some (.int .i64 (at_+1))∧w'.cell? ⟨w.heap.size+4,7,none⟩=some (.string ⟨#[120,100,105,103,105,116]⟩))
      (first
       | with_reducible exact ⟨HD.out.facts.2.2.1,c1d⟩
       | with_reducible exact ⟨HES.out.facts.2.2.1,c1⟩
       | with_reducible exact ⟨(put24_cell (by simp)).trans HES.out.facts.2.2.1,(put24_cell (by simp)).trans c1⟩)
      (first
       | ((go_at_call 178;(with_reducible refine (es_is HD.out HP.out ⟨by omega,by omega⟩ HPT.out 72 72 true rfl rfl).mono ?_);rintro e w3 ⟨rfl,hE,hb⟩;clear k1 k2 k3 k4 l1 l2 l3 l4;have HES:=Lib.hid hE;have HC:=Lib.hid (row_next HCD.out hb);clear c0 c1;have c0:w3.cell? ⟨w.heap.size+4,6,none⟩=some (.string ⟨#[104]⟩):=cell_of_row _ _ 6 _ _ _ HC.out;have c1:w3.cell? ⟨w.heap.size+4,7,none⟩=some (.string ⟨#[120,100,105,103,105,116]⟩):=cell_of_row _ _ 7 _ _ _ HC.out;obtain ⟨k1,k2,k3,k4,l1,l2,l3,l4⟩:=HES.out.facts;obtain ⟨⟨z0,z1,z2,z3,z4,z5,z6,z7⟩,⟨g0,g1,g2,g3,g4,g5,g6,g7⟩⟩:=HES.out.zs;clear hb hE)))
     all_goals (repeat (first|go_values|go_skip|go_guarded|go_step|go_upon))
     all_goals (try simp only [Exit.inBlock,Exit.then])
     all_goals (try go_simp)
     all_goals (refine bodyPost_ret (v:=.tuple #[.agg #[.int .i64 4,.int .i64 (0),.string ⟨#[120,100,105,103,105,116]⟩,.bool true,.int .i64 0,.int .i64 0,.int .i64 0,.int .i64 0],.int .i64 (at_+1),.int .i64 0]) ?_ rfl ?_)
     all_goals (first|(refine And.intro ?_ ?_;(rw [HE.out];rfl);(with_reducible exact put24_below HES.out.bel (Nat.le_add_right _ _)))|(refine results24q Tryz.results139 _ _ (w.heap.size+2) (#[.int .i64 4,.int .i64 (0),.string ⟨#[120,100,105,103,105,116]⟩,.bool true,.int .i64 0,.int .i64 0,.int .i64 0,.int .i64 0]) (.int .i64 (at_+1)) (.int .i64 0) ?_ ?_ ?_ ?_ ?_;rfl;rfl;rfl;(with_reducible exact put24 HES.out.row);rfl))
    have hqn:Q1 4 p:=by have:=hQ.out;unfold Q1 at this ⊢;omega
    have HQN:=Lib.hid hqn
    have HN1:=Lib.hid hc
    have HN2:=Lib.hid hc2
    clear hqn hc hc2
    go_upto_region 13 with (fail)
    rw [← hWA]
    clear hWA hcv hx8 k1 k2 k3 k4 l1 l2 l3 l4 c0 c1
    have HES:=Lib.hid (HES.out.next hbA)
    have HC:=Lib.hid (row_next HC.out hbA)
    obtain ⟨k1,k2,k3,k4,l1,l2,l3,l4⟩:=HES.out.facts
    have c0:WA.cell? ⟨w.heap.size+4,6,none⟩=some (.string ⟨#[104]⟩):=cell_of_row _ _ 6 _ _ _ HC.out
    have c1:WA.cell? ⟨w.heap.size+4,7,none⟩=some (.string ⟨#[120,100,105,103,105,116]⟩):=cell_of_row _ _ 7 _ _ _ HC.out
    have hl4:=lt_heap HC.out
    go_wp2_with (first
     | (go_at_call 178;(with_reducible refine (es_is HES.out HP.out ⟨by omega,by omega⟩ HPT.out 104 104 false rfl (decide_eq_false HN1.out).symm).mono ?_);rintro e w3 ⟨rfl,hE,hb⟩;clear k1 k2 k3 k4 l1 l2 l3 l4;have HES:=Lib.hid hE;have HC:=Lib.hid (row_next HC.out hb);clear c0 c1;have c0:w3.cell? ⟨w.heap.size+4,6,none⟩=some (.string ⟨#[104]⟩):=cell_of_row _ _ 6 _ _ _ HC.out;have c1:w3.cell? ⟨w.heap.size+4,7,none⟩=some (.string ⟨#[120,100,105,103,105,116]⟩):=cell_of_row _ _ 7 _ _ _ HC.out;obtain ⟨k1,k2,k3,k4,l1,l2,l3,l4⟩:=HES.out.facts;have hb3:=hb.size;clear hb hE)
     | (go_at_call 178;(with_reducible refine (es_is HES.out HP.out ⟨by omega,by omega⟩ HPT.out 72 72 false rfl (decide_eq_false HN2.out).symm).mono ?_);rintro e w3 ⟨rfl,hE,hb⟩;clear k1 k2 k3 k4 l1 l2 l3 l4;have HES:=Lib.hid hE;have HC:=Lib.hid (row_next HC.out hb);clear c0 c1;have c0:w3.cell? ⟨w.heap.size+4,6,none⟩=some (.string ⟨#[104]⟩):=cell_of_row _ _ 6 _ _ _ HC.out;have c1:w3.cell? ⟨w.heap.size+4,7,none⟩=some (.string ⟨#[120,100,105,103,105,116]⟩):=cell_of_row _ _ 7 _ _ _ HC.out;obtain ⟨k1,k2,k3,k4,l1,l2,l3,l4⟩:=HES.out.facts;have hb3:=hb.size;clear hb hE))
    go_roundw
    case rel=>exact ⟨4,8,by omega,rfl,HQN,HES.out,HC.out⟩
    case measure=>simp [intOf]
   ·exfalso
    have a1:=HS.out
    have a2:=hQ.out
    unfold Q1 at a2
    omega
end Go.Proofs.YtbiahhojnjchnaaGreat
namespace Go.Proofs.YtbiahhojnjchnaaGreat
open Go.RowKit
set_option maxRecDepth 100000 in
set_option maxHeartbeats 8000000 in
theorem escaped20_oneB1a (at_:Int) (l:List Int) (A:Option Addr) (n c:Nat) (w:World) (h:Pts w.heap.size n c A l w) (h0:0≤at_) (h1:at_≤n) (hS:¬ (ptAt l at_=100∨ptAt l at_=68∨ptAt l at_=119∨ptAt l at_=87∨ptAt l at_=115∨ptAt l at_=83∨ptAt l at_=104∨ptAt l at_=72)) (hT:ptAt l at_=98∨ptAt l at_=66∨ptAt l at_=65∨ptAt l at_=122) :
  Calls Tryz.prog 139 #[.int .i64 1,.slice A n c,.int .i64 at_] w fun e w'=>ROutT (escapedP 1 l at_) e∧Below w.heap.size w w':=by
 have hsm:=h.small
 have hln:=h.len
 have HP:=Lib.hid (fun w' (hb:Below w.heap.size w w')=>h.next hb)
 obtain ⟨W0,hW0⟩:∃ W,W=(((w.alloc (.cells #[.slice A n c] 22)).alloc (.cells #[.int .i64 at_] 3)).alloc (.cells #[.int .i64 0,.int .i64 0,.string ⟨#[]⟩,.bool false,.int .i64 0,.int .i64 0,.int .i64 0,.int .i64 0] 108)):=⟨_,rfl⟩
 have HB0:=Lib.hid (show Below w.heap.size w W0 by rw [hW0];exact (((Below.refl _ _).alloc (Nat.le_refl _) _).alloc (by simp) _).alloc (by simp;omega) _)
 have hs0:W0.heap.size=w.heap.size+3:=by rw [hW0];simp
 have HL0:=Lib.hid (show W0.heap[w.heap.size]?=some (.cells #[.slice A n c] 22 (0,0)) by rw [hW0];exact hz_alloc (hz_alloc (heap_alloc_new w _)))
 have HA0:=Lib.hid (show W0.heap[w.heap.size+1]?=some (.cells #[.int .i64 at_] 3 (0,0)) by rw [hW0];have:=heap_alloc_new (w.alloc (.cells #[.slice A n c] 22)) (.cells #[.int .i64 at_] 3);exact hz_alloc (by simpa using this))
 have HZ0:=Lib.hid (show W0.heap[w.heap.size+2]?=some Z24 by rw [hW0];have:=hz_new (w:=(w.alloc (.cells #[.slice A n c] 22)).alloc (.cells #[.int .i64 at_] 3));simpa using this)
 obtain ⟨p,hp⟩:∃ p,p=ptAt l at_:=⟨_,rfl⟩
 have HPT:=Lib.hid hp
 rw [← hp] at hS hT
 have HS:=Lib.hid hS
 have HT:=Lib.hid hT
 clear hS hT
 have C28:=Lib.hid (pointAt28 l at_ A n c w.heap.size W0 (by unfold maxLen;omega) (HP.out _ HB0.out).row)
 rw [← hp] at C28
 have k1:=cell_of_row _ _ 0 _ _ _ HL0.out
 have k2:=cell_of_row _ _ 0 _ _ _ HA0.out
 have k1:W0.cell? ⟨w.heap.size,0,none⟩=some (.slice A n c):=k1
 have k2:W0.cell? ⟨w.heap.size+1,0,none⟩=some (.int .i64 at_):=k2
 have hin:=Lib.hid (pt_or l at_)
 clear h hp
 by_cases hneg:p < 0
 ·go_enter Tryz.func139,Tryz.ntmps139
  go_upto_region 1 with (fail)
  rw [← hW0]
  clear hW0
  go_wp2_with (first
   | (go_at_call 92;(with_reducible refine C28.out.mono ?_);rintro e w' ⟨rfl,rfl⟩)
   | ((with_reducible apply store24 (g:=w.heap.size+2));rfl;(with_reducible rfl);rfl;rfl;(exact HZ0.out);rfl;rfl))
  ((try simp only [Exit.inBlock,Exit.then]);refine bodyPost_ret (v:=_) (results24q Tryz.results139 _ _ (w.heap.size+2) _ (.int .i64 0) (.int .i64 1) ?_ ?_ ?_ (row24 ?_) ?_) rfl ?_;rfl;rfl;rfl;(exact HZ0.out);rfl;exact And.intro (by rw [show escapedP 1 l at_=.error 1 from esc_neg HPT.out hneg];rfl) (Below.setRow HB0.out (Nat.le_add_right _ _) _))
 ·have hneg':(decide (p < 0))=false:=decide_eq_false hneg
  have hat:at_+1≤n:=by rcases hin.out with h2|h2;(rw [← HPT.out] at h2;omega);(rw [hln] at h2;omega)
  obtain ⟨r,hr⟩:∃ r,r=escapedP 1 l at_:=⟨_,rfl⟩
  have HR:=Lib.hid hr
  have HNEG:=Lib.hid hneg
  rw [← hr]
  clear hr hin
  go_enter Tryz.func139,Tryz.ntmps139
  go_upto_region 1 with (fail)
  rw [← hW0]
  clear hW0
  go_upto_region 5 with (first
   | (go_at_call 92;(with_reducible refine C28.out.mono ?_);rintro e w' ⟨rfl,rfl⟩))
  have hes:Es w (W0.alloc (.cells #[.int .i64 (at_+1)] 3)) n c A l at_ (at_+1):=⟨HB0.out.alloc (by omega) _,by simp;omega,hz_alloc HL0.out,hz_alloc HA0.out,hz_alloc HZ0.out,by have:=heap_alloc_new W0 (.cells #[.int .i64 (at_+1)] 3);rw [hs0] at this;exact this⟩
  obtain ⟨W1,hW1⟩:∃ W,W=W0.alloc (.cells #[.int .i64 (at_+1)] 3):=⟨_,rfl⟩
  rw [← hW1] at hes ⊢
  have hs1:W1.heap.size=w.heap.size+4:=by rw [hW1];simp;omega
  have HES:=Lib.hid hes
  simp only [Nat.add_assoc,Nat.reduceAdd]
  clear hW1 HB0 hs0 HL0 HA0 HZ0 C28 k1 k2 hes
  obtain ⟨k1,k2,k3,k4,l1,l2,l3,l4⟩:=HES.out.facts
  have HR:=Lib.hid (HR.out.trans (esc_one HPT.out (by have:=HNEG.out;omega)))
  go_upto_region 9 with (fail)
  obtain ⟨W2,hW2⟩:∃ X,X=W1.alloc (.cells #[.string ⟨#[100]⟩,.string ⟨#[100,105,103,105,116]⟩,.string ⟨#[119]⟩,.string ⟨#[119,111,114,100]⟩,.string ⟨#[115]⟩,.string ⟨#[115,112,97,99,101]⟩,.string ⟨#[104]⟩,.string ⟨#[120,100,105,103,105,116]⟩] 9):=⟨_,rfl⟩
  have HES:=Lib.hid (show Es w W2 n c A l at_ (at_+1) by rw [hW2];exact HES.out.next ((Below.refl _ _).alloc (Nat.le_refl _) _))
  have HC:=Lib.hid (show W2.heap[w.heap.size+4]?=some (.cells #[.string ⟨#[100]⟩,.string ⟨#[100,105,103,105,116]⟩,.string ⟨#[119]⟩,.string ⟨#[119,111,114,100]⟩,.string ⟨#[115]⟩,.string ⟨#[115,112,97,99,101]⟩,.string ⟨#[104]⟩,.string ⟨#[120,100,105,103,105,116]⟩] 9 (0,0)) by rw [hW2,← hs1];exact heap_alloc_new W1 _)
  rw [← hW2]
  clear hW2 hs1
  clear k1 k2 k3 k4 l1 l2 l3 l4
  go_wp2_with fail
  go_loopw [13] (fun i wr=>∃ (k:Nat) (i0:Int),(k=0∧i0=0∨k=1∧i0=2∨k=2∧i0=4∨k=3∧i0=6∨k=4∧i0=8)∧i=.int .i64 i0∧Hid (Q1 k p)∧Es w wr n c A l at_ (at_+1)∧wr.heap[w.heap.size+4]?=some (.cells #[.string ⟨#[100]⟩,.string ⟨#[100,105,103,105,116]⟩,.string ⟨#[119]⟩,.string ⟨#[119,111,114,100]⟩,.string ⟨#[115]⟩,.string ⟨#[115,112,97,99,101]⟩,.string ⟨#[104]⟩,.string ⟨#[120,100,105,103,105,116]⟩] 9 (0,0))) (fun i _=>8 - (intOf i).toNat)
  case atStart=>exact ⟨0,0,by omega,rfl,Lib.hid (by unfold Q1;omega),HES.out,HC.out⟩
  case round =>
   obtain ⟨k,i0,hcase,rfl,hQ,hES,hC⟩:=hrel
   have HES:=Lib.hid hES
   clear hES HC
   obtain ⟨k1,k2,k3,k4,l1,l2,l3,l4⟩:=HES.out.facts
   rcases hcase with ⟨rfl,rfl⟩|⟨rfl,rfl⟩|⟨rfl,rfl⟩|⟨rfl,rfl⟩|⟨rfl,rfl⟩
   ·have HC:=Lib.hid hC
    have c0:wr.cell? ⟨w.heap.size+4,0,none⟩=some (.string ⟨#[100]⟩):=cell_of_row _ _ 0 _ _ _ HC.out
    have c1:wr.cell? ⟨w.heap.size+4,1,none⟩=some (.string ⟨#[100,105,103,105,116]⟩):=cell_of_row _ _ 1 _ _ _ HC.out
    have hl4:=lt_heap HC.out
    have hcv:(convert 147 9 (.slice (some ⟨wr.heap.size,0,none⟩) 1 1)).run Tryz.prog (wr.alloc (.cells #[.int .u8 68] 5))=.ok (.string ⟨#[68]⟩) (wr.alloc (.cells #[.int .u8 68] 5)):=conv_one wr 68
    have hx8:(((ByteArray.mk #[100])[0]'(by decide)).toNat:Int)=100:=rfl
    obtain ⟨WA,hWA⟩:∃ X,X=wr.alloc (.cells #[.int .u8 68] 5):=⟨_,rfl⟩
    have hbA:Below wr.heap.size wr WA:=by rw [hWA];exact (Below.refl _ _).alloc (Nat.le_refl _) _
    have hsA:wr.heap.size < WA.heap.size:=by rw [hWA];simp
    clear hC
    have HN1:=Lib.hid (show ¬ p=100 from fun x=>HS.out (by omega))
    have HN2:=Lib.hid (show ¬ p=68 from fun x=>HS.out (by omega))
    have hqn:Q1 1 p:=by have a1:=HN1.out;have a2:=HN2.out;have:=hQ.out;unfold Q1 at this ⊢;omega
    have HQN:=Lib.hid hqn
    clear hqn
    go_upto_region 13 with (fail)
    rw [← hWA]
    clear hWA hcv hx8 k1 k2 k3 k4 l1 l2 l3 l4 c0 c1
    have HES:=Lib.hid (HES.out.next hbA)
    have HC:=Lib.hid (row_next HC.out hbA)
    obtain ⟨k1,k2,k3,k4,l1,l2,l3,l4⟩:=HES.out.facts
    have c0:WA.cell? ⟨w.heap.size+4,0,none⟩=some (.string ⟨#[100]⟩):=cell_of_row _ _ 0 _ _ _ HC.out
    have c1:WA.cell? ⟨w.heap.size+4,1,none⟩=some (.string ⟨#[100,105,103,105,116]⟩):=cell_of_row _ _ 1 _ _ _ HC.out
    have hl4:=lt_heap HC.out
    go_wp2_with (first
     | (go_at_call 178;(with_reducible refine (es_is HES.out HP.out ⟨by omega,by omega⟩ HPT.out 100 100 false rfl (decide_eq_false HN1.out).symm).mono ?_);rintro e w3 ⟨rfl,hE,hb⟩;clear k1 k2 k3 k4 l1 l2 l3 l4;have HES:=Lib.hid hE;have HC:=Lib.hid (row_next HC.out hb);clear c0 c1;have c0:w3.cell? ⟨w.heap.size+4,0,none⟩=some (.string ⟨#[100]⟩):=cell_of_row _ _ 0 _ _ _ HC.out;have c1:w3.cell? ⟨w.heap.size+4,1,none⟩=some (.string ⟨#[100,105,103,105,116]⟩):=cell_of_row _ _ 1 _ _ _ HC.out;obtain ⟨k1,k2,k3,k4,l1,l2,l3,l4⟩:=HES.out.facts;have hb3:=hb.size;clear hb hE)
     | (go_at_call 178;(with_reducible refine (es_is HES.out HP.out ⟨by omega,by omega⟩ HPT.out 68 68 false rfl (decide_eq_false HN2.out).symm).mono ?_);rintro e w3 ⟨rfl,hE,hb⟩;clear k1 k2 k3 k4 l1 l2 l3 l4;have HES:=Lib.hid hE;have HC:=Lib.hid (row_next HC.out hb);clear c0 c1;have c0:w3.cell? ⟨w.heap.size+4,0,none⟩=some (.string ⟨#[100]⟩):=cell_of_row _ _ 0 _ _ _ HC.out;have c1:w3.cell? ⟨w.heap.size+4,1,none⟩=some (.string ⟨#[100,105,103,105,116]⟩):=cell_of_row _ _ 1 _ _ _ HC.out;obtain ⟨k1,k2,k3,k4,l1,l2,l3,l4⟩:=HES.out.facts;have hb3:=hb.size;clear hb hE))
    go_roundw
    case rel=>exact ⟨1,2,by omega,rfl,HQN,HES.out,HC.out⟩
    case measure=>simp [intOf]
   ·have HC:=Lib.hid hC
    have c0:wr.cell? ⟨w.heap.size+4,2,none⟩=some (.string ⟨#[119]⟩):=cell_of_row _ _ 2 _ _ _ HC.out
    have c1:wr.cell? ⟨w.heap.size+4,3,none⟩=some (.string ⟨#[119,111,114,100]⟩):=cell_of_row _ _ 3 _ _ _ HC.out
    have hl4:=lt_heap HC.out
    have hcv:(convert 147 9 (.slice (some ⟨wr.heap.size,0,none⟩) 1 1)).run Tryz.prog (wr.alloc (.cells #[.int .u8 87] 5))=.ok (.string ⟨#[87]⟩) (wr.alloc (.cells #[.int .u8 87] 5)):=conv_one wr 87
    have hx8:(((ByteArray.mk #[119])[0]'(by decide)).toNat:Int)=119:=rfl
    obtain ⟨WA,hWA⟩:∃ X,X=wr.alloc (.cells #[.int .u8 87] 5):=⟨_,rfl⟩
    have hbA:Below wr.heap.size wr WA:=by rw [hWA];exact (Below.refl _ _).alloc (Nat.le_refl _) _
    have hsA:wr.heap.size < WA.heap.size:=by rw [hWA];simp
    clear hC
    have HN1:=Lib.hid (show ¬ p=119 from fun x=>HS.out (by omega))
    have HN2:=Lib.hid (show ¬ p=87 from fun x=>HS.out (by omega))
    have hqn:Q1 2 p:=by have a1:=HN1.out;have a2:=HN2.out;have:=hQ.out;unfold Q1 at this ⊢;omega
    have HQN:=Lib.hid hqn
    clear hqn
    go_upto_region 13 with (fail)
    rw [← hWA]
    clear hWA hcv hx8 k1 k2 k3 k4 l1 l2 l3 l4 c0 c1
    have HES:=Lib.hid (HES.out.next hbA)
    have HC:=Lib.hid (row_next HC.out hbA)
    obtain ⟨k1,k2,k3,k4,l1,l2,l3,l4⟩:=HES.out.facts
    have c0:WA.cell? ⟨w.heap.size+4,2,none⟩=some (.string ⟨#[119]⟩):=cell_of_row _ _ 2 _ _ _ HC.out
    have c1:WA.cell? ⟨w.heap.size+4,3,none⟩=some (.string ⟨#[119,111,114,100]⟩):=cell_of_row _ _ 3 _ _ _ HC.out
    have hl4:=lt_heap HC.out
    go_wp2_with (first
     | (go_at_call 178;(with_reducible refine (es_is HES.out HP.out ⟨by omega,by omega⟩ HPT.out 119 119 false rfl (decide_eq_false HN1.out).symm).mono ?_);rintro e w3 ⟨rfl,hE,hb⟩;clear k1 k2 k3 k4 l1 l2 l3 l4;have HES:=Lib.hid hE;have HC:=Lib.hid (row_next HC.out hb);clear c0 c1;have c0:w3.cell? ⟨w.heap.size+4,2,none⟩=some (.string ⟨#[119]⟩):=cell_of_row _ _ 2 _ _ _ HC.out;have c1:w3.cell? ⟨w.heap.size+4,3,none⟩=some (.string ⟨#[119,111,114,100]⟩):=cell_of_row _ _ 3 _ _ _ HC.out;obtain ⟨k1,k2,k3,k4,l1,l2,l3,l4⟩:=HES.out.facts;have hb3:=hb.size;clear hb hE)
     | (go_at_call 178;(with_reducible refine (es_is HES.out HP.out ⟨by omega,by omega⟩ HPT.out 87 87 false rfl (decide_eq_false HN2.out).symm).mono ?_);rintro e w3 ⟨rfl,hE,hb⟩;clear k1 k2 k3 k4 l1 l2 l3 l4;have HES:=Lib.hid hE;have HC:=Lib.hid (row_next HC.out hb);clear c0 c1;have c0:w3.cell? ⟨w.heap.size+4,2,none⟩=some (.string ⟨#[119]⟩):=cell_of_row _ _ 2 _ _ _ HC.out;have c1:w3.cell? ⟨w.heap.size+4,3,none⟩=some (.string ⟨#[119,111,114,100]⟩):=cell_of_row _ _ 3 _ _ _ HC.out;obtain ⟨k1,k2,k3,k4,l1,l2,l3,l4⟩:=HES.out.facts;have hb3:=hb.size;clear hb hE))
    go_roundw
    case rel=>exact ⟨2,4,by omega,rfl,HQN,HES.out,HC.out⟩
    case measure=>simp [intOf]
   ·have HC:=Lib.hid hC
    have c0:wr.cell? ⟨w.heap.size+4,4,none⟩=some (.string ⟨#[115]⟩):=cell_of_row _ _ 4 _ _ _ HC.out
    have c1:wr.cell? ⟨w.heap.size+4,5,none⟩=some (.string ⟨#[115,112,97,99,101]⟩):=cell_of_row _ _ 5 _ _ _ HC.out
    have hl4:=lt_heap HC.out
    have hcv:(convert 147 9 (.slice (some ⟨wr.heap.size,0,none⟩) 1 1)).run Tryz.prog (wr.alloc (.cells #[.int .u8 83] 5))=.ok (.string ⟨#[83]⟩) (wr.alloc (.cells #[.int .u8 83] 5)):=conv_one wr 83
    have hx8:(((ByteArray.mk #[115])[0]'(by decide)).toNat:Int)=115:=rfl
    obtain ⟨WA,hWA⟩:∃ X,X=wr.alloc (.cells #[.int .u8 83] 5):=⟨_,rfl⟩
    have hbA:Below wr.heap.size wr WA:=by rw [hWA];exact (Below.refl _ _).alloc (Nat.le_refl _) _
    have hsA:wr.heap.size < WA.heap.size:=by rw [hWA];simp
    clear hC
    have HN1:=Lib.hid (show ¬ p=115 from fun x=>HS.out (by omega))
    have HN2:=Lib.hid (show ¬ p=83 from fun x=>HS.out (by omega))
    have hqn:Q1 3 p:=by have a1:=HN1.out;have a2:=HN2.out;have:=hQ.out;unfold Q1 at this ⊢;omega
    have HQN:=Lib.hid hqn
    clear hqn
    go_upto_region 13 with (fail)
    rw [← hWA]
    clear hWA hcv hx8 k1 k2 k3 k4 l1 l2 l3 l4 c0 c1
    have HES:=Lib.hid (HES.out.next hbA)
    have HC:=Lib.hid (row_next HC.out hbA)
    obtain ⟨k1,k2,k3,k4,l1,l2,l3,l4⟩:=HES.out.facts
    have c0:WA.cell? ⟨w.heap.size+4,4,none⟩=some (.string ⟨#[115]⟩):=cell_of_row _ _ 4 _ _ _ HC.out
    have c1:WA.cell? ⟨w.heap.size+4,5,none⟩=some (.string ⟨#[115,112,97,99,101]⟩):=cell_of_row _ _ 5 _ _ _ HC.out
    have hl4:=lt_heap HC.out
    go_wp2_with (first
     | (go_at_call 178;(with_reducible refine (es_is HES.out HP.out ⟨by omega,by omega⟩ HPT.out 115 115 false rfl (decide_eq_false HN1.out).symm).mono ?_);rintro e w3 ⟨rfl,hE,hb⟩;clear k1 k2 k3 k4 l1 l2 l3 l4;have HES:=Lib.hid hE;have HC:=Lib.hid (row_next HC.out hb);clear c0 c1;have c0:w3.cell? ⟨w.heap.size+4,4,none⟩=some (.string ⟨#[115]⟩):=cell_of_row _ _ 4 _ _ _ HC.out;have c1:w3.cell? ⟨w.heap.size+4,5,none⟩=some (.string ⟨#[115,112,97,99,101]⟩):=cell_of_row _ _ 5 _ _ _ HC.out;obtain ⟨k1,k2,k3,k4,l1,l2,l3,l4⟩:=HES.out.facts;have hb3:=hb.size;clear hb hE)
     | (go_at_call 178;(with_reducible refine (es_is HES.out HP.out ⟨by omega,by omega⟩ HPT.out 83 83 false rfl (decide_eq_false HN2.out).symm).mono ?_);rintro e w3 ⟨rfl,hE,hb⟩;clear k1 k2 k3 k4 l1 l2 l3 l4;have HES:=Lib.hid hE;have HC:=Lib.hid (row_next HC.out hb);clear c0 c1;have c0:w3.cell? ⟨w.heap.size+4,4,none⟩=some (.string ⟨#[115]⟩):=cell_of_row _ _ 4 _ _ _ HC.out;have c1:w3.cell? ⟨w.heap.size+4,5,none⟩=some (.string ⟨#[115,112,97,99,101]⟩):=cell_of_row _ _ 5 _ _ _ HC.out;obtain ⟨k1,k2,k3,k4,l1,l2,l3,l4⟩:=HES.out.facts;have hb3:=hb.size;clear hb hE))
    go_roundw
    case rel=>exact ⟨3,6,by omega,rfl,HQN,HES.out,HC.out⟩
    case measure=>simp [intOf]
   ·have HC:=Lib.hid hC
    have c0:wr.cell? ⟨w.heap.size+4,6,none⟩=some (.string ⟨#[104]⟩):=cell_of_row _ _ 6 _ _ _ HC.out
    have c1:wr.cell? ⟨w.heap.size+4,7,none⟩=some (.string ⟨#[120,100,105,103,105,116]⟩):=cell_of_row _ _ 7 _ _ _ HC.out
    have hl4:=lt_heap HC.out
    have hcv:(convert 147 9 (.slice (some ⟨wr.heap.size,0,none⟩) 1 1)).run Tryz.prog (wr.alloc (.cells #[.int .u8 72] 5))=.ok (.string ⟨#[72]⟩) (wr.alloc (.cells #[.int .u8 72] 5)):=conv_one wr 72
    have hx8:(((ByteArray.mk #[104])[0]'(by decide)).toNat:Int)=104:=rfl
    obtain ⟨WA,hWA⟩:∃ X,X=wr.alloc (.cells #[.int .u8 72] 5):=⟨_,rfl⟩
    have hbA:Below wr.heap.size wr WA:=by rw [hWA];exact (Below.refl _ _).alloc (Nat.le_refl _) _
    have hsA:wr.heap.size < WA.heap.size:=by rw [hWA];simp
    clear hC
    have HN1:=Lib.hid (show ¬ p=104 from fun x=>HS.out (by omega))
    have HN2:=Lib.hid (show ¬ p=72 from fun x=>HS.out (by omega))
    have hqn:Q1 4 p:=by have a1:=HN1.out;have a2:=HN2.out;have:=hQ.out;unfold Q1 at this ⊢;omega
    have HQN:=Lib.hid hqn
    clear hqn
    go_upto_region 13 with (fail)
    rw [← hWA]
    clear hWA hcv hx8 k1 k2 k3 k4 l1 l2 l3 l4 c0 c1
    have HES:=Lib.hid (HES.out.next hbA)
    have HC:=Lib.hid (row_next HC.out hbA)
    obtain ⟨k1,k2,k3,k4,l1,l2,l3,l4⟩:=HES.out.facts
    have c0:WA.cell? ⟨w.heap.size+4,6,none⟩=some (.string ⟨#[104]⟩):=cell_of_row _ _ 6 _ _ _ HC.out
    have c1:WA.cell? ⟨w.heap.size+4,7,none⟩=some (.string ⟨#[120,100,105,103,105,116]⟩):=cell_of_row _ _ 7 _ _ _ HC.out
    have hl4:=lt_heap HC.out
    go_wp2_with (first
     | (go_at_call 178;(with_reducible refine (es_is HES.out HP.out ⟨by omega,by omega⟩ HPT.out 104 104 false rfl (decide_eq_false HN1.out).symm).mono ?_);rintro e w3 ⟨rfl,hE,hb⟩;clear k1 k2 k3 k4 l1 l2 l3 l4;have HES:=Lib.hid hE;have HC:=Lib.hid (row_next HC.out hb);clear c0 c1;have c0:w3.cell? ⟨w.heap.size+4,6,none⟩=some (.string ⟨#[104]⟩):=cell_of_row _ _ 6 _ _ _ HC.out;have c1:w3.cell? ⟨w.heap.size+4,7,none⟩=some (.string ⟨#[120,100,105,103,105,116]⟩):=cell_of_row _ _ 7 _ _ _ HC.out;obtain ⟨k1,k2,k3,k4,l1,l2,l3,l4⟩:=HES.out.facts;have hb3:=hb.size;clear hb hE)
     | (go_at_call 178;(with_reducible refine (es_is HES.out HP.out ⟨by omega,by omega⟩ HPT.out 72 72 false rfl (decide_eq_false HN2.out).symm).mono ?_);rintro e w3 ⟨rfl,hE,hb⟩;clear k1 k2 k3 k4 l1 l2 l3 l4;have HES:=Lib.hid hE;have HC:=Lib.hid (row_next HC.out hb);clear c0 c1;have c0:w3.cell? ⟨w.heap.size+4,6,none⟩=some (.string ⟨#[104]⟩):=cell_of_row _ _ 6 _ _ _ HC.out;have c1:w3.cell? ⟨w.heap.size+4,7,none⟩=some (.string ⟨#[120,100,105,103,105,116]⟩):=cell_of_row _ _ 7 _ _ _ HC.out;obtain ⟨k1,k2,k3,k4,l1,l2,l3,l4⟩:=HES.out.facts;have hb3:=hb.size;clear hb hE))
    go_roundw
    case rel=>exact ⟨4,8,by omega,rfl,HQN,HES.out,HC.out⟩
    case measure=>simp [intOf]
   ·clear hC
    have HQ:=Lib.hid hQ.out
    clear hQ
    by_cases h98:p=98
    ·subst h98
     have HE:=Lib.hid (show r=.ok (lookT 7,at_+1) from HR.out.trans (one_look (by omega)))
     repeat (first|(go_big_may;go_says (first
      | (go_at_call 178;(with_reducible refine (es_is HES.out HP.out ⟨by omega,by omega⟩ HPT.out 98 98 true rfl rfl).mono ?_);rintro e w3 ⟨rfl,hE,hb⟩;clear k1 k2 k3 k4 l1 l2 l3 l4;have HES:=Lib.hid hE;obtain ⟨k1,k2,k3,k4,l1,l2,l3,l4⟩:=HES.out.facts;clear hb hE)
      | (go_at_call 179;(with_reducible refine (look30 7 (at_+1) (w.heap.size+3) _ l4 k3).mono ?_);rintro e w3 ⟨he,hb⟩;obtain rfl:=(show e=.returned (.tuple #[.agg #[.int .i64 3,.int .i64 7,.string ⟨#[]⟩,.bool false,.int .i64 0,.int .i64 0,.int .i64 0,.int .i64 0],.int .i64 (at_+1),.int .i64 0]) from he);clear he;clear k1 k2 k3 k4 l1 l2 l3 l4;have HES:=Lib.hid (HES.out.next hb);obtain ⟨k1,k2,k3,k4,l1,l2,l3,l4⟩:=HES.out.facts;clear hb)
      | ((with_reducible apply store24 (g:=w.heap.size+2));rfl;(with_reducible rfl);rfl;rfl;(exact HES.out.hz);rfl;rfl)))|go_values|go_skip|go_guarded|go_step|go_upon|(simp only []))
     ((try simp only [Exit.inBlock,Exit.then]);refine bodyPost_ret (v:=_) (results24q Tryz.results139 _ _ (w.heap.size+2) _ (.int .i64 (at_+1)) (.int .i64 0) ?_ ?_ ?_ (row24 ?_) ?_) rfl ?_;rfl;rfl;rfl;(exact HES.out.hz);rfl;refine And.intro ?_ ?_;(rw [HE.out];rfl);exact (Below.setRow HES.out.bel (Nat.le_add_right _ _) _))
    have H98:=Lib.hid h98
    clear h98
    by_cases h66:p=66
    ·subst h66
     have HE:=Lib.hid (show r=.ok (lookT 8,at_+1) from HR.out.trans (one_look (by omega)))
     repeat (first|(go_big_may;go_says (first
      | (go_at_call 178;(with_reducible refine (es_is HES.out HP.out ⟨by omega,by omega⟩ HPT.out 98 98 false rfl rfl).mono ?_);rintro e w3 ⟨rfl,hE,hb⟩;clear k1 k2 k3 k4 l1 l2 l3 l4;have HES:=Lib.hid hE;obtain ⟨k1,k2,k3,k4,l1,l2,l3,l4⟩:=HES.out.facts;clear hb hE)
      | (go_at_call 178;(with_reducible refine (es_is HES.out HP.out ⟨by omega,by omega⟩ HPT.out 66 66 true rfl rfl).mono ?_);rintro e w3 ⟨rfl,hE,hb⟩;clear k1 k2 k3 k4 l1 l2 l3 l4;have HES:=Lib.hid hE;obtain ⟨k1,k2,k3,k4,l1,l2,l3,l4⟩:=HES.out.facts;clear hb hE)
      | (go_at_call 179;(with_reducible refine (look30 8 (at_+1) (w.heap.size+3) _ l4 k3).mono ?_);rintro e w3 ⟨he,hb⟩;obtain rfl:=(show e=.returned (.tuple #[.agg #[.int .i64 3,.int .i64 8,.string ⟨#[]⟩,.bool false,.int .i64 0,.int .i64 0,.int .i64 0,.int .i64 0],.int .i64 (at_+1),.int .i64 0]) from he);clear he;clear k1 k2 k3 k4 l1 l2 l3 l4;have HES:=Lib.hid (HES.out.next hb);obtain ⟨k1,k2,k3,k4,l1,l2,l3,l4⟩:=HES.out.facts;clear hb)
      | ((with_reducible apply store24 (g:=w.heap.size+2));rfl;(with_reducible rfl);rfl;rfl;(exact HES.out.hz);rfl;rfl)))|go_values|go_skip|go_guarded|go_step|go_upon|(simp only []))
     ((try simp only [Exit.inBlock,Exit.then]);refine bodyPost_ret (v:=_) (results24q Tryz.results139 _ _ (w.heap.size+2) _ (.int .i64 (at_+1)) (.int .i64 0) ?_ ?_ ?_ (row24 ?_) ?_) rfl ?_;rfl;rfl;rfl;(exact HES.out.hz);rfl;refine And.intro ?_ ?_;(rw [HE.out];rfl);exact (Below.setRow HES.out.bel (Nat.le_add_right _ _) _))
    have H66:=Lib.hid h66
    clear h66
    by_cases h65:p=65
    ·subst h65
     have HE:=Lib.hid (show r=.ok (lookT 5,at_+1) from HR.out.trans (one_look (by omega)))
     repeat (first|(go_big_may;go_says (first
      | (go_at_call 178;(with_reducible refine (es_is HES.out HP.out ⟨by omega,by omega⟩ HPT.out 98 98 false rfl rfl).mono ?_);rintro e w3 ⟨rfl,hE,hb⟩;clear k1 k2 k3 k4 l1 l2 l3 l4;have HES:=Lib.hid hE;obtain ⟨k1,k2,k3,k4,l1,l2,l3,l4⟩:=HES.out.facts;clear hb hE)
      | (go_at_call 178;(with_reducible refine (es_is HES.out HP.out ⟨by omega,by omega⟩ HPT.out 66 66 false rfl rfl).mono ?_);rintro e w3 ⟨rfl,hE,hb⟩;clear k1 k2 k3 k4 l1 l2 l3 l4;have HES:=Lib.hid hE;obtain ⟨k1,k2,k3,k4,l1,l2,l3,l4⟩:=HES.out.facts;clear hb hE)
      | (go_at_call 178;(with_reducible refine (es_is HES.out HP.out ⟨by omega,by omega⟩ HPT.out 65 65 true rfl rfl).mono ?_);rintro e w3 ⟨rfl,hE,hb⟩;clear k1 k2 k3 k4 l1 l2 l3 l4;have HES:=Lib.hid hE;obtain ⟨k1,k2,k3,k4,l1,l2,l3,l4⟩:=HES.out.facts;clear hb hE)
      | (go_at_call 179;(with_reducible refine (look30 5 (at_+1) (w.heap.size+3) _ l4 k3).mono ?_);rintro e w3 ⟨he,hb⟩;obtain rfl:=(show e=.returned (.tuple #[.agg #[.int .i64 3,.int .i64 5,.string ⟨#[]⟩,.bool false,.int .i64 0,.int .i64 0,.int .i64 0,.int .i64 0],.int .i64 (at_+1),.int .i64 0]) from he);clear he;clear k1 k2 k3 k4 l1 l2 l3 l4;have HES:=Lib.hid (HES.out.next hb);obtain ⟨k1,k2,k3,k4,l1,l2,l3,l4⟩:=HES.out.facts;clear hb)
      | ((with_reducible apply store24 (g:=w.heap.size+2));rfl;(with_reducible rfl);rfl;rfl;(exact HES.out.hz);rfl;rfl)))|go_values|go_skip|go_guarded|go_step|go_upon|(simp only []))
     ((try simp only [Exit.inBlock,Exit.then]);refine bodyPost_ret (v:=_) (results24q Tryz.results139 _ _ (w.heap.size+2) _ (.int .i64 (at_+1)) (.int .i64 0) ?_ ?_ ?_ (row24 ?_) ?_) rfl ?_;rfl;rfl;rfl;(exact HES.out.hz);rfl;refine And.intro ?_ ?_;(rw [HE.out];rfl);exact (Below.setRow HES.out.bel (Nat.le_add_right _ _) _))
    have H65:=Lib.hid h65
    clear h65
    by_cases h122:p=122
    ·subst h122
     have HE:=Lib.hid (show r=.ok (lookT 6,at_+1) from HR.out.trans (one_look (by omega)))
     repeat (first|(go_big_may;go_says (first
      | (go_at_call 178;(with_reducible refine (es_is HES.out HP.out ⟨by omega,by omega⟩ HPT.out 98 98 false rfl rfl).mono ?_);rintro e w3 ⟨rfl,hE,hb⟩;clear k1 k2 k3 k4 l1 l2 l3 l4;have HES:=Lib.hid hE;obtain ⟨k1,k2,k3,k4,l1,l2,l3,l4⟩:=HES.out.facts;clear hb hE)
      | (go_at_call 178;(with_reducible refine (es_is HES.out HP.out ⟨by omega,by omega⟩ HPT.out 66 66 false rfl rfl).mono ?_);rintro e w3 ⟨rfl,hE,hb⟩;clear k1 k2 k3 k4 l1 l2 l3 l4;have HES:=Lib.hid hE;obtain ⟨k1,k2,k3,k4,l1,l2,l3,l4⟩:=HES.out.facts;clear hb hE)
      | (go_at_call 178;(with_reducible refine (es_is HES.out HP.out ⟨by omega,by omega⟩ HPT.out 65 65 false rfl rfl).mono ?_);rintro e w3 ⟨rfl,hE,hb⟩;clear k1 k2 k3 k4 l1 l2 l3 l4;have HES:=Lib.hid hE;obtain ⟨k1,k2,k3,k4,l1,l2,l3,l4⟩:=HES.out.facts;clear hb hE)
      | (go_at_call 178;(with_reducible refine (es_is HES.out HP.out ⟨by omega,by omega⟩ HPT.out 122 122 true rfl rfl).mono ?_);rintro e w3 ⟨rfl,hE,hb⟩;clear k1 k2 k3 k4 l1 l2 l3 l4;have HES:=Lib.hid hE;obtain ⟨k1,k2,k3,k4,l1,l2,l3,l4⟩:=HES.out.facts;clear hb hE)
      | (go_at_call 179;(with_reducible refine (look30 6 (at_+1) (w.heap.size+3) _ l4 k3).mono ?_);rintro e w3 ⟨he,hb⟩;obtain rfl:=(show e=.returned (.tuple #[.agg #[.int .i64 3,.int .i64 6,.string ⟨#[]⟩,.bool false,.int .i64 0,.int .i64 0,.int .i64 0,.int .i64 0],.int .i64 (at_+1),.int .i64 0]) from he);clear he;clear k1 k2 k3 k4 l1 l2 l3 l4;have HES:=Lib.hid (HES.out.next hb);obtain ⟨k1,k2,k3,k4,l1,l2,l3,l4⟩:=HES.out.facts;clear hb)
      | ((with_reducible apply store24 (g:=w.heap.size+2));rfl;(with_reducible rfl);rfl;rfl;(exact HES.out.hz);rfl;rfl)))|go_values|go_skip|go_guarded|go_step|go_upon|(simp only []))
     ((try simp only [Exit.inBlock,Exit.then]);refine bodyPost_ret (v:=_) (results24q Tryz.results139 _ _ (w.heap.size+2) _ (.int .i64 (at_+1)) (.int .i64 0) ?_ ?_ ?_ (row24 ?_) ?_) rfl ?_;rfl;rfl;rfl;(exact HES.out.hz);rfl;refine And.intro ?_ ?_;(rw [HE.out];rfl);exact (Below.setRow HES.out.bel (Nat.le_add_right _ _) _))
    have H122:=Lib.hid h122
    clear h122
    exfalso
    have a1:=HT.out
    have a3:=H98.out
    have a4:=H66.out
    have a5:=H65.out
    have a6:=H122.out
    omega
end Go.Proofs.YtbiahhojnjchnaaGreat
