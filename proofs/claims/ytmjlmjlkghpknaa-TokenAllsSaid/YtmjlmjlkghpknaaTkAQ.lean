/- Escaped of the reference: walked, third dialect: the rest. -/
import Derived.Test.YtmjlmjlkghpknaaTkAR
set_option linter.unusedVariables false
set_option linter.unusedSimpArgs false
namespace Go.Proofs.Ytmjlmjlkghpknaa
open Go.RowKit
set_option maxRecDepth 100000 in
set_option maxHeartbeats 8000000 in
theorem escaped20_threeC2 (at_:Int) (l:List Int) (A:Option Addr) (n c:Nat) (w:World) (h:Pts w.heap.size n c A l w) (h0:0≤at_) (h1:at_≤n) (hS:¬ (ptAt l at_=119∨ptAt l at_=87∨ptAt l at_=98∨ptAt l at_=66∨ptAt l at_=96∨ptAt l at_=39)) :
  Calls Try.prog 20 #[.int .i64 3,.slice A n c,.int .i64 at_] w fun e w'=>ROut (escapedP 3 l at_) e∧Below w.heap.size w w':=by
 have hsm:=h.small
 have hln:=h.len
 have HP:=Lib.hid (fun w' (hb:Below w.heap.size w w')=>h.next hb)
 obtain ⟨W0,hW0⟩:∃ W,W=(((w.alloc (.cells #[.slice A n c] 22)).alloc (.cells #[.int .i64 at_] 3)).alloc (.cells #[.int .i64 0,.int .i64 0,.string ⟨#[]⟩,.bool false,.int .i64 0,.int .i64 0,.int .i64 0,.int .i64 0] 24)):=⟨_,rfl⟩
 have HB0:=Lib.hid (show Below w.heap.size w W0 by rw [hW0];exact (((Below.refl _ _).alloc (Nat.le_refl _) _).alloc (by simp) _).alloc (by simp;omega) _)
 have hs0:W0.heap.size=w.heap.size+3:=by rw [hW0];simp
 have HL0:=Lib.hid (show W0.heap[w.heap.size]?=some (.cells #[.slice A n c] 22 (0,0)) by rw [hW0];exact hz_alloc (hz_alloc (heap_alloc_new w _)))
 have HA0:=Lib.hid (show W0.heap[w.heap.size+1]?=some (.cells #[.int .i64 at_] 3 (0,0)) by rw [hW0];have:=heap_alloc_new (w.alloc (.cells #[.slice A n c] 22)) (.cells #[.int .i64 at_] 3);exact hz_alloc (by simpa using this))
 have HZ0:=Lib.hid (show W0.heap[w.heap.size+2]?=some Z24 by rw [hW0];have:=hz_new (w:=(w.alloc (.cells #[.slice A n c] 22)).alloc (.cells #[.int .i64 at_] 3));simpa using this)
 obtain ⟨p,hp⟩:∃ p,p=ptAt l at_:=⟨_,rfl⟩
 have HPT:=Lib.hid hp
 rw [← hp] at hS
 have HS:=Lib.hid hS
 have HT:=HS
 clear hS
 have C28:=Lib.hid (pointAt28 l at_ A n c w.heap.size W0 (by unfold maxLen;omega) (HP.out _ HB0.out).row)
 rw [← hp] at C28
 have k1:=cell_of_row _ _ 0 _ _ _ HL0.out
 have k2:=cell_of_row _ _ 0 _ _ _ HA0.out
 have k1:W0.cell? ⟨w.heap.size,0,none⟩=some (.slice A n c):=k1
 have k2:W0.cell? ⟨w.heap.size+1,0,none⟩=some (.int .i64 at_):=k2
 have hin:=Lib.hid (pt_or l at_)
 clear h hp
 by_cases hneg:p < 0
 ·go_enter Try.func20,Try.ntmps20
  go_upto_region 1 with (fail)
  rw [← hW0]
  clear hW0
  go_wp2_with (first
   | (go_at_call 28;(with_reducible refine C28.out.mono ?_);rintro e w' ⟨rfl,rfl⟩)
   | ((with_reducible apply store24 (g:=w.heap.size+2));rfl;(with_reducible rfl);rfl;rfl;(exact HZ0.out);rfl;rfl))
  ((try simp only [Exit.inBlock,Exit.then]);refine bodyPost_ret (v:=_) (results24q Try.results20 _ _ (w.heap.size+2) _ (.int .i64 0) (.int .i64 1) ?_ ?_ ?_ (row24 ?_) ?_) rfl ?_;rfl;rfl;rfl;(exact HZ0.out);rfl;exact And.intro (by rw [show escapedP 3 l at_=.error 1 from esc_neg HPT.out hneg];rfl) (Below.setRow HB0.out (Nat.le_add_right _ _) _))
 ·have hneg':(decide (p < 0))=false:=decide_eq_false hneg
  have hat:at_+1≤n:=by rcases hin.out with h2|h2;(rw [← HPT.out] at h2;omega);(rw [hln] at h2;omega)
  obtain ⟨r,hr⟩:∃ r,r=escapedP 3 l at_:=⟨_,rfl⟩
  have HR:=Lib.hid hr
  have HNEG:=Lib.hid hneg
  rw [← hr]
  clear hr hin
  go_enter Try.func20,Try.ntmps20
  go_upto_region 1 with (fail)
  rw [← hW0]
  clear hW0
  go_upto_region 5 with (first
   | (go_at_call 28;(with_reducible refine C28.out.mono ?_);rintro e w' ⟨rfl,rfl⟩))
  have hes:Es w (W0.alloc (.cells #[.int .i64 (at_+1)] 3)) n c A l at_ (at_+1):=⟨HB0.out.alloc (by omega) _,by simp;omega,hz_alloc HL0.out,hz_alloc HA0.out,hz_alloc HZ0.out,by have:=heap_alloc_new W0 (.cells #[.int .i64 (at_+1)] 3);rw [hs0] at this;exact this⟩
  obtain ⟨W1,hW1⟩:∃ W,W=W0.alloc (.cells #[.int .i64 (at_+1)] 3):=⟨_,rfl⟩
  rw [← hW1] at hes ⊢
  have hs1:W1.heap.size=w.heap.size+4:=by rw [hW1];simp;omega
  have HES:=Lib.hid hes
  simp only [Nat.add_assoc,Nat.reduceAdd]
  clear hW1 HB0 hs0 HL0 HA0 HZ0 C28 k1 k2 hes
  obtain ⟨k1,k2,k3,k4,l1,l2,l3,l4⟩:=HES.out.facts
  have HR:=Lib.hid (HR.out.trans (esc_three HPT.out (by have:=HNEG.out;omega)))
  go_upto_region 9 with (fail)
  obtain ⟨W2,hW2⟩:∃ X,X=W1.alloc (.cells #[.string ⟨#[100]⟩,.string ⟨#[100,105,103,105,116]⟩,.string ⟨#[119]⟩,.string ⟨#[119,111,114,100]⟩,.string ⟨#[115]⟩,.string ⟨#[115,112,97,99,101]⟩,.string ⟨#[104]⟩,.string ⟨#[120,100,105,103,105,116]⟩] 9):=⟨_,rfl⟩
  have HES:=Lib.hid (show Es w W2 n c A l at_ (at_+1) by rw [hW2];exact HES.out.next ((Below.refl _ _).alloc (Nat.le_refl _) _))
  have HC:=Lib.hid (show W2.heap[w.heap.size+4]?=some (.cells #[.string ⟨#[100]⟩,.string ⟨#[100,105,103,105,116]⟩,.string ⟨#[119]⟩,.string ⟨#[119,111,114,100]⟩,.string ⟨#[115]⟩,.string ⟨#[115,112,97,99,101]⟩,.string ⟨#[104]⟩,.string ⟨#[120,100,105,103,105,116]⟩] 9 (0,0)) by rw [hW2,← hs1];exact heap_alloc_new W1 _)
  rw [← hW2]
  clear hW2 hs1
  clear k1 k2 k3 k4 l1 l2 l3 l4
  go_wp2_with fail
  go_loopw [13] (fun i wr=>∃ (k:Nat) (i0:Int),(k=0∧i0=0∨k=1∧i0=2∨k=2∧i0=4∨k=3∧i0=6∨k=4∧i0=8)∧i=.int .i64 i0∧Hid (Q3 k p)∧Es w wr n c A l at_ (at_+1)∧wr.heap[w.heap.size+4]?=some (.cells #[.string ⟨#[100]⟩,.string ⟨#[100,105,103,105,116]⟩,.string ⟨#[119]⟩,.string ⟨#[119,111,114,100]⟩,.string ⟨#[115]⟩,.string ⟨#[115,112,97,99,101]⟩,.string ⟨#[104]⟩,.string ⟨#[120,100,105,103,105,116]⟩] 9 (0,0))) (fun i _=>8 - (intOf i).toNat)
  case atStart=>exact ⟨0,0,by omega,rfl,Lib.hid (by unfold Q3;omega),HES.out,HC.out⟩
  case round =>
   obtain ⟨k,i0,hcase,rfl,hQ,hES,hC⟩:=hrel
   have HES:=Lib.hid hES
   clear hES HC
   obtain ⟨k1,k2,k3,k4,l1,l2,l3,l4⟩:=HES.out.facts
   rcases hcase with ⟨rfl,rfl⟩|⟨rfl,rfl⟩|⟨rfl,rfl⟩|⟨rfl,rfl⟩|⟨rfl,rfl⟩
   ·have HC:=Lib.hid hC
    have c0:wr.cell? ⟨w.heap.size+4,0,none⟩=some (.string ⟨#[100]⟩):=cell_of_row _ _ 0 _ _ _ HC.out
    have c1:wr.cell? ⟨w.heap.size+4,1,none⟩=some (.string ⟨#[100,105,103,105,116]⟩):=cell_of_row _ _ 1 _ _ _ HC.out
    have hl4:=lt_heap HC.out
    have hcv:(convert 58 9 (.slice (some ⟨wr.heap.size,0,none⟩) 1 1)).run Try.prog (wr.alloc (.cells #[.int .u8 68] 5))=.ok (.string ⟨#[68]⟩) (wr.alloc (.cells #[.int .u8 68] 5)):=conv_one wr 68
    have hx8:(((ByteArray.mk #[100])[0]'(by decide)).toNat:Int)=100:=rfl
    obtain ⟨WA,hWA⟩:∃ X,X=wr.alloc (.cells #[.int .u8 68] 5):=⟨_,rfl⟩
    have hbA:Below wr.heap.size wr WA:=by rw [hWA];exact (Below.refl _ _).alloc (Nat.le_refl _) _
    have hsA:wr.heap.size < WA.heap.size:=by rw [hWA];simp
    clear hC
    by_cases hc:p=100
    ·subst hc
     go_upto_region 13 with (fail)
     rw [← hWA]
     clear hWA hcv hx8 k1 k2 k3 k4 l1 l2 l3 l4 c0 c1
     have HES:=Lib.hid (HES.out.next hbA)
     have HC:=Lib.hid (row_next HC.out hbA)
     obtain ⟨k1,k2,k3,k4,l1,l2,l3,l4⟩:=HES.out.facts
     have c0:WA.cell? ⟨w.heap.size+4,0,none⟩=some (.string ⟨#[100]⟩):=cell_of_row _ _ 0 _ _ _ HC.out
     have c1:WA.cell? ⟨w.heap.size+4,1,none⟩=some (.string ⟨#[100,105,103,105,116]⟩):=cell_of_row _ _ 1 _ _ _ HC.out
     have hl4:=lt_heap HC.out
     go_wp2_with (first
      | (go_at_call 29;(with_reducible refine (es_is HES.out HP.out ⟨by omega,by omega⟩ HPT.out 100 100 true rfl rfl).mono ?_);rintro e w3 ⟨rfl,hE,hb⟩;clear k1 k2 k3 k4 l1 l2 l3 l4;have HES:=Lib.hid hE;have HC:=Lib.hid (row_next HC.out hb);clear c0 c1;have c0:w3.cell? ⟨w.heap.size+4,0,none⟩=some (.string ⟨#[100]⟩):=cell_of_row _ _ 0 _ _ _ HC.out;have c1:w3.cell? ⟨w.heap.size+4,1,none⟩=some (.string ⟨#[100,105,103,105,116]⟩):=cell_of_row _ _ 1 _ _ _ HC.out;obtain ⟨k1,k2,k3,k4,l1,l2,l3,l4⟩:=HES.out.facts;have hb3:=hb.size;clear hb hE))
     go_roundw
     case rel=>exact ⟨1,2,by omega,rfl,(Lib.hid (by unfold Q3;omega)),HES.out,HC.out⟩
     case measure=>simp [intOf]
    by_cases hc2:p=68
    ·subst hc2
     go_upto_region 13 with (fail)
     rw [← hWA]
     clear hWA hcv hx8 k1 k2 k3 k4 l1 l2 l3 l4 c0 c1
     have HES:=Lib.hid (HES.out.next hbA)
     have HC:=Lib.hid (row_next HC.out hbA)
     obtain ⟨k1,k2,k3,k4,l1,l2,l3,l4⟩:=HES.out.facts
     have c0:WA.cell? ⟨w.heap.size+4,0,none⟩=some (.string ⟨#[100]⟩):=cell_of_row _ _ 0 _ _ _ HC.out
     have c1:WA.cell? ⟨w.heap.size+4,1,none⟩=some (.string ⟨#[100,105,103,105,116]⟩):=cell_of_row _ _ 1 _ _ _ HC.out
     have hl4:=lt_heap HC.out
     go_wp2_with (first
      | (go_at_call 29;(with_reducible refine (es_is HES.out HP.out ⟨by omega,by omega⟩ HPT.out 100 100 false rfl rfl).mono ?_);rintro e w3 ⟨rfl,hE,hb⟩;clear k1 k2 k3 k4 l1 l2 l3 l4;have HES:=Lib.hid hE;have HC:=Lib.hid (row_next HC.out hb);clear c0 c1;have c0:w3.cell? ⟨w.heap.size+4,0,none⟩=some (.string ⟨#[100]⟩):=cell_of_row _ _ 0 _ _ _ HC.out;have c1:w3.cell? ⟨w.heap.size+4,1,none⟩=some (.string ⟨#[100,105,103,105,116]⟩):=cell_of_row _ _ 1 _ _ _ HC.out;obtain ⟨k1,k2,k3,k4,l1,l2,l3,l4⟩:=HES.out.facts;have hb3:=hb.size;clear hb hE)
      | (go_at_call 29;(with_reducible refine (es_is HES.out HP.out ⟨by omega,by omega⟩ HPT.out 68 68 true rfl rfl).mono ?_);rintro e w3 ⟨rfl,hE,hb⟩;clear k1 k2 k3 k4 l1 l2 l3 l4;have HES:=Lib.hid hE;have HC:=Lib.hid (row_next HC.out hb);clear c0 c1;have c0:w3.cell? ⟨w.heap.size+4,0,none⟩=some (.string ⟨#[100]⟩):=cell_of_row _ _ 0 _ _ _ HC.out;have c1:w3.cell? ⟨w.heap.size+4,1,none⟩=some (.string ⟨#[100,105,103,105,116]⟩):=cell_of_row _ _ 1 _ _ _ HC.out;obtain ⟨k1,k2,k3,k4,l1,l2,l3,l4⟩:=HES.out.facts;have hb3:=hb.size;clear hb hE))
     go_roundw
     case rel=>exact ⟨1,2,by omega,rfl,(Lib.hid (by unfold Q3;omega)),HES.out,HC.out⟩
     case measure=>simp [intOf]
    have HN1:=Lib.hid hc
    have HN2:=Lib.hid hc2
    clear hc hc2
    go_upto_region 13 with (fail)
    rw [← hWA]
    clear hWA hcv hx8 k1 k2 k3 k4 l1 l2 l3 l4 c0 c1
    have HES:=Lib.hid (HES.out.next hbA)
    have HC:=Lib.hid (row_next HC.out hbA)
    obtain ⟨k1,k2,k3,k4,l1,l2,l3,l4⟩:=HES.out.facts
    have c0:WA.cell? ⟨w.heap.size+4,0,none⟩=some (.string ⟨#[100]⟩):=cell_of_row _ _ 0 _ _ _ HC.out
    have c1:WA.cell? ⟨w.heap.size+4,1,none⟩=some (.string ⟨#[100,105,103,105,116]⟩):=cell_of_row _ _ 1 _ _ _ HC.out
    have hl4:=lt_heap HC.out
    go_wp2_with (first
     | (go_at_call 29;(with_reducible refine (es_is HES.out HP.out ⟨by omega,by omega⟩ HPT.out 100 100 false rfl (decide_eq_false HN1.out).symm).mono ?_);rintro e w3 ⟨rfl,hE,hb⟩;clear k1 k2 k3 k4 l1 l2 l3 l4;have HES:=Lib.hid hE;have HC:=Lib.hid (row_next HC.out hb);clear c0 c1;have c0:w3.cell? ⟨w.heap.size+4,0,none⟩=some (.string ⟨#[100]⟩):=cell_of_row _ _ 0 _ _ _ HC.out;have c1:w3.cell? ⟨w.heap.size+4,1,none⟩=some (.string ⟨#[100,105,103,105,116]⟩):=cell_of_row _ _ 1 _ _ _ HC.out;obtain ⟨k1,k2,k3,k4,l1,l2,l3,l4⟩:=HES.out.facts;have hb3:=hb.size;clear hb hE)
     | (go_at_call 29;(with_reducible refine (es_is HES.out HP.out ⟨by omega,by omega⟩ HPT.out 68 68 false rfl (decide_eq_false HN2.out).symm).mono ?_);rintro e w3 ⟨rfl,hE,hb⟩;clear k1 k2 k3 k4 l1 l2 l3 l4;have HES:=Lib.hid hE;have HC:=Lib.hid (row_next HC.out hb);clear c0 c1;have c0:w3.cell? ⟨w.heap.size+4,0,none⟩=some (.string ⟨#[100]⟩):=cell_of_row _ _ 0 _ _ _ HC.out;have c1:w3.cell? ⟨w.heap.size+4,1,none⟩=some (.string ⟨#[100,105,103,105,116]⟩):=cell_of_row _ _ 1 _ _ _ HC.out;obtain ⟨k1,k2,k3,k4,l1,l2,l3,l4⟩:=HES.out.facts;have hb3:=hb.size;clear hb hE))
    go_roundw
    case rel=>exact ⟨1,2,by omega,rfl,(Lib.hid (by have:=hQ.out;unfold Q3 at this ⊢;omega)),HES.out,HC.out⟩
    case measure=>simp [intOf]
   ·have HC:=Lib.hid hC
    have c0:wr.cell? ⟨w.heap.size+4,2,none⟩=some (.string ⟨#[119]⟩):=cell_of_row _ _ 2 _ _ _ HC.out
    have c1:wr.cell? ⟨w.heap.size+4,3,none⟩=some (.string ⟨#[119,111,114,100]⟩):=cell_of_row _ _ 3 _ _ _ HC.out
    have hl4:=lt_heap HC.out
    have hcv:(convert 58 9 (.slice (some ⟨wr.heap.size,0,none⟩) 1 1)).run Try.prog (wr.alloc (.cells #[.int .u8 87] 5))=.ok (.string ⟨#[87]⟩) (wr.alloc (.cells #[.int .u8 87] 5)):=conv_one wr 87
    have hx8:(((ByteArray.mk #[119])[0]'(by decide)).toNat:Int)=119:=rfl
    obtain ⟨WA,hWA⟩:∃ X,X=wr.alloc (.cells #[.int .u8 87] 5):=⟨_,rfl⟩
    have hbA:Below wr.heap.size wr WA:=by rw [hWA];exact (Below.refl _ _).alloc (Nat.le_refl _) _
    have hsA:wr.heap.size < WA.heap.size:=by rw [hWA];simp
    clear hC
    have HN1:=Lib.hid (show ¬ p=119 from fun e=>HT.out (by omega))
    have HN2:=Lib.hid (show ¬ p=87 from fun e=>HT.out (by omega))
    go_upto_region 13 with (fail)
    rw [← hWA]
    clear hWA hcv hx8 k1 k2 k3 k4 l1 l2 l3 l4 c0 c1
    have HES:=Lib.hid (HES.out.next hbA)
    have HC:=Lib.hid (row_next HC.out hbA)
    obtain ⟨k1,k2,k3,k4,l1,l2,l3,l4⟩:=HES.out.facts
    have c0:WA.cell? ⟨w.heap.size+4,2,none⟩=some (.string ⟨#[119]⟩):=cell_of_row _ _ 2 _ _ _ HC.out
    have c1:WA.cell? ⟨w.heap.size+4,3,none⟩=some (.string ⟨#[119,111,114,100]⟩):=cell_of_row _ _ 3 _ _ _ HC.out
    have hl4:=lt_heap HC.out
    go_wp2_with (first
     | (go_at_call 29;(with_reducible refine (es_is HES.out HP.out ⟨by omega,by omega⟩ HPT.out 119 119 false rfl (decide_eq_false HN1.out).symm).mono ?_);rintro e w3 ⟨rfl,hE,hb⟩;clear k1 k2 k3 k4 l1 l2 l3 l4;have HES:=Lib.hid hE;have HC:=Lib.hid (row_next HC.out hb);clear c0 c1;have c0:w3.cell? ⟨w.heap.size+4,2,none⟩=some (.string ⟨#[119]⟩):=cell_of_row _ _ 2 _ _ _ HC.out;have c1:w3.cell? ⟨w.heap.size+4,3,none⟩=some (.string ⟨#[119,111,114,100]⟩):=cell_of_row _ _ 3 _ _ _ HC.out;obtain ⟨k1,k2,k3,k4,l1,l2,l3,l4⟩:=HES.out.facts;have hb3:=hb.size;clear hb hE)
     | (go_at_call 29;(with_reducible refine (es_is HES.out HP.out ⟨by omega,by omega⟩ HPT.out 87 87 false rfl (decide_eq_false HN2.out).symm).mono ?_);rintro e w3 ⟨rfl,hE,hb⟩;clear k1 k2 k3 k4 l1 l2 l3 l4;have HES:=Lib.hid hE;have HC:=Lib.hid (row_next HC.out hb);clear c0 c1;have c0:w3.cell? ⟨w.heap.size+4,2,none⟩=some (.string ⟨#[119]⟩):=cell_of_row _ _ 2 _ _ _ HC.out;have c1:w3.cell? ⟨w.heap.size+4,3,none⟩=some (.string ⟨#[119,111,114,100]⟩):=cell_of_row _ _ 3 _ _ _ HC.out;obtain ⟨k1,k2,k3,k4,l1,l2,l3,l4⟩:=HES.out.facts;have hb3:=hb.size;clear hb hE))
    go_roundw
    case rel=>exact ⟨2,4,by omega,rfl,(Lib.hid (show Q3 2 p from fun _=>⟨HN1.out,HN2.out⟩)),HES.out,HC.out⟩
    case measure=>simp [intOf]
   ·have HC:=Lib.hid hC
    have c0:wr.cell? ⟨w.heap.size+4,4,none⟩=some (.string ⟨#[115]⟩):=cell_of_row _ _ 4 _ _ _ HC.out
    have c1:wr.cell? ⟨w.heap.size+4,5,none⟩=some (.string ⟨#[115,112,97,99,101]⟩):=cell_of_row _ _ 5 _ _ _ HC.out
    have hl4:=lt_heap HC.out
    have hcv:(convert 58 9 (.slice (some ⟨wr.heap.size,0,none⟩) 1 1)).run Try.prog (wr.alloc (.cells #[.int .u8 83] 5))=.ok (.string ⟨#[83]⟩) (wr.alloc (.cells #[.int .u8 83] 5)):=conv_one wr 83
    have hx8:(((ByteArray.mk #[115])[0]'(by decide)).toNat:Int)=115:=rfl
    obtain ⟨WA,hWA⟩:∃ X,X=wr.alloc (.cells #[.int .u8 83] 5):=⟨_,rfl⟩
    have hbA:Below wr.heap.size wr WA:=by rw [hWA];exact (Below.refl _ _).alloc (Nat.le_refl _) _
    have hsA:wr.heap.size < WA.heap.size:=by rw [hWA];simp
    clear hC
    by_cases hc:p=115
    ·subst hc
     go_upto_region 13 with (fail)
     rw [← hWA]
     clear hWA hcv hx8 k1 k2 k3 k4 l1 l2 l3 l4 c0 c1
     have HES:=Lib.hid (HES.out.next hbA)
     have HC:=Lib.hid (row_next HC.out hbA)
     obtain ⟨k1,k2,k3,k4,l1,l2,l3,l4⟩:=HES.out.facts
     have c0:WA.cell? ⟨w.heap.size+4,4,none⟩=some (.string ⟨#[115]⟩):=cell_of_row _ _ 4 _ _ _ HC.out
     have c1:WA.cell? ⟨w.heap.size+4,5,none⟩=some (.string ⟨#[115,112,97,99,101]⟩):=cell_of_row _ _ 5 _ _ _ HC.out
     have hl4:=lt_heap HC.out
     go_wp2_with (first
      | (go_at_call 29;(with_reducible refine (es_is HES.out HP.out ⟨by omega,by omega⟩ HPT.out 115 115 true rfl rfl).mono ?_);rintro e w3 ⟨rfl,hE,hb⟩;clear k1 k2 k3 k4 l1 l2 l3 l4;have HES:=Lib.hid hE;have HC:=Lib.hid (row_next HC.out hb);clear c0 c1;have c0:w3.cell? ⟨w.heap.size+4,4,none⟩=some (.string ⟨#[115]⟩):=cell_of_row _ _ 4 _ _ _ HC.out;have c1:w3.cell? ⟨w.heap.size+4,5,none⟩=some (.string ⟨#[115,112,97,99,101]⟩):=cell_of_row _ _ 5 _ _ _ HC.out;obtain ⟨k1,k2,k3,k4,l1,l2,l3,l4⟩:=HES.out.facts;have hb3:=hb.size;clear hb hE))
     go_roundw
     case rel=>exact ⟨3,6,by omega,rfl,(Lib.hid (by unfold Q3;omega)),HES.out,HC.out⟩
     case measure=>simp [intOf]
    by_cases hc2:p=83
    ·subst hc2
     go_upto_region 13 with (fail)
     rw [← hWA]
     clear hWA hcv hx8 k1 k2 k3 k4 l1 l2 l3 l4 c0 c1
     have HES:=Lib.hid (HES.out.next hbA)
     have HC:=Lib.hid (row_next HC.out hbA)
     obtain ⟨k1,k2,k3,k4,l1,l2,l3,l4⟩:=HES.out.facts
     have c0:WA.cell? ⟨w.heap.size+4,4,none⟩=some (.string ⟨#[115]⟩):=cell_of_row _ _ 4 _ _ _ HC.out
     have c1:WA.cell? ⟨w.heap.size+4,5,none⟩=some (.string ⟨#[115,112,97,99,101]⟩):=cell_of_row _ _ 5 _ _ _ HC.out
     have hl4:=lt_heap HC.out
     go_wp2_with (first
      | (go_at_call 29;(with_reducible refine (es_is HES.out HP.out ⟨by omega,by omega⟩ HPT.out 115 115 false rfl rfl).mono ?_);rintro e w3 ⟨rfl,hE,hb⟩;clear k1 k2 k3 k4 l1 l2 l3 l4;have HES:=Lib.hid hE;have HC:=Lib.hid (row_next HC.out hb);clear c0 c1;have c0:w3.cell? ⟨w.heap.size+4,4,none⟩=some (.string ⟨#[115]⟩):=cell_of_row _ _ 4 _ _ _ HC.out;have c1:w3.cell? ⟨w.heap.size+4,5,none⟩=some (.string ⟨#[115,112,97,99,101]⟩):=cell_of_row _ _ 5 _ _ _ HC.out;obtain ⟨k1,k2,k3,k4,l1,l2,l3,l4⟩:=HES.out.facts;have hb3:=hb.size;clear hb hE)
      | (go_at_call 29;(with_reducible refine (es_is HES.out HP.out ⟨by omega,by omega⟩ HPT.out 83 83 true rfl rfl).mono ?_);rintro e w3 ⟨rfl,hE,hb⟩;clear k1 k2 k3 k4 l1 l2 l3 l4;have HES:=Lib.hid hE;have HC:=Lib.hid (row_next HC.out hb);clear c0 c1;have c0:w3.cell? ⟨w.heap.size+4,4,none⟩=some (.string ⟨#[115]⟩):=cell_of_row _ _ 4 _ _ _ HC.out;have c1:w3.cell? ⟨w.heap.size+4,5,none⟩=some (.string ⟨#[115,112,97,99,101]⟩):=cell_of_row _ _ 5 _ _ _ HC.out;obtain ⟨k1,k2,k3,k4,l1,l2,l3,l4⟩:=HES.out.facts;have hb3:=hb.size;clear hb hE))
     go_roundw
     case rel=>exact ⟨3,6,by omega,rfl,(Lib.hid (by unfold Q3;omega)),HES.out,HC.out⟩
     case measure=>simp [intOf]
    have HN1:=Lib.hid hc
    have HN2:=Lib.hid hc2
    clear hc hc2
    go_upto_region 13 with (fail)
    rw [← hWA]
    clear hWA hcv hx8 k1 k2 k3 k4 l1 l2 l3 l4 c0 c1
    have HES:=Lib.hid (HES.out.next hbA)
    have HC:=Lib.hid (row_next HC.out hbA)
    obtain ⟨k1,k2,k3,k4,l1,l2,l3,l4⟩:=HES.out.facts
    have c0:WA.cell? ⟨w.heap.size+4,4,none⟩=some (.string ⟨#[115]⟩):=cell_of_row _ _ 4 _ _ _ HC.out
    have c1:WA.cell? ⟨w.heap.size+4,5,none⟩=some (.string ⟨#[115,112,97,99,101]⟩):=cell_of_row _ _ 5 _ _ _ HC.out
    have hl4:=lt_heap HC.out
    go_wp2_with (first
     | (go_at_call 29;(with_reducible refine (es_is HES.out HP.out ⟨by omega,by omega⟩ HPT.out 115 115 false rfl (decide_eq_false HN1.out).symm).mono ?_);rintro e w3 ⟨rfl,hE,hb⟩;clear k1 k2 k3 k4 l1 l2 l3 l4;have HES:=Lib.hid hE;have HC:=Lib.hid (row_next HC.out hb);clear c0 c1;have c0:w3.cell? ⟨w.heap.size+4,4,none⟩=some (.string ⟨#[115]⟩):=cell_of_row _ _ 4 _ _ _ HC.out;have c1:w3.cell? ⟨w.heap.size+4,5,none⟩=some (.string ⟨#[115,112,97,99,101]⟩):=cell_of_row _ _ 5 _ _ _ HC.out;obtain ⟨k1,k2,k3,k4,l1,l2,l3,l4⟩:=HES.out.facts;have hb3:=hb.size;clear hb hE)
     | (go_at_call 29;(with_reducible refine (es_is HES.out HP.out ⟨by omega,by omega⟩ HPT.out 83 83 false rfl (decide_eq_false HN2.out).symm).mono ?_);rintro e w3 ⟨rfl,hE,hb⟩;clear k1 k2 k3 k4 l1 l2 l3 l4;have HES:=Lib.hid hE;have HC:=Lib.hid (row_next HC.out hb);clear c0 c1;have c0:w3.cell? ⟨w.heap.size+4,4,none⟩=some (.string ⟨#[115]⟩):=cell_of_row _ _ 4 _ _ _ HC.out;have c1:w3.cell? ⟨w.heap.size+4,5,none⟩=some (.string ⟨#[115,112,97,99,101]⟩):=cell_of_row _ _ 5 _ _ _ HC.out;obtain ⟨k1,k2,k3,k4,l1,l2,l3,l4⟩:=HES.out.facts;have hb3:=hb.size;clear hb hE))
    go_roundw
    case rel=>exact ⟨3,6,by omega,rfl,(Lib.hid (by have:=hQ.out;unfold Q3 at this ⊢;omega)),HES.out,HC.out⟩
    case measure=>simp [intOf]
   ·have HC:=Lib.hid hC
    have c0:wr.cell? ⟨w.heap.size+4,6,none⟩=some (.string ⟨#[104]⟩):=cell_of_row _ _ 6 _ _ _ HC.out
    have c1:wr.cell? ⟨w.heap.size+4,7,none⟩=some (.string ⟨#[120,100,105,103,105,116]⟩):=cell_of_row _ _ 7 _ _ _ HC.out
    have hl4:=lt_heap HC.out
    have hcv:(convert 58 9 (.slice (some ⟨wr.heap.size,0,none⟩) 1 1)).run Try.prog (wr.alloc (.cells #[.int .u8 72] 5))=.ok (.string ⟨#[72]⟩) (wr.alloc (.cells #[.int .u8 72] 5)):=conv_one wr 72
    have hx8:(((ByteArray.mk #[104])[0]'(by decide)).toNat:Int)=104:=rfl
    obtain ⟨WA,hWA⟩:∃ X,X=wr.alloc (.cells #[.int .u8 72] 5):=⟨_,rfl⟩
    have hbA:Below wr.heap.size wr WA:=by rw [hWA];exact (Below.refl _ _).alloc (Nat.le_refl _) _
    have hsA:wr.heap.size < WA.heap.size:=by rw [hWA];simp
    clear hC
    by_cases hc:p=104
    ·subst hc
     go_upto_region 13 with (fail)
     rw [← hWA]
     clear hWA hcv hx8 k1 k2 k3 k4 l1 l2 l3 l4 c0 c1
     have HES:=Lib.hid (HES.out.next hbA)
     have HC:=Lib.hid (row_next HC.out hbA)
     obtain ⟨k1,k2,k3,k4,l1,l2,l3,l4⟩:=HES.out.facts
     have c0:WA.cell? ⟨w.heap.size+4,6,none⟩=some (.string ⟨#[104]⟩):=cell_of_row _ _ 6 _ _ _ HC.out
     have c1:WA.cell? ⟨w.heap.size+4,7,none⟩=some (.string ⟨#[120,100,105,103,105,116]⟩):=cell_of_row _ _ 7 _ _ _ HC.out
     have hl4:=lt_heap HC.out
     go_wp2_with (first
      | (go_at_call 29;(with_reducible refine (es_is HES.out HP.out ⟨by omega,by omega⟩ HPT.out 104 104 true rfl rfl).mono ?_);rintro e w3 ⟨rfl,hE,hb⟩;clear k1 k2 k3 k4 l1 l2 l3 l4;have HES:=Lib.hid hE;have HC:=Lib.hid (row_next HC.out hb);clear c0 c1;have c0:w3.cell? ⟨w.heap.size+4,6,none⟩=some (.string ⟨#[104]⟩):=cell_of_row _ _ 6 _ _ _ HC.out;have c1:w3.cell? ⟨w.heap.size+4,7,none⟩=some (.string ⟨#[120,100,105,103,105,116]⟩):=cell_of_row _ _ 7 _ _ _ HC.out;obtain ⟨k1,k2,k3,k4,l1,l2,l3,l4⟩:=HES.out.facts;have hb3:=hb.size;clear hb hE))
     go_roundw
     case rel=>exact ⟨4,8,by omega,rfl,(Lib.hid (by unfold Q3;omega)),HES.out,HC.out⟩
     case measure=>simp [intOf]
    by_cases hc2:p=72
    ·subst hc2
     go_upto_region 13 with (fail)
     rw [← hWA]
     clear hWA hcv hx8 k1 k2 k3 k4 l1 l2 l3 l4 c0 c1
     have HES:=Lib.hid (HES.out.next hbA)
     have HC:=Lib.hid (row_next HC.out hbA)
     obtain ⟨k1,k2,k3,k4,l1,l2,l3,l4⟩:=HES.out.facts
     have c0:WA.cell? ⟨w.heap.size+4,6,none⟩=some (.string ⟨#[104]⟩):=cell_of_row _ _ 6 _ _ _ HC.out
     have c1:WA.cell? ⟨w.heap.size+4,7,none⟩=some (.string ⟨#[120,100,105,103,105,116]⟩):=cell_of_row _ _ 7 _ _ _ HC.out
     have hl4:=lt_heap HC.out
     go_wp2_with (first
      | (go_at_call 29;(with_reducible refine (es_is HES.out HP.out ⟨by omega,by omega⟩ HPT.out 104 104 false rfl rfl).mono ?_);rintro e w3 ⟨rfl,hE,hb⟩;clear k1 k2 k3 k4 l1 l2 l3 l4;have HES:=Lib.hid hE;have HC:=Lib.hid (row_next HC.out hb);clear c0 c1;have c0:w3.cell? ⟨w.heap.size+4,6,none⟩=some (.string ⟨#[104]⟩):=cell_of_row _ _ 6 _ _ _ HC.out;have c1:w3.cell? ⟨w.heap.size+4,7,none⟩=some (.string ⟨#[120,100,105,103,105,116]⟩):=cell_of_row _ _ 7 _ _ _ HC.out;obtain ⟨k1,k2,k3,k4,l1,l2,l3,l4⟩:=HES.out.facts;have hb3:=hb.size;clear hb hE)
      | (go_at_call 29;(with_reducible refine (es_is HES.out HP.out ⟨by omega,by omega⟩ HPT.out 72 72 true rfl rfl).mono ?_);rintro e w3 ⟨rfl,hE,hb⟩;clear k1 k2 k3 k4 l1 l2 l3 l4;have HES:=Lib.hid hE;have HC:=Lib.hid (row_next HC.out hb);clear c0 c1;have c0:w3.cell? ⟨w.heap.size+4,6,none⟩=some (.string ⟨#[104]⟩):=cell_of_row _ _ 6 _ _ _ HC.out;have c1:w3.cell? ⟨w.heap.size+4,7,none⟩=some (.string ⟨#[120,100,105,103,105,116]⟩):=cell_of_row _ _ 7 _ _ _ HC.out;obtain ⟨k1,k2,k3,k4,l1,l2,l3,l4⟩:=HES.out.facts;have hb3:=hb.size;clear hb hE))
     go_roundw
     case rel=>exact ⟨4,8,by omega,rfl,(Lib.hid (by unfold Q3;omega)),HES.out,HC.out⟩
     case measure=>simp [intOf]
    have HN1:=Lib.hid hc
    have HN2:=Lib.hid hc2
    clear hc hc2
    go_upto_region 13 with (fail)
    rw [← hWA]
    clear hWA hcv hx8 k1 k2 k3 k4 l1 l2 l3 l4 c0 c1
    have HES:=Lib.hid (HES.out.next hbA)
    have HC:=Lib.hid (row_next HC.out hbA)
    obtain ⟨k1,k2,k3,k4,l1,l2,l3,l4⟩:=HES.out.facts
    have c0:WA.cell? ⟨w.heap.size+4,6,none⟩=some (.string ⟨#[104]⟩):=cell_of_row _ _ 6 _ _ _ HC.out
    have c1:WA.cell? ⟨w.heap.size+4,7,none⟩=some (.string ⟨#[120,100,105,103,105,116]⟩):=cell_of_row _ _ 7 _ _ _ HC.out
    have hl4:=lt_heap HC.out
    go_wp2_with (first
     | (go_at_call 29;(with_reducible refine (es_is HES.out HP.out ⟨by omega,by omega⟩ HPT.out 104 104 false rfl (decide_eq_false HN1.out).symm).mono ?_);rintro e w3 ⟨rfl,hE,hb⟩;clear k1 k2 k3 k4 l1 l2 l3 l4;have HES:=Lib.hid hE;have HC:=Lib.hid (row_next HC.out hb);clear c0 c1;have c0:w3.cell? ⟨w.heap.size+4,6,none⟩=some (.string ⟨#[104]⟩):=cell_of_row _ _ 6 _ _ _ HC.out;have c1:w3.cell? ⟨w.heap.size+4,7,none⟩=some (.string ⟨#[120,100,105,103,105,116]⟩):=cell_of_row _ _ 7 _ _ _ HC.out;obtain ⟨k1,k2,k3,k4,l1,l2,l3,l4⟩:=HES.out.facts;have hb3:=hb.size;clear hb hE)
     | (go_at_call 29;(with_reducible refine (es_is HES.out HP.out ⟨by omega,by omega⟩ HPT.out 72 72 false rfl (decide_eq_false HN2.out).symm).mono ?_);rintro e w3 ⟨rfl,hE,hb⟩;clear k1 k2 k3 k4 l1 l2 l3 l4;have HES:=Lib.hid hE;have HC:=Lib.hid (row_next HC.out hb);clear c0 c1;have c0:w3.cell? ⟨w.heap.size+4,6,none⟩=some (.string ⟨#[104]⟩):=cell_of_row _ _ 6 _ _ _ HC.out;have c1:w3.cell? ⟨w.heap.size+4,7,none⟩=some (.string ⟨#[120,100,105,103,105,116]⟩):=cell_of_row _ _ 7 _ _ _ HC.out;obtain ⟨k1,k2,k3,k4,l1,l2,l3,l4⟩:=HES.out.facts;have hb3:=hb.size;clear hb hE))
    go_roundw
    case rel=>exact ⟨4,8,by omega,rfl,(Lib.hid (by have:=hQ.out;unfold Q3 at this ⊢;omega)),HES.out,HC.out⟩
    case measure=>simp [intOf]
   ·clear hC
    have HQ:=Lib.hid hQ.out
    clear hQ
    have H98:=Lib.hid (show ¬ p=98 from fun e=>HT.out (by omega))
    have H66:=Lib.hid (show ¬ p=66 from fun e=>HT.out (by omega))
    have H96:=Lib.hid (show ¬ p=96 from fun e=>HT.out (by omega))
    have H39:=Lib.hid (show ¬ p=39 from fun e=>HT.out (by omega))
    have n96:¬ p=96:=H96.out
    have n39:¬ p=39:=H39.out
    go_upto_region 26 with (first
     | (go_at_call 29;(with_reducible refine (es_is HES.out HP.out ⟨by omega,by omega⟩ HPT.out 98 98 false rfl (decide_eq_false H98.out).symm).mono ?_);rintro e w3 ⟨rfl,hE,hb⟩;clear k1 k2 k3 k4 l1 l2 l3 l4;have HES:=Lib.hid hE;obtain ⟨k1,k2,k3,k4,l1,l2,l3,l4⟩:=HES.out.facts;clear hb hE)
     | (go_at_call 29;(with_reducible refine (es_is HES.out HP.out ⟨by omega,by omega⟩ HPT.out 66 66 false rfl (decide_eq_false H66.out).symm).mono ?_);rintro e w3 ⟨rfl,hE,hb⟩;clear k1 k2 k3 k4 l1 l2 l3 l4;have HES:=Lib.hid hE;obtain ⟨k1,k2,k3,k4,l1,l2,l3,l4⟩:=HES.out.facts;clear hb hE))
    by_cases h40:p=40
    ·subst h40
     have HE:=Lib.hid (show r=.ok (openT 11 0 [],at_+1) from HR.out.trans rfl)
     repeat (first|(go_big_may;go_says (first
      | (go_at_call 29;(with_reducible refine (es_is HES.out HP.out ⟨by omega,by omega⟩ HPT.out 40 40 true rfl rfl).mono ?_);rintro e w3 ⟨rfl,hE,hb⟩;clear k1 k2 k3 k4 l1 l2 l3 l4;have HES:=Lib.hid hE;obtain ⟨k1,k2,k3,k4,l1,l2,l3,l4⟩:=HES.out.facts;clear hb hE)
      | (go_at_call 21;(with_reducible refine ((opened21 3 (at_+1) l A n c _ (Pts.more (HP.out _ HES.out.bel) HES.out.bel.size) (by omega) (by omega))).mono ?_);rintro e w3 ⟨he,hb⟩;obtain rfl:=(show e=.returned (.tuple #[.agg #[.int .i64 7,.int .i64 11,.string ⟨#[]⟩,.bool false,.int .i64 0,.int .i64 0,.int .i64 0,.int .i64 0],.int .i64 (at_+1),.int .i64 0]) from he);clear he;clear k1 k2 k3 k4 l1 l2 l3 l4;have HES:=Lib.hid (HES.out.next hb);obtain ⟨k1,k2,k3,k4,l1,l2,l3,l4⟩:=HES.out.facts;clear hb)
      | ((with_reducible apply store24 (g:=w.heap.size+2));rfl;(with_reducible rfl);rfl;rfl;(exact HES.out.hz);rfl;rfl)))|go_values|go_skip|go_guarded|go_step|go_upon|(simp only []))
     ((try simp only [Exit.inBlock,Exit.then]);refine bodyPost_ret (v:=_) (results24q Try.results20 _ _ (w.heap.size+2) _ (.int .i64 (at_+1)) (.int .i64 0) ?_ ?_ ?_ (row24 ?_) ?_) rfl ?_;rfl;rfl;rfl;(exact HES.out.hz);rfl;refine And.intro ?_ ?_;(rw [HE.out];rfl);exact (Below.setRow HES.out.bel (Nat.le_add_right _ _) _))
    have H40:=Lib.hid h40
    clear h40
    by_cases h41:p=41
    ·subst h41
     have HE:=Lib.hid (show r=.ok ({ kind:=8 },at_+1) from HR.out.trans rfl)
     go_wp2_with (first
      | (go_at_call 29;(with_reducible refine (es_is HES.out HP.out ⟨by omega,by omega⟩ HPT.out 40 40 false rfl rfl).mono ?_);rintro e w3 ⟨rfl,hE,hb⟩;clear k1 k2 k3 k4 l1 l2 l3 l4;have HES:=Lib.hid hE;obtain ⟨k1,k2,k3,k4,l1,l2,l3,l4⟩:=HES.out.facts;clear hb hE)
      | (go_at_call 29;(with_reducible refine (es_is HES.out HP.out ⟨by omega,by omega⟩ HPT.out 41 41 true rfl rfl).mono ?_);rintro e w3 ⟨rfl,hE,hb⟩;clear k1 k2 k3 k4 l1 l2 l3 l4;have HES:=Lib.hid hE;obtain ⟨k1,k2,k3,k4,l1,l2,l3,l4⟩:=HES.out.facts;clear hb hE))
     obtain ⟨⟨z0,z1,z2,z3,z4,z5,z6,z7⟩,⟨g0,g1,g2,g3,g4,g5,g6,g7⟩⟩:=HES.out.zs
     have HD:=Lib.hid (Es.drew HES.out)
     go_region_held3 (fun w'=>w'.cell? ⟨w.heap.size+3,0,none⟩=some (.int .i64 (at_+1)))
      (first
       | with_reducible exact HD.out.facts.2.2.1
       | with_reducible exact (put24d_cell (by simp)).trans HES.out.facts.2.2.1
       | with_reducible exact (put24_cell (by simp)).trans HES.out.facts.2.2.1)
      (first
       | fail)
     all_goals (repeat (first|go_values|go_skip|go_guarded|go_step|go_upon))
     all_goals (try simp only [Exit.inBlock,Exit.then])
     all_goals (try go_simp)
     all_goals (refine bodyPost_ret (v:=.tuple #[.agg #[.int .i64 8,.int .i64 (0),.string ⟨#[]⟩,.bool false,.int .i64 0,.int .i64 0,.int .i64 0,.int .i64 0],.int .i64 (at_+1),.int .i64 0]) ?_ rfl ?_)
     all_goals (first|(refine And.intro ?_ ?_;(rw [HE.out];rfl);(first|with_reducible exact put24_below HES.out.bel (Nat.le_add_right _ _)|with_reducible exact put24_below HD.out.bel (Nat.le_add_right _ _)|with_reducible exact put24d_below HES.out.bel (Nat.le_add_right _ _)))|(refine results24q Try.results20 _ _ (w.heap.size+2) (#[.int .i64 8,.int .i64 (0),.string ⟨#[]⟩,.bool false,.int .i64 0,.int .i64 0,.int .i64 0,.int .i64 0]) (.int .i64 (at_+1)) (.int .i64 0) ?_ ?_ ?_ ?_ ?_;rfl;rfl;rfl;(first|with_reducible exact put24 HES.out.row|with_reducible exact put24 HD.out.row|with_reducible exact put24d HES.out.row);rfl))
    have H41:=Lib.hid h41
    clear h41
    by_cases h124:p=124
    ·subst h124
     have HE:=Lib.hid (show r=.ok ({ kind:=9 },at_+1) from HR.out.trans rfl)
     go_wp2_with (first
      | (go_at_call 29;(with_reducible refine (es_is HES.out HP.out ⟨by omega,by omega⟩ HPT.out 40 40 false rfl rfl).mono ?_);rintro e w3 ⟨rfl,hE,hb⟩;clear k1 k2 k3 k4 l1 l2 l3 l4;have HES:=Lib.hid hE;obtain ⟨k1,k2,k3,k4,l1,l2,l3,l4⟩:=HES.out.facts;clear hb hE)
      | (go_at_call 29;(with_reducible refine (es_is HES.out HP.out ⟨by omega,by omega⟩ HPT.out 41 41 false rfl rfl).mono ?_);rintro e w3 ⟨rfl,hE,hb⟩;clear k1 k2 k3 k4 l1 l2 l3 l4;have HES:=Lib.hid hE;obtain ⟨k1,k2,k3,k4,l1,l2,l3,l4⟩:=HES.out.facts;clear hb hE)
      | (go_at_call 29;(with_reducible refine (es_is HES.out HP.out ⟨by omega,by omega⟩ HPT.out 124 124 true rfl rfl).mono ?_);rintro e w3 ⟨rfl,hE,hb⟩;clear k1 k2 k3 k4 l1 l2 l3 l4;have HES:=Lib.hid hE;obtain ⟨k1,k2,k3,k4,l1,l2,l3,l4⟩:=HES.out.facts;clear hb hE))
     obtain ⟨⟨z0,z1,z2,z3,z4,z5,z6,z7⟩,⟨g0,g1,g2,g3,g4,g5,g6,g7⟩⟩:=HES.out.zs
     have HD:=Lib.hid (Es.drew HES.out)
     go_region_held3 (fun w'=>w'.cell? ⟨w.heap.size+3,0,none⟩=some (.int .i64 (at_+1)))
      (first
       | with_reducible exact HD.out.facts.2.2.1
       | with_reducible exact (put24d_cell (by simp)).trans HES.out.facts.2.2.1
       | with_reducible exact (put24_cell (by simp)).trans HES.out.facts.2.2.1)
      (first
       | fail)
     all_goals (repeat (first|go_values|go_skip|go_guarded|go_step|go_upon))
     all_goals (try simp only [Exit.inBlock,Exit.then])
     all_goals (try go_simp)
     all_goals (refine bodyPost_ret (v:=.tuple #[.agg #[.int .i64 9,.int .i64 (0),.string ⟨#[]⟩,.bool false,.int .i64 0,.int .i64 0,.int .i64 0,.int .i64 0],.int .i64 (at_+1),.int .i64 0]) ?_ rfl ?_)
     all_goals (first|(refine And.intro ?_ ?_;(rw [HE.out];rfl);(first|with_reducible exact put24_below HES.out.bel (Nat.le_add_right _ _)|with_reducible exact put24_below HD.out.bel (Nat.le_add_right _ _)|with_reducible exact put24d_below HES.out.bel (Nat.le_add_right _ _)))|(refine results24q Try.results20 _ _ (w.heap.size+2) (#[.int .i64 9,.int .i64 (0),.string ⟨#[]⟩,.bool false,.int .i64 0,.int .i64 0,.int .i64 0,.int .i64 0]) (.int .i64 (at_+1)) (.int .i64 0) ?_ ?_ ?_ ?_ ?_;rfl;rfl;rfl;(first|with_reducible exact put24 HES.out.row|with_reducible exact put24 HD.out.row|with_reducible exact put24d HES.out.row);rfl))
    have H124:=Lib.hid h124
    clear h124
    by_cases h123:p=123
    ·subst h123
     obtain ⟨iv,hiv⟩:∃ x,x=intervalP 3 l (at_+1):=⟨_,rfl⟩
     have HIV:=Lib.hid hiv
     clear hiv
     cases iv with
     | none =>
      have HI:Hid (intervalP 3 l (at_+1)=none):=Lib.hid HIV.out.symm
      have HE:=Lib.hid (show r=.error 1 from HR.out.trans (by rw [em_brace,HI.out]))
      clear HIV
      repeat (first|(go_big_may;go_says (first
       | (go_at_call 29;(with_reducible refine (es_is HES.out HP.out ⟨by omega,by omega⟩ HPT.out 40 40 false rfl rfl).mono ?_);rintro e w3 ⟨rfl,hE,hb⟩;clear k1 k2 k3 k4 l1 l2 l3 l4;have HES:=Lib.hid hE;obtain ⟨k1,k2,k3,k4,l1,l2,l3,l4⟩:=HES.out.facts;clear hb hE)
       | (go_at_call 29;(with_reducible refine (es_is HES.out HP.out ⟨by omega,by omega⟩ HPT.out 41 41 false rfl rfl).mono ?_);rintro e w3 ⟨rfl,hE,hb⟩;clear k1 k2 k3 k4 l1 l2 l3 l4;have HES:=Lib.hid hE;obtain ⟨k1,k2,k3,k4,l1,l2,l3,l4⟩:=HES.out.facts;clear hb hE)
       | (go_at_call 29;(with_reducible refine (es_is HES.out HP.out ⟨by omega,by omega⟩ HPT.out 124 124 false rfl rfl).mono ?_);rintro e w3 ⟨rfl,hE,hb⟩;clear k1 k2 k3 k4 l1 l2 l3 l4;have HES:=Lib.hid hE;obtain ⟨k1,k2,k3,k4,l1,l2,l3,l4⟩:=HES.out.facts;clear hb hE)
       | (go_at_call 29;(with_reducible refine (es_is HES.out HP.out ⟨by omega,by omega⟩ HPT.out 123 123 true rfl rfl).mono ?_);rintro e w3 ⟨rfl,hE,hb⟩;clear k1 k2 k3 k4 l1 l2 l3 l4;have HES:=Lib.hid hE;obtain ⟨k1,k2,k3,k4,l1,l2,l3,l4⟩:=HES.out.facts;clear hb hE)
       | (go_at_call 22;(with_reducible refine ((interval22 3 (at_+1) l A n c _ (Pts.more (HP.out _ HES.out.bel) HES.out.bel.size) (by omega) (by omega))).mono ?_);rintro e w3 ⟨he,hb⟩;rw [HI.out] at he;obtain rfl:=(show e=.returned (.tuple #[.agg #[.int .i64 0,.int .i64 0,.string ⟨#[]⟩,.bool false,.int .i64 0,.int .i64 0,.int .i64 0,.int .i64 0],.int .i64 0,.bool false,.int .i64 0]) from he);clear he;clear k1 k2 k3 k4 l1 l2 l3 l4;have HES:=Lib.hid (HES.out.next hb);obtain ⟨k1,k2,k3,k4,l1,l2,l3,l4⟩:=HES.out.facts;clear hb)
       | ((with_reducible apply store24 (g:=w.heap.size+2));rfl;(with_reducible rfl);rfl;rfl;(exact hz_alloc HES.out.hz);rfl;rfl)))|go_values|go_skip|go_guarded|go_step|go_upon|(simp only []))
      ((try simp only [Exit.inBlock,Exit.then]);refine bodyPost_ret (v:=_) (results24q Try.results20 _ _ (w.heap.size+2) _ (.int .i64 0) (.int .i64 1) ?_ ?_ ?_ (row24 ?_) ?_) rfl ?_;rfl;rfl;rfl;(exact hz_alloc HES.out.hz);rfl;refine And.intro ?_ ?_;(rw [HE.out];rfl);exact (Below.setRow (HES.out.bel.alloc HES.out.bel.size _) (Nat.le_add_right _ _) _))
     | some iv =>
      cases iv with
      | error x =>
       have HI:Hid (intervalP 3 l (at_+1)=some (.error x)):=Lib.hid HIV.out.symm
       have hx0:x≠0:=intervalE_er 3 l _ _ _ _ HI.out x rfl
       have hx1:(x != 0)=true:=by simpa using hx0
       have HE:=Lib.hid (show r=.error x from HR.out.trans (by rw [em_brace,HI.out]))
       clear HIV
       repeat (first|(go_big_may;go_says (first
        | (go_at_call 29;(with_reducible refine (es_is HES.out HP.out ⟨by omega,by omega⟩ HPT.out 40 40 false rfl rfl).mono ?_);rintro e w3 ⟨rfl,hE,hb⟩;clear k1 k2 k3 k4 l1 l2 l3 l4;have HES:=Lib.hid hE;obtain ⟨k1,k2,k3,k4,l1,l2,l3,l4⟩:=HES.out.facts;clear hb hE)
        | (go_at_call 29;(with_reducible refine (es_is HES.out HP.out ⟨by omega,by omega⟩ HPT.out 41 41 false rfl rfl).mono ?_);rintro e w3 ⟨rfl,hE,hb⟩;clear k1 k2 k3 k4 l1 l2 l3 l4;have HES:=Lib.hid hE;obtain ⟨k1,k2,k3,k4,l1,l2,l3,l4⟩:=HES.out.facts;clear hb hE)
        | (go_at_call 29;(with_reducible refine (es_is HES.out HP.out ⟨by omega,by omega⟩ HPT.out 124 124 false rfl rfl).mono ?_);rintro e w3 ⟨rfl,hE,hb⟩;clear k1 k2 k3 k4 l1 l2 l3 l4;have HES:=Lib.hid hE;obtain ⟨k1,k2,k3,k4,l1,l2,l3,l4⟩:=HES.out.facts;clear hb hE)
        | (go_at_call 29;(with_reducible refine (es_is HES.out HP.out ⟨by omega,by omega⟩ HPT.out 123 123 true rfl rfl).mono ?_);rintro e w3 ⟨rfl,hE,hb⟩;clear k1 k2 k3 k4 l1 l2 l3 l4;have HES:=Lib.hid hE;obtain ⟨k1,k2,k3,k4,l1,l2,l3,l4⟩:=HES.out.facts;clear hb hE)
        | (go_at_call 22;(with_reducible refine ((interval22 3 (at_+1) l A n c _ (Pts.more (HP.out _ HES.out.bel) HES.out.bel.size) (by omega) (by omega))).mono ?_);rintro e w3 ⟨he,hb⟩;rw [HI.out] at he;obtain rfl:=(show e=.returned (.tuple #[.agg #[.int .i64 0,.int .i64 0,.string ⟨#[]⟩,.bool false,.int .i64 0,.int .i64 0,.int .i64 0,.int .i64 0],.int .i64 0,.bool true,.int .i64 x]) from he);clear he;clear k1 k2 k3 k4 l1 l2 l3 l4;have HES:=Lib.hid (HES.out.next hb);obtain ⟨k1,k2,k3,k4,l1,l2,l3,l4⟩:=HES.out.facts;clear hb)
        | ((with_reducible apply store24 (g:=w.heap.size+2));rfl;(with_reducible rfl);rfl;rfl;(exact hz_alloc HES.out.hz);rfl;rfl)))|go_values|go_skip|go_guarded|go_step|go_upon|(simp only []))
       ((try simp only [Exit.inBlock,Exit.then]);refine bodyPost_ret (v:=_) (results24q Try.results20 _ _ (w.heap.size+2) _ (.int .i64 0) (.int .i64 x) ?_ ?_ ?_ (row24 ?_) ?_) rfl ?_;rfl;rfl;rfl;(exact hz_alloc HES.out.hz);rfl;refine And.intro ?_ ?_;(rw [HE.out];rfl);exact (Below.setRow (HES.out.bel.alloc HES.out.bel.size _) (Nat.le_add_right _ _) _))
      | ok q =>
       have HI:Hid (intervalP 3 l (at_+1)=some (.ok q)):=Lib.hid HIV.out.symm
       have HE:=Lib.hid (show r=.ok q from HR.out.trans (by rw [em_brace,HI.out]))
       clear HIV
       repeat (first|(go_big_may;go_says (first
        | (go_at_call 29;(with_reducible refine (es_is HES.out HP.out ⟨by omega,by omega⟩ HPT.out 40 40 false rfl rfl).mono ?_);rintro e w3 ⟨rfl,hE,hb⟩;clear k1 k2 k3 k4 l1 l2 l3 l4;have HES:=Lib.hid hE;obtain ⟨k1,k2,k3,k4,l1,l2,l3,l4⟩:=HES.out.facts;clear hb hE)
        | (go_at_call 29;(with_reducible refine (es_is HES.out HP.out ⟨by omega,by omega⟩ HPT.out 41 41 false rfl rfl).mono ?_);rintro e w3 ⟨rfl,hE,hb⟩;clear k1 k2 k3 k4 l1 l2 l3 l4;have HES:=Lib.hid hE;obtain ⟨k1,k2,k3,k4,l1,l2,l3,l4⟩:=HES.out.facts;clear hb hE)
        | (go_at_call 29;(with_reducible refine (es_is HES.out HP.out ⟨by omega,by omega⟩ HPT.out 124 124 false rfl rfl).mono ?_);rintro e w3 ⟨rfl,hE,hb⟩;clear k1 k2 k3 k4 l1 l2 l3 l4;have HES:=Lib.hid hE;obtain ⟨k1,k2,k3,k4,l1,l2,l3,l4⟩:=HES.out.facts;clear hb hE)
        | (go_at_call 29;(with_reducible refine (es_is HES.out HP.out ⟨by omega,by omega⟩ HPT.out 123 123 true rfl rfl).mono ?_);rintro e w3 ⟨rfl,hE,hb⟩;clear k1 k2 k3 k4 l1 l2 l3 l4;have HES:=Lib.hid hE;obtain ⟨k1,k2,k3,k4,l1,l2,l3,l4⟩:=HES.out.facts;clear hb hE)
        | (go_at_call 22;(with_reducible refine ((interval22 3 (at_+1) l A n c _ (Pts.more (HP.out _ HES.out.bel) HES.out.bel.size) (by omega) (by omega))).mono ?_);rintro e w3 ⟨he,hb⟩;rw [HI.out] at he;obtain rfl:=(show e=.returned (.tuple #[.agg #[.int .i64 q.1.kind,.int .i64 q.1.num,.string ⟨q.1.text.toArray⟩,.bool q.1.not_,.int .i64 q.1.least,.int .i64 q.1.most,.int .i64 q.1.way,.int .i64 q.1.fold],.int .i64 q.2,.bool true,.int .i64 0]) from he);clear he;clear k1 k2 k3 k4 l1 l2 l3 l4;have HES:=Lib.hid (HES.out.next hb);obtain ⟨k1,k2,k3,k4,l1,l2,l3,l4⟩:=HES.out.facts;clear hb)
        | ((with_reducible apply store24 (g:=w.heap.size+2));rfl;(with_reducible rfl);rfl;rfl;(exact hz_alloc HES.out.hz);rfl;rfl)))|go_values|go_skip|go_guarded|go_step|go_upon|(simp only []))
       ((try simp only [Exit.inBlock,Exit.then]);refine bodyPost_ret (v:=_) (results24q Try.results20 _ _ (w.heap.size+2) _ (.int .i64 q.2) (.int .i64 0) ?_ ?_ ?_ (row24 ?_) ?_) rfl ?_;rfl;rfl;rfl;(exact hz_alloc HES.out.hz);rfl;refine And.intro ?_ ?_;(rw [HE.out];rfl);exact (Below.setRow (HES.out.bel.alloc HES.out.bel.size _) (Nat.le_add_right _ _) _))
    have H123:=Lib.hid h123
    clear h123
    by_cases hdg:49≤p∧p≤57
    ·obtain ⟨hdl,hdr⟩:=hdg
     have hwp:IntKind.i64.wrap (p - 48)=p - 48:=by rw [IntKind.wrap_i64];omega
     have HE:=Lib.hid (show r=.ok ({ kind:=10,num:=p - 48 },at_+1) from HR.out.trans (em_digit ⟨hdl,hdr⟩))
     go_wp2_with (first
      | (go_at_call 29;(with_reducible refine (es_is HES.out HP.out ⟨by omega,by omega⟩ HPT.out 40 40 false rfl (decide_eq_false H40.out).symm).mono ?_);rintro e w3 ⟨rfl,hE,hb⟩;clear k1 k2 k3 k4 l1 l2 l3 l4;have HES:=Lib.hid hE;obtain ⟨k1,k2,k3,k4,l1,l2,l3,l4⟩:=HES.out.facts;clear hb hE)
      | (go_at_call 29;(with_reducible refine (es_is HES.out HP.out ⟨by omega,by omega⟩ HPT.out 41 41 false rfl (decide_eq_false H41.out).symm).mono ?_);rintro e w3 ⟨rfl,hE,hb⟩;clear k1 k2 k3 k4 l1 l2 l3 l4;have HES:=Lib.hid hE;obtain ⟨k1,k2,k3,k4,l1,l2,l3,l4⟩:=HES.out.facts;clear hb hE)
      | (go_at_call 29;(with_reducible refine (es_is HES.out HP.out ⟨by omega,by omega⟩ HPT.out 124 124 false rfl (decide_eq_false H124.out).symm).mono ?_);rintro e w3 ⟨rfl,hE,hb⟩;clear k1 k2 k3 k4 l1 l2 l3 l4;have HES:=Lib.hid hE;obtain ⟨k1,k2,k3,k4,l1,l2,l3,l4⟩:=HES.out.facts;clear hb hE)
      | (go_at_call 29;(with_reducible refine (es_is HES.out HP.out ⟨by omega,by omega⟩ HPT.out 123 123 false rfl (decide_eq_false H123.out).symm).mono ?_);rintro e w3 ⟨rfl,hE,hb⟩;clear k1 k2 k3 k4 l1 l2 l3 l4;have HES:=Lib.hid hE;obtain ⟨k1,k2,k3,k4,l1,l2,l3,l4⟩:=HES.out.facts;clear hb hE)
      | (go_at_call 31;(with_reducible refine (between31 p 49 57 _).mono ?_);rintro e w' ⟨rfl,rfl⟩))
     obtain ⟨⟨z0,z1,z2,z3,z4,z5,z6,z7⟩,⟨g0,g1,g2,g3,g4,g5,g6,g7⟩⟩:=HES.out.zs
     have HD:=Lib.hid (Es.drew HES.out)
     go_region_held3 (fun w'=>w'.cell? ⟨w.heap.size+3,0,none⟩=some (.int .i64 (at_+1)))
      (first
       | with_reducible exact HD.out.facts.2.2.1
       | with_reducible exact (put24d_cell (by simp)).trans HES.out.facts.2.2.1
       | with_reducible exact (put24_cell (by simp)).trans HES.out.facts.2.2.1)
      (first
       | fail)
     all_goals (repeat (first|go_values|go_skip|go_guarded|go_step|go_upon))
     all_goals (try simp only [Exit.inBlock,Exit.then])
     all_goals (try go_simp)
     all_goals (refine bodyPost_ret (v:=.tuple #[.agg #[.int .i64 10,.int .i64 (p - 48),.string ⟨#[]⟩,.bool false,.int .i64 0,.int .i64 0,.int .i64 0,.int .i64 0],.int .i64 (at_+1),.int .i64 0]) ?_ rfl ?_)
     all_goals (first|(refine And.intro ?_ ?_;(rw [HE.out];rfl);(first|with_reducible exact put24_below HES.out.bel (Nat.le_add_right _ _)|with_reducible exact put24_below HD.out.bel (Nat.le_add_right _ _)|with_reducible exact put24d_below HES.out.bel (Nat.le_add_right _ _)))|(refine results24q Try.results20 _ _ (w.heap.size+2) (#[.int .i64 10,.int .i64 (p - 48),.string ⟨#[]⟩,.bool false,.int .i64 0,.int .i64 0,.int .i64 0,.int .i64 0]) (.int .i64 (at_+1)) (.int .i64 0) ?_ ?_ ?_ ?_ ?_;rfl;rfl;rfl;(first|with_reducible exact put24 HES.out.row|with_reducible exact put24 HD.out.row|with_reducible exact put24d HES.out.row);rfl))
    have HE:=Lib.hid (show r=.ok (pointT p,at_+1) from HR.out.trans (em_point H40.out H41.out H124.out H123.out (HQ.out (by decide)).1 (HQ.out (by decide)).2 H98.out H66.out H96.out H39.out hdg))
    have hdgb:(decide (49≤p) && decide (p≤57))=false:=by rw [Bool.and_eq_false_iff];simp;omega
    clear hdg
    go_wp2_with (first
     | (go_at_call 29;(with_reducible refine (es_is HES.out HP.out ⟨by omega,by omega⟩ HPT.out 40 40 false rfl (decide_eq_false H40.out).symm).mono ?_);rintro e w3 ⟨rfl,hE,hb⟩;clear k1 k2 k3 k4 l1 l2 l3 l4;have HES:=Lib.hid hE;obtain ⟨k1,k2,k3,k4,l1,l2,l3,l4⟩:=HES.out.facts;clear hb hE)
     | (go_at_call 29;(with_reducible refine (es_is HES.out HP.out ⟨by omega,by omega⟩ HPT.out 41 41 false rfl (decide_eq_false H41.out).symm).mono ?_);rintro e w3 ⟨rfl,hE,hb⟩;clear k1 k2 k3 k4 l1 l2 l3 l4;have HES:=Lib.hid hE;obtain ⟨k1,k2,k3,k4,l1,l2,l3,l4⟩:=HES.out.facts;clear hb hE)
     | (go_at_call 29;(with_reducible refine (es_is HES.out HP.out ⟨by omega,by omega⟩ HPT.out 124 124 false rfl (decide_eq_false H124.out).symm).mono ?_);rintro e w3 ⟨rfl,hE,hb⟩;clear k1 k2 k3 k4 l1 l2 l3 l4;have HES:=Lib.hid hE;obtain ⟨k1,k2,k3,k4,l1,l2,l3,l4⟩:=HES.out.facts;clear hb hE)
     | (go_at_call 29;(with_reducible refine (es_is HES.out HP.out ⟨by omega,by omega⟩ HPT.out 123 123 false rfl (decide_eq_false H123.out).symm).mono ?_);rintro e w3 ⟨rfl,hE,hb⟩;clear k1 k2 k3 k4 l1 l2 l3 l4;have HES:=Lib.hid hE;obtain ⟨k1,k2,k3,k4,l1,l2,l3,l4⟩:=HES.out.facts;clear hb hE)
     | (go_at_call 31;(with_reducible refine (between31 p 49 57 _).mono ?_);rintro e w' ⟨rfl,rfl⟩))
    have HD:=Lib.hid (Es.drew HES.out)
    go_region_held3 (fun w'=>w'.cell? ⟨w.heap.size+3,0,none⟩=some (.int .i64 (at_+1)))
     (first
      | with_reducible exact HD.out.facts.2.2.1
      | with_reducible exact HES.out.facts.2.2.1
      | with_reducible exact (put24_cell (by simp)).trans HES.out.facts.2.2.1)
     (first
      | ((go_at_call 23;(with_reducible refine (point23 (p) _).mono ?_);rintro e w2 ⟨he,hb⟩;obtain rfl:=(show e=.returned (.agg #[.int .i64 1,.int .i64 (p),.string ⟨#[]⟩,.bool false,.int .i64 0,.int .i64 0,.int .i64 0,.int .i64 0]) from he);clear he;have HES:=Lib.hid ((Es.drew HES.out).next hb);clear k1 k2 k3 k4 l1 l2 l3 l4;obtain ⟨k1,k2,k3,k4,l1,l2,l3,l4⟩:=HES.out.facts;obtain ⟨⟨z0,z1,z2,z3,z4,z5,z6,z7⟩,⟨g0,g1,g2,g3,g4,g5,g6,g7⟩⟩:=HES.out.zs;clear hb)))
    all_goals (repeat (first|go_values|go_skip|go_guarded|go_step|go_upon))
    all_goals (try simp only [Exit.inBlock,Exit.then])
    all_goals (try go_simp)
    all_goals (refine bodyPost_ret (v:=.tuple #[.agg #[.int .i64 1,.int .i64 (p),.string ⟨#[]⟩,.bool false,.int .i64 0,.int .i64 0,.int .i64 0,.int .i64 0],.int .i64 (at_+1),.int .i64 0]) ?_ rfl ?_)
    all_goals (first|(refine And.intro ?_ ?_;(rw [HE.out];rfl);(with_reducible exact put24_below HES.out.bel (Nat.le_add_right _ _)))|(refine results24q Try.results20 _ _ (w.heap.size+2) (#[.int .i64 1,.int .i64 (p),.string ⟨#[]⟩,.bool false,.int .i64 0,.int .i64 0,.int .i64 0,.int .i64 0]) (.int .i64 (at_+1)) (.int .i64 0) ?_ ?_ ?_ ?_ ?_;rfl;rfl;rfl;(with_reducible exact put24 HES.out.row);rfl))
end Go.Proofs.Ytmjlmjlkghpknaa
