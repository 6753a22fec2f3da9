/-
  Escaped of the reference: walked, first dialect: digits, scalars.
-/
import Derived.Test.YtbiahhojnjchnaaGreatGT
import Derived.Test.YtbiahhojnjchnaaGreatHJ
set_option linter.unusedVariables false
set_option linter.unusedSimpArgs false
namespace Go.Proofs.YtbiahhojnjchnaaGreat
open Go.RowKit
set_option maxRecDepth 100000 in
set_option maxHeartbeats 8000000 in
theorem escaped20_oneB2 (at_:Int) (l:List Int) (A:Option Addr) (n c:Nat) (w:World) (h:Pts w.heap.size n c A l w) (h0:0≤at_) (h1:at_≤n) (hok0:∀ q,-1≤ptAt l q∧ptAt l q≤1114111) (hS:¬ (ptAt l at_=100∨ptAt l at_=68∨ptAt l at_=119∨ptAt l at_=87∨ptAt l at_=115∨ptAt l at_=83∨ptAt l at_=104∨ptAt l at_=72)) (hT:¬ (ptAt l at_=98∨ptAt l at_=66∨ptAt l at_=65∨ptAt l at_=122∨ptAt l at_=110∨ptAt l at_=116∨ptAt l at_=114∨ptAt l at_=102∨ptAt l at_=118∨ptAt l at_=97∨ptAt l at_=101)∧((49≤ptAt l at_∧ptAt l at_≤57)∨ptAt l at_=120∨ptAt l at_=117)) :
  Calls Tryz.prog 139 #[.int .i64 1,.slice A n c,.int .i64 at_] w fun e w'=>ROutT (escapedP 1 l at_) e∧Below w.heap.size w w':=by
 have hsm:=h.small
 have hln:=h.len
 have HP:=Lib.hid (fun w' (hb:Below w.heap.size w w')=>h.next hb)
 obtain ⟨W0,hW0⟩:∃ W,W=(((w.alloc (.cells #[.slice A n c] 22)).alloc (.cells #[.int .i64 at_] 3)).alloc (.cells #[.int .i64 0,.int .i64 0,.string ⟨#[]⟩,.bool false,.int .i64 0,.int .i64 0,.int .i64 0,.int .i64 0] 108)):=⟨_,rfl⟩
 have HB0:=Lib.hid (show Below w.heap.size w W0 by rw [hW0];exact (((Below.refl _ _).alloc (Nat.le_refl _) _).alloc (by simp) _).alloc (by simp;omega) _)
 have hs0:W0.heap.size=w.heap.size+3:=by rw [hW0];simp
 have HL0:=Lib.hid (show W0.heap[w.heap.size]?=some (.cells #[.slice A n c] 22 (0,0)) by rw [hW0];exact hz_alloc (hz_alloc (heap_alloc_new w _)))
 have HA0:=Lib.hid (show W0.heap[w.heap.size+1]?=some (.cells #[.int .i64 at_] 3 (0,0)) by rw [hW0];have:=heap_alloc_new (w.alloc (.cells #[.slice A n c] 22)) (.cells #[.int .i64 at_] 3);exact hz_alloc (by simpa using this))
 have HZ0:=Lib.hid (show W0.heap[w.heap.size+2]?=some Z24 by rw [hW0];have:=hz_new (w:=(w.alloc (.cells #[.slice A n c] 22)).alloc (.cells #[.int .i64 at_] 3));simpa using this)
 obtain ⟨p,hp⟩:∃ p,p=ptAt l at_:=⟨_,rfl⟩
 have hok:=Lib.hid hok0
 clear hok0
 have HPT:=Lib.hid hp
 rw [← hp] at hS hT
 have HS:=Lib.hid hS
 have HT:=Lib.hid hT
 clear hS hT
 have C28:=Lib.hid (pointAt28 l at_ A n c w.heap.size W0 (by unfold maxLen;omega) (HP.out _ HB0.out).row)
 rw [← hp] at C28
 have k1:=cell_of_row _ _ 0 _ _ _ HL0.out
 have k2:=cell_of_row _ _ 0 _ _ _ HA0.out
 have k1:W0.cell? ⟨w.heap.size,0,none⟩=some (.slice A n c):=k1
 have k2:W0.cell? ⟨w.heap.size+1,0,none⟩=some (.int .i64 at_):=k2
 have hin:=Lib.hid (pt_or l at_)
 clear h hp
 by_cases hneg:p < 0
 ·go_enter Tryz.func139,Tryz.ntmps139
  go_upto_region 1 with (fail)
  rw [← hW0]
  clear hW0
  go_wp2_with (first
   | (go_at_call 92;(with_reducible refine C28.out.mono ?_);rintro e w' ⟨rfl,rfl⟩)
   | ((with_reducible apply store24 (g:=w.heap.size+2));rfl;(with_reducible rfl);rfl;rfl;(exact HZ0.out);rfl;rfl))
  ((try simp only [Exit.inBlock,Exit.then]);refine bodyPost_ret (v:=_) (results24q Tryz.results139 _ _ (w.heap.size+2) _ (.int .i64 0) (.int .i64 1) ?_ ?_ ?_ (row24 ?_) ?_) rfl ?_;rfl;rfl;rfl;(exact HZ0.out);rfl;exact And.intro (by rw [show escapedP 1 l at_=.error 1 from esc_neg HPT.out hneg];rfl) (Below.setRow HB0.out (Nat.le_add_right _ _) _))
 ·have hneg':(decide (p < 0))=false:=decide_eq_false hneg
  have hat:at_+1≤n:=by rcases hin.out with h2|h2;(rw [← HPT.out] at h2;omega);(rw [hln] at h2;omega)
  obtain ⟨r,hr⟩:∃ r,r=escapedP 1 l at_:=⟨_,rfl⟩
  have HR:=Lib.hid hr
  have HNEG:=Lib.hid hneg
  rw [← hr]
  clear hr hin
  go_enter Tryz.func139,Tryz.ntmps139
  go_upto_region 1 with (fail)
  rw [← hW0]
  clear hW0
  go_upto_region 5 with (first
   | (go_at_call 92;(with_reducible refine C28.out.mono ?_);rintro e w' ⟨rfl,rfl⟩))
  have hes:Es w (W0.alloc (.cells #[.int .i64 (at_+1)] 3)) n c A l at_ (at_+1):=⟨HB0.out.alloc (by omega) _,by simp;omega,hz_alloc HL0.out,hz_alloc HA0.out,hz_alloc HZ0.out,by have:=heap_alloc_new W0 (.cells #[.int .i64 (at_+1)] 3);rw [hs0] at this;exact this⟩
  obtain ⟨W1,hW1⟩:∃ W,W=W0.alloc (.cells #[.int .i64 (at_+1)] 3):=⟨_,rfl⟩
  rw [← hW1] at hes ⊢
  have hs1:W1.heap.size=w.heap.size+4:=by rw [hW1];simp;omega
  have HES:=Lib.hid hes
  simp only [Nat.add_assoc,Nat.reduceAdd]
  clear hW1 HB0 hs0 HL0 HA0 HZ0 C28 k1 k2 hes
  obtain ⟨k1,k2,k3,k4,l1,l2,l3,l4⟩:=HES.out.facts
  have HR:=Lib.hid (HR.out.trans (esc_one HPT.out (by have:=HNEG.out;omega)))
  go_upto_region 9 with (fail)
  obtain ⟨W2,hW2⟩:∃ X,X=W1.alloc (.cells #[.string ⟨#[100]⟩,.string ⟨#[100,105,103,105,116]⟩,.string ⟨#[119]⟩,.string ⟨#[119,111,114,100]⟩,.string ⟨#[115]⟩,.string ⟨#[115,112,97,99,101]⟩,.string ⟨#[104]⟩,.string ⟨#[120,100,105,103,105,116]⟩] 9):=⟨_,rfl⟩
  have HES:=Lib.hid (show Es w W2 n c A l at_ (at_+1) by rw [hW2];exact HES.out.next ((Below.refl _ _).alloc (Nat.le_refl _) _))
  have HC:=Lib.hid (show W2.heap[w.heap.size+4]?=some (.cells #[.string ⟨#[100]⟩,.string ⟨#[100,105,103,105,116]⟩,.string ⟨#[119]⟩,.string ⟨#[119,111,114,100]⟩,.string ⟨#[115]⟩,.string ⟨#[115,112,97,99,101]⟩,.string ⟨#[104]⟩,.string ⟨#[120,100,105,103,105,116]⟩] 9 (0,0)) by rw [hW2,← hs1];exact heap_alloc_new W1 _)
  rw [← hW2]
  clear hW2 hs1
  clear k1 k2 k3 k4 l1 l2 l3 l4
  go_wp2_with fail
  go_loopw [13] (fun i wr=>∃ (k:Nat) (i0:Int),(k=0∧i0=0∨k=1∧i0=2∨k=2∧i0=4∨k=3∧i0=6∨k=4∧i0=8)∧i=.int .i64 i0∧Hid (Q1 k p)∧Es w wr n c A l at_ (at_+1)∧wr.heap[w.heap.size+4]?=some (.cells #[.string ⟨#[100]⟩,.string ⟨#[100,105,103,105,116]⟩,.string ⟨#[119]⟩,.string ⟨#[119,111,114,100]⟩,.string ⟨#[115]⟩,.string ⟨#[115,112,97,99,101]⟩,.string ⟨#[104]⟩,.string ⟨#[120,100,105,103,105,116]⟩] 9 (0,0))) (fun i _=>8 - (intOf i).toNat)
  case atStart=>exact ⟨0,0,by omega,rfl,Lib.hid (by unfold Q1;omega),HES.out,HC.out⟩
  case round =>
   obtain ⟨k,i0,hcase,rfl,hQ,hES,hC⟩:=hrel
   have HES:=Lib.hid hES
   clear hES HC
   obtain ⟨k1,k2,k3,k4,l1,l2,l3,l4⟩:=HES.out.facts
   rcases hcase with ⟨rfl,rfl⟩|⟨rfl,rfl⟩|⟨rfl,rfl⟩|⟨rfl,rfl⟩|⟨rfl,rfl⟩
   ·have HC:=Lib.hid hC
    have c0:wr.cell? ⟨w.heap.size+4,0,none⟩=some (.string ⟨#[100]⟩):=cell_of_row _ _ 0 _ _ _ HC.out
    have c1:wr.cell? ⟨w.heap.size+4,1,none⟩=some (.string ⟨#[100,105,103,105,116]⟩):=cell_of_row _ _ 1 _ _ _ HC.out
    have hl4:=lt_heap HC.out
    have hcv:(convert 147 9 (.slice (some ⟨wr.heap.size,0,none⟩) 1 1)).run Tryz.prog (wr.alloc (.cells #[.int .u8 68] 5))=.ok (.string ⟨#[68]⟩) (wr.alloc (.cells #[.int .u8 68] 5)):=conv_one wr 68
    have hx8:(((ByteArray.mk #[100])[0]'(by decide)).toNat:Int)=100:=rfl
    obtain ⟨WA,hWA⟩:∃ X,X=wr.alloc (.cells #[.int .u8 68] 5):=⟨_,rfl⟩
    have hbA:Below wr.heap.size wr WA:=by rw [hWA];exact (Below.refl _ _).alloc (Nat.le_refl _) _
    have hsA:wr.heap.size < WA.heap.size:=by rw [hWA];simp
    clear hC
    have HN1:=Lib.hid (show ¬ p=100 from fun x=>HS.out (by omega))
    have HN2:=Lib.hid (show ¬ p=68 from fun x=>HS.out (by omega))
    have hqn:Q1 1 p:=by have a1:=HN1.out;have a2:=HN2.out;have:=hQ.out;unfold Q1 at this ⊢;omega
    have HQN:=Lib.hid hqn
    clear hqn
    go_upto_region 13 with (fail)
    rw [← hWA]
    clear hWA hcv hx8 k1 k2 k3 k4 l1 l2 l3 l4 c0 c1
    have HES:=Lib.hid (HES.out.next hbA)
    have HC:=Lib.hid (row_next HC.out hbA)
    obtain ⟨k1,k2,k3,k4,l1,l2,l3,l4⟩:=HES.out.facts
    have c0:WA.cell? ⟨w.heap.size+4,0,none⟩=some (.string ⟨#[100]⟩):=cell_of_row _ _ 0 _ _ _ HC.out
    have c1:WA.cell? ⟨w.heap.size+4,1,none⟩=some (.string ⟨#[100,105,103,105,116]⟩):=cell_of_row _ _ 1 _ _ _ HC.out
    have hl4:=lt_heap HC.out
    go_wp2_with (first
     | (go_at_call 178;(with_reducible refine (es_is HES.out HP.out ⟨by omega,by omega⟩ HPT.out 100 100 false rfl (decide_eq_false HN1.out).symm).mono ?_);rintro e w3 ⟨rfl,hE,hb⟩;clear k1 k2 k3 k4 l1 l2 l3 l4;have HES:=Lib.hid hE;have HC:=Lib.hid (row_next HC.out hb);clear c0 c1;have c0:w3.cell? ⟨w.heap.size+4,0,none⟩=some (.string ⟨#[100]⟩):=cell_of_row _ _ 0 _ _ _ HC.out;have c1:w3.cell? ⟨w.heap.size+4,1,none⟩=some (.string ⟨#[100,105,103,105,116]⟩):=cell_of_row _ _ 1 _ _ _ HC.out;obtain ⟨k1,k2,k3,k4,l1,l2,l3,l4⟩:=HES.out.facts;have hb3:=hb.size;clear hb hE)
     | (go_at_call 178;(with_reducible refine (es_is HES.out HP.out ⟨by omega,by omega⟩ HPT.out 68 68 false rfl (decide_eq_false HN2.out).symm).mono ?_);rintro e w3 ⟨rfl,hE,hb⟩;clear k1 k2 k3 k4 l1 l2 l3 l4;have HES:=Lib.hid hE;have HC:=Lib.hid (row_next HC.out hb);clear c0 c1;have c0:w3.cell? ⟨w.heap.size+4,0,none⟩=some (.string ⟨#[100]⟩):=cell_of_row _ _ 0 _ _ _ HC.out;have c1:w3.cell? ⟨w.heap.size+4,1,none⟩=some (.string ⟨#[100,105,103,105,116]⟩):=cell_of_row _ _ 1 _ _ _ HC.out;obtain ⟨k1,k2,k3,k4,l1,l2,l3,l4⟩:=HES.out.facts;have hb3:=hb.size;clear hb hE))
    go_roundw
    case rel=>exact ⟨1,2,by omega,rfl,HQN,HES.out,HC.out⟩
    case measure=>simp [intOf]
   ·have HC:=Lib.hid hC
    have c0:wr.cell? ⟨w.heap.size+4,2,none⟩=some (.string ⟨#[119]⟩):=cell_of_row _ _ 2 _ _ _ HC.out
    have c1:wr.cell? ⟨w.heap.size+4,3,none⟩=some (.string ⟨#[119,111,114,100]⟩):=cell_of_row _ _ 3 _ _ _ HC.out
    have hl4:=lt_heap HC.out
    have hcv:(convert 147 9 (.slice (some ⟨wr.heap.size,0,none⟩) 1 1)).run Tryz.prog (wr.alloc (.cells #[.int .u8 87] 5))=.ok (.string ⟨#[87]⟩) (wr.alloc (.cells #[.int .u8 87] 5)):=conv_one wr 87
    have hx8:(((ByteArray.mk #[119])[0]'(by decide)).toNat:Int)=119:=rfl
    obtain ⟨WA,hWA⟩:∃ X,X=wr.alloc (.cells #[.int .u8 87] 5):=⟨_,rfl⟩
    have hbA:Below wr.heap.size wr WA:=by rw [hWA];exact (Below.refl _ _).alloc (Nat.le_refl _) _
    have hsA:wr.heap.size < WA.heap.size:=by rw [hWA];simp
    clear hC
    have HN1:=Lib.hid (show ¬ p=119 from fun x=>HS.out (by omega))
    have HN2:=Lib.hid (show ¬ p=87 from fun x=>HS.out (by omega))
    have hqn:Q1 2 p:=by have a1:=HN1.out;have a2:=HN2.out;have:=hQ.out;unfold Q1 at this ⊢;omega
    have HQN:=Lib.hid hqn
    clear hqn
    go_upto_region 13 with (fail)
    rw [← hWA]
    clear hWA hcv hx8 k1 k2 k3 k4 l1 l2 l3 l4 c0 c1
    have HES:=Lib.hid (HES.out.next hbA)
    have HC:=Lib.hid (row_next HC.out hbA)
    obtain ⟨k1,k2,k3,k4,l1,l2,l3,l4⟩:=HES.out.facts
    have c0:WA.cell? ⟨w.heap.size+4,2,none⟩=some (.string ⟨#[119]⟩):=cell_of_row _ _ 2 _ _ _ HC.out
    have c1:WA.cell? ⟨w.heap.size+4,3,none⟩=some (.string ⟨#[119,111,114,100]⟩):=cell_of_row _ _ 3 _ _ _ HC.out
    have hl4:=lt_heap HC.out
    go_wp2_with (first
     | (go_at_call 178;(with_reducible refine (es_is HES.out HP.out ⟨by omega,by omega⟩ HPT.out 119 119 false rfl (decide_eq_false HN1.out).symm).mono ?_);rintro e w3 ⟨rfl,hE,hb⟩;clear k1 k2 k3 k4 l1 l2 l3 l4;have HES:=Lib.hid hE;have HC:=Lib.hid (row_next HC.out hb);clear c0 c1;have c0:w3.cell? ⟨w.heap.size+4,2,none⟩=some (.string ⟨#[119]⟩):=cell_of_row _ _ 2 _ _ _ HC.out;have c1:w3.cell? ⟨w.heap.size+4,3,none⟩=some (.string ⟨#[119,111,114,100]⟩):=cell_of_row _ _ 3 _ _ _ HC.out;obtain ⟨k1,k2,k3,k4,l1,l2,l3,l4⟩:=HES.out.facts;have hb3:=hb.size;clear hb hE)
     | (go_at_call 178;(with_reducible refine (es_is HES.out HP.out ⟨by omega,by omega⟩ HPT.out 87 87 false rfl (decide_eq_false HN2.out).symm).mono ?_);rintro e w3 ⟨rfl,hE,hb⟩;clear k1 k2 k3 k4 l1 l2 l3 l4;have HES:=Lib.hid hE;have HC:=Lib.hid (row_next HC.out hb);clear c0 c1;have c0:w3.cell? ⟨w.heap.size+4,2,none⟩=some (.string ⟨#[119]⟩):=cell_of_row _ _ 2 _ _ _ HC.out;have c1:w3.cell? ⟨w.heap.size+4,3,none⟩=some (.string ⟨#[119,111,114,100]⟩):=cell_of_row _ _ 3 _ _ _ HC.out;obtain ⟨k1,k2,k3,k4,l1,l2,l3,l4⟩:=HES.out.facts;have hb3:=hb.size;clear hb hE))
    go_roundw
    case rel=>exact ⟨2,4,by omega,rfl,HQN,HES.out,HC.out⟩
    case measure=>simp [intOf]
   ·have HC:=Lib.hid hC
    have c0:wr.cell? ⟨w.heap.size+4,4,none⟩=some (.string ⟨#[115]⟩):=cell_of_row _ _ 4 _ _ _ HC.out
    have c1:wr.cell? ⟨w.heap.size+4,5,none⟩=some (.string ⟨#[115,112,97,99,101]⟩):=cell_of_row _ _ 5 _ _ _ HC.out
    have hl4:=lt_heap HC.out
    have hcv:(convert 147 9 (.slice (some ⟨wr.heap.size,0,none⟩) 1 1)).run Tryz.prog (wr.alloc (.cells #[.int .u8 83] 5))=.ok (.string ⟨#[83]⟩) (wr.alloc (.cells #[.int .u8 83] 5)):=conv_one wr 83
    have hx8:(((ByteArray.mk #[115])[0]'(by decide)).toNat:Int)=115:=rfl
    obtain ⟨WA,hWA⟩:∃ X,X=wr.alloc (.cells #[.int .u8 83] 5):=⟨_,rfl⟩
    have hbA:Below wr.heap.size wr WA:=by rw [hWA];exact (Below.refl _ _).alloc (Nat.le_refl _) _
    have hsA:wr.heap.size < WA.heap.size:=by rw [hWA];simp
    clear hC
    have HN1:=Lib.hid (show ¬ p=115 from fun x=>HS.out (by omega))
    have HN2:=Lib.hid (show ¬ p=83 from fun x=>HS.out (by omega))
    have hqn:Q1 3 p:=by have a1:=HN1.out;have a2:=HN2.out;have:=hQ.out;unfold Q1 at this ⊢;omega
    have HQN:=Lib.hid hqn
    clear hqn
    go_upto_region 13 with (fail)
    rw [← hWA]
    clear hWA hcv hx8 k1 k2 k3 k4 l1 l2 l3 l4 c0 c1
    have HES:=Lib.hid (HES.out.next hbA)
    have HC:=Lib.hid (row_next HC.out hbA)
    obtain ⟨k1,k2,k3,k4,l1,l2,l3,l4⟩:=HES.out.facts
    have c0:WA.cell? ⟨w.heap.size+4,4,none⟩=some (.string ⟨#[115]⟩):=cell_of_row _ _ 4 _ _ _ HC.out
    have c1:WA.cell? ⟨w.heap.size+4,5,none⟩=some (.string ⟨#[115,112,97,99,101]⟩):=cell_of_row _ _ 5 _ _ _ HC.out
    have hl4:=lt_heap HC.out
    go_wp2_with (first
     | (go_at_call 178;(with_reducible refine (es_is HES.out HP.out ⟨by omega,by omega⟩ HPT.out 115 115 false rfl (decide_eq_false HN1.out).symm).mono ?_);rintro e w3 ⟨rfl,hE,hb⟩;clear k1 k2 k3 k4 l1 l2 l3 l4;have HES:=Lib.hid hE;have HC:=Lib.hid (row_next HC.out hb);clear c0 c1;have c0:w3.cell? ⟨w.heap.size+4,4,none⟩=some (.string ⟨#[115]⟩):=cell_of_row _ _ 4 _ _ _ HC.out;have c1:w3.cell? ⟨w.heap.size+4,5,none⟩=some (.string ⟨#[115,112,97,99,101]⟩):=cell_of_row _ _ 5 _ _ _ HC.out;obtain ⟨k1,k2,k3,k4,l1,l2,l3,l4⟩:=HES.out.facts;have hb3:=hb.size;clear hb hE)
     | (go_at_call 178;(with_reducible refine (es_is HES.out HP.out ⟨by omega,by omega⟩ HPT.out 83 83 false rfl (decide_eq_false HN2.out).symm).mono ?_);rintro e w3 ⟨rfl,hE,hb⟩;clear k1 k2 k3 k4 l1 l2 l3 l4;have HES:=Lib.hid hE;have HC:=Lib.hid (row_next HC.out hb);clear c0 c1;have c0:w3.cell? ⟨w.heap.size+4,4,none⟩=some (.string ⟨#[115]⟩):=cell_of_row _ _ 4 _ _ _ HC.out;have c1:w3.cell? ⟨w.heap.size+4,5,none⟩=some (.string ⟨#[115,112,97,99,101]⟩):=cell_of_row _ _ 5 _ _ _ HC.out;obtain ⟨k1,k2,k3,k4,l1,l2,l3,l4⟩:=HES.out.facts;have hb3:=hb.size;clear hb hE))
    go_roundw
    case rel=>exact ⟨3,6,by omega,rfl,HQN,HES.out,HC.out⟩
    case measure=>simp [intOf]
   ·have HC:=Lib.hid hC
    have c0:wr.cell? ⟨w.heap.size+4,6,none⟩=some (.string ⟨#[104]⟩):=cell_of_row _ _ 6 _ _ _ HC.out
    have c1:wr.cell? ⟨w.heap.size+4,7,none⟩=some (.string ⟨#[120,100,105,103,105,116]⟩):=cell_of_row _ _ 7 _ _ _ HC.out
    have hl4:=lt_heap HC.out
    have hcv:(convert 147 9 (.slice (some ⟨wr.heap.size,0,none⟩) 1 1)).run Tryz.prog (wr.alloc (.cells #[.int .u8 72] 5))=.ok (.string ⟨#[72]⟩) (wr.alloc (.cells #[.int .u8 72] 5)):=conv_one wr 72
    have hx8:(((ByteArray.mk #[104])[0]'(by decide)).toNat:Int)=104:=rfl
    obtain ⟨WA,hWA⟩:∃ X,X=wr.alloc (.cells #[.int .u8 72] 5):=⟨_,rfl⟩
    have hbA:Below wr.heap.size wr WA:=by rw [hWA];exact (Below.refl _ _).alloc (Nat.le_refl _) _
    have hsA:wr.heap.size < WA.heap.size:=by rw [hWA];simp
    clear hC
    have HN1:=Lib.hid (show ¬ p=104 from fun x=>HS.out (by omega))
    have HN2:=Lib.hid (show ¬ p=72 from fun x=>HS.out (by omega))
    have hqn:Q1 4 p:=by have a1:=HN1.out;have a2:=HN2.out;have:=hQ.out;unfold Q1 at this ⊢;omega
    have HQN:=Lib.hid hqn
    clear hqn
    go_upto_region 13 with (fail)
    rw [← hWA]
    clear hWA hcv hx8 k1 k2 k3 k4 l1 l2 l3 l4 c0 c1
    have HES:=Lib.hid (HES.out.next hbA)
    have HC:=Lib.hid (row_next HC.out hbA)
    obtain ⟨k1,k2,k3,k4,l1,l2,l3,l4⟩:=HES.out.facts
    have c0:WA.cell? ⟨w.heap.size+4,6,none⟩=some (.string ⟨#[104]⟩):=cell_of_row _ _ 6 _ _ _ HC.out
    have c1:WA.cell? ⟨w.heap.size+4,7,none⟩=some (.string ⟨#[120,100,105,103,105,116]⟩):=cell_of_row _ _ 7 _ _ _ HC.out
    have hl4:=lt_heap HC.out
    go_wp2_with (first
     | (go_at_call 178;(with_reducible refine (es_is HES.out HP.out ⟨by omega,by omega⟩ HPT.out 104 104 false rfl (decide_eq_false HN1.out).symm).mono ?_);rintro e w3 ⟨rfl,hE,hb⟩;clear k1 k2 k3 k4 l1 l2 l3 l4;have HES:=Lib.hid hE;have HC:=Lib.hid (row_next HC.out hb);clear c0 c1;have c0:w3.cell? ⟨w.heap.size+4,6,none⟩=some (.string ⟨#[104]⟩):=cell_of_row _ _ 6 _ _ _ HC.out;have c1:w3.cell? ⟨w.heap.size+4,7,none⟩=some (.string ⟨#[120,100,105,103,105,116]⟩):=cell_of_row _ _ 7 _ _ _ HC.out;obtain ⟨k1,k2,k3,k4,l1,l2,l3,l4⟩:=HES.out.facts;have hb3:=hb.size;clear hb hE)
     | (go_at_call 178;(with_reducible refine (es_is HES.out HP.out ⟨by omega,by omega⟩ HPT.out 72 72 false rfl (decide_eq_false HN2.out).symm).mono ?_);rintro e w3 ⟨rfl,hE,hb⟩;clear k1 k2 k3 k4 l1 l2 l3 l4;have HES:=Lib.hid hE;have HC:=Lib.hid (row_next HC.out hb);clear c0 c1;have c0:w3.cell? ⟨w.heap.size+4,6,none⟩=some (.string ⟨#[104]⟩):=cell_of_row _ _ 6 _ _ _ HC.out;have c1:w3.cell? ⟨w.heap.size+4,7,none⟩=some (.string ⟨#[120,100,105,103,105,116]⟩):=cell_of_row _ _ 7 _ _ _ HC.out;obtain ⟨k1,k2,k3,k4,l1,l2,l3,l4⟩:=HES.out.facts;have hb3:=hb.size;clear hb hE))
    go_roundw
    case rel=>exact ⟨4,8,by omega,rfl,HQN,HES.out,HC.out⟩
    case measure=>simp [intOf]
   ·clear hC
    have HQ:=Lib.hid hQ.out
    clear hQ
    have H98:=Lib.hid (show ¬ p=98 from fun e=>HT.out.1 (by omega))
    have H66:=Lib.hid (show ¬ p=66 from fun e=>HT.out.1 (by omega))
    have H65:=Lib.hid (show ¬ p=65 from fun e=>HT.out.1 (by omega))
    have H122:=Lib.hid (show ¬ p=122 from fun e=>HT.out.1 (by omega))
    go_upto_region 26 with (first
     | (go_at_call 178;(with_reducible refine (es_is HES.out HP.out ⟨by omega,by omega⟩ HPT.out 98 98 false rfl (decide_eq_false H98.out).symm).mono ?_);rintro e w3 ⟨rfl,hE,hb⟩;clear k1 k2 k3 k4 l1 l2 l3 l4;have HES:=Lib.hid hE;obtain ⟨k1,k2,k3,k4,l1,l2,l3,l4⟩:=HES.out.facts;clear hb hE)
     | (go_at_call 178;(with_reducible refine (es_is HES.out HP.out ⟨by omega,by omega⟩ HPT.out 66 66 false rfl (decide_eq_false H66.out).symm).mono ?_);rintro e w3 ⟨rfl,hE,hb⟩;clear k1 k2 k3 k4 l1 l2 l3 l4;have HES:=Lib.hid hE;obtain ⟨k1,k2,k3,k4,l1,l2,l3,l4⟩:=HES.out.facts;clear hb hE)
     | (go_at_call 178;(with_reducible refine (es_is HES.out HP.out ⟨by omega,by omega⟩ HPT.out 65 65 false rfl (decide_eq_false H65.out).symm).mono ?_);rintro e w3 ⟨rfl,hE,hb⟩;clear k1 k2 k3 k4 l1 l2 l3 l4;have HES:=Lib.hid hE;obtain ⟨k1,k2,k3,k4,l1,l2,l3,l4⟩:=HES.out.facts;clear hb hE)
     | (go_at_call 178;(with_reducible refine (es_is HES.out HP.out ⟨by omega,by omega⟩ HPT.out 122 122 false rfl (decide_eq_false H122.out).symm).mono ?_);rintro e w3 ⟨rfl,hE,hb⟩;clear k1 k2 k3 k4 l1 l2 l3 l4;have HES:=Lib.hid hE;obtain ⟨k1,k2,k3,k4,l1,l2,l3,l4⟩:=HES.out.facts;clear hb hE))
    go_upto_region 44 with (fail)
    have hG:=HES.out.size
    obtain ⟨W5,hW5⟩:∃ X,X=w3.alloc (.cells #[.int .i64 110,.int .i64 10,.int .i64 116,.int .i64 9,.int .i64 114,.int .i64 13,.int .i64 102,.int .i64 12,.int .i64 118,.int .i64 11,.int .i64 97,.int .i64 7,.int .i64 101,.int .i64 27] 3):=⟨_,rfl⟩
    have HES:=Lib.hid (show Es w W5 n c A l at_ (at_+1) by rw [hW5];exact HES.out.next ((Below.refl _ _).alloc (Nat.le_refl _) _))
    have HR5:=Lib.hid (show W5.heap[w3.heap.size]?=some (.cells #[.int .i64 110,.int .i64 10,.int .i64 116,.int .i64 9,.int .i64 114,.int .i64 13,.int .i64 102,.int .i64 12,.int .i64 118,.int .i64 11,.int .i64 97,.int .i64 7,.int .i64 101,.int .i64 27] 3 (0,0)) by rw [hW5];exact heap_alloc_new w3 _)
    rw [← hW5]
    clear hW5 k1 k2 k3 k4 l1 l2 l3 l4
    obtain ⟨k1,k2,k3,k4,l1,l2,l3,l4⟩:=HES.out.facts
    go_wp2_with fail
    go_loopw [21] (fun i wr=>∃ (k:Nat) (i0:Int),(k=0∧i0=0∨k=1∧i0=2∨k=2∧i0=4∨k=3∧i0=6∨k=4∧i0=8∨k=5∧i0=10∨k=6∧i0=12∨k=7∧i0=14)∧i=.int .i64 i0∧Hid (∀ j:Nat,j < k→p≠ctl j)∧Es w wr n c A l at_ (at_+1)∧wr.heap[w3.heap.size]?=some (.cells #[.int .i64 110,.int .i64 10,.int .i64 116,.int .i64 9,.int .i64 114,.int .i64 13,.int .i64 102,.int .i64 12,.int .i64 118,.int .i64 11,.int .i64 97,.int .i64 7,.int .i64 101,.int .i64 27] 3 (0,0))) (fun i _=>14 - (intOf i).toNat)
    case atStart=>exact ⟨0,0,by omega,rfl,Lib.hid (fun j hj=>absurd hj (Nat.not_lt_zero j)),HES.out,HR5.out⟩
    case round =>
     obtain ⟨k,i0,hcase,rfl,hQ,hES,hR⟩:=hrel
     have HES:=Lib.hid hES
     have HR6:=Lib.hid hR
     have hl5:=lt_heap HR6.out
     clear hES HR5 hR
     clear k1 k2 k3 k4 l1 l2 l3 l4
     obtain ⟨k1,k2,k3,k4,l1,l2,l3,l4⟩:=HES.out.facts
     rcases hcase with ⟨rfl,rfl⟩|⟨rfl,rfl⟩|⟨rfl,rfl⟩|⟨rfl,rfl⟩|⟨rfl,rfl⟩|⟨rfl,rfl⟩|⟨rfl,rfl⟩|⟨rfl,rfl⟩
     ·have c0:wr.cell? ⟨w3.heap.size,0,none⟩=some (.int .i64 110):=cell_of_row _ _ 0 _ _ _ HR6.out
      have hc:¬ p=110:=fun e=>HT.out.1 (by omega)
      have HC1:=Lib.hid hc
      have hcb:(p == 110)=false:=by simpa using hc
      clear hc
      go_wp2_with fail
      go_roundw
      case rel=>exact ⟨1,2,by omega,rfl,Lib.hid (fun j hj=>by rcases Nat.lt_succ_iff_lt_or_eq.1 (show j < 0+1 from hj) with hj|rfl;exact hQ.out j hj;exact HC1.out),HES.out,HR6.out⟩
      case measure=>simp [intOf]
     ·have c0:wr.cell? ⟨w3.heap.size,2,none⟩=some (.int .i64 116):=cell_of_row _ _ 2 _ _ _ HR6.out
      have hc:¬ p=116:=fun e=>HT.out.1 (by omega)
      have HC1:=Lib.hid hc
      have hcb:(p == 116)=false:=by simpa using hc
      clear hc
      go_wp2_with fail
      go_roundw
      case rel=>exact ⟨2,4,by omega,rfl,Lib.hid (fun j hj=>by rcases Nat.lt_succ_iff_lt_or_eq.1 (show j < 1+1 from hj) with hj|rfl;exact hQ.out j hj;exact HC1.out),HES.out,HR6.out⟩
      case measure=>simp [intOf]
     ·have c0:wr.cell? ⟨w3.heap.size,4,none⟩=some (.int .i64 114):=cell_of_row _ _ 4 _ _ _ HR6.out
      have hc:¬ p=114:=fun e=>HT.out.1 (by omega)
      have HC1:=Lib.hid hc
      have hcb:(p == 114)=false:=by simpa using hc
      clear hc
      go_wp2_with fail
      go_roundw
      case rel=>exact ⟨3,6,by omega,rfl,Lib.hid (fun j hj=>by rcases Nat.lt_succ_iff_lt_or_eq.1 (show j < 2+1 from hj) with hj|rfl;exact hQ.out j hj;exact HC1.out),HES.out,HR6.out⟩
      case measure=>simp [intOf]
     ·have c0:wr.cell? ⟨w3.heap.size,6,none⟩=some (.int .i64 102):=cell_of_row _ _ 6 _ _ _ HR6.out
      have hc:¬ p=102:=fun e=>HT.out.1 (by omega)
      have HC1:=Lib.hid hc
      have hcb:(p == 102)=false:=by simpa using hc
      clear hc
      go_wp2_with fail
      go_roundw
      case rel=>exact ⟨4,8,by omega,rfl,Lib.hid (fun j hj=>by rcases Nat.lt_succ_iff_lt_or_eq.1 (show j < 3+1 from hj) with hj|rfl;exact hQ.out j hj;exact HC1.out),HES.out,HR6.out⟩
      case measure=>simp [intOf]
     ·have c0:wr.cell? ⟨w3.heap.size,8,none⟩=some (.int .i64 118):=cell_of_row _ _ 8 _ _ _ HR6.out
      have hc:¬ p=118:=fun e=>HT.out.1 (by omega)
      have HC1:=Lib.hid hc
      have hcb:(p == 118)=false:=by simpa using hc
      clear hc
      go_wp2_with fail
      go_roundw
      case rel=>exact ⟨5,10,by omega,rfl,Lib.hid (fun j hj=>by rcases Nat.lt_succ_iff_lt_or_eq.1 (show j < 4+1 from hj) with hj|rfl;exact hQ.out j hj;exact HC1.out),HES.out,HR6.out⟩
      case measure=>simp [intOf]
     ·have c0:wr.cell? ⟨w3.heap.size,10,none⟩=some (.int .i64 97):=cell_of_row _ _ 10 _ _ _ HR6.out
      have hc:¬ p=97:=fun e=>HT.out.1 (by omega)
      have HC1:=Lib.hid hc
      have hcb:(p == 97)=false:=by simpa using hc
      clear hc
      go_wp2_with fail
      go_roundw
      case rel=>exact ⟨6,12,by omega,rfl,Lib.hid (fun j hj=>by rcases Nat.lt_succ_iff_lt_or_eq.1 (show j < 5+1 from hj) with hj|rfl;exact hQ.out j hj;exact HC1.out),HES.out,HR6.out⟩
      case measure=>simp [intOf]
     ·have c0:wr.cell? ⟨w3.heap.size,12,none⟩=some (.int .i64 101):=cell_of_row _ _ 12 _ _ _ HR6.out
      have hc:¬ p=101:=fun e=>HT.out.1 (by omega)
      have HC1:=Lib.hid hc
      have hcb:(p == 101)=false:=by simpa using hc
      clear hc
      go_wp2_with fail
      go_roundw
      case rel=>exact ⟨7,14,by omega,rfl,Lib.hid (fun j hj=>by rcases Nat.lt_succ_iff_lt_or_eq.1 (show j < 6+1 from hj) with hj|rfl;exact hQ.out j hj;exact HC1.out),HES.out,HR6.out⟩
      case measure=>simp [intOf]
     ·by_cases hdg:49≤p∧p≤57
      ·have hdgb:(decide (49≤p) && decide (p≤57))=true:=by rw [Bool.and_eq_true];exact ⟨decide_eq_true hdg.1,decide_eq_true hdg.2⟩
       obtain ⟨nx,hnx⟩:∃ x,x=at_+(runLen isDig l at_ 2:Int):=⟨_,rfl⟩
       obtain ⟨dv,hdv⟩:∃ x,x=decN (runPts l at_ (runLen isDig l at_ 2)):=⟨_,rfl⟩
       have D:=Lib.hid (fun w' (hb:Below w.heap.size w w')=>(show Calls Tryz.prog 180 #[.slice A n c,.int .i64 at_,.int .i64 2] w' (fun e w''=>e=.returned (.tuple #[.int .i64 (decN (runPts l at_ (runLen isDig l at_ 2))),.int .i64 (at_+(runLen isDig l at_ 2:Int))])∧w'=w'') from digits32 l at_ 2 A n c _ w' (by unfold maxLen;omega) (by omega) (by omega) (by omega) (HP.out w' hb).row))
       have HE:=Lib.hid (show r=.ok ({ kind:=10,num:=dv },nx) from HR.out.trans (by rw [one_digit hdg,hnx,hdv]))
       rw [← hnx,← hdv] at D
       clear hnx hdv hdg
       go_upto_region 51 with (first
        | (go_at_call 119;(with_reducible refine (between31 p 49 57 _).mono ?_);rintro e w' ⟨rfl,rfl⟩)
        | (go_at_call 180;(with_reducible refine (D.out _ HES.out.bel).mono ?_);rintro e w' ⟨rfl,rfl⟩))
       repeat (first|(go_big_may;((with_reducible apply store24 (g:=w.heap.size+2));rfl;(with_reducible rfl);rfl;rfl;(exact HES.out.hz);rfl;rfl))|go_values|go_skip|go_guarded|go_step|go_upon)
       ((try simp only [Exit.inBlock,Exit.then]);refine bodyPost_ret (v:=_) (results24q Tryz.results139 _ _ (w.heap.size+2) _ (.int .i64 nx) (.int .i64 0) ?_ ?_ ?_ (row24 ?_) ?_) rfl ?_;rfl;rfl;rfl;(exact HES.out.hz);rfl;refine And.intro ?_ ?_;(rw [HE.out];rfl);exact (Below.setRow HES.out.bel (Nat.le_add_right _ _) _))
      have hnd:=HT.out.2
      by_cases hu:p=117
      ·subst hu
       clear hdg
       have HX2:Hid (false=saysP l at_ [120,123]):=Lib.hid (by rw [saysP_two,← HPT.out];rfl)
       obtain ⟨K,hK⟩:∃ x,x=runLen isHexP l (at_+1) 4:=⟨_,rfl⟩
       have hKM:=runLen_le isHexP l 4 (at_+1)
       have HY:=Lib.hid (fun k=>runLen_yes isHexP l 4 (at_+1) k)
       have HNO:=Lib.hid (runLen_no isHexP l 4 (at_+1))
       have hKn:=hex_le l 4 (at_+1) (by omega)
       rw [← hK] at hKM HNO hKn
       have HY:=Lib.hid (fun k (hk:k < K)=>HY.out k (hK ▸ hk))
       rw [hln] at hKn
       go_upto_region 60 with (first
        | (go_at_call 119;(with_reducible refine (between31 117 49 57 _).mono ?_);rintro e w' ⟨rfl,rfl⟩)
        | (go_at_call 178;(with_reducible refine (es_is HES.out HP.out ⟨by omega,by omega⟩ HPT.out 120 120 false rfl rfl).mono ?_);rintro e w3 ⟨rfl,hE,hb⟩;clear k1 k2 k3 k4 l1 l2 l3 l4;have HES:=Lib.hid hE;obtain ⟨k1,k2,k3,k4,l1,l2,l3,l4⟩:=HES.out.facts;clear hb hE)
        | (go_at_call 178;(with_reducible refine (es_is HES.out HP.out ⟨by omega,by omega⟩ HPT.out 117 117 true rfl rfl).mono ?_);rintro e w3 ⟨rfl,hE,hb⟩;clear k1 k2 k3 k4 l1 l2 l3 l4;have HES:=Lib.hid hE;obtain ⟨k1,k2,k3,k4,l1,l2,l3,l4⟩:=HES.out.facts;clear hb hE)
        | (go_at_call 178;(with_reducible refine (es_is2 HES.out HP.out ⟨by omega,by omega⟩ 120 123 false HX2.out).mono ?_);rintro e w3 ⟨rfl,hE,hb⟩;clear k1 k2 k3 k4 l1 l2 l3 l4;have HES:=Lib.hid hE;obtain ⟨k1,k2,k3,k4,l1,l2,l3,l4⟩:=HES.out.facts;clear hb hE))
       go_wp2_with fail
       go_loopw [27,28] (fun i27 i28 wr=>∃ k:Nat,k≤K∧i27=.int .i64 (hexN (runPts l (at_+1) k))∧i28=.int .i64 k∧Es w wr n c A l at_ (at_+1+k)) (fun _ i _=>5 - (intOf i).toNat)
       case atStart=>exact ⟨0,Nat.zero_le _,rfl,rfl,by simpa using HES.out⟩
       case round =>
        obtain ⟨k,hkK,rfl,rfl,hES⟩:=hrel
        have HES:=Lib.hid hES
        clear hES k1 k2 k3 k4 l1 l2 l3 l4
        obtain ⟨k1,k2,k3,k4,l1,l2,l3,l4⟩:=HES.out.facts
        have hpb:=hok.out (at_+1+k)
        have C28:=Lib.hid (pointAt28 l (at_+1+k) A n c w.heap.size wr (by unfold maxLen;omega) (HP.out _ HES.out.bel).row)
        have C28':=Lib.hid (fun w' (hb:Below w.heap.size w w')=>pointAt28 l (at_+1+k) A n c w.heap.size w' (by unfold maxLen;omega) (HP.out _ hb).row)
        have hys:=hexN_lt (runPts l (at_+1) k) (fun q hq=>by
         obtain ⟨i,hi,rfl⟩:=List.mem_iff_getElem.1 hq
         rw [runPts_get]
         rw [runPts_length] at hi
         exact HY.out i (by omega)) (by rw [runPts_length];omega)
        have HSN:=Lib.hid (show hexN (runPts l (at_+1) (k+1))=16 * hexN (runPts l (at_+1) k)+hexV (ptAt l (at_+1+k)) by rw [runPts_succ,hexN_snoc])
        obtain ⟨y,hy⟩:∃ y,y=hexN (runPts l (at_+1) k):=⟨_,rfl⟩
        obtain ⟨x,hx⟩:∃ x,x=ptAt l (at_+1+k):=⟨_,rfl⟩
        rw [← hy] at hys HSN ⊢
        rw [← hx] at C28 hpb HSN
        have HYY:=Lib.hid hy
        clear hy
        have C33:=Lib.hid (fun w'=>hexOf33 x w' (by omega))
        obtain ⟨hy0,hy9⟩:=hys
        obtain ⟨hpb0,hpb1⟩:=hpb
        by_cases hlt:k < K
        ·have hkM:(k:Int) < 4:=by omega
         have hhx:=HY.out k hlt
         rw [← hx] at hhx
         have hhv:=hexV_pos hhx
         obtain ⟨hv0,hv1⟩:=hhv
         obtain ⟨j,hj⟩:=Int.eq_ofNat_of_zero_le (show 0≤at_+1+(k:Int) by omega)
         obtain ⟨b1,off1,hl1,hA,hb1,hc1⟩:=(HP.out _ HES.out.bel).row.int_at (k:=j) (by omega)
         have hxx:l[j]=x:=by rw [hx,hj];exact (ptAt_in l hl1).symm
         rw [hxx] at hc1
         have htn:(at_+1+(k:Int)).toNat=j:=by omega
         have hin1:(0:Int)≤at_+1+(k:Int):=by omega
         have hin2:at_+1+(k:Int) < n:=by omega
         have hbw:b1 < wr.heap.size:=by have:=HES.out.size;omega
         obtain ⟨hv,hhv2⟩:∃ v,v=hexV x:=⟨_,rfl⟩
         rw [← hhv2] at C33 HSN hv0 hv1
         clear hx hxx hhx hj hhv2 hKM hkK
         subst hA
         go_wp2_with (first
          | (go_at_call 92;(with_reducible refine C28.out.mono ?_);rintro e w' ⟨rfl,rfl⟩)
          | (go_at_call 181;(with_reducible refine (C33.out _).mono ?_);rintro e w' ⟨rfl,rfl⟩))
         go_roundw
         case rel=>exact ⟨k+1,hlt,by rw [HSN.out],by go_num,by rw [show at_+1+((k+1:Nat):Int)=at_+1+k+1 from by omega];exact HES.out.stored _⟩
         case measure=>simp [intOf];omega
        ·have hkk:k=K:=by omega
         subst hkk
         clear hlt
         have HK:=Lib.hid hK
         clear hK
         by_cases hkm:k < 4
         ·have hkM:(k:Int) < 4:=by omega
          have hhx:=HNO.out hkm
          rw [← hx] at hhx
          have hhv:=hexV_neg hhx
          obtain ⟨hv,hhv2⟩:∃ v,v=hexV x:=⟨_,rfl⟩
          rw [← hhv2] at C33 hhv
          clear hx hhx hhv2
          go_upto_region 65 with (first
           | (go_at_call 92;(with_reducible refine C28.out.mono ?_);rintro e w' ⟨rfl,rfl⟩)
           | (go_at_call 181;(with_reducible refine (C33.out _).mono ?_);rintro e w' ⟨rfl,rfl⟩))
          have HE:=Lib.hid (show r=.error 1 from HR.out.trans ((one_scalar (by omega)).trans (sc_u_few (by rw [← HK.out];omega))))
          have hfew:(k:Int) < 4:=by omega
          go_upto_region 66 with (fail)
          repeat (first|(go_big_may;((with_reducible apply store24 (g:=w.heap.size+2));rfl;(with_reducible rfl);rfl;rfl;(exact HES.out.hz);rfl;rfl))|go_values|go_skip|go_guarded|go_step|go_upon)
          ((try simp only [Exit.inBlock,Exit.then]);refine bodyPost_ret (v:=_) (results24q Tryz.results139 _ _ (w.heap.size+2) _ (.int .i64 0) (.int .i64 1) ?_ ?_ ?_ (row24 ?_) ?_) rfl ?_;rfl;rfl;rfl;(exact HES.out.hz);rfl;refine And.intro ?_ ?_;(rw [HE.out];rfl);exact (Below.setRow HES.out.bel (Nat.le_add_right _ _) _))
         ·have hkM:¬ (k:Int) < 4:=by omega
          clear hx
          go_upto_region 65 with (fail)
          have hfew:¬ (k:Int) < 4:=by omega
          go_upto_region 69 with (fail)
          by_cases hbig:1114111 < y
          ·have HE:=Lib.hid (show r=.error 3 from HR.out.trans ((one_scalar (by omega)).trans ((sc_u (by rw [← HK.out];omega)).trans (sc_big (by rw [runPts_len,← HK.out];omega) (by rw [← HK.out,← HYY.out];exact hbig)))))
           go_upto_region 70 with (fail)
           repeat (first|(go_big_may;((with_reducible apply store24 (g:=w.heap.size+2));rfl;(with_reducible rfl);rfl;rfl;(exact HES.out.hz);rfl;rfl))|go_values|go_skip|go_guarded|go_step|go_upon)
           ((try simp only [Exit.inBlock,Exit.then]);refine bodyPost_ret (v:=_) (results24q Tryz.results139 _ _ (w.heap.size+2) _ (.int .i64 0) (.int .i64 3) ?_ ?_ ?_ (row24 ?_) ?_) rfl ?_;rfl;rfl;rfl;(exact HES.out.hz);rfl;refine And.intro ?_ ?_;(rw [HE.out];rfl);exact (Below.setRow HES.out.bel (Nat.le_add_right _ _) _))
          ·have HE:=Lib.hid (show r=.ok (pointT y,at_+1+k) from HR.out.trans ((one_scalar (by omega)).trans ((sc_u (by rw [← HK.out];omega)).trans ((sc_ok (by rw [runPts_len,← HK.out];omega) (by rw [← HK.out,← HYY.out];exact hbig)).trans (by rw [← HK.out,← HYY.out])))))
           go_upto_region 71 with (fail)
           have HD:=Lib.hid (Es.drew HES.out)
           go_region_held3 (fun w'=>w'.cell? ⟨w.heap.size+3,0,none⟩=some (.int .i64 (at_+1+k)))
            (first
             | with_reducible exact HD.out.facts.2.2.1
             | with_reducible exact HES.out.facts.2.2.1
             | with_reducible exact (put24_cell (by simp)).trans HES.out.facts.2.2.1)
            (first
             | ((go_at_call 142;(with_reducible refine (point23 (y) _).mono ?_);rintro e w2 ⟨he,hb⟩;obtain rfl:=(show e=.returned (.agg #[.int .i64 1,.int .i64 (y),.string ⟨#[]⟩,.bool false,.int .i64 0,.int .i64 0,.int .i64 0,.int .i64 0]) from he);clear he;have HES:=Lib.hid ((Es.drew HES.out).next hb);clear k1 k2 k3 k4 l1 l2 l3 l4;obtain ⟨k1,k2,k3,k4,l1,l2,l3,l4⟩:=HES.out.facts;obtain ⟨⟨z0,z1,z2,z3,z4,z5,z6,z7⟩,⟨g0,g1,g2,g3,g4,g5,g6,g7⟩⟩:=HES.out.zs;clear hb)))
           all_goals (repeat (first|go_values|go_skip|go_guarded|go_step|go_upon))
           all_goals (try simp only [Exit.inBlock,Exit.then])
           all_goals (try go_simp)
           all_goals (refine bodyPost_ret (v:=.tuple #[.agg #[.int .i64 1,.int .i64 (y),.string ⟨#[]⟩,.bool false,.int .i64 0,.int .i64 0,.int .i64 0,.int .i64 0],.int .i64 (at_+1+k),.int .i64 0]) ?_ rfl ?_)
           all_goals (first|(refine And.intro ?_ ?_;(rw [HE.out];rfl);(with_reducible exact put24_below HES.out.bel (Nat.le_add_right _ _)))|(refine results24q Tryz.results139 _ _ (w.heap.size+2) (#[.int .i64 1,.int .i64 (y),.string ⟨#[]⟩,.bool false,.int .i64 0,.int .i64 0,.int .i64 0,.int .i64 0]) (.int .i64 (at_+1+k)) (.int .i64 0) ?_ ?_ ?_ ?_ ?_;rfl;rfl;rfl;(with_reducible exact put24 HES.out.row);rfl))
      have hx:p=120:=by omega
      clear hnd hdg hu
      subst hx
      by_cases hbr:ptAt l (at_+1)=123
      ·have hin1:at_+1+1≤n:=in_pt hln (by rw [hbr];decide)
       have HX2:Hid (true=saysP l at_ [120,123]):=Lib.hid (by rw [saysP_two,← HPT.out];simp;exact hbr)
       obtain ⟨K,hK⟩:∃ x,x=runLen isHexP l (at_+1+1) 6:=⟨_,rfl⟩
       have hKM:=runLen_le isHexP l 6 (at_+1+1)
       have HY:=Lib.hid (fun k=>runLen_yes isHexP l 6 (at_+1+1) k)
       have HNO:=Lib.hid (runLen_no isHexP l 6 (at_+1+1))
       have hKn:=hex_le l 6 (at_+1+1) (by omega)
       rw [← hK] at hKM HNO hKn
       have HY:=Lib.hid (fun k (hk:k < K)=>HY.out k (hK ▸ hk))
       rw [hln] at hKn
       go_upto_region 60 with (first
        | (go_at_call 119;(with_reducible refine (between31 120 49 57 _).mono ?_);rintro e w' ⟨rfl,rfl⟩)
        | (go_at_call 178;(with_reducible refine (es_is HES.out HP.out ⟨by omega,by omega⟩ HPT.out 120 120 true rfl rfl).mono ?_);rintro e w3 ⟨rfl,hE,hb⟩;clear k1 k2 k3 k4 l1 l2 l3 l4;have HES:=Lib.hid hE;obtain ⟨k1,k2,k3,k4,l1,l2,l3,l4⟩:=HES.out.facts;clear hb hE)
        | (go_at_call 178;(with_reducible refine (es_is2 HES.out HP.out ⟨by omega,by omega⟩ 120 123 true HX2.out).mono ?_);rintro e w3 ⟨rfl,hE,hb⟩;clear k1 k2 k3 k4 l1 l2 l3 l4;have HES:=Lib.hid hE;obtain ⟨k1,k2,k3,k4,l1,l2,l3,l4⟩:=HES.out.facts;clear hb hE)
        | (go_at_call 178;(with_reducible refine (es_is HES.out HP.out ⟨by omega,by omega⟩ HPT.out 117 117 false rfl rfl).mono ?_);rintro e w3 ⟨rfl,hE,hb⟩;clear k1 k2 k3 k4 l1 l2 l3 l4;have HES:=Lib.hid hE;obtain ⟨k1,k2,k3,k4,l1,l2,l3,l4⟩:=HES.out.facts;clear hb hE))
       obtain ⟨WB,hWB⟩:∃ X,X=w3.setCell ⟨w.heap.size+3,0,none⟩ (.int .i64 (at_+1+1)):=⟨_,rfl⟩
       have HES:=Lib.hid (show Es w WB n c A l at_ (at_+1+1) by rw [hWB];exact HES.out.stored _)
       rw [← hWB]
       clear hWB k1 k2 k3 k4 l1 l2 l3 l4
       obtain ⟨k1,k2,k3,k4,l1,l2,l3,l4⟩:=HES.out.facts
       go_wp2_with fail
       go_loopw [27,28] (fun i27 i28 wr=>∃ k:Nat,k≤K∧i27=.int .i64 (hexN (runPts l (at_+1+1) k))∧i28=.int .i64 k∧Es w wr n c A l at_ (at_+1+1+k)) (fun _ i _=>7 - (intOf i).toNat)
       case atStart=>exact ⟨0,Nat.zero_le _,rfl,rfl,by simpa using HES.out⟩
       case round =>
        obtain ⟨k,hkK,rfl,rfl,hES⟩:=hrel
        have HES:=Lib.hid hES
        clear hES k1 k2 k3 k4 l1 l2 l3 l4
        obtain ⟨k1,k2,k3,k4,l1,l2,l3,l4⟩:=HES.out.facts
        have hpb:=hok.out (at_+1+1+k)
        have C28:=Lib.hid (pointAt28 l (at_+1+1+k) A n c w.heap.size wr (by unfold maxLen;omega) (HP.out _ HES.out.bel).row)
        have C28':=Lib.hid (fun w' (hb:Below w.heap.size w w')=>pointAt28 l (at_+1+1+k) A n c w.heap.size w' (by unfold maxLen;omega) (HP.out _ hb).row)
        have hys:=hexN_lt (runPts l (at_+1+1) k) (fun q hq=>by
         obtain ⟨i,hi,rfl⟩:=List.mem_iff_getElem.1 hq
         rw [runPts_get]
         rw [runPts_length] at hi
         exact HY.out i (by omega)) (by rw [runPts_length];omega)
        have HSN:=Lib.hid (show hexN (runPts l (at_+1+1) (k+1))=16 * hexN (runPts l (at_+1+1) k)+hexV (ptAt l (at_+1+1+k)) by rw [runPts_succ,hexN_snoc])
        obtain ⟨y,hy⟩:∃ y,y=hexN (runPts l (at_+1+1) k):=⟨_,rfl⟩
        obtain ⟨x,hx⟩:∃ x,x=ptAt l (at_+1+1+k):=⟨_,rfl⟩
        rw [← hy] at hys HSN ⊢
        rw [← hx] at C28 hpb HSN
        have HYY:=Lib.hid hy
        clear hy
        have C33:=Lib.hid (fun w'=>hexOf33 x w' (by omega))
        obtain ⟨hy0,hy9⟩:=hys
        obtain ⟨hpb0,hpb1⟩:=hpb
        by_cases hlt:k < K
        ·have hkM:(k:Int) < 6:=by omega
         have hhx:=HY.out k hlt
         rw [← hx] at hhx
         have hhv:=hexV_pos hhx
         obtain ⟨hv0,hv1⟩:=hhv
         obtain ⟨j,hj⟩:=Int.eq_ofNat_of_zero_le (show 0≤at_+1+1+(k:Int) by omega)
         obtain ⟨b1,off1,hl1,hA,hb1,hc1⟩:=(HP.out _ HES.out.bel).row.int_at (k:=j) (by omega)
         have hxx:l[j]=x:=by rw [hx,hj];exact (ptAt_in l hl1).symm
         rw [hxx] at hc1
         have htn:(at_+1+1+(k:Int)).toNat=j:=by omega
         have hin1:(0:Int)≤at_+1+1+(k:Int):=by omega
         have hin2:at_+1+1+(k:Int) < n:=by omega
         have hbw:b1 < wr.heap.size:=by have:=HES.out.size;omega
         obtain ⟨hv,hhv2⟩:∃ v,v=hexV x:=⟨_,rfl⟩
         rw [← hhv2] at C33 HSN hv0 hv1
         clear hx hxx hhx hj hhv2 hKM hkK
         subst hA
         go_wp2_with (first
          | (go_at_call 92;(with_reducible refine C28.out.mono ?_);rintro e w' ⟨rfl,rfl⟩)
          | (go_at_call 181;(with_reducible refine (C33.out _).mono ?_);rintro e w' ⟨rfl,rfl⟩))
         go_roundw
         case rel=>exact ⟨k+1,hlt,by rw [HSN.out],by go_num,by rw [show at_+1+1+((k+1:Nat):Int)=at_+1+1+k+1 from by omega];exact HES.out.stored _⟩
         case measure=>simp [intOf];omega
        ·have hkk:k=K:=by omega
         subst hkk
         clear hlt
         have HK:=Lib.hid hK
         clear hK
         by_cases hkm:k < 6
         ·have hkM:(k:Int) < 6:=by omega
          have hhx:=HNO.out hkm
          rw [← hx] at hhx
          have hhv:=hexV_neg hhx
          obtain ⟨hv,hhv2⟩:∃ v,v=hexV x:=⟨_,rfl⟩
          rw [← hhv2] at C33 hhv
          clear hx hhx hhv2
          go_upto_region 65 with (first
           | (go_at_call 92;(with_reducible refine C28.out.mono ?_);rintro e w' ⟨rfl,rfl⟩)
           | (go_at_call 181;(with_reducible refine (C33.out _).mono ?_);rintro e w' ⟨rfl,rfl⟩))
          by_cases hk0:k=0
          ·have HE:=Lib.hid (show r=.error 1 from HR.out.trans ((one_scalar (by omega)).trans (by by_cases hcl:ptAt l (at_+1+1+runLen isHexP l (at_+1+1) 6)=125;exact (sc_b hbr hcl).trans (sc_nil (by rw [runPts_len,← HK.out];exact hk0));exact sc_b_bad hbr hcl)))
           have hfew:(k:Int) < 1:=by omega
           clear hk0
           go_upto_region 66 with (fail)
           repeat (first|(go_big_may;((with_reducible apply store24 (g:=w.heap.size+2));rfl;(with_reducible rfl);rfl;rfl;(exact HES.out.hz);rfl;rfl))|go_values|go_skip|go_guarded|go_step|go_upon)
           ((try simp only [Exit.inBlock,Exit.then]);refine bodyPost_ret (v:=_) (results24q Tryz.results139 _ _ (w.heap.size+2) _ (.int .i64 0) (.int .i64 1) ?_ ?_ ?_ (row24 ?_) ?_) rfl ?_;rfl;rfl;rfl;(exact HES.out.hz);rfl;refine And.intro ?_ ?_;(rw [HE.out];rfl);exact (Below.setRow HES.out.bel (Nat.le_add_right _ _) _))
          have hfew:¬ (k:Int) < 1:=by omega
          by_cases hcl:ptAt l (at_+1+1+k)=125
          rotate_left
          ·have HCL:Hid (false=saysP l (at_+1+1+k) [125]):=Lib.hid (by rw [saysP_one];exact (decide_eq_false hcl).symm)
           have HE:=Lib.hid (show r=.error 1 from HR.out.trans ((one_scalar (by omega)).trans (sc_b_bad hbr (by rw [← HK.out];exact hcl))))
           clear hcl
           go_upto_region 66 with (first
            | (go_at_call 61;(with_reducible refine (says_p ⟨#[125]⟩ (at_+1+1+k) false (HP.out _ HES.out.bel) (by decide) ⟨by omega,by omega⟩ HCL.out).mono ?_);rintro e w3 ⟨rfl,hb,hs⟩;clear k1 k2 k3 k4 l1 l2 l3 l4;have HES:=Lib.hid (HES.out.next hb);obtain ⟨k1,k2,k3,k4,l1,l2,l3,l4⟩:=HES.out.facts;clear hb hs))
           repeat (first|(go_big_may;((with_reducible apply store24 (g:=w.heap.size+2));rfl;(with_reducible rfl);rfl;rfl;(exact HES.out.hz);rfl;rfl))|go_values|go_skip|go_guarded|go_step|go_upon)
           ((try simp only [Exit.inBlock,Exit.then]);refine bodyPost_ret (v:=_) (results24q Tryz.results139 _ _ (w.heap.size+2) _ (.int .i64 0) (.int .i64 1) ?_ ?_ ?_ (row24 ?_) ?_) rfl ?_;rfl;rfl;rfl;(exact HES.out.hz);rfl;refine And.intro ?_ ?_;(rw [HE.out];rfl);exact (Below.setRow HES.out.bel (Nat.le_add_right _ _) _))
          have HCL:Hid (true=saysP l (at_+1+1+k) [125]):=Lib.hid (by rw [saysP_one];exact (decide_eq_true hcl).symm)
          have hcn:at_+1+1+k+1≤n:=in_pt hln (by rw [hcl];decide)
          have HC1:=Lib.hid hcl
          clear hcl
          go_upto_region 69 with (first
           | (go_at_call 61;(with_reducible refine (says_p ⟨#[125]⟩ (at_+1+1+k) true (HP.out _ HES.out.bel) (by decide) ⟨by omega,by omega⟩ HCL.out).mono ?_);rintro e w3 ⟨rfl,hb,hs⟩;clear k1 k2 k3 k4 l1 l2 l3 l4;have HES:=Lib.hid (HES.out.next hb);obtain ⟨k1,k2,k3,k4,l1,l2,l3,l4⟩:=HES.out.facts;clear hb hs)
           | fail)
          obtain ⟨WC,hWC⟩:∃ X,X=World.setCell w3 ⟨w.heap.size+3,0,none⟩ (.int .i64 (at_+1+1+k+1)):=⟨_,rfl⟩
          have HES:=Lib.hid (show Es w WC n c A l at_ (at_+1+1+k+1) by rw [hWC];exact HES.out.stored _)
          rw [← hWC]
          clear hWC k1 k2 k3 k4 l1 l2 l3 l4
          obtain ⟨k1,k2,k3,k4,l1,l2,l3,l4⟩:=HES.out.facts
          have hcl:=HC1.out
          by_cases hbig:1114111 < y
          ·have HE:=Lib.hid (show r=.error 3 from HR.out.trans ((one_scalar (by omega)).trans ((sc_b hbr (by rw [← HK.out];exact hcl)).trans (sc_big (by rw [runPts_len,← HK.out];omega) (by rw [← HK.out,← HYY.out];exact hbig)))))
           clear hcl
           go_upto_region 70 with (fail)
           repeat (first|(go_big_may;((with_reducible apply store24 (g:=w.heap.size+2));rfl;(with_reducible rfl);rfl;rfl;(exact HES.out.hz);rfl;rfl))|go_values|go_skip|go_guarded|go_step|go_upon)
           ((try simp only [Exit.inBlock,Exit.then]);refine bodyPost_ret (v:=_) (results24q Tryz.results139 _ _ (w.heap.size+2) _ (.int .i64 0) (.int .i64 3) ?_ ?_ ?_ (row24 ?_) ?_) rfl ?_;rfl;rfl;rfl;(exact HES.out.hz);rfl;refine And.intro ?_ ?_;(rw [HE.out];rfl);exact (Below.setRow HES.out.bel (Nat.le_add_right _ _) _))
          ·have HE:=Lib.hid (show r=.ok (pointT y,at_+1+1+k+1) from HR.out.trans ((one_scalar (by omega)).trans ((sc_b hbr (by rw [← HK.out];exact hcl)).trans ((sc_ok (by rw [runPts_len,← HK.out];omega) (by rw [← HK.out,← HYY.out];exact hbig)).trans (by rw [← HK.out,← HYY.out])))))
           clear hcl
           go_upto_region 71 with (fail)
           have HD:=Lib.hid (Es.drew HES.out)
           go_region_held3 (fun w'=>w'.cell? ⟨w.heap.size+3,0,none⟩=some (.int .i64 (at_+1+1+k+1)))
            (first
             | with_reducible exact HD.out.facts.2.2.1
             | with_reducible exact HES.out.facts.2.2.1
             | with_reducible exact (put24_cell (by simp)).trans HES.out.facts.2.2.1)
            (first
             | ((go_at_call 142;(with_reducible refine (point23 (y) _).mono ?_);rintro e w2 ⟨he,hb⟩;obtain rfl:=(show e=.returned (.agg #[.int .i64 1,.int .i64 (y),.string ⟨#[]⟩,.bool false,.int .i64 0,.int .i64 0,.int .i64 0,.int .i64 0]) from he);clear he;have HES:=Lib.hid ((Es.drew HES.out).next hb);clear k1 k2 k3 k4 l1 l2 l3 l4;obtain ⟨k1,k2,k3,k4,l1,l2,l3,l4⟩:=HES.out.facts;obtain ⟨⟨z0,z1,z2,z3,z4,z5,z6,z7⟩,⟨g0,g1,g2,g3,g4,g5,g6,g7⟩⟩:=HES.out.zs;clear hb)))
           all_goals (repeat (first|go_values|go_skip|go_guarded|go_step|go_upon))
           all_goals (try simp only [Exit.inBlock,Exit.then])
           all_goals (try go_simp)
           all_goals (refine bodyPost_ret (v:=.tuple #[.agg #[.int .i64 1,.int .i64 (y),.string ⟨#[]⟩,.bool false,.int .i64 0,.int .i64 0,.int .i64 0,.int .i64 0],.int .i64 (at_+1+1+k+1),.int .i64 0]) ?_ rfl ?_)
           all_goals (first|(refine And.intro ?_ ?_;(rw [HE.out];rfl);(with_reducible exact put24_below HES.out.bel (Nat.le_add_right _ _)))|(refine results24q Tryz.results139 _ _ (w.heap.size+2) (#[.int .i64 1,.int .i64 (y),.string ⟨#[]⟩,.bool false,.int .i64 0,.int .i64 0,.int .i64 0,.int .i64 0]) (.int .i64 (at_+1+1+k+1)) (.int .i64 0) ?_ ?_ ?_ ?_ ?_;rfl;rfl;rfl;(with_reducible exact put24 HES.out.row);rfl))
         ·have hkM:¬ (k:Int) < 6:=by omega
          clear hx
          go_upto_region 65 with (fail)
          have hfew:¬ (k:Int) < 1:=by omega
          by_cases hcl:ptAt l (at_+1+1+k)=125
          rotate_left
          ·have HCL:Hid (false=saysP l (at_+1+1+k) [125]):=Lib.hid (by rw [saysP_one];exact (decide_eq_false hcl).symm)
           have HE:=Lib.hid (show r=.error 1 from HR.out.trans ((one_scalar (by omega)).trans (sc_b_bad hbr (by rw [← HK.out];exact hcl))))
           clear hcl
           go_upto_region 66 with (first
            | (go_at_call 61;(with_reducible refine (says_p ⟨#[125]⟩ (at_+1+1+k) false (HP.out _ HES.out.bel) (by decide) ⟨by omega,by omega⟩ HCL.out).mono ?_);rintro e w3 ⟨rfl,hb,hs⟩;clear k1 k2 k3 k4 l1 l2 l3 l4;have HES:=Lib.hid (HES.out.next hb);obtain ⟨k1,k2,k3,k4,l1,l2,l3,l4⟩:=HES.out.facts;clear hb hs))
           repeat (first|(go_big_may;((with_reducible apply store24 (g:=w.heap.size+2));rfl;(with_reducible rfl);rfl;rfl;(exact HES.out.hz);rfl;rfl))|go_values|go_skip|go_guarded|go_step|go_upon)
           ((try simp only [Exit.inBlock,Exit.then]);refine bodyPost_ret (v:=_) (results24q Tryz.results139 _ _ (w.heap.size+2) _ (.int .i64 0) (.int .i64 1) ?_ ?_ ?_ (row24 ?_) ?_) rfl ?_;rfl;rfl;rfl;(exact HES.out.hz);rfl;refine And.intro ?_ ?_;(rw [HE.out];rfl);exact (Below.setRow HES.out.bel (Nat.le_add_right _ _) _))
          have HCL:Hid (true=saysP l (at_+1+1+k) [125]):=Lib.hid (by rw [saysP_one];exact (decide_eq_true hcl).symm)
          have hcn:at_+1+1+k+1≤n:=in_pt hln (by rw [hcl];decide)
          have HC1:=Lib.hid hcl
          clear hcl
          go_upto_region 69 with (first
           | (go_at_call 61;(with_reducible refine (says_p ⟨#[125]⟩ (at_+1+1+k) true (HP.out _ HES.out.bel) (by decide) ⟨by omega,by omega⟩ HCL.out).mono ?_);rintro e w3 ⟨rfl,hb,hs⟩;clear k1 k2 k3 k4 l1 l2 l3 l4;have HES:=Lib.hid (HES.out.next hb);obtain ⟨k1,k2,k3,k4,l1,l2,l3,l4⟩:=HES.out.facts;clear hb hs)
           | fail)
          obtain ⟨WC,hWC⟩:∃ X,X=World.setCell w3 ⟨w.heap.size+3,0,none⟩ (.int .i64 (at_+1+1+k+1)):=⟨_,rfl⟩
          have HES:=Lib.hid (show Es w WC n c A l at_ (at_+1+1+k+1) by rw [hWC];exact HES.out.stored _)
          rw [← hWC]
          clear hWC k1 k2 k3 k4 l1 l2 l3 l4
          obtain ⟨k1,k2,k3,k4,l1,l2,l3,l4⟩:=HES.out.facts
          have hcl:=HC1.out
          by_cases hbig:1114111 < y
          ·have HE:=Lib.hid (show r=.error 3 from HR.out.trans ((one_scalar (by omega)).trans ((sc_b hbr (by rw [← HK.out];exact hcl)).trans (sc_big (by rw [runPts_len,← HK.out];omega) (by rw [← HK.out,← HYY.out];exact hbig)))))
           clear hcl
           go_upto_region 70 with (fail)
           repeat (first|(go_big_may;((with_reducible apply store24 (g:=w.heap.size+2));rfl;(with_reducible rfl);rfl;rfl;(exact HES.out.hz);rfl;rfl))|go_values|go_skip|go_guarded|go_step|go_upon)
           ((try simp only [Exit.inBlock,Exit.then]);refine bodyPost_ret (v:=_) (results24q Tryz.results139 _ _ (w.heap.size+2) _ (.int .i64 0) (.int .i64 3) ?_ ?_ ?_ (row24 ?_) ?_) rfl ?_;rfl;rfl;rfl;(exact HES.out.hz);rfl;refine And.intro ?_ ?_;(rw [HE.out];rfl);exact (Below.setRow HES.out.bel (Nat.le_add_right _ _) _))
          ·have HE:=Lib.hid (show r=.ok (pointT y,at_+1+1+k+1) from HR.out.trans ((one_scalar (by omega)).trans ((sc_b hbr (by rw [← HK.out];exact hcl)).trans ((sc_ok (by rw [runPts_len,← HK.out];omega) (by rw [← HK.out,← HYY.out];exact hbig)).trans (by rw [← HK.out,← HYY.out])))))
           clear hcl
           go_upto_region 71 with (fail)
           have HD:=Lib.hid (Es.drew HES.out)
           go_region_held3 (fun w'=>w'.cell? ⟨w.heap.size+3,0,none⟩=some (.int .i64 (at_+1+1+k+1)))
            (first
             | with_reducible exact HD.out.facts.2.2.1
             | with_reducible exact HES.out.facts.2.2.1
             | with_reducible exact (put24_cell (by simp)).trans HES.out.facts.2.2.1)
            (first
             | ((go_at_call 142;(with_reducible refine (point23 (y) _).mono ?_);rintro e w2 ⟨he,hb⟩;obtain rfl:=(show e=.returned (.agg #[.int .i64 1,.int .i64 (y),.string ⟨#[]⟩,.bool false,.int .i64 0,.int .i64 0,.int .i64 0,.int .i64 0]) from he);clear he;have HES:=Lib.hid ((Es.drew HES.out).next hb);clear k1 k2 k3 k4 l1 l2 l3 l4;obtain ⟨k1,k2,k3,k4,l1,l2,l3,l4⟩:=HES.out.facts;obtain ⟨⟨z0,z1,z2,z3,z4,z5,z6,z7⟩,⟨g0,g1,g2,g3,g4,g5,g6,g7⟩⟩:=HES.out.zs;clear hb)))
           all_goals (repeat (first|go_values|go_skip|go_guarded|go_step|go_upon))
           all_goals (try simp only [Exit.inBlock,Exit.then])
           all_goals (try go_simp)
           all_goals (refine bodyPost_ret (v:=.tuple #[.agg #[.int .i64 1,.int .i64 (y),.string ⟨#[]⟩,.bool false,.int .i64 0,.int .i64 0,.int .i64 0,.int .i64 0],.int .i64 (at_+1+1+k+1),.int .i64 0]) ?_ rfl ?_)
           all_goals (first|(refine And.intro ?_ ?_;(rw [HE.out];rfl);(with_reducible exact put24_below HES.out.bel (Nat.le_add_right _ _)))|(refine results24q Tryz.results139 _ _ (w.heap.size+2) (#[.int .i64 1,.int .i64 (y),.string ⟨#[]⟩,.bool false,.int .i64 0,.int .i64 0,.int .i64 0,.int .i64 0]) (.int .i64 (at_+1+1+k+1)) (.int .i64 0) ?_ ?_ ?_ ?_ ?_;rfl;rfl;rfl;(with_reducible exact put24 HES.out.row);rfl))
      ·have HX2:Hid (false=saysP l at_ [120,123]):=Lib.hid (by rw [saysP_two,← HPT.out];simp;exact hbr)
       obtain ⟨K,hK⟩:∃ x,x=runLen isHexP l (at_+1) 2:=⟨_,rfl⟩
       have hKM:=runLen_le isHexP l 2 (at_+1)
       have HY:=Lib.hid (fun k=>runLen_yes isHexP l 2 (at_+1) k)
       have HNO:=Lib.hid (runLen_no isHexP l 2 (at_+1))
       have hKn:=hex_le l 2 (at_+1) (by omega)
       rw [← hK] at hKM HNO hKn
       have HY:=Lib.hid (fun k (hk:k < K)=>HY.out k (hK ▸ hk))
       rw [hln] at hKn
       go_upto_region 60 with (first
        | (go_at_call 119;(with_reducible refine (between31 120 49 57 _).mono ?_);rintro e w' ⟨rfl,rfl⟩)
        | (go_at_call 178;(with_reducible refine (es_is HES.out HP.out ⟨by omega,by omega⟩ HPT.out 120 120 true rfl rfl).mono ?_);rintro e w3 ⟨rfl,hE,hb⟩;clear k1 k2 k3 k4 l1 l2 l3 l4;have HES:=Lib.hid hE;obtain ⟨k1,k2,k3,k4,l1,l2,l3,l4⟩:=HES.out.facts;clear hb hE)
        | (go_at_call 178;(with_reducible refine (es_is2 HES.out HP.out ⟨by omega,by omega⟩ 120 123 false HX2.out).mono ?_);rintro e w3 ⟨rfl,hE,hb⟩;clear k1 k2 k3 k4 l1 l2 l3 l4;have HES:=Lib.hid hE;obtain ⟨k1,k2,k3,k4,l1,l2,l3,l4⟩:=HES.out.facts;clear hb hE)
        | (go_at_call 178;(with_reducible refine (es_is HES.out HP.out ⟨by omega,by omega⟩ HPT.out 117 117 false rfl rfl).mono ?_);rintro e w3 ⟨rfl,hE,hb⟩;clear k1 k2 k3 k4 l1 l2 l3 l4;have HES:=Lib.hid hE;obtain ⟨k1,k2,k3,k4,l1,l2,l3,l4⟩:=HES.out.facts;clear hb hE))
       go_wp2_with fail
       go_loopw [27,28] (fun i27 i28 wr=>∃ k:Nat,k≤K∧i27=.int .i64 (hexN (runPts l (at_+1) k))∧i28=.int .i64 k∧Es w wr n c A l at_ (at_+1+k)) (fun _ i _=>3 - (intOf i).toNat)
       case atStart=>exact ⟨0,Nat.zero_le _,rfl,rfl,by simpa using HES.out⟩
       case round =>
        obtain ⟨k,hkK,rfl,rfl,hES⟩:=hrel
        have HES:=Lib.hid hES
        clear hES k1 k2 k3 k4 l1 l2 l3 l4
        obtain ⟨k1,k2,k3,k4,l1,l2,l3,l4⟩:=HES.out.facts
        have hpb:=hok.out (at_+1+k)
        have C28:=Lib.hid (pointAt28 l (at_+1+k) A n c w.heap.size wr (by unfold maxLen;omega) (HP.out _ HES.out.bel).row)
        have C28':=Lib.hid (fun w' (hb:Below w.heap.size w w')=>pointAt28 l (at_+1+k) A n c w.heap.size w' (by unfold maxLen;omega) (HP.out _ hb).row)
        have hys:=hexN_lt (runPts l (at_+1) k) (fun q hq=>by
         obtain ⟨i,hi,rfl⟩:=List.mem_iff_getElem.1 hq
         rw [runPts_get]
         rw [runPts_length] at hi
         exact HY.out i (by omega)) (by rw [runPts_length];omega)
        have HSN:=Lib.hid (show hexN (runPts l (at_+1) (k+1))=16 * hexN (runPts l (at_+1) k)+hexV (ptAt l (at_+1+k)) by rw [runPts_succ,hexN_snoc])
        obtain ⟨y,hy⟩:∃ y,y=hexN (runPts l (at_+1) k):=⟨_,rfl⟩
        obtain ⟨x,hx⟩:∃ x,x=ptAt l (at_+1+k):=⟨_,rfl⟩
        rw [← hy] at hys HSN ⊢
        rw [← hx] at C28 hpb HSN
        have HYY:=Lib.hid hy
        clear hy
        have C33:=Lib.hid (fun w'=>hexOf33 x w' (by omega))
        obtain ⟨hy0,hy9⟩:=hys
        obtain ⟨hpb0,hpb1⟩:=hpb
        by_cases hlt:k < K
        ·have hkM:(k:Int) < 2:=by omega
         have hhx:=HY.out k hlt
         rw [← hx] at hhx
         have hhv:=hexV_pos hhx
         obtain ⟨hv0,hv1⟩:=hhv
         obtain ⟨j,hj⟩:=Int.eq_ofNat_of_zero_le (show 0≤at_+1+(k:Int) by omega)
         obtain ⟨b1,off1,hl1,hA,hb1,hc1⟩:=(HP.out _ HES.out.bel).row.int_at (k:=j) (by omega)
         have hxx:l[j]=x:=by rw [hx,hj];exact (ptAt_in l hl1).symm
         rw [hxx] at hc1
         have htn:(at_+1+(k:Int)).toNat=j:=by omega
         have hin1:(0:Int)≤at_+1+(k:Int):=by omega
         have hin2:at_+1+(k:Int) < n:=by omega
         have hbw:b1 < wr.heap.size:=by have:=HES.out.size;omega
         obtain ⟨hv,hhv2⟩:∃ v,v=hexV x:=⟨_,rfl⟩
         rw [← hhv2] at C33 HSN hv0 hv1
         clear hx hxx hhx hj hhv2 hKM hkK
         subst hA
         go_wp2_with (first
          | (go_at_call 92;(with_reducible refine C28.out.mono ?_);rintro e w' ⟨rfl,rfl⟩)
          | (go_at_call 181;(with_reducible refine (C33.out _).mono ?_);rintro e w' ⟨rfl,rfl⟩))
         go_roundw
         case rel=>exact ⟨k+1,hlt,by rw [HSN.out],by go_num,by rw [show at_+1+((k+1:Nat):Int)=at_+1+k+1 from by omega];exact HES.out.stored _⟩
         case measure=>simp [intOf];omega
        ·have hkk:k=K:=by omega
         subst hkk
         clear hlt
         have HK:=Lib.hid hK
         clear hK
         by_cases hkm:k < 2
         ·have hkM:(k:Int) < 2:=by omega
          have hhx:=HNO.out hkm
          rw [← hx] at hhx
          have hhv:=hexV_neg hhx
          obtain ⟨hv,hhv2⟩:∃ v,v=hexV x:=⟨_,rfl⟩
          rw [← hhv2] at C33 hhv
          clear hx hhx hhv2
          go_upto_region 65 with (first
           | (go_at_call 92;(with_reducible refine C28.out.mono ?_);rintro e w' ⟨rfl,rfl⟩)
           | (go_at_call 181;(with_reducible refine (C33.out _).mono ?_);rintro e w' ⟨rfl,rfl⟩))
          by_cases hk0:k=0
          ·have HE:=Lib.hid (show r=.error 1 from HR.out.trans ((one_scalar (by omega)).trans ((sc_x hbr).trans (sc_nil (by rw [runPts_len,← HK.out];exact hk0)))))
           have hfew:(k:Int) < 1:=by omega
           clear hk0
           go_upto_region 66 with (fail)
           repeat (first|(go_big_may;((with_reducible apply store24 (g:=w.heap.size+2));rfl;(with_reducible rfl);rfl;rfl;(exact HES.out.hz);rfl;rfl))|go_values|go_skip|go_guarded|go_step|go_upon)
           ((try simp only [Exit.inBlock,Exit.then]);refine bodyPost_ret (v:=_) (results24q Tryz.results139 _ _ (w.heap.size+2) _ (.int .i64 0) (.int .i64 1) ?_ ?_ ?_ (row24 ?_) ?_) rfl ?_;rfl;rfl;rfl;(exact HES.out.hz);rfl;refine And.intro ?_ ?_;(rw [HE.out];rfl);exact (Below.setRow HES.out.bel (Nat.le_add_right _ _) _))
          have hfew:¬ (k:Int) < 1:=by omega
          go_upto_region 69 with (fail)
          by_cases hbig:1114111 < y
          ·have HE:=Lib.hid (show r=.error 3 from HR.out.trans ((one_scalar (by omega)).trans ((sc_x hbr).trans (sc_big (by rw [runPts_len,← HK.out];omega) (by rw [← HK.out,← HYY.out];exact hbig)))))
           go_upto_region 70 with (fail)
           repeat (first|(go_big_may;((with_reducible apply store24 (g:=w.heap.size+2));rfl;(with_reducible rfl);rfl;rfl;(exact HES.out.hz);rfl;rfl))|go_values|go_skip|go_guarded|go_step|go_upon)
           ((try simp only [Exit.inBlock,Exit.then]);refine bodyPost_ret (v:=_) (results24q Tryz.results139 _ _ (w.heap.size+2) _ (.int .i64 0) (.int .i64 3) ?_ ?_ ?_ (row24 ?_) ?_) rfl ?_;rfl;rfl;rfl;(exact HES.out.hz);rfl;refine And.intro ?_ ?_;(rw [HE.out];rfl);exact (Below.setRow HES.out.bel (Nat.le_add_right _ _) _))
          ·have HE:=Lib.hid (show r=.ok (pointT y,at_+1+k) from HR.out.trans ((one_scalar (by omega)).trans ((sc_x hbr).trans ((sc_ok (by rw [runPts_len,← HK.out];omega) (by rw [← HK.out,← HYY.out];exact hbig)).trans (by rw [← HK.out,← HYY.out])))))
           go_upto_region 71 with (fail)
           have HD:=Lib.hid (Es.drew HES.out)
           go_region_held3 (fun w'=>w'.cell? ⟨w.heap.size+3,0,none⟩=some (.int .i64 (at_+1+k)))
            (first
             | with_reducible exact HD.out.facts.2.2.1
             | with_reducible exact HES.out.facts.2.2.1
             | with_reducible exact (put24_cell (by simp)).trans HES.out.facts.2.2.1)
            (first
             | ((go_at_call 142;(with_reducible refine (point23 (y) _).mono ?_);rintro e w2 ⟨he,hb⟩;obtain rfl:=(show e=.returned (.agg #[.int .i64 1,.int .i64 (y),.string ⟨#[]⟩,.bool false,.int .i64 0,.int .i64 0,.int .i64 0,.int .i64 0]) from he);clear he;have HES:=Lib.hid ((Es.drew HES.out).next hb);clear k1 k2 k3 k4 l1 l2 l3 l4;obtain ⟨k1,k2,k3,k4,l1,l2,l3,l4⟩:=HES.out.facts;obtain ⟨⟨z0,z1,z2,z3,z4,z5,z6,z7⟩,⟨g0,g1,g2,g3,g4,g5,g6,g7⟩⟩:=HES.out.zs;clear hb)))
           all_goals (repeat (first|go_values|go_skip|go_guarded|go_step|go_upon))
           all_goals (try simp only [Exit.inBlock,Exit.then])
           all_goals (try go_simp)
           all_goals (refine bodyPost_ret (v:=.tuple #[.agg #[.int .i64 1,.int .i64 (y),.string ⟨#[]⟩,.bool false,.int .i64 0,.int .i64 0,.int .i64 0,.int .i64 0],.int .i64 (at_+1+k),.int .i64 0]) ?_ rfl ?_)
           all_goals (first|(refine And.intro ?_ ?_;(rw [HE.out];rfl);(with_reducible exact put24_below HES.out.bel (Nat.le_add_right _ _)))|(refine results24q Tryz.results139 _ _ (w.heap.size+2) (#[.int .i64 1,.int .i64 (y),.string ⟨#[]⟩,.bool false,.int .i64 0,.int .i64 0,.int .i64 0,.int .i64 0]) (.int .i64 (at_+1+k)) (.int .i64 0) ?_ ?_ ?_ ?_ ?_;rfl;rfl;rfl;(with_reducible exact put24 HES.out.row);rfl))
         ·have hkM:¬ (k:Int) < 2:=by omega
          clear hx
          go_upto_region 65 with (fail)
          have hfew:¬ (k:Int) < 1:=by omega
          go_upto_region 69 with (fail)
          by_cases hbig:1114111 < y
          ·have HE:=Lib.hid (show r=.error 3 from HR.out.trans ((one_scalar (by omega)).trans ((sc_x hbr).trans (sc_big (by rw [runPts_len,← HK.out];omega) (by rw [← HK.out,← HYY.out];exact hbig)))))
           go_upto_region 70 with (fail)
           repeat (first|(go_big_may;((with_reducible apply store24 (g:=w.heap.size+2));rfl;(with_reducible rfl);rfl;rfl;(exact HES.out.hz);rfl;rfl))|go_values|go_skip|go_guarded|go_step|go_upon)
           ((try simp only [Exit.inBlock,Exit.then]);refine bodyPost_ret (v:=_) (results24q Tryz.results139 _ _ (w.heap.size+2) _ (.int .i64 0) (.int .i64 3) ?_ ?_ ?_ (row24 ?_) ?_) rfl ?_;rfl;rfl;rfl;(exact HES.out.hz);rfl;refine And.intro ?_ ?_;(rw [HE.out];rfl);exact (Below.setRow HES.out.bel (Nat.le_add_right _ _) _))
          ·have HE:=Lib.hid (show r=.ok (pointT y,at_+1+k) from HR.out.trans ((one_scalar (by omega)).trans ((sc_x hbr).trans ((sc_ok (by rw [runPts_len,← HK.out];omega) (by rw [← HK.out,← HYY.out];exact hbig)).trans (by rw [← HK.out,← HYY.out])))))
           go_upto_region 71 with (fail)
           have HD:=Lib.hid (Es.drew HES.out)
           go_region_held3 (fun w'=>w'.cell? ⟨w.heap.size+3,0,none⟩=some (.int .i64 (at_+1+k)))
            (first
             | with_reducible exact HD.out.facts.2.2.1
             | with_reducible exact HES.out.facts.2.2.1
             | with_reducible exact (put24_cell (by simp)).trans HES.out.facts.2.2.1)
            (first
             | ((go_at_call 142;(with_reducible refine (point23 (y) _).mono ?_);rintro e w2 ⟨he,hb⟩;obtain rfl:=(show e=.returned (.agg #[.int .i64 1,.int .i64 (y),.string ⟨#[]⟩,.bool false,.int .i64 0,.int .i64 0,.int .i64 0,.int .i64 0]) from he);clear he;have HES:=Lib.hid ((Es.drew HES.out).next hb);clear k1 k2 k3 k4 l1 l2 l3 l4;obtain ⟨k1,k2,k3,k4,l1,l2,l3,l4⟩:=HES.out.facts;obtain ⟨⟨z0,z1,z2,z3,z4,z5,z6,z7⟩,⟨g0,g1,g2,g3,g4,g5,g6,g7⟩⟩:=HES.out.zs;clear hb)))
           all_goals (repeat (first|go_values|go_skip|go_guarded|go_step|go_upon))
           all_goals (try simp only [Exit.inBlock,Exit.then])
           all_goals (try go_simp)
           all_goals (refine bodyPost_ret (v:=.tuple #[.agg #[.int .i64 1,.int .i64 (y),.string ⟨#[]⟩,.bool false,.int .i64 0,.int .i64 0,.int .i64 0,.int .i64 0],.int .i64 (at_+1+k),.int .i64 0]) ?_ rfl ?_)
           all_goals (first|(refine And.intro ?_ ?_;(rw [HE.out];rfl);(with_reducible exact put24_below HES.out.bel (Nat.le_add_right _ _)))|(refine results24q Tryz.results139 _ _ (w.heap.size+2) (#[.int .i64 1,.int .i64 (y),.string ⟨#[]⟩,.bool false,.int .i64 0,.int .i64 0,.int .i64 0,.int .i64 0]) (.int .i64 (at_+1+k)) (.int .i64 0) ?_ ?_ ?_ ?_ ?_;rfl;rfl;rfl;(with_reducible exact put24 HES.out.row);rfl))
end Go.Proofs.YtbiahhojnjchnaaGreat
