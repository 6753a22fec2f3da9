/-
  Escaped of the reference: walked, first dialect: names.
-/
import Derived.Test.YtbiahhojnjchnaaGreatHJ
set_option linter.unusedVariables false
set_option linter.unusedSimpArgs false
namespace Go.Proofs.YtbiahhojnjchnaaGreat
open Go.RowKit
set_option maxRecDepth 100000 in
set_option maxHeartbeats 8000000 in
theorem escaped20_oneB3a (at_:Int) (l:List Int) (A:Option Addr) (n c:Nat) (w:World) (h:Pts w.heap.size n c A l w) (h0:0≤at_) (h1:at_≤n) (hS:¬ (ptAt l at_=100∨ptAt l at_=68∨ptAt l at_=119∨ptAt l at_=87∨ptAt l at_=115∨ptAt l at_=83∨ptAt l at_=104∨ptAt l at_=72)) (hT:¬ (ptAt l at_=98∨ptAt l at_=66∨ptAt l at_=65∨ptAt l at_=122∨ptAt l at_=110∨ptAt l at_=116∨ptAt l at_=114∨ptAt l at_=102∨ptAt l at_=118∨ptAt l at_=97∨ptAt l at_=101)∧¬ ((49≤ptAt l at_∧ptAt l at_≤57)∨ptAt l at_=120∨ptAt l at_=117)∧ptAt l at_=107) :
  Calls Tryz.prog 139 #[.int .i64 1,.slice A n c,.int .i64 at_] w fun e w'=>ROutT (escapedP 1 l at_) e∧Below w.heap.size w w':=by
 have hsm:=h.small
 have hln:=h.len
 have HP:=Lib.hid (fun w' (hb:Below w.heap.size w w')=>h.next hb)
 obtain ⟨W0,hW0⟩:∃ W,W=(((w.alloc (.cells #[.slice A n c] 22)).alloc (.cells #[.int .i64 at_] 3)).alloc (.cells #[.int .i64 0,.int .i64 0,.string ⟨#[]⟩,.bool false,.int .i64 0,.int .i64 0,.int .i64 0,.int .i64 0] 108)):=⟨_,rfl⟩
 have HB0:=Lib.hid (show Below w.heap.size w W0 by rw [hW0];exact (((Below.refl _ _).alloc (Nat.le_refl _) _).alloc (by simp) _).alloc (by simp;omega) _)
 have hs0:W0.heap.size=w.heap.size+3:=by rw [hW0];simp
 have HL0:=Lib.hid (show W0.heap[w.heap.size]?=some (.cells #[.slice A n c] 22 (0,0)) by rw [hW0];exact hz_alloc (hz_alloc (heap_alloc_new w _)))
 have HA0:=Lib.hid (show W0.heap[w.heap.size+1]?=some (.cells #[.int .i64 at_] 3 (0,0)) by rw [hW0];have:=heap_alloc_new (w.alloc (.cells #[.slice A n c] 22)) (.cells #[.int .i64 at_] 3);exact hz_alloc (by simpa using this))
 have HZ0:=Lib.hid (show W0.heap[w.heap.size+2]?=some Z24 by rw [hW0];have:=hz_new (w:=(w.alloc (.cells #[.slice A n c] 22)).alloc (.cells #[.int .i64 at_] 3));simpa using this)
 obtain ⟨p,hp⟩:∃ p,p=ptAt l at_:=⟨_,rfl⟩
 have HPT:=Lib.hid hp
 rw [← hp] at hS hT
 have HS:=Lib.hid hS
 have HT:=Lib.hid hT
 clear hS hT
 have C28:=Lib.hid (pointAt28 l at_ A n c w.heap.size W0 (by unfold maxLen;omega) (HP.out _ HB0.out).row)
 rw [← hp] at C28
 have k1:=cell_of_row _ _ 0 _ _ _ HL0.out
 have k2:=cell_of_row _ _ 0 _ _ _ HA0.out
 have k1:W0.cell? ⟨w.heap.size,0,none⟩=some (.slice A n c):=k1
 have k2:W0.cell? ⟨w.heap.size+1,0,none⟩=some (.int .i64 at_):=k2
 have hin:=Lib.hid (pt_or l at_)
 clear h hp
 by_cases hneg:p < 0
 ·go_enter Tryz.func139,Tryz.ntmps139
  go_upto_region 1 with (fail)
  rw [← hW0]
  clear hW0
  go_wp2_with (first
   | (go_at_call 92;(with_reducible refine C28.out.mono ?_);rintro e w' ⟨rfl,rfl⟩)
   | ((with_reducible apply store24 (g:=w.heap.size+2));rfl;(with_reducible rfl);rfl;rfl;(exact HZ0.out);rfl;rfl))
  ((try simp only [Exit.inBlock,Exit.then]);refine bodyPost_ret (v:=_) (results24q Tryz.results139 _ _ (w.heap.size+2) _ (.int .i64 0) (.int .i64 1) ?_ ?_ ?_ (row24 ?_) ?_) rfl ?_;rfl;rfl;rfl;(exact HZ0.out);rfl;exact And.intro (by rw [show escapedP 1 l at_=.error 1 from esc_neg HPT.out hneg];rfl) (Below.setRow HB0.out (Nat.le_add_right _ _) _))
 ·have hneg':(decide (p < 0))=false:=decide_eq_false hneg
  have hat:at_+1≤n:=by rcases hin.out with h2|h2;(rw [← HPT.out] at h2;omega);(rw [hln] at h2;omega)
  obtain ⟨r,hr⟩:∃ r,r=escapedP 1 l at_:=⟨_,rfl⟩
  have HR:=Lib.hid hr
  have HNEG:=Lib.hid hneg
  rw [← hr]
  clear hr hin
  go_enter Tryz.func139,Tryz.ntmps139
  go_upto_region 1 with (fail)
  rw [← hW0]
  clear hW0
  go_upto_region 5 with (first
   | (go_at_call 92;(with_reducible refine C28.out.mono ?_);rintro e w' ⟨rfl,rfl⟩))
  have hes:Es w (W0.alloc (.cells #[.int .i64 (at_+1)] 3)) n c A l at_ (at_+1):=⟨HB0.out.alloc (by omega) _,by simp;omega,hz_alloc HL0.out,hz_alloc HA0.out,hz_alloc HZ0.out,by have:=heap_alloc_new W0 (.cells #[.int .i64 (at_+1)] 3);rw [hs0] at this;exact this⟩
  obtain ⟨W1,hW1⟩:∃ W,W=W0.alloc (.cells #[.int .i64 (at_+1)] 3):=⟨_,rfl⟩
  rw [← hW1] at hes ⊢
  have hs1:W1.heap.size=w.heap.size+4:=by rw [hW1];simp;omega
  have HES:=Lib.hid hes
  simp only [Nat.add_assoc,Nat.reduceAdd]
  clear hW1 HB0 hs0 HL0 HA0 HZ0 C28 k1 k2 hes
  obtain ⟨k1,k2,k3,k4,l1,l2,l3,l4⟩:=HES.out.facts
  have HR:=Lib.hid (HR.out.trans (esc_one HPT.out (by have:=HNEG.out;omega)))
  go_upto_region 9 with (fail)
  obtain ⟨W2,hW2⟩:∃ X,X=W1.alloc (.cells #[.string ⟨#[100]⟩,.string ⟨#[100,105,103,105,116]⟩,.string ⟨#[119]⟩,.string ⟨#[119,111,114,100]⟩,.string ⟨#[115]⟩,.string ⟨#[115,112,97,99,101]⟩,.string ⟨#[104]⟩,.string ⟨#[120,100,105,103,105,116]⟩] 9):=⟨_,rfl⟩
  have HES:=Lib.hid (show Es w W2 n c A l at_ (at_+1) by rw [hW2];exact HES.out.next ((Below.refl _ _).alloc (Nat.le_refl _) _))
  have HC:=Lib.hid (show W2.heap[w.heap.size+4]?=some (.cells #[.string ⟨#[100]⟩,.string ⟨#[100,105,103,105,116]⟩,.string ⟨#[119]⟩,.string ⟨#[119,111,114,100]⟩,.string ⟨#[115]⟩,.string ⟨#[115,112,97,99,101]⟩,.string ⟨#[104]⟩,.string ⟨#[120,100,105,103,105,116]⟩] 9 (0,0)) by rw [hW2,← hs1];exact heap_alloc_new W1 _)
  rw [← hW2]
  clear hW2 hs1
  clear k1 k2 k3 k4 l1 l2 l3 l4
  go_wp2_with fail
  go_loopw [13] (fun i wr=>∃ (k:Nat) (i0:Int),(k=0∧i0=0∨k=1∧i0=2∨k=2∧i0=4∨k=3∧i0=6∨k=4∧i0=8)∧i=.int .i64 i0∧Hid (Q1 k p)∧Es w wr n c A l at_ (at_+1)∧wr.heap[w.heap.size+4]?=some (.cells #[.string ⟨#[100]⟩,.string ⟨#[100,105,103,105,116]⟩,.string ⟨#[119]⟩,.string ⟨#[119,111,114,100]⟩,.string ⟨#[115]⟩,.string ⟨#[115,112,97,99,101]⟩,.string ⟨#[104]⟩,.string ⟨#[120,100,105,103,105,116]⟩] 9 (0,0))) (fun i _=>8 - (intOf i).toNat)
  case atStart=>exact ⟨0,0,by omega,rfl,Lib.hid (by unfold Q1;omega),HES.out,HC.out⟩
  case round =>
   obtain ⟨k,i0,hcase,rfl,hQ,hES,hC⟩:=hrel
   have HES:=Lib.hid hES
   clear hES HC
   obtain ⟨k1,k2,k3,k4,l1,l2,l3,l4⟩:=HES.out.facts
   rcases hcase with ⟨rfl,rfl⟩|⟨rfl,rfl⟩|⟨rfl,rfl⟩|⟨rfl,rfl⟩|⟨rfl,rfl⟩
   ·have HC:=Lib.hid hC
    have c0:wr.cell? ⟨w.heap.size+4,0,none⟩=some (.string ⟨#[100]⟩):=cell_of_row _ _ 0 _ _ _ HC.out
    have c1:wr.cell? ⟨w.heap.size+4,1,none⟩=some (.string ⟨#[100,105,103,105,116]⟩):=cell_of_row _ _ 1 _ _ _ HC.out
    have hl4:=lt_heap HC.out
    have hcv:(convert 147 9 (.slice (some ⟨wr.heap.size,0,none⟩) 1 1)).run Tryz.prog (wr.alloc (.cells #[.int .u8 68] 5))=.ok (.string ⟨#[68]⟩) (wr.alloc (.cells #[.int .u8 68] 5)):=conv_one wr 68
    have hx8:(((ByteArray.mk #[100])[0]'(by decide)).toNat:Int)=100:=rfl
    obtain ⟨WA,hWA⟩:∃ X,X=wr.alloc (.cells #[.int .u8 68] 5):=⟨_,rfl⟩
    have hbA:Below wr.heap.size wr WA:=by rw [hWA];exact (Below.refl _ _).alloc (Nat.le_refl _) _
    have hsA:wr.heap.size < WA.heap.size:=by rw [hWA];simp
    clear hC
    have HN1:=Lib.hid (show ¬ p=100 from fun x=>HS.out (by omega))
    have HN2:=Lib.hid (show ¬ p=68 from fun x=>HS.out (by omega))
    have hqn:Q1 1 p:=by have a1:=HN1.out;have a2:=HN2.out;have:=hQ.out;unfold Q1 at this ⊢;omega
    have HQN:=Lib.hid hqn
    clear hqn
    go_upto_region 13 with (fail)
    rw [← hWA]
    clear hWA hcv hx8 k1 k2 k3 k4 l1 l2 l3 l4 c0 c1
    have HES:=Lib.hid (HES.out.next hbA)
    have HC:=Lib.hid (row_next HC.out hbA)
    obtain ⟨k1,k2,k3,k4,l1,l2,l3,l4⟩:=HES.out.facts
    have c0:WA.cell? ⟨w.heap.size+4,0,none⟩=some (.string ⟨#[100]⟩):=cell_of_row _ _ 0 _ _ _ HC.out
    have c1:WA.cell? ⟨w.heap.size+4,1,none⟩=some (.string ⟨#[100,105,103,105,116]⟩):=cell_of_row _ _ 1 _ _ _ HC.out
    have hl4:=lt_heap HC.out
    go_wp2_with (first
     | (go_at_call 178;(with_reducible refine (es_is HES.out HP.out ⟨by omega,by omega⟩ HPT.out 100 100 false rfl (decide_eq_false HN1.out).symm).mono ?_);rintro e w3 ⟨rfl,hE,hb⟩;clear k1 k2 k3 k4 l1 l2 l3 l4;have HES:=Lib.hid hE;have HC:=Lib.hid (row_next HC.out hb);clear c0 c1;have c0:w3.cell? ⟨w.heap.size+4,0,none⟩=some (.string ⟨#[100]⟩):=cell_of_row _ _ 0 _ _ _ HC.out;have c1:w3.cell? ⟨w.heap.size+4,1,none⟩=some (.string ⟨#[100,105,103,105,116]⟩):=cell_of_row _ _ 1 _ _ _ HC.out;obtain ⟨k1,k2,k3,k4,l1,l2,l3,l4⟩:=HES.out.facts;have hb3:=hb.size;clear hb hE)
     | (go_at_call 178;(with_reducible refine (es_is HES.out HP.out ⟨by omega,by omega⟩ HPT.out 68 68 false rfl (decide_eq_false HN2.out).symm).mono ?_);rintro e w3 ⟨rfl,hE,hb⟩;clear k1 k2 k3 k4 l1 l2 l3 l4;have HES:=Lib.hid hE;have HC:=Lib.hid (row_next HC.out hb);clear c0 c1;have c0:w3.cell? ⟨w.heap.size+4,0,none⟩=some (.string ⟨#[100]⟩):=cell_of_row _ _ 0 _ _ _ HC.out;have c1:w3.cell? ⟨w.heap.size+4,1,none⟩=some (.string ⟨#[100,105,103,105,116]⟩):=cell_of_row _ _ 1 _ _ _ HC.out;obtain ⟨k1,k2,k3,k4,l1,l2,l3,l4⟩:=HES.out.facts;have hb3:=hb.size;clear hb hE))
    go_roundw
    case rel=>exact ⟨1,2,by omega,rfl,HQN,HES.out,HC.out⟩
    case measure=>simp [intOf]
   ·have HC:=Lib.hid hC
    have c0:wr.cell? ⟨w.heap.size+4,2,none⟩=some (.string ⟨#[119]⟩):=cell_of_row _ _ 2 _ _ _ HC.out
    have c1:wr.cell? ⟨w.heap.size+4,3,none⟩=some (.string ⟨#[119,111,114,100]⟩):=cell_of_row _ _ 3 _ _ _ HC.out
    have hl4:=lt_heap HC.out
    have hcv:(convert 147 9 (.slice (some ⟨wr.heap.size,0,none⟩) 1 1)).run Tryz.prog (wr.alloc (.cells #[.int .u8 87] 5))=.ok (.string ⟨#[87]⟩) (wr.alloc (.cells #[.int .u8 87] 5)):=conv_one wr 87
    have hx8:(((ByteArray.mk #[119])[0]'(by decide)).toNat:Int)=119:=rfl
    obtain ⟨WA,hWA⟩:∃ X,X=wr.alloc (.cells #[.int .u8 87] 5):=⟨_,rfl⟩
    have hbA:Below wr.heap.size wr WA:=by rw [hWA];exact (Below.refl _ _).alloc (Nat.le_refl _) _
    have hsA:wr.heap.size < WA.heap.size:=by rw [hWA];simp
    clear hC
    have HN1:=Lib.hid (show ¬ p=119 from fun x=>HS.out (by omega))
    have HN2:=Lib.hid (show ¬ p=87 from fun x=>HS.out (by omega))
    have hqn:Q1 2 p:=by have a1:=HN1.out;have a2:=HN2.out;have:=hQ.out;unfold Q1 at this ⊢;omega
    have HQN:=Lib.hid hqn
    clear hqn
    go_upto_region 13 with (fail)
    rw [← hWA]
    clear hWA hcv hx8 k1 k2 k3 k4 l1 l2 l3 l4 c0 c1
    have HES:=Lib.hid (HES.out.next hbA)
    have HC:=Lib.hid (row_next HC.out hbA)
    obtain ⟨k1,k2,k3,k4,l1,l2,l3,l4⟩:=HES.out.facts
    have c0:WA.cell? ⟨w.heap.size+4,2,none⟩=some (.string ⟨#[119]⟩):=cell_of_row _ _ 2 _ _ _ HC.out
    have c1:WA.cell? ⟨w.heap.size+4,3,none⟩=some (.string ⟨#[119,111,114,100]⟩):=cell_of_row _ _ 3 _ _ _ HC.out
    have hl4:=lt_heap HC.out
    go_wp2_with (first
     | (go_at_call 178;(with_reducible refine (es_is HES.out HP.out ⟨by omega,by omega⟩ HPT.out 119 119 false rfl (decide_eq_false HN1.out).symm).mono ?_);rintro e w3 ⟨rfl,hE,hb⟩;clear k1 k2 k3 k4 l1 l2 l3 l4;have HES:=Lib.hid hE;have HC:=Lib.hid (row_next HC.out hb);clear c0 c1;have c0:w3.cell? ⟨w.heap.size+4,2,none⟩=some (.string ⟨#[119]⟩):=cell_of_row _ _ 2 _ _ _ HC.out;have c1:w3.cell? ⟨w.heap.size+4,3,none⟩=some (.string ⟨#[119,111,114,100]⟩):=cell_of_row _ _ 3 _ _ _ HC.out;obtain ⟨k1,k2,k3,k4,l1,l2,l3,l4⟩:=HES.out.facts;have hb3:=hb.size;clear hb hE)
     | (go_at_call 178;(with_reducible refine (es_is HES.out HP.out ⟨by omega,by omega⟩ HPT.out 87 87 false rfl (decide_eq_false HN2.out).symm).mono ?_);rintro e w3 ⟨rfl,hE,hb⟩;clear k1 k2 k3 k4 l1 l2 l3 l4;have HES:=Lib.hid hE;have HC:=Lib.hid (row_next HC.out hb);clear c0 c1;have c0:w3.cell? ⟨w.heap.size+4,2,none⟩=some (.string ⟨#[119]⟩):=cell_of_row _ _ 2 _ _ _ HC.out;have c1:w3.cell? ⟨w.heap.size+4,3,none⟩=some (.string ⟨#[119,111,114,100]⟩):=cell_of_row _ _ 3 _ _ _ HC.out;obtain ⟨k1,k2,k3,k4,l1,l2,l3,l4⟩:=HES.out.facts;have hb3:=hb.size;clear hb hE))
    go_roundw
    case rel=>exact ⟨2,4,by omega,rfl,HQN,HES.out,HC.out⟩
    case measure=>simp [intOf]
   ·have HC:=Lib.hid hC
    have c0:wr.cell? ⟨w.heap.size+4,4,none⟩=some (.string ⟨#[115]⟩):=cell_of_row _ _ 4 _ _ _ HC.out
    have c1:wr.cell? ⟨w.heap.size+4,5,none⟩=some (.string ⟨#[115,112,97,99,101]⟩):=cell_of_row _ _ 5 _ _ _ HC.out
    have hl4:=lt_heap HC.out
    have hcv:(convert 147 9 (.slice (some ⟨wr.heap.size,0,none⟩) 1 1)).run Tryz.prog (wr.alloc (.cells #[.int .u8 83] 5))=.ok (.string ⟨#[83]⟩) (wr.alloc (.cells #[.int .u8 83] 5)):=conv_one wr 83
    have hx8:(((ByteArray.mk #[115])[0]'(by decide)).toNat:Int)=115:=rfl
    obtain ⟨WA,hWA⟩:∃ X,X=wr.alloc (.cells #[.int .u8 83] 5):=⟨_,rfl⟩
    have hbA:Below wr.heap.size wr WA:=by rw [hWA];exact (Below.refl _ _).alloc (Nat.le_refl _) _
    have hsA:wr.heap.size < WA.heap.size:=by rw [hWA];simp
    clear hC
    have HN1:=Lib.hid (show ¬ p=115 from fun x=>HS.out (by omega))
    have HN2:=Lib.hid (show ¬ p=83 from fun x=>HS.out (by omega))
    have hqn:Q1 3 p:=by have a1:=HN1.out;have a2:=HN2.out;have:=hQ.out;unfold Q1 at this ⊢;omega
    have HQN:=Lib.hid hqn
    clear hqn
    go_upto_region 13 with (fail)
    rw [← hWA]
    clear hWA hcv hx8 k1 k2 k3 k4 l1 l2 l3 l4 c0 c1
    have HES:=Lib.hid (HES.out.next hbA)
    have HC:=Lib.hid (row_next HC.out hbA)
    obtain ⟨k1,k2,k3,k4,l1,l2,l3,l4⟩:=HES.out.facts
    have c0:WA.cell? ⟨w.heap.size+4,4,none⟩=some (.string ⟨#[115]⟩):=cell_of_row _ _ 4 _ _ _ HC.out
    have c1:WA.cell? ⟨w.heap.size+4,5,none⟩=some (.string ⟨#[115,112,97,99,101]⟩):=cell_of_row _ _ 5 _ _ _ HC.out
    have hl4:=lt_heap HC.out
    go_wp2_with (first
     | (go_at_call 178;(with_reducible refine (es_is HES.out HP.out ⟨by omega,by omega⟩ HPT.out 115 115 false rfl (decide_eq_false HN1.out).symm).mono ?_);rintro e w3 ⟨rfl,hE,hb⟩;clear k1 k2 k3 k4 l1 l2 l3 l4;have HES:=Lib.hid hE;have HC:=Lib.hid (row_next HC.out hb);clear c0 c1;have c0:w3.cell? ⟨w.heap.size+4,4,none⟩=some (.string ⟨#[115]⟩):=cell_of_row _ _ 4 _ _ _ HC.out;have c1:w3.cell? ⟨w.heap.size+4,5,none⟩=some (.string ⟨#[115,112,97,99,101]⟩):=cell_of_row _ _ 5 _ _ _ HC.out;obtain ⟨k1,k2,k3,k4,l1,l2,l3,l4⟩:=HES.out.facts;have hb3:=hb.size;clear hb hE)
     | (go_at_call 178;(with_reducible refine (es_is HES.out HP.out ⟨by omega,by omega⟩ HPT.out 83 83 false rfl (decide_eq_false HN2.out).symm).mono ?_);rintro e w3 ⟨rfl,hE,hb⟩;clear k1 k2 k3 k4 l1 l2 l3 l4;have HES:=Lib.hid hE;have HC:=Lib.hid (row_next HC.out hb);clear c0 c1;have c0:w3.cell? ⟨w.heap.size+4,4,none⟩=some (.string ⟨#[115]⟩):=cell_of_row _ _ 4 _ _ _ HC.out;have c1:w3.cell? ⟨w.heap.size+4,5,none⟩=some (.string ⟨#[115,112,97,99,101]⟩):=cell_of_row _ _ 5 _ _ _ HC.out;obtain ⟨k1,k2,k3,k4,l1,l2,l3,l4⟩:=HES.out.facts;have hb3:=hb.size;clear hb hE))
    go_roundw
    case rel=>exact ⟨3,6,by omega,rfl,HQN,HES.out,HC.out⟩
    case measure=>simp [intOf]
   ·have HC:=Lib.hid hC
    have c0:wr.cell? ⟨w.heap.size+4,6,none⟩=some (.string ⟨#[104]⟩):=cell_of_row _ _ 6 _ _ _ HC.out
    have c1:wr.cell? ⟨w.heap.size+4,7,none⟩=some (.string ⟨#[120,100,105,103,105,116]⟩):=cell_of_row _ _ 7 _ _ _ HC.out
    have hl4:=lt_heap HC.out
    have hcv:(convert 147 9 (.slice (some ⟨wr.heap.size,0,none⟩) 1 1)).run Tryz.prog (wr.alloc (.cells #[.int .u8 72] 5))=.ok (.string ⟨#[72]⟩) (wr.alloc (.cells #[.int .u8 72] 5)):=conv_one wr 72
    have hx8:(((ByteArray.mk #[104])[0]'(by decide)).toNat:Int)=104:=rfl
    obtain ⟨WA,hWA⟩:∃ X,X=wr.alloc (.cells #[.int .u8 72] 5):=⟨_,rfl⟩
    have hbA:Below wr.heap.size wr WA:=by rw [hWA];exact (Below.refl _ _).alloc (Nat.le_refl _) _
    have hsA:wr.heap.size < WA.heap.size:=by rw [hWA];simp
    clear hC
    have HN1:=Lib.hid (show ¬ p=104 from fun x=>HS.out (by omega))
    have HN2:=Lib.hid (show ¬ p=72 from fun x=>HS.out (by omega))
    have hqn:Q1 4 p:=by have a1:=HN1.out;have a2:=HN2.out;have:=hQ.out;unfold Q1 at this ⊢;omega
    have HQN:=Lib.hid hqn
    clear hqn
    go_upto_region 13 with (fail)
    rw [← hWA]
    clear hWA hcv hx8 k1 k2 k3 k4 l1 l2 l3 l4 c0 c1
    have HES:=Lib.hid (HES.out.next hbA)
    have HC:=Lib.hid (row_next HC.out hbA)
    obtain ⟨k1,k2,k3,k4,l1,l2,l3,l4⟩:=HES.out.facts
    have c0:WA.cell? ⟨w.heap.size+4,6,none⟩=some (.string ⟨#[104]⟩):=cell_of_row _ _ 6 _ _ _ HC.out
    have c1:WA.cell? ⟨w.heap.size+4,7,none⟩=some (.string ⟨#[120,100,105,103,105,116]⟩):=cell_of_row _ _ 7 _ _ _ HC.out
    have hl4:=lt_heap HC.out
    go_wp2_with (first
     | (go_at_call 178;(with_reducible refine (es_is HES.out HP.out ⟨by omega,by omega⟩ HPT.out 104 104 false rfl (decide_eq_false HN1.out).symm).mono ?_);rintro e w3 ⟨rfl,hE,hb⟩;clear k1 k2 k3 k4 l1 l2 l3 l4;have HES:=Lib.hid hE;have HC:=Lib.hid (row_next HC.out hb);clear c0 c1;have c0:w3.cell? ⟨w.heap.size+4,6,none⟩=some (.string ⟨#[104]⟩):=cell_of_row _ _ 6 _ _ _ HC.out;have c1:w3.cell? ⟨w.heap.size+4,7,none⟩=some (.string ⟨#[120,100,105,103,105,116]⟩):=cell_of_row _ _ 7 _ _ _ HC.out;obtain ⟨k1,k2,k3,k4,l1,l2,l3,l4⟩:=HES.out.facts;have hb3:=hb.size;clear hb hE)
     | (go_at_call 178;(with_reducible refine (es_is HES.out HP.out ⟨by omega,by omega⟩ HPT.out 72 72 false rfl (decide_eq_false HN2.out).symm).mono ?_);rintro e w3 ⟨rfl,hE,hb⟩;clear k1 k2 k3 k4 l1 l2 l3 l4;have HES:=Lib.hid hE;have HC:=Lib.hid (row_next HC.out hb);clear c0 c1;have c0:w3.cell? ⟨w.heap.size+4,6,none⟩=some (.string ⟨#[104]⟩):=cell_of_row _ _ 6 _ _ _ HC.out;have c1:w3.cell? ⟨w.heap.size+4,7,none⟩=some (.string ⟨#[120,100,105,103,105,116]⟩):=cell_of_row _ _ 7 _ _ _ HC.out;obtain ⟨k1,k2,k3,k4,l1,l2,l3,l4⟩:=HES.out.facts;have hb3:=hb.size;clear hb hE))
    go_roundw
    case rel=>exact ⟨4,8,by omega,rfl,HQN,HES.out,HC.out⟩
    case measure=>simp [intOf]
   ·clear hC
    have HQ:=Lib.hid hQ.out
    clear hQ
    have H98:=Lib.hid (show ¬ p=98 from fun e=>HT.out.1 (by omega))
    have H66:=Lib.hid (show ¬ p=66 from fun e=>HT.out.1 (by omega))
    have H65:=Lib.hid (show ¬ p=65 from fun e=>HT.out.1 (by omega))
    have H122:=Lib.hid (show ¬ p=122 from fun e=>HT.out.1 (by omega))
    go_upto_region 26 with (first
     | (go_at_call 178;(with_reducible refine (es_is HES.out HP.out ⟨by omega,by omega⟩ HPT.out 98 98 false rfl (decide_eq_false H98.out).symm).mono ?_);rintro e w3 ⟨rfl,hE,hb⟩;clear k1 k2 k3 k4 l1 l2 l3 l4;have HES:=Lib.hid hE;obtain ⟨k1,k2,k3,k4,l1,l2,l3,l4⟩:=HES.out.facts;clear hb hE)
     | (go_at_call 178;(with_reducible refine (es_is HES.out HP.out ⟨by omega,by omega⟩ HPT.out 66 66 false rfl (decide_eq_false H66.out).symm).mono ?_);rintro e w3 ⟨rfl,hE,hb⟩;clear k1 k2 k3 k4 l1 l2 l3 l4;have HES:=Lib.hid hE;obtain ⟨k1,k2,k3,k4,l1,l2,l3,l4⟩:=HES.out.facts;clear hb hE)
     | (go_at_call 178;(with_reducible refine (es_is HES.out HP.out ⟨by omega,by omega⟩ HPT.out 65 65 false rfl (decide_eq_false H65.out).symm).mono ?_);rintro e w3 ⟨rfl,hE,hb⟩;clear k1 k2 k3 k4 l1 l2 l3 l4;have HES:=Lib.hid hE;obtain ⟨k1,k2,k3,k4,l1,l2,l3,l4⟩:=HES.out.facts;clear hb hE)
     | (go_at_call 178;(with_reducible refine (es_is HES.out HP.out ⟨by omega,by omega⟩ HPT.out 122 122 false rfl (decide_eq_false H122.out).symm).mono ?_);rintro e w3 ⟨rfl,hE,hb⟩;clear k1 k2 k3 k4 l1 l2 l3 l4;have HES:=Lib.hid hE;obtain ⟨k1,k2,k3,k4,l1,l2,l3,l4⟩:=HES.out.facts;clear hb hE))
    go_upto_region 44 with (fail)
    have hG:=HES.out.size
    obtain ⟨W5,hW5⟩:∃ X,X=w3.alloc (.cells #[.int .i64 110,.int .i64 10,.int .i64 116,.int .i64 9,.int .i64 114,.int .i64 13,.int .i64 102,.int .i64 12,.int .i64 118,.int .i64 11,.int .i64 97,.int .i64 7,.int .i64 101,.int .i64 27] 3):=⟨_,rfl⟩
    have HES:=Lib.hid (show Es w W5 n c A l at_ (at_+1) by rw [hW5];exact HES.out.next ((Below.refl _ _).alloc (Nat.le_refl _) _))
    have HR5:=Lib.hid (show W5.heap[w3.heap.size]?=some (.cells #[.int .i64 110,.int .i64 10,.int .i64 116,.int .i64 9,.int .i64 114,.int .i64 13,.int .i64 102,.int .i64 12,.int .i64 118,.int .i64 11,.int .i64 97,.int .i64 7,.int .i64 101,.int .i64 27] 3 (0,0)) by rw [hW5];exact heap_alloc_new w3 _)
    rw [← hW5]
    clear hW5 k1 k2 k3 k4 l1 l2 l3 l4
    obtain ⟨k1,k2,k3,k4,l1,l2,l3,l4⟩:=HES.out.facts
    go_wp2_with fail
    go_loopw [21] (fun i wr=>∃ (k:Nat) (i0:Int),(k=0∧i0=0∨k=1∧i0=2∨k=2∧i0=4∨k=3∧i0=6∨k=4∧i0=8∨k=5∧i0=10∨k=6∧i0=12∨k=7∧i0=14)∧i=.int .i64 i0∧Hid (∀ j:Nat,j < k→p≠ctl j)∧Es w wr n c A l at_ (at_+1)∧wr.heap[w3.heap.size]?=some (.cells #[.int .i64 110,.int .i64 10,.int .i64 116,.int .i64 9,.int .i64 114,.int .i64 13,.int .i64 102,.int .i64 12,.int .i64 118,.int .i64 11,.int .i64 97,.int .i64 7,.int .i64 101,.int .i64 27] 3 (0,0))) (fun i _=>14 - (intOf i).toNat)
    case atStart=>exact ⟨0,0,by omega,rfl,Lib.hid (fun j hj=>absurd hj (Nat.not_lt_zero j)),HES.out,HR5.out⟩
    case round =>
     obtain ⟨k,i0,hcase,rfl,hQ,hES,hR⟩:=hrel
     have HES:=Lib.hid hES
     have HR6:=Lib.hid hR
     have hl5:=lt_heap HR6.out
     clear hES HR5 hR
     clear k1 k2 k3 k4 l1 l2 l3 l4
     obtain ⟨k1,k2,k3,k4,l1,l2,l3,l4⟩:=HES.out.facts
     rcases hcase with ⟨rfl,rfl⟩|⟨rfl,rfl⟩|⟨rfl,rfl⟩|⟨rfl,rfl⟩|⟨rfl,rfl⟩|⟨rfl,rfl⟩|⟨rfl,rfl⟩|⟨rfl,rfl⟩
     ·have c0:wr.cell? ⟨w3.heap.size,0,none⟩=some (.int .i64 110):=cell_of_row _ _ 0 _ _ _ HR6.out
      have hc:¬ p=110:=fun e=>HT.out.1 (by omega)
      have HC1:=Lib.hid hc
      have hcb:(p == 110)=false:=by simpa using hc
      clear hc
      go_wp2_with fail
      go_roundw
      case rel=>exact ⟨1,2,by omega,rfl,Lib.hid (fun j hj=>by rcases Nat.lt_succ_iff_lt_or_eq.1 (show j < 0+1 from hj) with hj|rfl;exact hQ.out j hj;exact HC1.out),HES.out,HR6.out⟩
      case measure=>simp [intOf]
     ·have c0:wr.cell? ⟨w3.heap.size,2,none⟩=some (.int .i64 116):=cell_of_row _ _ 2 _ _ _ HR6.out
      have hc:¬ p=116:=fun e=>HT.out.1 (by omega)
      have HC1:=Lib.hid hc
      have hcb:(p == 116)=false:=by simpa using hc
      clear hc
      go_wp2_with fail
      go_roundw
      case rel=>exact ⟨2,4,by omega,rfl,Lib.hid (fun j hj=>by rcases Nat.lt_succ_iff_lt_or_eq.1 (show j < 1+1 from hj) with hj|rfl;exact hQ.out j hj;exact HC1.out),HES.out,HR6.out⟩
      case measure=>simp [intOf]
     ·have c0:wr.cell? ⟨w3.heap.size,4,none⟩=some (.int .i64 114):=cell_of_row _ _ 4 _ _ _ HR6.out
      have hc:¬ p=114:=fun e=>HT.out.1 (by omega)
      have HC1:=Lib.hid hc
      have hcb:(p == 114)=false:=by simpa using hc
      clear hc
      go_wp2_with fail
      go_roundw
      case rel=>exact ⟨3,6,by omega,rfl,Lib.hid (fun j hj=>by rcases Nat.lt_succ_iff_lt_or_eq.1 (show j < 2+1 from hj) with hj|rfl;exact hQ.out j hj;exact HC1.out),HES.out,HR6.out⟩
      case measure=>simp [intOf]
     ·have c0:wr.cell? ⟨w3.heap.size,6,none⟩=some (.int .i64 102):=cell_of_row _ _ 6 _ _ _ HR6.out
      have hc:¬ p=102:=fun e=>HT.out.1 (by omega)
      have HC1:=Lib.hid hc
      have hcb:(p == 102)=false:=by simpa using hc
      clear hc
      go_wp2_with fail
      go_roundw
      case rel=>exact ⟨4,8,by omega,rfl,Lib.hid (fun j hj=>by rcases Nat.lt_succ_iff_lt_or_eq.1 (show j < 3+1 from hj) with hj|rfl;exact hQ.out j hj;exact HC1.out),HES.out,HR6.out⟩
      case measure=>simp [intOf]
     ·have c0:wr.cell? ⟨w3.heap.size,8,none⟩=some (.int .i64 118):=cell_of_row _ _ 8 _ _ _ HR6.out
      have hc:¬ p=118:=fun e=>HT.out.1 (by omega)
      have HC1:=Lib.hid hc
      have hcb:(p == 118)=false:=by simpa using hc
      clear hc
      go_wp2_with fail
      go_roundw
      case rel=>exact ⟨5,10,by omega,rfl,Lib.hid (fun j hj=>by rcases Nat.lt_succ_iff_lt_or_eq.1 (show j < 4+1 from hj) with hj|rfl;exact hQ.out j hj;exact HC1.out),HES.out,HR6.out⟩
      case measure=>simp [intOf]
     ·have c0:wr.cell? ⟨w3.heap.size,10,none⟩=some (.int .i64 97):=cell_of_row _ _ 10 _ _ _ HR6.out
      have hc:¬ p=97:=fun e=>HT.out.1 (by omega)
      have HC1:=Lib.hid hc
      have hcb:(p == 97)=false:=by simpa using hc
      clear hc
      go_wp2_with fail
      go_roundw
      case rel=>exact ⟨6,12,by omega,rfl,Lib.hid (fun j hj=>by rcases Nat.lt_succ_iff_lt_or_eq.1 (show j < 5+1 from hj) with hj|rfl;exact hQ.out j hj;exact HC1.out),HES.out,HR6.out⟩
      case measure=>simp [intOf]
     ·have c0:wr.cell? ⟨w3.heap.size,12,none⟩=some (.int .i64 101):=cell_of_row _ _ 12 _ _ _ HR6.out
      have hc:¬ p=101:=fun e=>HT.out.1 (by omega)
      have HC1:=Lib.hid hc
      have hcb:(p == 101)=false:=by simpa using hc
      clear hc
      go_wp2_with fail
      go_roundw
      case rel=>exact ⟨7,14,by omega,rfl,Lib.hid (fun j hj=>by rcases Nat.lt_succ_iff_lt_or_eq.1 (show j < 6+1 from hj) with hj|rfl;exact hQ.out j hj;exact HC1.out),HES.out,HR6.out⟩
      case measure=>simp [intOf]
     ·have H120:=Lib.hid (show ¬ p=120 from fun e=>HT.out.2.1 (by omega))
      have H117:=Lib.hid (show ¬ p=117 from fun e=>HT.out.2.1 (by omega))
      have hdg:¬ (49≤p∧p≤57):=fun e=>HT.out.2.1 (by omega)
      have HPQ:=Lib.hid (show plainQ p from by have b0:=hQ.out 0 (by decide);have b1:=hQ.out 1 (by decide);have b2:=hQ.out 2 (by decide);have b3:=hQ.out 3 (by decide);have b4:=hQ.out 4 (by decide);have b5:=hQ.out 5 (by decide);have b6:=hQ.out 6 (by decide);have a2:=H98.out;have a3:=H66.out;have a4:=H65.out;have a5:=H122.out;have a6:=HS.out;simp only [ctl] at b0 b1 b2 b3 b4 b5 b6;unfold plainQ;omega)
      have HDG:=Lib.hid hdg
      have hdgb:(decide (49≤p) && decide (p≤57))=false:=by rw [Bool.and_eq_false_iff];simp;omega
      clear hdg
      go_upto_region 72 with (first
       | (go_at_call 119;(with_reducible refine (between31 p 49 57 _).mono ?_);rintro e w' ⟨rfl,rfl⟩)
       | (go_at_call 178;(with_reducible refine (es_is HES.out HP.out ⟨by omega,by omega⟩ HPT.out 120 120 false rfl (decide_eq_false H120.out).symm).mono ?_);rintro e w3 ⟨rfl,hE,hb⟩;clear k1 k2 k3 k4 l1 l2 l3 l4;have HES:=Lib.hid hE;obtain ⟨k1,k2,k3,k4,l1,l2,l3,l4⟩:=HES.out.facts;clear hb hE)
       | (go_at_call 178;(with_reducible refine (es_is HES.out HP.out ⟨by omega,by omega⟩ HPT.out 117 117 false rfl (decide_eq_false H117.out).symm).mono ?_);rintro e w3 ⟨rfl,hE,hb⟩;clear k1 k2 k3 k4 l1 l2 l3 l4;have HES:=Lib.hid hE;obtain ⟨k1,k2,k3,k4,l1,l2,l3,l4⟩:=HES.out.facts;clear hb hE))
      by_cases h107:p=107
      ·subst h107
       have hat2:at_+1≤n:=hat
       clear hdgb
       by_cases h60:ptAt l (at_+1)=60
       ·have H60:Hid (true=saysP l (at_+1) [60]):=Lib.hid (by rw [saysP_one];exact (decide_eq_true h60).symm)
        have hin1:at_+1+1≤n:=in_pt hln (by rw [h60];decide)
        have HNM:=Lib.hid (show r=(if nameLen l (at_+1+1)=0 then (if ptAt l (at_+1+1)=45 then numP true l (at_+1+1+1) else numP false l (at_+1+1)) else if ptAt l (at_+1+1+nameLen l (at_+1+1))=62 then .ok ({ kind:=10,text:=bytesP (runPts l (at_+1+1) (nameLen l (at_+1+1))) },at_+1+1+nameLen l (at_+1+1)+1) else .error 1) from HR.out.trans (by rw [one_named];unfold namedP;rw [if_neg (fun x=>x h60)]))
        clear h60
        go_upto_region 76 with (first
         | (go_at_call 178;(with_reducible refine (es_is HES.out HP.out ⟨by omega,by omega⟩ HPT.out 107 107 true rfl rfl).mono ?_);rintro e w3 ⟨rfl,hE,hb⟩;clear k1 k2 k3 k4 l1 l2 l3 l4;have HES:=Lib.hid hE;obtain ⟨k1,k2,k3,k4,l1,l2,l3,l4⟩:=HES.out.facts;clear hb hE)
         | (go_at_call 61;(with_reducible refine (says_p ⟨#[60]⟩ (at_+1) true (HP.out _ HES.out.bel) (by decide) ⟨by omega,by omega⟩ H60.out).mono ?_);rintro e w3 ⟨rfl,hb,hs⟩;clear k1 k2 k3 k4 l1 l2 l3 l4;have HES:=Lib.hid (HES.out.next hb);obtain ⟨k1,k2,k3,k4,l1,l2,l3,l4⟩:=HES.out.facts;clear hb hs))
        have hgs:=HES.out.size
        obtain ⟨g,hg⟩:∃ g,g=w3.heap.size:=⟨_,rfl⟩
        obtain ⟨WT,hWT⟩:∃ X,X=w3.alloc (.cells #[.int .i64 10,.int .i64 (0),.string ⟨#[]⟩,.bool false,.int .i64 0,.int .i64 0,.int .i64 0,.int .i64 0] 108):=⟨_,rfl⟩
        have HES:=Lib.hid (show Es w WT n c A l at_ (at_+1) by rw [hWT];exact HES.out.next ((Below.refl _ _).alloc (Nat.le_refl _) _))
        have HTT:=Lib.hid (show WT.heap[g]?=some (.cells #[.int .i64 10,.int .i64 (0),.string ⟨#[]⟩,.bool false,.int .i64 0,.int .i64 0,.int .i64 0,.int .i64 0] 108 (0,0)) by rw [hWT,hg];exact heap_alloc_new w3 _)
        rw [← hWT,← hg]
        rw [← hg] at hgs
        clear hWT hg k1 k2 k3 k4 l1 l2 l3 l4
        obtain ⟨k1,k2,k3,k4,l1,l2,l3,l4⟩:=HES.out.facts
        obtain ⟨m1,m2,m3,m4,m5,m6,m7,m8⟩:=cells8 HTT.out;have q1:=frozen_of_row _ _ (0+1) _ _ HTT.out;have q1':=frozen_of_row _ _ 1 _ _ HTT.out;have q2:=frozen_of_row _ _ (0+2) _ _ HTT.out;have q2':=frozen_of_row _ _ 2 _ _ HTT.out;have lg:=lt_heap HTT.out
        have hnl:=name_le l (at_+1+1) (by omega)
        rw [hln] at hnl
        obtain ⟨nl,hnl0⟩:∃ x,x=nameLen l (at_+1+1):=⟨_,rfl⟩
        have HN0:=Lib.hid hnl0
        have CN:=Lib.hid (fun w' (hb:Below w.heap.size w w')=>name_r (at_+1+1) (HP.out w' hb) hb.size)
        rw [← hnl0] at CN hnl HNM
        clear hnl0
        by_cases hn0:nl=0
        ·have CN:=Lib.hid (show ∀ w',Below w.heap.size w w'→Calls Tryz.prog 182 #[.slice A n c,.int .i64 (at_+1+1)] w' fun e w''=>e=.returned (.tuple #[.string ⟨#[]⟩,.int .i64 (at_+1+1)])∧Below w'.heap.size w' w'' from fun w' hb=>by have:=CN.out w' hb;rw [hn0] at this;simpa [runPts,bytesP] using this)
         have HNM:=Lib.hid (HNM.out.trans (if_pos hn0))
         clear hn0 hnl HN0
         go_upto_region 79 with (go_at_call 182;(with_reducible refine (CN.out _ HES.out.bel).mono ?_);rintro e w3 ⟨rfl,hb⟩;clear k1 k2 k3 k4 l1 l2 l3 l4;have HES:=Lib.hid (HES.out.next hb);obtain ⟨k1,k2,k3,k4,l1,l2,l3,l4⟩:=HES.out.facts;clear m1 m2 m3 m4 m5 m6 m7 m8 q1 q1' q2 q2' lg;have HTT:=Lib.hid (row_next HTT.out hb);obtain ⟨m1,m2,m3,m4,m5,m6,m7,m8⟩:=cells8 HTT.out;have q1:=frozen_of_row _ _ (0+1) _ _ HTT.out;have q1':=frozen_of_row _ _ 1 _ _ HTT.out;have q2:=frozen_of_row _ _ (0+2) _ _ HTT.out;have q2':=frozen_of_row _ _ 2 _ _ HTT.out;have lg:=lt_heap HTT.out;clear hb)
         by_cases h45:ptAt l (at_+1+1)=45
         ·have H45:Hid (true=saysP l (at_+1+1) [45]):=Lib.hid (by rw [saysP_one];exact (decide_eq_true h45).symm)
          have HNM:=Lib.hid (HNM.out.trans (if_pos h45))
          have hin2:at_+1+1+1≤n:=in_pt hln (by rw [h45];decide)
          clear h45
          obtain ⟨dk,hdk⟩:∃ x,x=runLen isDig l (at_+1+1+1) 3:=⟨_,rfl⟩
          obtain ⟨dv,hdv⟩:∃ x,x=decN (runPts l (at_+1+1+1) dk):=⟨_,rfl⟩
          have hdl:=dig_le l 3 (at_+1+1+1) (by omega)
          have hdd:=runPts_dec l (at_+1+1+1) 3 _ (Nat.le_refl _) (Nat.le_refl _)
          have D:=Lib.hid (fun w' (hb:Below w.heap.size w w')=>(show Calls Tryz.prog 180 #[.slice A n c,.int .i64 (at_+1+1+1),.int .i64 3] w' (fun e w''=>e=.returned (.tuple #[.int .i64 (decN (runPts l (at_+1+1+1) (runLen isDig l (at_+1+1+1) 3))),.int .i64 (at_+1+1+1+(runLen isDig l (at_+1+1+1) 3:Int))])∧w'=w'') from digits32 l (at_+1+1+1) 3 A n c _ w' (by unfold maxLen;omega) (Nat.le_refl _) (by omega) (by omega) (HP.out w' hb).row))
          rw [← hdk,← hdv] at hdd
          rw [← hdk,hln] at hdl
          rw [← hdk,← hdv] at D
          have HNM:=Lib.hid (show r=(if dk=0 then .error 1 else if ptAt l (at_+1+1+1+dk)≠62 then .error 1 else if dv=0 then .error 3 else .ok ({ kind:=10,num:=-dv },at_+1+1+1+dk+1)) from HNM.out.trans (by unfold numP;rw [← hdk,← hdv];simp))
          clear hdk hdv
          obtain ⟨hd0,hd9⟩:=hdd
          obtain ⟨tq,hto⟩:∃ x,x=at_+1+1+1+(dk:Int):=⟨_,rfl⟩
          rw [← hto] at D HNM hdl
          have HTO:=Lib.hid hto
          clear hto
          go_upto_region 83 with (first
           | (go_at_call 61;(with_reducible refine (says_p ⟨#[45]⟩ (at_+1+1) true (HP.out _ HES.out.bel) (by decide) ⟨by omega,by omega⟩ H45.out).mono ?_);rintro e w3 ⟨rfl,hb,hs⟩;clear k1 k2 k3 k4 l1 l2 l3 l4;have HES:=Lib.hid (HES.out.next hb);obtain ⟨k1,k2,k3,k4,l1,l2,l3,l4⟩:=HES.out.facts;clear m1 m2 m3 m4 m5 m6 m7 m8 q1 q1' q2 q2' lg;have HTT:=Lib.hid (row_next HTT.out hb);obtain ⟨m1,m2,m3,m4,m5,m6,m7,m8⟩:=cells8 HTT.out;have q1:=frozen_of_row _ _ (0+1) _ _ HTT.out;have q1':=frozen_of_row _ _ 1 _ _ HTT.out;have q2:=frozen_of_row _ _ (0+2) _ _ HTT.out;have q2':=frozen_of_row _ _ 2 _ _ HTT.out;have lg:=lt_heap HTT.out;clear hb hs)
           | (go_at_call 180;(with_reducible refine (D.out _ HES.out.bel).mono ?_);rintro e w' ⟨rfl,rfl⟩))
          obtain ⟨WD,hWD⟩:∃ X,X=World.setCell w3 ⟨g,0+1,none⟩ (.int .i64 dv):=⟨_,rfl⟩
          have HTT:=Lib.hid (show WD.heap[g]?=some (.cells #[.int .i64 10,.int .i64 (dv),.string ⟨#[]⟩,.bool false,.int .i64 0,.int .i64 0,.int .i64 0,.int .i64 0] 108 (0,0)) by rw [hWD];exact put1 HTT.out rfl)
          have HES:=Lib.hid (show Es w WD n c A l at_ (at_+1) by rw [hWD];exact Es.other HES.out hgs (0+1) (.int .i64 dv))
          rw [← hWD]
          clear hWD k1 k2 k3 k4 l1 l2 l3 l4 m1 m2 m3 m4 m5 m6 m7 m8 q1 q1' q2 q2' lg
          obtain ⟨k1,k2,k3,k4,l1,l2,l3,l4⟩:=HES.out.facts
          obtain ⟨m1,m2,m3,m4,m5,m6,m7,m8⟩:=cells8 HTT.out;have q1:=frozen_of_row _ _ (0+1) _ _ HTT.out;have q1':=frozen_of_row _ _ 1 _ _ HTT.out;have q2:=frozen_of_row _ _ (0+2) _ _ HTT.out;have q2':=frozen_of_row _ _ 2 _ _ HTT.out;have lg:=lt_heap HTT.out
          by_cases hk0:dk=0
          ·have HE:=Lib.hid (show r=.error 1 from HNM.out.trans (if_pos hk0))
           have htb:tq=at_+1+1+1:=by rw [HTO.out,hk0];simp
           have htb2:(tq == at_+1+1+1)=true:=by simp [htb]
           clear HNM HTO hk0 htb
           go_upto_region 84 with (fail)
           repeat (first|(go_big_may;((with_reducible apply store24 (g:=w.heap.size+2));rfl;(with_reducible rfl);rfl;rfl;(exact HES.out.hz);rfl;rfl))|go_values|go_skip|go_guarded|go_step|go_upon)
           ((try simp only [Exit.inBlock,Exit.then]);refine bodyPost_ret (v:=_) (results24q Tryz.results139 _ _ (w.heap.size+2) _ (.int .i64 0) (.int .i64 1) ?_ ?_ ?_ (row24 ?_) ?_) rfl ?_;rfl;rfl;rfl;(exact HES.out.hz);rfl;refine And.intro ?_ ?_;(rw [HE.out];rfl);exact (Below.setRow HES.out.bel (Nat.le_add_right _ _) _))
          have htb:¬ tq=at_+1+1+1:=by have:=HTO.out;omega
          have htb2:(tq == at_+1+1+1)=false:=by simpa using htb
          have HNM:=Lib.hid (HNM.out.trans (if_neg hk0))
          have ht0:0≤tq:=by have:=HTO.out;omega
          clear HTO hk0 htb
          go_upto_region 88 with (fail)
          obtain ⟨WE,hWD⟩:∃ X,X=World.setCell WD ⟨g,0+1,none⟩ (.int .i64 (-dv)):=⟨_,rfl⟩
          have HTT:=Lib.hid (show WE.heap[g]?=some (.cells #[.int .i64 10,.int .i64 (-dv),.string ⟨#[]⟩,.bool false,.int .i64 0,.int .i64 0,.int .i64 0,.int .i64 0] 108 (0,0)) by rw [hWD];exact put1 HTT.out rfl)
          have HES:=Lib.hid (show Es w WE n c A l at_ (at_+1) by rw [hWD];exact Es.other HES.out hgs (0+1) (.int .i64 (-dv)))
          rw [← hWD]
          clear hWD k1 k2 k3 k4 l1 l2 l3 l4 m1 m2 m3 m4 m5 m6 m7 m8 q1 q1' q2 q2' lg
          obtain ⟨k1,k2,k3,k4,l1,l2,l3,l4⟩:=HES.out.facts
          obtain ⟨m1,m2,m3,m4,m5,m6,m7,m8⟩:=cells8 HTT.out;have q1:=frozen_of_row _ _ (0+1) _ _ HTT.out;have q1':=frozen_of_row _ _ 1 _ _ HTT.out;have q2:=frozen_of_row _ _ (0+2) _ _ HTT.out;have q2':=frozen_of_row _ _ 2 _ _ HTT.out;have lg:=lt_heap HTT.out
          obtain ⟨WF,hWD⟩:∃ X,X=World.setCell WE ⟨g,0+2,none⟩ (.string ⟨#[]⟩):=⟨_,rfl⟩
          have HTT:=Lib.hid (show WF.heap[g]?=some (.cells #[.int .i64 10,.int .i64 (-dv),.string ⟨#[]⟩,.bool false,.int .i64 0,.int .i64 0,.int .i64 0,.int .i64 0] 108 (0,0)) by rw [hWD];exact put1 HTT.out rfl)
          have HES:=Lib.hid (show Es w WF n c A l at_ (at_+1) by rw [hWD];exact Es.other HES.out hgs (0+2) (.string ⟨#[]⟩))
          rw [← hWD]
          clear hWD k1 k2 k3 k4 l1 l2 l3 l4 m1 m2 m3 m4 m5 m6 m7 m8 q1 q1' q2 q2' lg
          obtain ⟨k1,k2,k3,k4,l1,l2,l3,l4⟩:=HES.out.facts
          obtain ⟨m1,m2,m3,m4,m5,m6,m7,m8⟩:=cells8 HTT.out;have q1:=frozen_of_row _ _ (0+1) _ _ HTT.out;have q1':=frozen_of_row _ _ 1 _ _ HTT.out;have q2:=frozen_of_row _ _ (0+2) _ _ HTT.out;have q2':=frozen_of_row _ _ 2 _ _ HTT.out;have lg:=lt_heap HTT.out
          by_cases h62:ptAt l tq=62
          ·have H62:Hid (true=saysP l tq [62]):=Lib.hid (by rw [saysP_one];exact (decide_eq_true h62).symm)
           have HNM:=Lib.hid (HNM.out.trans (if_neg (fun x=>x h62)))
           clear h62
           go_upto_region 90 with (go_at_call 61;(with_reducible refine (says_p ⟨#[62]⟩ tq true (HP.out _ HES.out.bel) (by decide) ⟨by omega,by omega⟩ H62.out).mono ?_);rintro e w3 ⟨rfl,hb,hs⟩;clear k1 k2 k3 k4 l1 l2 l3 l4;clear m1 m2 m3 m4 m5 m6 m7 m8 q1 q1' q2 q2' lg;have HTT:=Lib.hid (row_next HTT.out hb);have HES:=Lib.hid (HES.out.next hb);obtain ⟨k1,k2,k3,k4,l1,l2,l3,l4⟩:=HES.out.facts;obtain ⟨m1,m2,m3,m4,m5,m6,m7,m8⟩:=cells8 HTT.out;have q1:=frozen_of_row _ _ (0+1) _ _ HTT.out;have q1':=frozen_of_row _ _ 1 _ _ HTT.out;have q2:=frozen_of_row _ _ (0+2) _ _ HTT.out;have q2':=frozen_of_row _ _ 2 _ _ HTT.out;have lg:=lt_heap HTT.out;clear hb hs)
           by_cases hz0:dv=0
           ·have HE:=Lib.hid (show r=.error 3 from HNM.out.trans (if_pos hz0))
            clear HNM
            subst hz0
            go_upto_region 91 with (fail)
            repeat (first|(go_big_may;((with_reducible apply store24 (g:=w.heap.size+2));rfl;(with_reducible rfl);rfl;rfl;(exact HES.out.hz);rfl;rfl))|go_values|go_skip|go_guarded|go_step|go_upon)
            ((try simp only [Exit.inBlock,Exit.then]);refine bodyPost_ret (v:=_) (results24q Tryz.results139 _ _ (w.heap.size+2) _ (.int .i64 0) (.int .i64 3) ?_ ?_ ?_ (row24 ?_) ?_) rfl ?_;rfl;rfl;rfl;(exact HES.out.hz);rfl;refine And.intro ?_ ?_;(rw [HE.out];rfl);exact (Below.setRow HES.out.bel (Nat.le_add_right _ _) _))
           ·have HE:=Lib.hid (show r=.ok ({ kind:=10,num:=-dv },tq+1) from HNM.out.trans (if_neg hz0))
            have hzb:(dv == 0)=false:=by simpa using hz0
            have hzc:(-dv == 0)=false:=by simpa using hz0
            clear HNM hz0
            go_upto_region 92 with (fail)
            repeat (first|(go_big_may;((with_reducible apply store24 (g:=w.heap.size+2));rfl;(with_reducible rfl);rfl;rfl;(exact HES.out.hz);rfl;rfl))|go_values|go_skip|go_guarded|go_step|go_upon)
            ((try simp only [Exit.inBlock,Exit.then]);refine bodyPost_ret (v:=_) (results24q Tryz.results139 _ _ (w.heap.size+2) _ (.int .i64 (tq+1)) (.int .i64 0) ?_ ?_ ?_ (row24 ?_) ?_) rfl ?_;rfl;rfl;rfl;(exact HES.out.hz);rfl;refine And.intro ?_ ?_;(rw [HE.out];rfl);exact (Below.setRow HES.out.bel (Nat.le_add_right _ _) _))
          ·have H62:Hid (false=saysP l tq [62]):=Lib.hid (by rw [saysP_one];exact (decide_eq_false h62).symm)
           have HE:=Lib.hid (show r=.error 1 from HNM.out.trans (if_pos h62))
           clear HNM h62
           go_upto_region 89 with (first
            | (go_at_call 61;(with_reducible refine (says_p ⟨#[62]⟩ tq false (HP.out _ HES.out.bel) (by decide) ⟨by omega,by omega⟩ H62.out).mono ?_);rintro e w3 ⟨rfl,hb,hs⟩;clear k1 k2 k3 k4 l1 l2 l3 l4;clear m1 m2 m3 m4 m5 m6 m7 m8 q1 q1' q2 q2' lg;have HTT:=Lib.hid (row_next HTT.out hb);have HES:=Lib.hid (HES.out.next hb);obtain ⟨k1,k2,k3,k4,l1,l2,l3,l4⟩:=HES.out.facts;obtain ⟨m1,m2,m3,m4,m5,m6,m7,m8⟩:=cells8 HTT.out;have q1:=frozen_of_row _ _ (0+1) _ _ HTT.out;have q1':=frozen_of_row _ _ 1 _ _ HTT.out;have q2:=frozen_of_row _ _ (0+2) _ _ HTT.out;have q2':=frozen_of_row _ _ 2 _ _ HTT.out;have lg:=lt_heap HTT.out;clear hb hs))
           repeat (first|(go_big_may;((with_reducible apply store24 (g:=w.heap.size+2));rfl;(with_reducible rfl);rfl;rfl;(exact HES.out.hz);rfl;rfl))|go_values|go_skip|go_guarded|go_step|go_upon)
           ((try simp only [Exit.inBlock,Exit.then]);refine bodyPost_ret (v:=_) (results24q Tryz.results139 _ _ (w.heap.size+2) _ (.int .i64 0) (.int .i64 1) ?_ ?_ ?_ (row24 ?_) ?_) rfl ?_;rfl;rfl;rfl;(exact HES.out.hz);rfl;refine And.intro ?_ ?_;(rw [HE.out];rfl);exact (Below.setRow HES.out.bel (Nat.le_add_right _ _) _))
         ·have H45:Hid (false=saysP l (at_+1+1) [45]):=Lib.hid (by rw [saysP_one];exact (decide_eq_false h45).symm)
          have HNM:=Lib.hid (HNM.out.trans (if_neg h45))
          clear h45
          obtain ⟨dk,hdk⟩:∃ x,x=runLen isDig l (at_+1+1) 3:=⟨_,rfl⟩
          obtain ⟨dv,hdv⟩:∃ x,x=decN (runPts l (at_+1+1) dk):=⟨_,rfl⟩
          have hdl:=dig_le l 3 (at_+1+1) (by omega)
          have hdd:=runPts_dec l (at_+1+1) 3 _ (Nat.le_refl _) (Nat.le_refl _)
          have D:=Lib.hid (fun w' (hb:Below w.heap.size w w')=>(show Calls Tryz.prog 180 #[.slice A n c,.int .i64 (at_+1+1),.int .i64 3] w' (fun e w''=>e=.returned (.tuple #[.int .i64 (decN (runPts l (at_+1+1) (runLen isDig l (at_+1+1) 3))),.int .i64 (at_+1+1+(runLen isDig l (at_+1+1) 3:Int))])∧w'=w'') from digits32 l (at_+1+1) 3 A n c _ w' (by unfold maxLen;omega) (Nat.le_refl _) (by omega) (by omega) (HP.out w' hb).row))
          rw [← hdk,← hdv] at hdd
          rw [← hdk,hln] at hdl
          rw [← hdk,← hdv] at D
          have HNM:=Lib.hid (show r=(if dk=0 then .error 1 else if ptAt l (at_+1+1+dk)≠62 then .error 1 else if dv=0 then .error 3 else .ok ({ kind:=10,num:=dv },at_+1+1+dk+1)) from HNM.out.trans (by unfold numP;rw [← hdk,← hdv];simp))
          clear hdk hdv
          obtain ⟨hd0,hd9⟩:=hdd
          obtain ⟨tq,hto⟩:∃ x,x=at_+1+1+(dk:Int):=⟨_,rfl⟩
          rw [← hto] at D HNM hdl
          have HTO:=Lib.hid hto
          clear hto
          go_upto_region 83 with (first
           | (go_at_call 61;(with_reducible refine (says_p ⟨#[45]⟩ (at_+1+1) false (HP.out _ HES.out.bel) (by decide) ⟨by omega,by omega⟩ H45.out).mono ?_);rintro e w3 ⟨rfl,hb,hs⟩;clear k1 k2 k3 k4 l1 l2 l3 l4;have HES:=Lib.hid (HES.out.next hb);obtain ⟨k1,k2,k3,k4,l1,l2,l3,l4⟩:=HES.out.facts;clear m1 m2 m3 m4 m5 m6 m7 m8 q1 q1' q2 q2' lg;have HTT:=Lib.hid (row_next HTT.out hb);obtain ⟨m1,m2,m3,m4,m5,m6,m7,m8⟩:=cells8 HTT.out;have q1:=frozen_of_row _ _ (0+1) _ _ HTT.out;have q1':=frozen_of_row _ _ 1 _ _ HTT.out;have q2:=frozen_of_row _ _ (0+2) _ _ HTT.out;have q2':=frozen_of_row _ _ 2 _ _ HTT.out;have lg:=lt_heap HTT.out;clear hb hs)
           | (go_at_call 180;(with_reducible refine (D.out _ HES.out.bel).mono ?_);rintro e w' ⟨rfl,rfl⟩))
          obtain ⟨WD,hWD⟩:∃ X,X=World.setCell w3 ⟨g,0+1,none⟩ (.int .i64 dv):=⟨_,rfl⟩
          have HTT:=Lib.hid (show WD.heap[g]?=some (.cells #[.int .i64 10,.int .i64 (dv),.string ⟨#[]⟩,.bool false,.int .i64 0,.int .i64 0,.int .i64 0,.int .i64 0] 108 (0,0)) by rw [hWD];exact put1 HTT.out rfl)
          have HES:=Lib.hid (show Es w WD n c A l at_ (at_+1) by rw [hWD];exact Es.other HES.out hgs (0+1) (.int .i64 dv))
          rw [← hWD]
          clear hWD k1 k2 k3 k4 l1 l2 l3 l4 m1 m2 m3 m4 m5 m6 m7 m8 q1 q1' q2 q2' lg
          obtain ⟨k1,k2,k3,k4,l1,l2,l3,l4⟩:=HES.out.facts
          obtain ⟨m1,m2,m3,m4,m5,m6,m7,m8⟩:=cells8 HTT.out;have q1:=frozen_of_row _ _ (0+1) _ _ HTT.out;have q1':=frozen_of_row _ _ 1 _ _ HTT.out;have q2:=frozen_of_row _ _ (0+2) _ _ HTT.out;have q2':=frozen_of_row _ _ 2 _ _ HTT.out;have lg:=lt_heap HTT.out
          by_cases hk0:dk=0
          ·have HE:=Lib.hid (show r=.error 1 from HNM.out.trans (if_pos hk0))
           have htb:tq=at_+1+1:=by rw [HTO.out,hk0];simp
           have htb2:(tq == at_+1+1)=true:=by simp [htb]
           clear HNM HTO hk0 htb
           go_upto_region 84 with (fail)
           repeat (first|(go_big_may;((with_reducible apply store24 (g:=w.heap.size+2));rfl;(with_reducible rfl);rfl;rfl;(exact HES.out.hz);rfl;rfl))|go_values|go_skip|go_guarded|go_step|go_upon)
           ((try simp only [Exit.inBlock,Exit.then]);refine bodyPost_ret (v:=_) (results24q Tryz.results139 _ _ (w.heap.size+2) _ (.int .i64 0) (.int .i64 1) ?_ ?_ ?_ (row24 ?_) ?_) rfl ?_;rfl;rfl;rfl;(exact HES.out.hz);rfl;refine And.intro ?_ ?_;(rw [HE.out];rfl);exact (Below.setRow HES.out.bel (Nat.le_add_right _ _) _))
          have htb:¬ tq=at_+1+1:=by have:=HTO.out;omega
          have htb2:(tq == at_+1+1)=false:=by simpa using htb
          have HNM:=Lib.hid (HNM.out.trans (if_neg hk0))
          have ht0:0≤tq:=by have:=HTO.out;omega
          clear HTO hk0 htb
          go_upto_region 88 with (fail)
          obtain ⟨WF,hWD⟩:∃ X,X=World.setCell WD ⟨g,0+2,none⟩ (.string ⟨#[]⟩):=⟨_,rfl⟩
          have HTT:=Lib.hid (show WF.heap[g]?=some (.cells #[.int .i64 10,.int .i64 (dv),.string ⟨#[]⟩,.bool false,.int .i64 0,.int .i64 0,.int .i64 0,.int .i64 0] 108 (0,0)) by rw [hWD];exact put1 HTT.out rfl)
          have HES:=Lib.hid (show Es w WF n c A l at_ (at_+1) by rw [hWD];exact Es.other HES.out hgs (0+2) (.string ⟨#[]⟩))
          rw [← hWD]
          clear hWD k1 k2 k3 k4 l1 l2 l3 l4 m1 m2 m3 m4 m5 m6 m7 m8 q1 q1' q2 q2' lg
          obtain ⟨k1,k2,k3,k4,l1,l2,l3,l4⟩:=HES.out.facts
          obtain ⟨m1,m2,m3,m4,m5,m6,m7,m8⟩:=cells8 HTT.out;have q1:=frozen_of_row _ _ (0+1) _ _ HTT.out;have q1':=frozen_of_row _ _ 1 _ _ HTT.out;have q2:=frozen_of_row _ _ (0+2) _ _ HTT.out;have q2':=frozen_of_row _ _ 2 _ _ HTT.out;have lg:=lt_heap HTT.out
          by_cases h62:ptAt l tq=62
          ·have H62:Hid (true=saysP l tq [62]):=Lib.hid (by rw [saysP_one];exact (decide_eq_true h62).symm)
           have HNM:=Lib.hid (HNM.out.trans (if_neg (fun x=>x h62)))
           clear h62
           go_upto_region 90 with (go_at_call 61;(with_reducible refine (says_p ⟨#[62]⟩ tq true (HP.out _ HES.out.bel) (by decide) ⟨by omega,by omega⟩ H62.out).mono ?_);rintro e w3 ⟨rfl,hb,hs⟩;clear k1 k2 k3 k4 l1 l2 l3 l4;clear m1 m2 m3 m4 m5 m6 m7 m8 q1 q1' q2 q2' lg;have HTT:=Lib.hid (row_next HTT.out hb);have HES:=Lib.hid (HES.out.next hb);obtain ⟨k1,k2,k3,k4,l1,l2,l3,l4⟩:=HES.out.facts;obtain ⟨m1,m2,m3,m4,m5,m6,m7,m8⟩:=cells8 HTT.out;have q1:=frozen_of_row _ _ (0+1) _ _ HTT.out;have q1':=frozen_of_row _ _ 1 _ _ HTT.out;have q2:=frozen_of_row _ _ (0+2) _ _ HTT.out;have q2':=frozen_of_row _ _ 2 _ _ HTT.out;have lg:=lt_heap HTT.out;clear hb hs)
           by_cases hz0:dv=0
           ·have HE:=Lib.hid (show r=.error 3 from HNM.out.trans (if_pos hz0))
            clear HNM
            subst hz0
            go_upto_region 91 with (fail)
            repeat (first|(go_big_may;((with_reducible apply store24 (g:=w.heap.size+2));rfl;(with_reducible rfl);rfl;rfl;(exact HES.out.hz);rfl;rfl))|go_values|go_skip|go_guarded|go_step|go_upon)
            ((try simp only [Exit.inBlock,Exit.then]);refine bodyPost_ret (v:=_) (results24q Tryz.results139 _ _ (w.heap.size+2) _ (.int .i64 0) (.int .i64 3) ?_ ?_ ?_ (row24 ?_) ?_) rfl ?_;rfl;rfl;rfl;(exact HES.out.hz);rfl;refine And.intro ?_ ?_;(rw [HE.out];rfl);exact (Below.setRow HES.out.bel (Nat.le_add_right _ _) _))
           ·have HE:=Lib.hid (show r=.ok ({ kind:=10,num:=dv },tq+1) from HNM.out.trans (if_neg hz0))
            have hzb:(dv == 0)=false:=by simpa using hz0
            have hzc:(-dv == 0)=false:=by simpa using hz0
            clear HNM hz0
            go_upto_region 92 with (fail)
            repeat (first|(go_big_may;((with_reducible apply store24 (g:=w.heap.size+2));rfl;(with_reducible rfl);rfl;rfl;(exact HES.out.hz);rfl;rfl))|go_values|go_skip|go_guarded|go_step|go_upon)
            ((try simp only [Exit.inBlock,Exit.then]);refine bodyPost_ret (v:=_) (results24q Tryz.results139 _ _ (w.heap.size+2) _ (.int .i64 (tq+1)) (.int .i64 0) ?_ ?_ ?_ (row24 ?_) ?_) rfl ?_;rfl;rfl;rfl;(exact HES.out.hz);rfl;refine And.intro ?_ ?_;(rw [HE.out];rfl);exact (Below.setRow HES.out.bel (Nat.le_add_right _ _) _))
          ·have H62:Hid (false=saysP l tq [62]):=Lib.hid (by rw [saysP_one];exact (decide_eq_false h62).symm)
           have HE:=Lib.hid (show r=.error 1 from HNM.out.trans (if_pos h62))
           clear HNM h62
           go_upto_region 89 with (first
            | (go_at_call 61;(with_reducible refine (says_p ⟨#[62]⟩ tq false (HP.out _ HES.out.bel) (by decide) ⟨by omega,by omega⟩ H62.out).mono ?_);rintro e w3 ⟨rfl,hb,hs⟩;clear k1 k2 k3 k4 l1 l2 l3 l4;clear m1 m2 m3 m4 m5 m6 m7 m8 q1 q1' q2 q2' lg;have HTT:=Lib.hid (row_next HTT.out hb);have HES:=Lib.hid (HES.out.next hb);obtain ⟨k1,k2,k3,k4,l1,l2,l3,l4⟩:=HES.out.facts;obtain ⟨m1,m2,m3,m4,m5,m6,m7,m8⟩:=cells8 HTT.out;have q1:=frozen_of_row _ _ (0+1) _ _ HTT.out;have q1':=frozen_of_row _ _ 1 _ _ HTT.out;have q2:=frozen_of_row _ _ (0+2) _ _ HTT.out;have q2':=frozen_of_row _ _ 2 _ _ HTT.out;have lg:=lt_heap HTT.out;clear hb hs))
           repeat (first|(go_big_may;((with_reducible apply store24 (g:=w.heap.size+2));rfl;(with_reducible rfl);rfl;rfl;(exact HES.out.hz);rfl;rfl))|go_values|go_skip|go_guarded|go_step|go_upon)
           ((try simp only [Exit.inBlock,Exit.then]);refine bodyPost_ret (v:=_) (results24q Tryz.results139 _ _ (w.heap.size+2) _ (.int .i64 0) (.int .i64 1) ?_ ?_ ?_ (row24 ?_) ?_) rfl ?_;rfl;rfl;rfl;(exact HES.out.hz);rfl;refine And.intro ?_ ?_;(rw [HE.out];rfl);exact (Below.setRow HES.out.bel (Nat.le_add_right _ _) _))
        ·have HNM:=Lib.hid (HNM.out.trans (if_neg hn0))
         have hbs:(bytesP (runPts l (at_+1+1) nl)).toArray≠#[]:=by
          intro hx
          have:=congrArg Array.size hx
          simp [bytesP,runPts] at this
          exact hn0 this
         obtain ⟨bs,hbs0⟩:∃ x,x=(bytesP (runPts l (at_+1+1) nl)).toArray:=⟨_,rfl⟩
         have HBS:=Lib.hid hbs0
         rw [← hbs0] at CN hbs
         have hbe:¬ (ByteArray.mk bs).toList=[]:=by rw [ByteArray.toList_eq];simpa using hbs
         have hbe2:(ByteArray.mk bs).toList.isEmpty=false:=by rw [ByteArray.toList_eq];simpa using hbs
         clear hbs0 hbs hn0
         by_cases h62:ptAt l (at_+1+1+(nl:Int))=62
         ·have H62:Hid (true=saysP l (at_+1+1+(nl:Int)) [62]):=Lib.hid (by rw [saysP_one];exact (decide_eq_true h62).symm)
          have HE:=Lib.hid (show r=.ok ({ kind:=10,text:=bytesP (runPts l (at_+1+1) nl) },at_+1+1+nl+1) from HNM.out.trans (if_pos h62))
          clear HNM h62
          go_upto_region 92 with (first
           | (go_at_call 182;(with_reducible refine (CN.out _ HES.out.bel).mono ?_);rintro e w3 ⟨rfl,hb⟩;clear k1 k2 k3 k4 l1 l2 l3 l4;have HES:=Lib.hid (HES.out.next hb);obtain ⟨k1,k2,k3,k4,l1,l2,l3,l4⟩:=HES.out.facts;clear m1 m2 m3 m4 m5 m6 m7 m8 q1 q1' q2 q2' lg;have HTT:=Lib.hid (row_next HTT.out hb);obtain ⟨m1,m2,m3,m4,m5,m6,m7,m8⟩:=cells8 HTT.out;have q1:=frozen_of_row _ _ (0+1) _ _ HTT.out;have q1':=frozen_of_row _ _ 1 _ _ HTT.out;have q2:=frozen_of_row _ _ (0+2) _ _ HTT.out;have q2':=frozen_of_row _ _ 2 _ _ HTT.out;have lg:=lt_heap HTT.out;clear hb)
           | (go_at_call 61;(with_reducible refine (says_p ⟨#[62]⟩ (at_+1+1+(nl:Int)) true (HP.out _ (Es.bel (Es.other HES.out hgs 2 (.string ⟨bs⟩)))) (by decide) ⟨by omega,by omega⟩ H62.out).mono ?_);rintro e w3 ⟨rfl,hb,hs⟩;clear k1 k2 k3 k4 l1 l2 l3 l4;clear m1 m2 m3 m4 m5 m6 m7 m8 q1 q1' q2 q2' lg;have HTT:=Lib.hid (row_next (put1 (ds:=#[.int .i64 10,.int .i64 (0),.string ⟨bs⟩,.bool false,.int .i64 0,.int .i64 0,.int .i64 0,.int .i64 0]) HTT.out rfl) hb);have HES:=Lib.hid (Es.next (Es.other HES.out hgs 2 (.string ⟨bs⟩)) hb);obtain ⟨k1,k2,k3,k4,l1,l2,l3,l4⟩:=HES.out.facts;obtain ⟨m1,m2,m3,m4,m5,m6,m7,m8⟩:=cells8 HTT.out;have q1:=frozen_of_row _ _ (0+1) _ _ HTT.out;have q1':=frozen_of_row _ _ 1 _ _ HTT.out;have q2:=frozen_of_row _ _ (0+2) _ _ HTT.out;have q2':=frozen_of_row _ _ 2 _ _ HTT.out;have lg:=lt_heap HTT.out;clear hb hs))
          repeat (first|(go_big_may;((with_reducible apply store24 (g:=w.heap.size+2));rfl;(with_reducible rfl);rfl;rfl;(exact HES.out.hz);rfl;rfl))|go_values|go_skip|go_guarded|go_step|go_upon)
          ((try simp only [Exit.inBlock,Exit.then]);refine bodyPost_ret (v:=_) (results24q Tryz.results139 _ _ (w.heap.size+2) _ (.int .i64 (at_+1+1+nl+1)) (.int .i64 0) ?_ ?_ ?_ (row24 ?_) ?_) rfl ?_;rfl;rfl;rfl;(exact HES.out.hz);rfl;refine And.intro ?_ ?_;(rw [HE.out,HBS.out];rfl);exact (Below.setRow HES.out.bel (Nat.le_add_right _ _) _))
         ·have H62:Hid (false=saysP l (at_+1+1+(nl:Int)) [62]):=Lib.hid (by rw [saysP_one];exact (decide_eq_false h62).symm)
          have HE:=Lib.hid (show r=.error 1 from HNM.out.trans (if_neg h62))
          clear HNM h62
          go_upto_region 89 with (first
           | (go_at_call 182;(with_reducible refine (CN.out _ HES.out.bel).mono ?_);rintro e w3 ⟨rfl,hb⟩;clear k1 k2 k3 k4 l1 l2 l3 l4;have HES:=Lib.hid (HES.out.next hb);obtain ⟨k1,k2,k3,k4,l1,l2,l3,l4⟩:=HES.out.facts;clear m1 m2 m3 m4 m5 m6 m7 m8 q1 q1' q2 q2' lg;have HTT:=Lib.hid (row_next HTT.out hb);obtain ⟨m1,m2,m3,m4,m5,m6,m7,m8⟩:=cells8 HTT.out;have q1:=frozen_of_row _ _ (0+1) _ _ HTT.out;have q1':=frozen_of_row _ _ 1 _ _ HTT.out;have q2:=frozen_of_row _ _ (0+2) _ _ HTT.out;have q2':=frozen_of_row _ _ 2 _ _ HTT.out;have lg:=lt_heap HTT.out;clear hb)
           | (go_at_call 61;(with_reducible refine (says_p ⟨#[62]⟩ (at_+1+1+(nl:Int)) false (HP.out _ (Es.bel (Es.other HES.out hgs 2 (.string ⟨bs⟩)))) (by decide) ⟨by omega,by omega⟩ H62.out).mono ?_);rintro e w3 ⟨rfl,hb,hs⟩;clear k1 k2 k3 k4 l1 l2 l3 l4;clear m1 m2 m3 m4 m5 m6 m7 m8 q1 q1' q2 q2' lg;have HTT:=Lib.hid (row_next (put1 (ds:=#[.int .i64 10,.int .i64 (0),.string ⟨bs⟩,.bool false,.int .i64 0,.int .i64 0,.int .i64 0,.int .i64 0]) HTT.out rfl) hb);have HES:=Lib.hid (Es.next (Es.other HES.out hgs 2 (.string ⟨bs⟩)) hb);obtain ⟨k1,k2,k3,k4,l1,l2,l3,l4⟩:=HES.out.facts;obtain ⟨m1,m2,m3,m4,m5,m6,m7,m8⟩:=cells8 HTT.out;have q1:=frozen_of_row _ _ (0+1) _ _ HTT.out;have q1':=frozen_of_row _ _ 1 _ _ HTT.out;have q2:=frozen_of_row _ _ (0+2) _ _ HTT.out;have q2':=frozen_of_row _ _ 2 _ _ HTT.out;have lg:=lt_heap HTT.out;clear hb hs))
          repeat (first|(go_big_may;((with_reducible apply store24 (g:=w.heap.size+2));rfl;(with_reducible rfl);rfl;rfl;(exact HES.out.hz);rfl;rfl))|go_values|go_skip|go_guarded|go_step|go_upon)
          ((try simp only [Exit.inBlock,Exit.then]);refine bodyPost_ret (v:=_) (results24q Tryz.results139 _ _ (w.heap.size+2) _ (.int .i64 0) (.int .i64 1) ?_ ?_ ?_ (row24 ?_) ?_) rfl ?_;rfl;rfl;rfl;(exact HES.out.hz);rfl;refine And.intro ?_ ?_;(rw [HE.out];rfl);exact (Below.setRow HES.out.bel (Nat.le_add_right _ _) _))
       ·have H60:Hid (false=saysP l (at_+1) [60]):=Lib.hid (by rw [saysP_one];exact (decide_eq_false h60).symm)
        have HE:=Lib.hid (show r=.error 1 from HR.out.trans (by rw [one_named];unfold namedP;rw [if_pos h60]))
        clear h60
        go_upto_region 74 with (first
         | (go_at_call 178;(with_reducible refine (es_is HES.out HP.out ⟨by omega,by omega⟩ HPT.out 107 107 true rfl rfl).mono ?_);rintro e w3 ⟨rfl,hE,hb⟩;clear k1 k2 k3 k4 l1 l2 l3 l4;have HES:=Lib.hid hE;obtain ⟨k1,k2,k3,k4,l1,l2,l3,l4⟩:=HES.out.facts;clear hb hE)
         | (go_at_call 61;(with_reducible refine (says_p ⟨#[60]⟩ (at_+1) false (HP.out _ HES.out.bel) (by decide) ⟨by omega,by omega⟩ H60.out).mono ?_);rintro e w3 ⟨rfl,hb,hs⟩;clear k1 k2 k3 k4 l1 l2 l3 l4;have HES:=Lib.hid (HES.out.next hb);obtain ⟨k1,k2,k3,k4,l1,l2,l3,l4⟩:=HES.out.facts;clear hb hs))
        repeat (first|(go_big_may;((with_reducible apply store24 (g:=w.heap.size+2));rfl;(with_reducible rfl);rfl;rfl;(exact HES.out.hz);rfl;rfl))|go_values|go_skip|go_guarded|go_step|go_upon)
        ((try simp only [Exit.inBlock,Exit.then]);refine bodyPost_ret (v:=_) (results24q Tryz.results139 _ _ (w.heap.size+2) _ (.int .i64 0) (.int .i64 1) ?_ ?_ ?_ (row24 ?_) ?_) rfl ?_;rfl;rfl;rfl;(exact HES.out.hz);rfl;refine And.intro ?_ ?_;(rw [HE.out];rfl);exact (Below.setRow HES.out.bel (Nat.le_add_right _ _) _))
      exact absurd HT.out.2.2 h107
end Go.Proofs.YtbiahhojnjchnaaGreat
