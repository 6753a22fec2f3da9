/- Opened of the reference: plain cases. -/
import Derived.Test.YtmjlmjlkghpknaaTkAJ
set_option linter.unusedVariables false
set_option linter.unusedSimpArgs false
namespace Go.Proofs.Ytmjlmjlkghpknaa
open Go.RowKit
def sign:Nat→List UInt8
 | 0=>[58]
 | 1=>[62]
 | 2=>[61]
 | 3=>[33]
 | 4=>[60,61]
 | _=>[60,33]
def kindN:Nat→Int
 | 0=>1
 | 1=>13
 | 2=>14
 | 3=>15
 | 4=>16
 | _=>17
def restO (l:List Int) (a:Int):TR:=if ptAt l a=60 then groupP l (a+1) else if ptAt l a=45 then optP (-1) l (a+1) else optP 1 l a
theorem sgn {l:List Int} {a:Int} {k:Nat} (h:∀ j,j < k→saysP l a (sign j)=false) (j:Nat) (hj:j < k):saysP l a (sign j)=false:=h j hj
theorem open_at {l:List Int} {at_:Int} {k:Nat} (hq:ptAt l at_=63) (hk:k < 6) (h:∀ j,j < k→saysP l (at_+1) (sign j)=false) (ht:saysP l (at_+1) (sign k)=true) :
  openP 1 l at_=.ok (openT (kindN k) 0 [],at_+1+((sign k).length:Int)):=by
 unfold openP
 rw [if_neg (by decide),if_neg (fun x=>x hq)]
 have e0:=fun hh=>h 0 hh
 have e1:=fun hh=>h 1 hh
 have e2:=fun hh=>h 2 hh
 have e3:=fun hh=>h 3 hh
 have e4:=fun hh=>h 4 hh
 have hk':k=0∨k=1∨k=2∨k=3∨k=4∨k=5:=by omega
 clear h hq
 rcases hk' with rfl|rfl|rfl|rfl|rfl|rfl<;>simp [sign,saysP_one,saysP_two] at ht e0 e1 e2 e3 e4
 ·rw [if_pos ht];rfl
 ·rw [if_neg e0,if_pos ht];rfl
 ·rw [if_neg e0,if_neg e1,if_pos ht];rfl
 ·rw [if_neg e0,if_neg e1,if_neg e2,if_pos ht];rfl
 ·rw [if_neg e0,if_neg e1,if_neg e2,if_neg e3,if_pos ht.1,if_pos ht.2];simp [sign,Int.add_assoc];rfl
 ·rw [if_neg e0,if_neg e1,if_neg e2,if_neg e3,if_pos ht.1,if_neg (e4 ht.1),if_pos ht.2];simp [sign,Int.add_assoc];rfl
theorem open_rest {l:List Int} {at_:Int} (hq:ptAt l at_=63) (h:∀ j,j < 6→saysP l (at_+1) (sign j)=false):openP 1 l at_=restO l (at_+1):=by
 unfold openP restO
 rw [if_neg (by decide),if_neg (fun x=>x hq)]
 have e0:=h 0 (by decide)
 have e1:=h 1 (by decide)
 have e2:=h 2 (by decide)
 have e3:=h 3 (by decide)
 have e4:=h 4 (by decide)
 have e5:=h 5 (by decide)
 clear h hq
 simp [sign,saysP_one,saysP_two] at e0 e1 e2 e3 e4 e5
 rw [if_neg e0,if_neg e1,if_neg e2,if_neg e3]
 by_cases h60:ptAt l (at_+1)=60
 ·rw [if_pos h60,if_pos h60,if_neg (e4 h60),if_neg (e5 h60)]
 ·rw [if_neg h60,if_neg h60]
theorem opt_right {l:List Int} {a f:Int} (h:saysP l a [105,41]=true):optP f l a=.ok ({ kind:=11,fold:=f },a+2):=by
 rw [saysP_two] at h;simp at h
 unfold optP
 rw [if_neg (fun x=>x h.1),if_pos h.2,Int.add_assoc];rfl
theorem opt_colon {l:List Int} {a f:Int} (h0:saysP l a [105,41]=false) (h:saysP l a [105,58]=true):optP f l a=.ok (openT 1 f [],a+2):=by
 rw [saysP_two] at h0 h;simp at h0 h
 unfold optP
 rw [if_neg (fun x=>x h.1),if_neg (h0 h.1),if_pos h.2,Int.add_assoc];rfl
theorem opt_none {l:List Int} {a f:Int} (h0:saysP l a [105,41]=false) (h:saysP l a [105,58]=false):optP f l a=.error 1:=by
 rw [saysP_two] at h0 h;simp at h0 h
 unfold optP
 split
 ·rfl
 ·rename_i h1
  have h1:ptAt l a=105:=Classical.not_not.1 h1
  rw [if_neg (h0 h1),if_neg (h h1)]
theorem results24w {fn:Func} {p u v:Tmp} (h:fn.results=#[.cell p 24,.tmp u,.tmp v]) (tmps:Array Value) (w:World) (g:Nat) (cs:Array Value) (x y:Value) (hp:tmps.getD p undef=.pointer (some ⟨g,0,none⟩)) (hu:tmps.getD u undef=x) (hv:tmps.getD v undef=y) (hg:w.heap[g]?=some (.cells cs 24 (0,0))) (hs:cs.size=8) :
  (results fn tmps).run Try.prog w=.ok (.tuple #[.agg cs,x,y]) w:=results24q h tmps w g cs x y hp hu hv hg hs
set_option maxRecDepth 100000 in
set_option maxHeartbeats 8000000 in
theorem opened21 (d at_:Int) (l:List Int) (A:Option Addr) (n c:Nat) (w:World) (h:Pts w.heap.size n c A l w) (h0:0≤at_) (h1:at_≤n) :
  Calls Try.prog 21 #[.int .i64 d,.slice A n c,.int .i64 at_] w fun e w'=>ROut (openP d l at_) e∧Below w.heap.size w w':=by
 have hsm:=h.small
 have hln:=h.len
 have HP:=Lib.hid (fun w' (hb:Below w.heap.size w w')=>h.next hb)
 have HP':=Lib.hid (fun w' (hb:Below w.heap.size w w')=>(h.next hb).more hb.size)
 have HBW:=Lib.hid (show Below w.heap.size w ((w.alloc (.cells #[.int .i64 0,.int .i64 0,.string ⟨#[]⟩,.bool false,.int .i64 0,.int .i64 0,.int .i64 0,.int .i64 0] 24)).alloc (.cells #[.int .i64 7,.int .i64 11,.string ⟨#[]⟩,.bool false,.int .i64 0,.int .i64 0,.int .i64 0,.int .i64 0] 24)) from ((Below.refl _ _).alloc (Nat.le_refl _) _).alloc (by simp) _)
 have HZW:=Lib.hid (show ((w.alloc (.cells #[.int .i64 0,.int .i64 0,.string ⟨#[]⟩,.bool false,.int .i64 0,.int .i64 0,.int .i64 0,.int .i64 0] 24)).alloc (.cells #[.int .i64 7,.int .i64 11,.string ⟨#[]⟩,.bool false,.int .i64 0,.int .i64 0,.int .i64 0,.int .i64 0] 24)).heap[w.heap.size]?=some Z24 from hz_alloc hz_new)
 have HTW:=Lib.hid (show ((w.alloc (.cells #[.int .i64 0,.int .i64 0,.string ⟨#[]⟩,.bool false,.int .i64 0,.int .i64 0,.int .i64 0,.int .i64 0] 24)).alloc (.cells #[.int .i64 7,.int .i64 11,.string ⟨#[]⟩,.bool false,.int .i64 0,.int .i64 0,.int .i64 0,.int .i64 0] 24)).heap[w.heap.size+1]?=some (.cells #[.int .i64 7,.int .i64 11,.string ⟨#[]⟩,.bool false,.int .i64 0,.int .i64 0,.int .i64 0,.int .i64 0] 24 (0,0)) by have:=heap_alloc_new (w.alloc (.cells #[.int .i64 0,.int .i64 0,.string ⟨#[]⟩,.bool false,.int .i64 0,.int .i64 0,.int .i64 0,.int .i64 0] 24)) (.cells #[.int .i64 7,.int .i64 11,.string ⟨#[]⟩,.bool false,.int .i64 0,.int .i64 0,.int .i64 0,.int .i64 0] 24);simpa using this)
 have hsW:((w.alloc (.cells #[.int .i64 0,.int .i64 0,.string ⟨#[]⟩,.bool false,.int .i64 0,.int .i64 0,.int .i64 0,.int .i64 0] 24)).alloc (.cells #[.int .i64 7,.int .i64 11,.string ⟨#[]⟩,.bool false,.int .i64 0,.int .i64 0,.int .i64 0,.int .i64 0] 24)).heap.size=w.heap.size+2:=by simp
 obtain ⟨W,hW⟩:∃ W,W=((w.alloc (.cells #[.int .i64 0,.int .i64 0,.string ⟨#[]⟩,.bool false,.int .i64 0,.int .i64 0,.int .i64 0,.int .i64 0] 24)).alloc (.cells #[.int .i64 7,.int .i64 11,.string ⟨#[]⟩,.bool false,.int .i64 0,.int .i64 0,.int .i64 0,.int .i64 0] 24)):=⟨_,rfl⟩
 have hq0:=pt_or l at_
 rw [hln] at hq0
 by_cases hd:d=1
 ·subst hd
  by_cases hq:ptAt l at_=63
  ·have hin:at_+1≤n:=by omega
   rw [← hW] at HBW HZW HTW hsW
   have HQ:Hid (true=saysP l at_ [63]):=Lib.hid (by rw [saysP_one];exact (decide_eq_true hq).symm)
   obtain ⟨r,hr⟩:∃ r,r=openP 1 l at_:=⟨_,rfl⟩
   have HR:=Lib.hid (fun k (a:k < 6) (b:∀ j,j < k→saysP l (at_+1) (sign j)=false) (e:saysP l (at_+1) (sign k)=true)=>hr.trans (open_at hq a b e))
   have HR6:=Lib.hid (fun (b:∀ j,j < 6→saysP l (at_+1) (sign j)=false)=>hr.trans (open_rest hq b))
   rw [← hr]
   clear hr hq h hq0
   go_enter Try.func21,Try.ntmps21
   go_wp2_with (first
    | (rw [← hW];clear hW;go_at_call 18;(with_reducible refine (says_p ⟨#[63]⟩ (at_) true (HP.out _ HBW.out) (by decide) ⟨by omega,by omega⟩ HQ.out).mono ?_);rintro e w1 ⟨rfl,hb,hs⟩;have hsw1:w1.heap.size=_:=hs.trans hsW;have HBw1:=Lib.hid (HBW.out.trans (hb.mono HBW.out.size));have HZw1:=Lib.hid ((hb.block w.heap.size (by omega)).trans HZW.out);have HTw1:=Lib.hid ((hb.block (w.heap.size+1) (by omega)).trans HTW.out);have hlw1:w.heap.size < w1.heap.size:=(by omega);have hmw1:w.heap.size+1 < w1.heap.size:=(by omega);clear hb hs))
   have HB2:=Lib.hid (show Below w.heap.size w ((w1.alloc (.cells #[.string ⟨#[58]⟩,.string ⟨#[62]⟩,.string ⟨#[61]⟩,.string ⟨#[33]⟩,.string ⟨#[60,61]⟩,.string ⟨#[60,33]⟩] 9)).alloc (.cells #[.int .i64 1,.int .i64 13,.int .i64 14,.int .i64 15,.int .i64 16,.int .i64 17] 3)) from (HBw1.out.alloc (by omega) _).alloc (by simp;omega) _)
   have HZ2:=Lib.hid (show ((w1.alloc (.cells #[.string ⟨#[58]⟩,.string ⟨#[62]⟩,.string ⟨#[61]⟩,.string ⟨#[33]⟩,.string ⟨#[60,61]⟩,.string ⟨#[60,33]⟩] 9)).alloc (.cells #[.int .i64 1,.int .i64 13,.int .i64 14,.int .i64 15,.int .i64 16,.int .i64 17] 3)).heap[w.heap.size]?=some Z24 from hz_alloc (hz_alloc HZw1.out))
   have HT2:=Lib.hid (show ((w1.alloc (.cells #[.string ⟨#[58]⟩,.string ⟨#[62]⟩,.string ⟨#[61]⟩,.string ⟨#[33]⟩,.string ⟨#[60,61]⟩,.string ⟨#[60,33]⟩] 9)).alloc (.cells #[.int .i64 1,.int .i64 13,.int .i64 14,.int .i64 15,.int .i64 16,.int .i64 17] 3)).heap[w.heap.size+1]?=some (.cells #[.int .i64 7,.int .i64 11,.string ⟨#[]⟩,.bool false,.int .i64 0,.int .i64 0,.int .i64 0,.int .i64 0] 24 (0,0)) from hz_alloc (hz_alloc HTw1.out))
   have HS2:=Lib.hid (show ((w1.alloc (.cells #[.string ⟨#[58]⟩,.string ⟨#[62]⟩,.string ⟨#[61]⟩,.string ⟨#[33]⟩,.string ⟨#[60,61]⟩,.string ⟨#[60,33]⟩] 9)).alloc (.cells #[.int .i64 1,.int .i64 13,.int .i64 14,.int .i64 15,.int .i64 16,.int .i64 17] 3)).heap[w.heap.size+2]?=some (.cells #[.string ⟨#[58]⟩,.string ⟨#[62]⟩,.string ⟨#[61]⟩,.string ⟨#[33]⟩,.string ⟨#[60,61]⟩,.string ⟨#[60,33]⟩] 9 (0,0)) from by rw [← hsw1];exact hz_alloc (heap_alloc_new w1 _))
   have HK2:=Lib.hid (show ((w1.alloc (.cells #[.string ⟨#[58]⟩,.string ⟨#[62]⟩,.string ⟨#[61]⟩,.string ⟨#[33]⟩,.string ⟨#[60,61]⟩,.string ⟨#[60,33]⟩] 9)).alloc (.cells #[.int .i64 1,.int .i64 13,.int .i64 14,.int .i64 15,.int .i64 16,.int .i64 17] 3)).heap[w.heap.size+3]?=some (.cells #[.int .i64 1,.int .i64 13,.int .i64 14,.int .i64 15,.int .i64 16,.int .i64 17] 3 (0,0)) from by have:=heap_alloc_new (w1.alloc (.cells #[.string ⟨#[58]⟩,.string ⟨#[62]⟩,.string ⟨#[61]⟩,.string ⟨#[33]⟩,.string ⟨#[60,61]⟩,.string ⟨#[60,33]⟩] 9)) (.cells #[.int .i64 1,.int .i64 13,.int .i64 14,.int .i64 15,.int .i64 16,.int .i64 17] 3);rw [show (World.alloc w1 (.cells #[.string ⟨#[58]⟩,.string ⟨#[62]⟩,.string ⟨#[61]⟩,.string ⟨#[33]⟩,.string ⟨#[60,61]⟩,.string ⟨#[60,33]⟩] 9)).heap.size=w.heap.size+3 from by simp;omega] at this;exact this)
   have hs2:((w1.alloc (.cells #[.string ⟨#[58]⟩,.string ⟨#[62]⟩,.string ⟨#[61]⟩,.string ⟨#[33]⟩,.string ⟨#[60,61]⟩,.string ⟨#[60,33]⟩] 9)).alloc (.cells #[.int .i64 1,.int .i64 13,.int .i64 14,.int .i64 15,.int .i64 16,.int .i64 17] 3)).heap.size=w.heap.size+4:=by simp;omega
   obtain ⟨W2,hW2⟩:∃ W2,W2=((w1.alloc (.cells #[.string ⟨#[58]⟩,.string ⟨#[62]⟩,.string ⟨#[61]⟩,.string ⟨#[33]⟩,.string ⟨#[60,61]⟩,.string ⟨#[60,33]⟩] 9)).alloc (.cells #[.int .i64 1,.int .i64 13,.int .i64 14,.int .i64 15,.int .i64 16,.int .i64 17] 3)):=⟨_,rfl⟩
   rw [← hW2] at HB2 HZ2 HT2 HS2 HK2 hs2 ⊢
   clear hW2
   try simp only [hsw1]
   go_loopw [12] (fun i wr=>∃ k:Nat,k≤6∧i=.int .i64 k∧Hid (∀ j,j < k→saysP l (at_+1) (sign j)=false)∧Below W2.heap.size W2 wr∧wr.heap.size=w.heap.size+4) (fun i _=>6 - (intOf i).toNat)
   case atStart=>exact ⟨0,by omega,rfl,Lib.hid (fun j hj=>absurd hj (Nat.not_lt_zero j)),Below.refl _ _,hs2⟩
   case round =>
    obtain ⟨k,hk6,rfl,hQ,hB,hsr⟩:=hrel
    have HBr:=Lib.hid (HB2.out.trans (hB.mono HB2.out.size))
    have HZr:=Lib.hid ((hB.block w.heap.size (by omega)).trans HZ2.out)
    have HTr:=Lib.hid ((hB.block (w.heap.size+1) (by omega)).trans HT2.out)
    have HSr:=Lib.hid ((hB.block (w.heap.size+2) (by omega)).trans HS2.out)
    have HKr:=Lib.hid ((hB.block (w.heap.size+3) (by omega)).trans HK2.out)
    have HB:=Lib.hid hB
    clear hB
    have hcase:k=0∨k=1∨k=2∨k=3∨k=4∨k=5∨k=6:=by omega
    rcases hcase with rfl|rfl|rfl|rfl|rfl|rfl|rfl
    ·have hcS:=cell_of_row _ _ 0 _ _ _ HSr.out
     have hcS0:wr.cell? ⟨w.heap.size+2,0,none⟩=some (.string ⟨#[58]⟩):=hcS
     clear hcS
     by_cases ht:saysP l (at_+1) [58]=true
     ·have HE:=Lib.hid (HR.out 0 (by decide) hQ.out ht)
      have HA:=Lib.hid ht.symm
      clear ht HR HR6
      go_wp2_with (first
       | (go_at_call 18;(with_reducible refine (says_p ⟨#[58]⟩ (at_+1) true (HP.out _ HBr.out) (by decide) ⟨by omega,by omega⟩ HA.out).mono ?_);rintro e w3 ⟨rfl,hb,hs⟩;have hsw3:w3.heap.size=_:=hs.trans hsr;have HBw3:=Lib.hid (HBr.out.trans (hb.mono HBr.out.size));have HZw3:=Lib.hid ((hb.block w.heap.size (by omega)).trans HZr.out);have HTw3:=Lib.hid ((hb.block (w.heap.size+1) (by omega)).trans HTr.out);have HSw3:=Lib.hid ((hb.block (w.heap.size+2) (by omega)).trans HSr.out);have HKw3:=Lib.hid ((hb.block (w.heap.size+3) (by omega)).trans HKr.out);have hnw3:w.heap.size+2 < w3.heap.size:=(by omega);have how3:w.heap.size+3 < w3.heap.size:=(by omega);have hlw3:w.heap.size < w3.heap.size:=(by omega);have hmw3:w.heap.size+1 < w3.heap.size:=(by omega);clear hb hs;obtain ⟨k1,k2,k3,k4,k5,k6,k7,k8⟩:=cells8 HTw3.out;have f1:=frozen_of_row _ _ (0+1) _ _ HTw3.out;have f1':=frozen_of_row _ _ 1 _ _ HTw3.out;have f2:=frozen_of_row _ _ (0+2) _ _ HTw3.out;have f2':=frozen_of_row _ _ 2 _ _ HTw3.out;have c3:w3.cell? ⟨w.heap.size+2,0,none⟩=some (.string ⟨#[58]⟩):=cell_of_row _ _ 0 _ _ _ HSw3.out;have c4:w3.cell? ⟨w.heap.size+3,0,none⟩=some (.int .i64 1):=cell_of_row _ _ 0 _ _ _ HKw3.out))
      obtain ⟨z1,z2,z3,z4,z5,z6,z7,z8⟩:=cells8 HZw3.out
      have g0:=frozen_of_row _ _ 0 _ _ HZw3.out
      have g1:=frozen_of_row _ _ (0+1) _ _ HZw3.out
      have g2:=frozen_of_row _ _ (0+2) _ _ HZw3.out
      have g3:=frozen_of_row _ _ (0+3) _ _ HZw3.out
      have g4:=frozen_of_row _ _ (0+4) _ _ HZw3.out
      have g5:=frozen_of_row _ _ (0+5) _ _ HZw3.out
      have g6:=frozen_of_row _ _ (0+6) _ _ HZw3.out
      have g7:=frozen_of_row _ _ (0+7) _ _ HZw3.out
      go_region
      go_wp2_with fail
      ((try simp only [Exit.inBlock,Exit.then]);refine bodyPost_ret (v:=_) (results24q Try.results21 _ _ w.heap.size (#[.int .i64 7,.int .i64 1,.string ⟨#[]⟩,.bool false,.int .i64 0,.int .i64 0,.int .i64 0,.int .i64 0]) (.int .i64 (at_+1+1)) (.int .i64 0) ?_ ?_ ?_ ?_ ?_) rfl ?_;rfl;rfl;rfl;(exact put24d (hz_set HZw3.out (by simp)));rfl;exact And.intro (by rw [HE.out];rfl) (put24d_below (HBw3.out.setCell (by simp) _) (Nat.le_refl _)))
     ·have hf:saysP l (at_+1) [58]=false:=by simpa using ht
      have HA:=Lib.hid hf.symm
      clear ht
      go_wp2_with (first
       | (go_at_call 18;(with_reducible refine (says_p ⟨#[58]⟩ (at_+1) false (HP.out _ HBr.out) (by decide) ⟨by omega,by omega⟩ HA.out).mono ?_);rintro e w3 ⟨rfl,hb,hs⟩;have hsw3:w3.heap.size=_:=hs.trans hsr;have HBw3:=Lib.hid (HBr.out.trans (hb.mono HBr.out.size));have HZw3:=Lib.hid ((hb.block w.heap.size (by omega)).trans HZr.out);have HTw3:=Lib.hid ((hb.block (w.heap.size+1) (by omega)).trans HTr.out);have HSw3:=Lib.hid ((hb.block (w.heap.size+2) (by omega)).trans HSr.out);have HKw3:=Lib.hid ((hb.block (w.heap.size+3) (by omega)).trans HKr.out);have hnw3:w.heap.size+2 < w3.heap.size:=(by omega);have how3:w.heap.size+3 < w3.heap.size:=(by omega);have hlw3:w.heap.size < w3.heap.size:=(by omega);have hmw3:w.heap.size+1 < w3.heap.size:=(by omega);have HBX:=Lib.hid (hb.mono (show W2.heap.size≤wr.heap.size by omega));clear hb hs))
      go_roundw
      case rel=>exact ⟨1,by omega,rfl,Lib.hid (fun j hj=>by rcases Nat.lt_succ_iff_lt_or_eq.1 (show j < 0+1 from hj) with hj|rfl;exact hQ.out j hj;exact hf),HB.out.trans HBX.out,hsw3⟩
      case measure=>simp [intOf]
    ·have hcS:=cell_of_row _ _ 1 _ _ _ HSr.out
     have hcS0:wr.cell? ⟨w.heap.size+2,1,none⟩=some (.string ⟨#[62]⟩):=hcS
     clear hcS
     by_cases ht:saysP l (at_+1) [62]=true
     ·have HE:=Lib.hid (HR.out 1 (by decide) hQ.out ht)
      have HA:=Lib.hid ht.symm
      clear ht HR HR6
      go_wp2_with (first
       | (go_at_call 18;(with_reducible refine (says_p ⟨#[62]⟩ (at_+1) true (HP.out _ HBr.out) (by decide) ⟨by omega,by omega⟩ HA.out).mono ?_);rintro e w3 ⟨rfl,hb,hs⟩;have hsw3:w3.heap.size=_:=hs.trans hsr;have HBw3:=Lib.hid (HBr.out.trans (hb.mono HBr.out.size));have HZw3:=Lib.hid ((hb.block w.heap.size (by omega)).trans HZr.out);have HTw3:=Lib.hid ((hb.block (w.heap.size+1) (by omega)).trans HTr.out);have HSw3:=Lib.hid ((hb.block (w.heap.size+2) (by omega)).trans HSr.out);have HKw3:=Lib.hid ((hb.block (w.heap.size+3) (by omega)).trans HKr.out);have hnw3:w.heap.size+2 < w3.heap.size:=(by omega);have how3:w.heap.size+3 < w3.heap.size:=(by omega);have hlw3:w.heap.size < w3.heap.size:=(by omega);have hmw3:w.heap.size+1 < w3.heap.size:=(by omega);clear hb hs;obtain ⟨k1,k2,k3,k4,k5,k6,k7,k8⟩:=cells8 HTw3.out;have f1:=frozen_of_row _ _ (0+1) _ _ HTw3.out;have f1':=frozen_of_row _ _ 1 _ _ HTw3.out;have f2:=frozen_of_row _ _ (0+2) _ _ HTw3.out;have f2':=frozen_of_row _ _ 2 _ _ HTw3.out;have c3:w3.cell? ⟨w.heap.size+2,1,none⟩=some (.string ⟨#[62]⟩):=cell_of_row _ _ 1 _ _ _ HSw3.out;have c4:w3.cell? ⟨w.heap.size+3,1,none⟩=some (.int .i64 13):=cell_of_row _ _ 1 _ _ _ HKw3.out))
      obtain ⟨z1,z2,z3,z4,z5,z6,z7,z8⟩:=cells8 HZw3.out
      have g0:=frozen_of_row _ _ 0 _ _ HZw3.out
      have g1:=frozen_of_row _ _ (0+1) _ _ HZw3.out
      have g2:=frozen_of_row _ _ (0+2) _ _ HZw3.out
      have g3:=frozen_of_row _ _ (0+3) _ _ HZw3.out
      have g4:=frozen_of_row _ _ (0+4) _ _ HZw3.out
      have g5:=frozen_of_row _ _ (0+5) _ _ HZw3.out
      have g6:=frozen_of_row _ _ (0+6) _ _ HZw3.out
      have g7:=frozen_of_row _ _ (0+7) _ _ HZw3.out
      go_region
      go_wp2_with fail
      ((try simp only [Exit.inBlock,Exit.then]);refine bodyPost_ret (v:=_) (results24q Try.results21 _ _ w.heap.size (#[.int .i64 7,.int .i64 13,.string ⟨#[]⟩,.bool false,.int .i64 0,.int .i64 0,.int .i64 0,.int .i64 0]) (.int .i64 (at_+1+1)) (.int .i64 0) ?_ ?_ ?_ ?_ ?_) rfl ?_;rfl;rfl;rfl;(exact put24d (hz_set HZw3.out (by simp)));rfl;exact And.intro (by rw [HE.out];rfl) (put24d_below (HBw3.out.setCell (by simp) _) (Nat.le_refl _)))
     ·have hf:saysP l (at_+1) [62]=false:=by simpa using ht
      have HA:=Lib.hid hf.symm
      clear ht
      go_wp2_with (first
       | (go_at_call 18;(with_reducible refine (says_p ⟨#[62]⟩ (at_+1) false (HP.out _ HBr.out) (by decide) ⟨by omega,by omega⟩ HA.out).mono ?_);rintro e w3 ⟨rfl,hb,hs⟩;have hsw3:w3.heap.size=_:=hs.trans hsr;have HBw3:=Lib.hid (HBr.out.trans (hb.mono HBr.out.size));have HZw3:=Lib.hid ((hb.block w.heap.size (by omega)).trans HZr.out);have HTw3:=Lib.hid ((hb.block (w.heap.size+1) (by omega)).trans HTr.out);have HSw3:=Lib.hid ((hb.block (w.heap.size+2) (by omega)).trans HSr.out);have HKw3:=Lib.hid ((hb.block (w.heap.size+3) (by omega)).trans HKr.out);have hnw3:w.heap.size+2 < w3.heap.size:=(by omega);have how3:w.heap.size+3 < w3.heap.size:=(by omega);have hlw3:w.heap.size < w3.heap.size:=(by omega);have hmw3:w.heap.size+1 < w3.heap.size:=(by omega);have HBX:=Lib.hid (hb.mono (show W2.heap.size≤wr.heap.size by omega));clear hb hs))
      go_roundw
      case rel=>exact ⟨2,by omega,rfl,Lib.hid (fun j hj=>by rcases Nat.lt_succ_iff_lt_or_eq.1 (show j < 1+1 from hj) with hj|rfl;exact hQ.out j hj;exact hf),HB.out.trans HBX.out,hsw3⟩
      case measure=>simp [intOf]
    ·have hcS:=cell_of_row _ _ 2 _ _ _ HSr.out
     have hcS0:wr.cell? ⟨w.heap.size+2,2,none⟩=some (.string ⟨#[61]⟩):=hcS
     clear hcS
     by_cases ht:saysP l (at_+1) [61]=true
     ·have HE:=Lib.hid (HR.out 2 (by decide) hQ.out ht)
      have HA:=Lib.hid ht.symm
      clear ht HR HR6
      go_wp2_with (first
       | (go_at_call 18;(with_reducible refine (says_p ⟨#[61]⟩ (at_+1) true (HP.out _ HBr.out) (by decide) ⟨by omega,by omega⟩ HA.out).mono ?_);rintro e w3 ⟨rfl,hb,hs⟩;have hsw3:w3.heap.size=_:=hs.trans hsr;have HBw3:=Lib.hid (HBr.out.trans (hb.mono HBr.out.size));have HZw3:=Lib.hid ((hb.block w.heap.size (by omega)).trans HZr.out);have HTw3:=Lib.hid ((hb.block (w.heap.size+1) (by omega)).trans HTr.out);have HSw3:=Lib.hid ((hb.block (w.heap.size+2) (by omega)).trans HSr.out);have HKw3:=Lib.hid ((hb.block (w.heap.size+3) (by omega)).trans HKr.out);have hnw3:w.heap.size+2 < w3.heap.size:=(by omega);have how3:w.heap.size+3 < w3.heap.size:=(by omega);have hlw3:w.heap.size < w3.heap.size:=(by omega);have hmw3:w.heap.size+1 < w3.heap.size:=(by omega);clear hb hs;obtain ⟨k1,k2,k3,k4,k5,k6,k7,k8⟩:=cells8 HTw3.out;have f1:=frozen_of_row _ _ (0+1) _ _ HTw3.out;have f1':=frozen_of_row _ _ 1 _ _ HTw3.out;have f2:=frozen_of_row _ _ (0+2) _ _ HTw3.out;have f2':=frozen_of_row _ _ 2 _ _ HTw3.out;have c3:w3.cell? ⟨w.heap.size+2,2,none⟩=some (.string ⟨#[61]⟩):=cell_of_row _ _ 2 _ _ _ HSw3.out;have c4:w3.cell? ⟨w.heap.size+3,2,none⟩=some (.int .i64 14):=cell_of_row _ _ 2 _ _ _ HKw3.out))
      obtain ⟨z1,z2,z3,z4,z5,z6,z7,z8⟩:=cells8 HZw3.out
      have g0:=frozen_of_row _ _ 0 _ _ HZw3.out
      have g1:=frozen_of_row _ _ (0+1) _ _ HZw3.out
      have g2:=frozen_of_row _ _ (0+2) _ _ HZw3.out
      have g3:=frozen_of_row _ _ (0+3) _ _ HZw3.out
      have g4:=frozen_of_row _ _ (0+4) _ _ HZw3.out
      have g5:=frozen_of_row _ _ (0+5) _ _ HZw3.out
      have g6:=frozen_of_row _ _ (0+6) _ _ HZw3.out
      have g7:=frozen_of_row _ _ (0+7) _ _ HZw3.out
      go_region
      go_wp2_with fail
      ((try simp only [Exit.inBlock,Exit.then]);refine bodyPost_ret (v:=_) (results24q Try.results21 _ _ w.heap.size (#[.int .i64 7,.int .i64 14,.string ⟨#[]⟩,.bool false,.int .i64 0,.int .i64 0,.int .i64 0,.int .i64 0]) (.int .i64 (at_+1+1)) (.int .i64 0) ?_ ?_ ?_ ?_ ?_) rfl ?_;rfl;rfl;rfl;(exact put24d (hz_set HZw3.out (by simp)));rfl;exact And.intro (by rw [HE.out];rfl) (put24d_below (HBw3.out.setCell (by simp) _) (Nat.le_refl _)))
     ·have hf:saysP l (at_+1) [61]=false:=by simpa using ht
      have HA:=Lib.hid hf.symm
      clear ht
      go_wp2_with (first
       | (go_at_call 18;(with_reducible refine (says_p ⟨#[61]⟩ (at_+1) false (HP.out _ HBr.out) (by decide) ⟨by omega,by omega⟩ HA.out).mono ?_);rintro e w3 ⟨rfl,hb,hs⟩;have hsw3:w3.heap.size=_:=hs.trans hsr;have HBw3:=Lib.hid (HBr.out.trans (hb.mono HBr.out.size));have HZw3:=Lib.hid ((hb.block w.heap.size (by omega)).trans HZr.out);have HTw3:=Lib.hid ((hb.block (w.heap.size+1) (by omega)).trans HTr.out);have HSw3:=Lib.hid ((hb.block (w.heap.size+2) (by omega)).trans HSr.out);have HKw3:=Lib.hid ((hb.block (w.heap.size+3) (by omega)).trans HKr.out);have hnw3:w.heap.size+2 < w3.heap.size:=(by omega);have how3:w.heap.size+3 < w3.heap.size:=(by omega);have hlw3:w.heap.size < w3.heap.size:=(by omega);have hmw3:w.heap.size+1 < w3.heap.size:=(by omega);have HBX:=Lib.hid (hb.mono (show W2.heap.size≤wr.heap.size by omega));clear hb hs))
      go_roundw
      case rel=>exact ⟨3,by omega,rfl,Lib.hid (fun j hj=>by rcases Nat.lt_succ_iff_lt_or_eq.1 (show j < 2+1 from hj) with hj|rfl;exact hQ.out j hj;exact hf),HB.out.trans HBX.out,hsw3⟩
      case measure=>simp [intOf]
    ·have hcS:=cell_of_row _ _ 3 _ _ _ HSr.out
     have hcS0:wr.cell? ⟨w.heap.size+2,3,none⟩=some (.string ⟨#[33]⟩):=hcS
     clear hcS
     by_cases ht:saysP l (at_+1) [33]=true
     ·have HE:=Lib.hid (HR.out 3 (by decide) hQ.out ht)
      have HA:=Lib.hid ht.symm
      clear ht HR HR6
      go_wp2_with (first
       | (go_at_call 18;(with_reducible refine (says_p ⟨#[33]⟩ (at_+1) true (HP.out _ HBr.out) (by decide) ⟨by omega,by omega⟩ HA.out).mono ?_);rintro e w3 ⟨rfl,hb,hs⟩;have hsw3:w3.heap.size=_:=hs.trans hsr;have HBw3:=Lib.hid (HBr.out.trans (hb.mono HBr.out.size));have HZw3:=Lib.hid ((hb.block w.heap.size (by omega)).trans HZr.out);have HTw3:=Lib.hid ((hb.block (w.heap.size+1) (by omega)).trans HTr.out);have HSw3:=Lib.hid ((hb.block (w.heap.size+2) (by omega)).trans HSr.out);have HKw3:=Lib.hid ((hb.block (w.heap.size+3) (by omega)).trans HKr.out);have hnw3:w.heap.size+2 < w3.heap.size:=(by omega);have how3:w.heap.size+3 < w3.heap.size:=(by omega);have hlw3:w.heap.size < w3.heap.size:=(by omega);have hmw3:w.heap.size+1 < w3.heap.size:=(by omega);clear hb hs;obtain ⟨k1,k2,k3,k4,k5,k6,k7,k8⟩:=cells8 HTw3.out;have f1:=frozen_of_row _ _ (0+1) _ _ HTw3.out;have f1':=frozen_of_row _ _ 1 _ _ HTw3.out;have f2:=frozen_of_row _ _ (0+2) _ _ HTw3.out;have f2':=frozen_of_row _ _ 2 _ _ HTw3.out;have c3:w3.cell? ⟨w.heap.size+2,3,none⟩=some (.string ⟨#[33]⟩):=cell_of_row _ _ 3 _ _ _ HSw3.out;have c4:w3.cell? ⟨w.heap.size+3,3,none⟩=some (.int .i64 15):=cell_of_row _ _ 3 _ _ _ HKw3.out))
      obtain ⟨z1,z2,z3,z4,z5,z6,z7,z8⟩:=cells8 HZw3.out
      have g0:=frozen_of_row _ _ 0 _ _ HZw3.out
      have g1:=frozen_of_row _ _ (0+1) _ _ HZw3.out
      have g2:=frozen_of_row _ _ (0+2) _ _ HZw3.out
      have g3:=frozen_of_row _ _ (0+3) _ _ HZw3.out
      have g4:=frozen_of_row _ _ (0+4) _ _ HZw3.out
      have g5:=frozen_of_row _ _ (0+5) _ _ HZw3.out
      have g6:=frozen_of_row _ _ (0+6) _ _ HZw3.out
      have g7:=frozen_of_row _ _ (0+7) _ _ HZw3.out
      go_region
      go_wp2_with fail
      ((try simp only [Exit.inBlock,Exit.then]);refine bodyPost_ret (v:=_) (results24q Try.results21 _ _ w.heap.size (#[.int .i64 7,.int .i64 15,.string ⟨#[]⟩,.bool false,.int .i64 0,.int .i64 0,.int .i64 0,.int .i64 0]) (.int .i64 (at_+1+1)) (.int .i64 0) ?_ ?_ ?_ ?_ ?_) rfl ?_;rfl;rfl;rfl;(exact put24d (hz_set HZw3.out (by simp)));rfl;exact And.intro (by rw [HE.out];rfl) (put24d_below (HBw3.out.setCell (by simp) _) (Nat.le_refl _)))
     ·have hf:saysP l (at_+1) [33]=false:=by simpa using ht
      have HA:=Lib.hid hf.symm
      clear ht
      go_wp2_with (first
       | (go_at_call 18;(with_reducible refine (says_p ⟨#[33]⟩ (at_+1) false (HP.out _ HBr.out) (by decide) ⟨by omega,by omega⟩ HA.out).mono ?_);rintro e w3 ⟨rfl,hb,hs⟩;have hsw3:w3.heap.size=_:=hs.trans hsr;have HBw3:=Lib.hid (HBr.out.trans (hb.mono HBr.out.size));have HZw3:=Lib.hid ((hb.block w.heap.size (by omega)).trans HZr.out);have HTw3:=Lib.hid ((hb.block (w.heap.size+1) (by omega)).trans HTr.out);have HSw3:=Lib.hid ((hb.block (w.heap.size+2) (by omega)).trans HSr.out);have HKw3:=Lib.hid ((hb.block (w.heap.size+3) (by omega)).trans HKr.out);have hnw3:w.heap.size+2 < w3.heap.size:=(by omega);have how3:w.heap.size+3 < w3.heap.size:=(by omega);have hlw3:w.heap.size < w3.heap.size:=(by omega);have hmw3:w.heap.size+1 < w3.heap.size:=(by omega);have HBX:=Lib.hid (hb.mono (show W2.heap.size≤wr.heap.size by omega));clear hb hs))
      go_roundw
      case rel=>exact ⟨4,by omega,rfl,Lib.hid (fun j hj=>by rcases Nat.lt_succ_iff_lt_or_eq.1 (show j < 3+1 from hj) with hj|rfl;exact hQ.out j hj;exact hf),HB.out.trans HBX.out,hsw3⟩
      case measure=>simp [intOf]
    ·have hcS:=cell_of_row _ _ 4 _ _ _ HSr.out
     have hcS0:wr.cell? ⟨w.heap.size+2,4,none⟩=some (.string ⟨#[60,61]⟩):=hcS
     clear hcS
     by_cases ht:saysP l (at_+1) [60,61]=true
     ·have HE:=Lib.hid (HR.out 4 (by decide) hQ.out ht)
      have HA:=Lib.hid ht.symm
      clear ht HR HR6
      go_wp2_with (first
       | (go_at_call 18;(with_reducible refine (says_p ⟨#[60,61]⟩ (at_+1) true (HP.out _ HBr.out) (by decide) ⟨by omega,by omega⟩ HA.out).mono ?_);rintro e w3 ⟨rfl,hb,hs⟩;have hsw3:w3.heap.size=_:=hs.trans hsr;have HBw3:=Lib.hid (HBr.out.trans (hb.mono HBr.out.size));have HZw3:=Lib.hid ((hb.block w.heap.size (by omega)).trans HZr.out);have HTw3:=Lib.hid ((hb.block (w.heap.size+1) (by omega)).trans HTr.out);have HSw3:=Lib.hid ((hb.block (w.heap.size+2) (by omega)).trans HSr.out);have HKw3:=Lib.hid ((hb.block (w.heap.size+3) (by omega)).trans HKr.out);have hnw3:w.heap.size+2 < w3.heap.size:=(by omega);have how3:w.heap.size+3 < w3.heap.size:=(by omega);have hlw3:w.heap.size < w3.heap.size:=(by omega);have hmw3:w.heap.size+1 < w3.heap.size:=(by omega);clear hb hs;obtain ⟨k1,k2,k3,k4,k5,k6,k7,k8⟩:=cells8 HTw3.out;have f1:=frozen_of_row _ _ (0+1) _ _ HTw3.out;have f1':=frozen_of_row _ _ 1 _ _ HTw3.out;have f2:=frozen_of_row _ _ (0+2) _ _ HTw3.out;have f2':=frozen_of_row _ _ 2 _ _ HTw3.out;have c3:w3.cell? ⟨w.heap.size+2,4,none⟩=some (.string ⟨#[60,61]⟩):=cell_of_row _ _ 4 _ _ _ HSw3.out;have c4:w3.cell? ⟨w.heap.size+3,4,none⟩=some (.int .i64 16):=cell_of_row _ _ 4 _ _ _ HKw3.out))
      obtain ⟨z1,z2,z3,z4,z5,z6,z7,z8⟩:=cells8 HZw3.out
      have g0:=frozen_of_row _ _ 0 _ _ HZw3.out
      have g1:=frozen_of_row _ _ (0+1) _ _ HZw3.out
      have g2:=frozen_of_row _ _ (0+2) _ _ HZw3.out
      have g3:=frozen_of_row _ _ (0+3) _ _ HZw3.out
      have g4:=frozen_of_row _ _ (0+4) _ _ HZw3.out
      have g5:=frozen_of_row _ _ (0+5) _ _ HZw3.out
      have g6:=frozen_of_row _ _ (0+6) _ _ HZw3.out
      have g7:=frozen_of_row _ _ (0+7) _ _ HZw3.out
      go_region
      go_wp2_with fail
      ((try simp only [Exit.inBlock,Exit.then]);refine bodyPost_ret (v:=_) (results24q Try.results21 _ _ w.heap.size (#[.int .i64 7,.int .i64 16,.string ⟨#[]⟩,.bool false,.int .i64 0,.int .i64 0,.int .i64 0,.int .i64 0]) (.int .i64 (at_+1+2)) (.int .i64 0) ?_ ?_ ?_ ?_ ?_) rfl ?_;rfl;rfl;rfl;(exact put24d (hz_set HZw3.out (by simp)));rfl;exact And.intro (by rw [HE.out];rfl) (put24d_below (HBw3.out.setCell (by simp) _) (Nat.le_refl _)))
     ·have hf:saysP l (at_+1) [60,61]=false:=by simpa using ht
      have HA:=Lib.hid hf.symm
      clear ht
      go_wp2_with (first
       | (go_at_call 18;(with_reducible refine (says_p ⟨#[60,61]⟩ (at_+1) false (HP.out _ HBr.out) (by decide) ⟨by omega,by omega⟩ HA.out).mono ?_);rintro e w3 ⟨rfl,hb,hs⟩;have hsw3:w3.heap.size=_:=hs.trans hsr;have HBw3:=Lib.hid (HBr.out.trans (hb.mono HBr.out.size));have HZw3:=Lib.hid ((hb.block w.heap.size (by omega)).trans HZr.out);have HTw3:=Lib.hid ((hb.block (w.heap.size+1) (by omega)).trans HTr.out);have HSw3:=Lib.hid ((hb.block (w.heap.size+2) (by omega)).trans HSr.out);have HKw3:=Lib.hid ((hb.block (w.heap.size+3) (by omega)).trans HKr.out);have hnw3:w.heap.size+2 < w3.heap.size:=(by omega);have how3:w.heap.size+3 < w3.heap.size:=(by omega);have hlw3:w.heap.size < w3.heap.size:=(by omega);have hmw3:w.heap.size+1 < w3.heap.size:=(by omega);have HBX:=Lib.hid (hb.mono (show W2.heap.size≤wr.heap.size by omega));clear hb hs))
      go_roundw
      case rel=>exact ⟨5,by omega,rfl,Lib.hid (fun j hj=>by rcases Nat.lt_succ_iff_lt_or_eq.1 (show j < 4+1 from hj) with hj|rfl;exact hQ.out j hj;exact hf),HB.out.trans HBX.out,hsw3⟩
      case measure=>simp [intOf]
    ·have hcS:=cell_of_row _ _ 5 _ _ _ HSr.out
     have hcS0:wr.cell? ⟨w.heap.size+2,5,none⟩=some (.string ⟨#[60,33]⟩):=hcS
     clear hcS
     by_cases ht:saysP l (at_+1) [60,33]=true
     ·have HE:=Lib.hid (HR.out 5 (by decide) hQ.out ht)
      have HA:=Lib.hid ht.symm
      clear ht HR HR6
      go_wp2_with (first
       | (go_at_call 18;(with_reducible refine (says_p ⟨#[60,33]⟩ (at_+1) true (HP.out _ HBr.out) (by decide) ⟨by omega,by omega⟩ HA.out).mono ?_);rintro e w3 ⟨rfl,hb,hs⟩;have hsw3:w3.heap.size=_:=hs.trans hsr;have HBw3:=Lib.hid (HBr.out.trans (hb.mono HBr.out.size));have HZw3:=Lib.hid ((hb.block w.heap.size (by omega)).trans HZr.out);have HTw3:=Lib.hid ((hb.block (w.heap.size+1) (by omega)).trans HTr.out);have HSw3:=Lib.hid ((hb.block (w.heap.size+2) (by omega)).trans HSr.out);have HKw3:=Lib.hid ((hb.block (w.heap.size+3) (by omega)).trans HKr.out);have hnw3:w.heap.size+2 < w3.heap.size:=(by omega);have how3:w.heap.size+3 < w3.heap.size:=(by omega);have hlw3:w.heap.size < w3.heap.size:=(by omega);have hmw3:w.heap.size+1 < w3.heap.size:=(by omega);clear hb hs;obtain ⟨k1,k2,k3,k4,k5,k6,k7,k8⟩:=cells8 HTw3.out;have f1:=frozen_of_row _ _ (0+1) _ _ HTw3.out;have f1':=frozen_of_row _ _ 1 _ _ HTw3.out;have f2:=frozen_of_row _ _ (0+2) _ _ HTw3.out;have f2':=frozen_of_row _ _ 2 _ _ HTw3.out;have c3:w3.cell? ⟨w.heap.size+2,5,none⟩=some (.string ⟨#[60,33]⟩):=cell_of_row _ _ 5 _ _ _ HSw3.out;have c4:w3.cell? ⟨w.heap.size+3,5,none⟩=some (.int .i64 17):=cell_of_row _ _ 5 _ _ _ HKw3.out))
      obtain ⟨z1,z2,z3,z4,z5,z6,z7,z8⟩:=cells8 HZw3.out
      have g0:=frozen_of_row _ _ 0 _ _ HZw3.out
      have g1:=frozen_of_row _ _ (0+1) _ _ HZw3.out
      have g2:=frozen_of_row _ _ (0+2) _ _ HZw3.out
      have g3:=frozen_of_row _ _ (0+3) _ _ HZw3.out
      have g4:=frozen_of_row _ _ (0+4) _ _ HZw3.out
      have g5:=frozen_of_row _ _ (0+5) _ _ HZw3.out
      have g6:=frozen_of_row _ _ (0+6) _ _ HZw3.out
      have g7:=frozen_of_row _ _ (0+7) _ _ HZw3.out
      go_region
      go_wp2_with fail
      ((try simp only [Exit.inBlock,Exit.then]);refine bodyPost_ret (v:=_) (results24q Try.results21 _ _ w.heap.size (#[.int .i64 7,.int .i64 17,.string ⟨#[]⟩,.bool false,.int .i64 0,.int .i64 0,.int .i64 0,.int .i64 0]) (.int .i64 (at_+1+2)) (.int .i64 0) ?_ ?_ ?_ ?_ ?_) rfl ?_;rfl;rfl;rfl;(exact put24d (hz_set HZw3.out (by simp)));rfl;exact And.intro (by rw [HE.out];rfl) (put24d_below (HBw3.out.setCell (by simp) _) (Nat.le_refl _)))
     ·have hf:saysP l (at_+1) [60,33]=false:=by simpa using ht
      have HA:=Lib.hid hf.symm
      clear ht
      go_wp2_with (first
       | (go_at_call 18;(with_reducible refine (says_p ⟨#[60,33]⟩ (at_+1) false (HP.out _ HBr.out) (by decide) ⟨by omega,by omega⟩ HA.out).mono ?_);rintro e w3 ⟨rfl,hb,hs⟩;have hsw3:w3.heap.size=_:=hs.trans hsr;have HBw3:=Lib.hid (HBr.out.trans (hb.mono HBr.out.size));have HZw3:=Lib.hid ((hb.block w.heap.size (by omega)).trans HZr.out);have HTw3:=Lib.hid ((hb.block (w.heap.size+1) (by omega)).trans HTr.out);have HSw3:=Lib.hid ((hb.block (w.heap.size+2) (by omega)).trans HSr.out);have HKw3:=Lib.hid ((hb.block (w.heap.size+3) (by omega)).trans HKr.out);have hnw3:w.heap.size+2 < w3.heap.size:=(by omega);have how3:w.heap.size+3 < w3.heap.size:=(by omega);have hlw3:w.heap.size < w3.heap.size:=(by omega);have hmw3:w.heap.size+1 < w3.heap.size:=(by omega);have HBX:=Lib.hid (hb.mono (show W2.heap.size≤wr.heap.size by omega));clear hb hs))
      go_roundw
      case rel=>exact ⟨6,by omega,rfl,Lib.hid (fun j hj=>by rcases Nat.lt_succ_iff_lt_or_eq.1 (show j < 5+1 from hj) with hj|rfl;exact hQ.out j hj;exact hf),HB.out.trans HBX.out,hsw3⟩
      case measure=>simp [intOf]
    ·have HE:=Lib.hid (HR6.out hQ.out)
     clear HR HR6 hQ
     have hq1:=pt_or l (at_+1)
     have hq2:=pt_or l (at_+1+1)
     rw [hln] at hq1 hq2
     by_cases h60:ptAt l (at_+1)=60
     ·have H60:Hid (true=saysP l (at_+1) [60]):=Lib.hid (by rw [saysP_one];exact (decide_eq_true h60).symm)
      have HG:=Lib.hid (show restO l (at_+1)=groupP l (at_+1+1) by unfold restO;rw [if_pos h60])
      have hnl:=name_le l (at_+1+1) (by omega)
      rw [hln] at hnl
      obtain ⟨nl,hnl0⟩:∃ x,x=nameLen l (at_+1+1):=⟨_,rfl⟩
      have HN0:=Lib.hid hnl0
      have CN:=Lib.hid (fun w' (hb:Below w.heap.size w w')=>name_r (at_+1+1) (HP.out w' hb) hb.size)
      rw [← hnl0] at CN hnl
      clear hnl0 h60
      by_cases hn0:nl=0
      ·have HE2:Hid (r=.error 1):=Lib.hid (by rw [HE.out,HG.out];unfold groupP;rw [← HN0.out,if_pos hn0])
       have CN:=Lib.hid (show ∀ w',Below w.heap.size w w'→Calls Try.prog 34 #[.slice A n c,.int .i64 (at_+1+1)] w' fun e w''=>e=.returned (.tuple #[.string ⟨#[]⟩,.int .i64 (at_+1+1)])∧Below w'.heap.size w' w'' from fun w' hb=>by have:=CN.out w' hb;rw [hn0] at this;simpa [runPts,bytesP] using this)
       clear HE HG HN0 hn0
       go_wp2_with (first
        | (go_at_call 18;(with_reducible refine (says_p ⟨#[60]⟩ (at_+1) true (HP.out _ HBr.out) (by decide) ⟨by omega,by omega⟩ H60.out).mono ?_);rintro e w3 ⟨rfl,hb,hs⟩;have hsw3:w3.heap.size=_:=hs.trans hsr;have HBw3:=Lib.hid (HBr.out.trans (hb.mono HBr.out.size));have HZw3:=Lib.hid ((hb.block w.heap.size (by omega)).trans HZr.out);have HTw3:=Lib.hid ((hb.block (w.heap.size+1) (by omega)).trans HTr.out);have hlw3:w.heap.size < w3.heap.size:=(by omega);have hmw3:w.heap.size+1 < w3.heap.size:=(by omega);clear hb hs)
        | (go_at_call 34;(with_reducible refine (CN.out _ HBw3.out).mono ?_);rintro e w4 ⟨rfl,hb⟩;have hsz:=hb.size;have HBw4:=Lib.hid (HBw3.out.trans (hb.mono HBw3.out.size));have HZw4:=Lib.hid ((hb.block w.heap.size (by omega)).trans HZw3.out);have HTw4:=Lib.hid ((hb.block (w.heap.size+1) (by omega)).trans HTw3.out);have hlw4:w.heap.size < w4.heap.size:=(by omega);have hmw4:w.heap.size+1 < w4.heap.size:=(by omega);clear hb)
        | ((with_reducible apply store24 (g:=w.heap.size));rfl;(with_reducible rfl);rfl;rfl;(exact HZw4.out);rfl;rfl))
       ((try simp only [Exit.inBlock,Exit.then]);refine bodyPost_ret (v:=_) (results24q Try.results21 _ _ w.heap.size _ (.int .i64 0) (.int .i64 1) ?_ ?_ ?_ (row24 ?_) ?_) rfl ?_;rfl;rfl;rfl;(exact HZw4.out);rfl;exact And.intro (by rw [HE2.out];rfl) (Below.setRow (HBw4.out) (Nat.le_refl _) _))
      ·have hbs:(bytesP (runPts l (at_+1+1) nl)).toArray≠#[]:=by
        intro hx
        have:=congrArg Array.size hx
        simp [bytesP,runPts] at this
        exact hn0 this
       obtain ⟨bs,hbs0⟩:∃ x,x=(bytesP (runPts l (at_+1+1) nl)).toArray:=⟨_,rfl⟩
       have HBS:=Lib.hid hbs0
       rw [← hbs0] at CN hbs
       have hbe:¬ (ByteArray.mk bs).toList=[]:=by rw [ByteArray.toList_eq];simpa using hbs
       have hbe2:(ByteArray.mk bs).toList.isEmpty=false:=by rw [ByteArray.toList_eq];simpa using hbs
       clear hbs0 hbs
       by_cases h62:ptAt l (at_+1+1+(nl:Int))=62
       ·have hq3:=pt_or l (at_+1+1+(nl:Int))
        rw [hln] at hq3
        have H62:Hid (true=saysP l (at_+1+1+(nl:Int)) [62]):=Lib.hid (by rw [saysP_one];exact (decide_eq_true h62).symm)
        have HE2:Hid (r=.ok (openT 11 0 (bytesP (runPts l (at_+1+1) nl)),at_+1+1+nl+1)):=Lib.hid (by rw [HE.out,HG.out];unfold groupP;rw [← HN0.out,if_neg hn0,if_pos h62])
        clear HE HG HN0 hn0 h62
        go_wp2_with (first
         | (go_at_call 18;(with_reducible refine (says_p ⟨#[60]⟩ (at_+1) true (HP.out _ HBr.out) (by decide) ⟨by omega,by omega⟩ H60.out).mono ?_);rintro e w3 ⟨rfl,hb,hs⟩;have hsw3:w3.heap.size=_:=hs.trans hsr;have HBw3:=Lib.hid (HBr.out.trans (hb.mono HBr.out.size));have HZw3:=Lib.hid ((hb.block w.heap.size (by omega)).trans HZr.out);have HTw3:=Lib.hid ((hb.block (w.heap.size+1) (by omega)).trans HTr.out);have hlw3:w.heap.size < w3.heap.size:=(by omega);have hmw3:w.heap.size+1 < w3.heap.size:=(by omega);clear hb hs)
         | (go_at_call 34;(with_reducible refine (CN.out _ HBw3.out).mono ?_);rintro e w4 ⟨rfl,hb⟩;have hsz:=hb.size;have HBw4:=Lib.hid (HBw3.out.trans (hb.mono HBw3.out.size));have HZw4:=Lib.hid ((hb.block w.heap.size (by omega)).trans HZw3.out);have HTw4:=Lib.hid ((hb.block (w.heap.size+1) (by omega)).trans HTw3.out);have hlw4:w.heap.size < w4.heap.size:=(by omega);have hmw4:w.heap.size+1 < w4.heap.size:=(by omega);clear hb)
         | (go_at_call 18;(with_reducible refine (says_p ⟨#[62]⟩ (at_+1+1+(nl:Int)) true (HP.out _ HBw4.out) (by decide) ⟨by omega,by omega⟩ H62.out).mono ?_);rintro e w5 ⟨rfl,hb,hs⟩;have HBw5:=Lib.hid (HBw4.out.trans (hb.mono HBw4.out.size));have HZw5:=Lib.hid ((hb.block w.heap.size (by omega)).trans HZw4.out);have HTw5:=Lib.hid ((hb.block (w.heap.size+1) (by omega)).trans HTw4.out);have hlw5:w.heap.size < w5.heap.size:=(by omega);have hmw5:w.heap.size+1 < w5.heap.size:=(by omega);clear hb hs;obtain ⟨k1,k2,k3,k4,k5,k6,k7,k8⟩:=cells8 HTw5.out;have f1:=frozen_of_row _ _ (0+1) _ _ HTw5.out;have f1':=frozen_of_row _ _ 1 _ _ HTw5.out;have f2:=frozen_of_row _ _ (0+2) _ _ HTw5.out;have f2':=frozen_of_row _ _ 2 _ _ HTw5.out)
         | ((with_reducible apply store24 (g:=w.heap.size));rfl;(with_reducible rfl);rfl;rfl;(exact hz_set HZw5.out (by simp));rfl;rfl))
        ((try simp only [Exit.inBlock,Exit.then]);refine bodyPost_ret (v:=_) (results24q Try.results21 _ _ w.heap.size _ (.int .i64 (at_+1+1+nl+1)) (.int .i64 0) ?_ ?_ ?_ (row24 ?_) ?_) rfl ?_;rfl;rfl;rfl;(exact hz_set HZw5.out (by simp));rfl;exact And.intro (by rw [HE2.out,HBS.out];rfl) (Below.setRow (HBw5.out.setCell (by simp) _) (Nat.le_refl _) _))
       ·have H62:Hid (false=saysP l (at_+1+1+(nl:Int)) [62]):=Lib.hid (by rw [saysP_one];exact (decide_eq_false h62).symm)
        have HE2:Hid (r=.error 1):=Lib.hid (by rw [HE.out,HG.out];unfold groupP;rw [← HN0.out,if_neg hn0,if_neg h62])
        clear HE HG HN0 hn0 h62
        go_wp2_with (first
         | (go_at_call 18;(with_reducible refine (says_p ⟨#[60]⟩ (at_+1) true (HP.out _ HBr.out) (by decide) ⟨by omega,by omega⟩ H60.out).mono ?_);rintro e w3 ⟨rfl,hb,hs⟩;have hsw3:w3.heap.size=_:=hs.trans hsr;have HBw3:=Lib.hid (HBr.out.trans (hb.mono HBr.out.size));have HZw3:=Lib.hid ((hb.block w.heap.size (by omega)).trans HZr.out);have HTw3:=Lib.hid ((hb.block (w.heap.size+1) (by omega)).trans HTr.out);have hlw3:w.heap.size < w3.heap.size:=(by omega);have hmw3:w.heap.size+1 < w3.heap.size:=(by omega);clear hb hs)
         | (go_at_call 34;(with_reducible refine (CN.out _ HBw3.out).mono ?_);rintro e w4 ⟨rfl,hb⟩;have hsz:=hb.size;have HBw4:=Lib.hid (HBw3.out.trans (hb.mono HBw3.out.size));have HZw4:=Lib.hid ((hb.block w.heap.size (by omega)).trans HZw3.out);have HTw4:=Lib.hid ((hb.block (w.heap.size+1) (by omega)).trans HTw3.out);have hlw4:w.heap.size < w4.heap.size:=(by omega);have hmw4:w.heap.size+1 < w4.heap.size:=(by omega);clear hb)
         | (go_at_call 18;(with_reducible refine (says_p ⟨#[62]⟩ (at_+1+1+(nl:Int)) false (HP.out _ HBw4.out) (by decide) ⟨by omega,by omega⟩ H62.out).mono ?_);rintro e w5 ⟨rfl,hb,hs⟩;have HBw5:=Lib.hid (HBw4.out.trans (hb.mono HBw4.out.size));have HZw5:=Lib.hid ((hb.block w.heap.size (by omega)).trans HZw4.out);have HTw5:=Lib.hid ((hb.block (w.heap.size+1) (by omega)).trans HTw4.out);have hlw5:w.heap.size < w5.heap.size:=(by omega);have hmw5:w.heap.size+1 < w5.heap.size:=(by omega);clear hb hs)
         | ((with_reducible apply store24 (g:=w.heap.size));rfl;(with_reducible rfl);rfl;rfl;(exact HZw5.out);rfl;rfl))
        ((try simp only [Exit.inBlock,Exit.then]);refine bodyPost_ret (v:=_) (results24q Try.results21 _ _ w.heap.size _ (.int .i64 0) (.int .i64 1) ?_ ?_ ?_ (row24 ?_) ?_) rfl ?_;rfl;rfl;rfl;(exact HZw5.out);rfl;exact And.intro (by rw [HE2.out];rfl) (Below.setRow (HBw5.out) (Nat.le_refl _) _))
     ·have H60:Hid (false=saysP l (at_+1) [60]):=Lib.hid (by rw [saysP_one];exact (decide_eq_false h60).symm)
      by_cases h45:ptAt l (at_+1)=45
      ·have H45:Hid (true=saysP l (at_+1) [45]):=Lib.hid (by rw [saysP_one];exact (decide_eq_true h45).symm)
       have HG:=Lib.hid (show restO l (at_+1)=optP (-1) l (at_+1+1) by unfold restO;rw [if_neg h60,if_pos h45])
       clear h60
       by_cases o1:saysP l (at_+1+1) [105,41]=true
       ·have O1:=Lib.hid o1.symm
        have HE2:Hid (r=.ok ({ kind:=11,fold:=-1 },at_+1+1+2)):=Lib.hid (by rw [HE.out,HG.out];exact opt_right o1)
        clear HE HG
        go_wp2_with (first
         | (go_at_call 18;(with_reducible refine (says_p ⟨#[60]⟩ (at_+1) false (HP.out _ HBr.out) (by decide) ⟨by omega,by omega⟩ H60.out).mono ?_);rintro e w3 ⟨rfl,hb,hs⟩;have hsw3:w3.heap.size=_:=hs.trans hsr;have HBw3:=Lib.hid (HBr.out.trans (hb.mono HBr.out.size));have HZw3:=Lib.hid ((hb.block w.heap.size (by omega)).trans HZr.out);have HTw3:=Lib.hid ((hb.block (w.heap.size+1) (by omega)).trans HTr.out);have hlw3:w.heap.size < w3.heap.size:=(by omega);have hmw3:w.heap.size+1 < w3.heap.size:=(by omega);clear hb hs)
         | (go_at_call 18;(with_reducible refine (says_p ⟨#[45]⟩ (at_+1) true (HP.out _ HBw3.out) (by decide) ⟨by omega,by omega⟩ H45.out).mono ?_);rintro e w4 ⟨rfl,hb,hs⟩;have hsw4:w4.heap.size=_:=hs.trans hsw3;have HBw4:=Lib.hid (HBw3.out.trans (hb.mono HBw3.out.size));have HZw4:=Lib.hid ((hb.block w.heap.size (by omega)).trans HZw3.out);have HTw4:=Lib.hid ((hb.block (w.heap.size+1) (by omega)).trans HTw3.out);have hlw4:w.heap.size < w4.heap.size:=(by omega);have hmw4:w.heap.size+1 < w4.heap.size:=(by omega);clear hb hs)
         | (go_at_call 18;(with_reducible refine (says_p ⟨#[105,41]⟩ (at_+1+1) true (HP.out _ HBw4.out) (by decide) ⟨by omega,by omega⟩ O1.out).mono ?_);rintro e w5 ⟨rfl,hb,hs⟩;have hsw5:w5.heap.size=_:=hs.trans hsw4;have HBw5:=Lib.hid (HBw4.out.trans (hb.mono HBw4.out.size));have HZw5:=Lib.hid ((hb.block w.heap.size (by omega)).trans HZw4.out);have HTw5:=Lib.hid ((hb.block (w.heap.size+1) (by omega)).trans HTw4.out);have hlw5:w.heap.size < w5.heap.size:=(by omega);have hmw5:w.heap.size+1 < w5.heap.size:=(by omega);clear hb hs)
         | ((with_reducible apply store24 (g:=w.heap.size));rfl;(with_reducible rfl);rfl;rfl;(exact HZw5.out);rfl;rfl))
        ((try simp only [Exit.inBlock,Exit.then]);refine bodyPost_ret (v:=_) (results24q Try.results21 _ _ w.heap.size _ (.int .i64 (at_+1+1+2)) (.int .i64 0) ?_ ?_ ?_ (row24 ?_) ?_) rfl ?_;rfl;rfl;rfl;(exact HZw5.out);rfl;exact And.intro (by rw [HE2.out];rfl) (Below.setRow (HBw5.out) (Nat.le_refl _) _))
       ·have o1:saysP l (at_+1+1) [105,41]=false:=by simpa using o1
        have O1:=Lib.hid o1.symm
        by_cases o2:saysP l (at_+1+1) [105,58]=true
        ·have O2:=Lib.hid o2.symm
         have HE2:Hid (r=.ok (openT 1 (-1) [],at_+1+1+2)):=Lib.hid (by rw [HE.out,HG.out];exact opt_colon o1 o2)
         clear HE HG
         go_wp2_with (first
          | (go_at_call 18;(with_reducible refine (says_p ⟨#[60]⟩ (at_+1) false (HP.out _ HBr.out) (by decide) ⟨by omega,by omega⟩ H60.out).mono ?_);rintro e w3 ⟨rfl,hb,hs⟩;have hsw3:w3.heap.size=_:=hs.trans hsr;have HBw3:=Lib.hid (HBr.out.trans (hb.mono HBr.out.size));have HZw3:=Lib.hid ((hb.block w.heap.size (by omega)).trans HZr.out);have HTw3:=Lib.hid ((hb.block (w.heap.size+1) (by omega)).trans HTr.out);have hlw3:w.heap.size < w3.heap.size:=(by omega);have hmw3:w.heap.size+1 < w3.heap.size:=(by omega);clear hb hs)
          | (go_at_call 18;(with_reducible refine (says_p ⟨#[45]⟩ (at_+1) true (HP.out _ HBw3.out) (by decide) ⟨by omega,by omega⟩ H45.out).mono ?_);rintro e w4 ⟨rfl,hb,hs⟩;have hsw4:w4.heap.size=_:=hs.trans hsw3;have HBw4:=Lib.hid (HBw3.out.trans (hb.mono HBw3.out.size));have HZw4:=Lib.hid ((hb.block w.heap.size (by omega)).trans HZw3.out);have HTw4:=Lib.hid ((hb.block (w.heap.size+1) (by omega)).trans HTw3.out);have hlw4:w.heap.size < w4.heap.size:=(by omega);have hmw4:w.heap.size+1 < w4.heap.size:=(by omega);clear hb hs)
          | (go_at_call 18;(with_reducible refine (says_p ⟨#[105,41]⟩ (at_+1+1) false (HP.out _ HBw4.out) (by decide) ⟨by omega,by omega⟩ O1.out).mono ?_);rintro e w5 ⟨rfl,hb,hs⟩;have hsw5:w5.heap.size=_:=hs.trans hsw4;have HBw5:=Lib.hid (HBw4.out.trans (hb.mono HBw4.out.size));have HZw5:=Lib.hid ((hb.block w.heap.size (by omega)).trans HZw4.out);have HTw5:=Lib.hid ((hb.block (w.heap.size+1) (by omega)).trans HTw4.out);have hlw5:w.heap.size < w5.heap.size:=(by omega);have hmw5:w.heap.size+1 < w5.heap.size:=(by omega);clear hb hs)
          | (go_at_call 18;(with_reducible refine (says_p ⟨#[105,58]⟩ (at_+1+1) true (HP.out _ HBw5.out) (by decide) ⟨by omega,by omega⟩ O2.out).mono ?_);rintro e w6 ⟨rfl,hb,hs⟩;have hsw6:w6.heap.size=_:=hs.trans hsw5;have HBw6:=Lib.hid (HBw5.out.trans (hb.mono HBw5.out.size));have HZw6:=Lib.hid ((hb.block w.heap.size (by omega)).trans HZw5.out);have HTw6:=Lib.hid ((hb.block (w.heap.size+1) (by omega)).trans HTw5.out);have hlw6:w.heap.size < w6.heap.size:=(by omega);have hmw6:w.heap.size+1 < w6.heap.size:=(by omega);clear hb hs)
          | ((with_reducible apply store24 (g:=w.heap.size));rfl;(with_reducible rfl);rfl;rfl;(exact HZw6.out);rfl;rfl))
         ((try simp only [Exit.inBlock,Exit.then]);refine bodyPost_ret (v:=_) (results24q Try.results21 _ _ w.heap.size _ (.int .i64 (at_+1+1+2)) (.int .i64 0) ?_ ?_ ?_ (row24 ?_) ?_) rfl ?_;rfl;rfl;rfl;(exact HZw6.out);rfl;exact And.intro (by rw [HE2.out];rfl) (Below.setRow (HBw6.out) (Nat.le_refl _) _))
        ·have o2:saysP l (at_+1+1) [105,58]=false:=by simpa using o2
         have O2:=Lib.hid o2.symm
         have HE2:Hid (r=.error 1):=Lib.hid (by rw [HE.out,HG.out];exact opt_none o1 o2)
         clear HE HG
         go_wp2_with (first
          | (go_at_call 18;(with_reducible refine (says_p ⟨#[60]⟩ (at_+1) false (HP.out _ HBr.out) (by decide) ⟨by omega,by omega⟩ H60.out).mono ?_);rintro e w3 ⟨rfl,hb,hs⟩;have hsw3:w3.heap.size=_:=hs.trans hsr;have HBw3:=Lib.hid (HBr.out.trans (hb.mono HBr.out.size));have HZw3:=Lib.hid ((hb.block w.heap.size (by omega)).trans HZr.out);have HTw3:=Lib.hid ((hb.block (w.heap.size+1) (by omega)).trans HTr.out);have hlw3:w.heap.size < w3.heap.size:=(by omega);have hmw3:w.heap.size+1 < w3.heap.size:=(by omega);clear hb hs)
          | (go_at_call 18;(with_reducible refine (says_p ⟨#[45]⟩ (at_+1) true (HP.out _ HBw3.out) (by decide) ⟨by omega,by omega⟩ H45.out).mono ?_);rintro e w4 ⟨rfl,hb,hs⟩;have hsw4:w4.heap.size=_:=hs.trans hsw3;have HBw4:=Lib.hid (HBw3.out.trans (hb.mono HBw3.out.size));have HZw4:=Lib.hid ((hb.block w.heap.size (by omega)).trans HZw3.out);have HTw4:=Lib.hid ((hb.block (w.heap.size+1) (by omega)).trans HTw3.out);have hlw4:w.heap.size < w4.heap.size:=(by omega);have hmw4:w.heap.size+1 < w4.heap.size:=(by omega);clear hb hs)
          | (go_at_call 18;(with_reducible refine (says_p ⟨#[105,41]⟩ (at_+1+1) false (HP.out _ HBw4.out) (by decide) ⟨by omega,by omega⟩ O1.out).mono ?_);rintro e w5 ⟨rfl,hb,hs⟩;have hsw5:w5.heap.size=_:=hs.trans hsw4;have HBw5:=Lib.hid (HBw4.out.trans (hb.mono HBw4.out.size));have HZw5:=Lib.hid ((hb.block w.heap.size (by omega)).trans HZw4.out);have HTw5:=Lib.hid ((hb.block (w.heap.size+1) (by omega)).trans HTw4.out);have hlw5:w.heap.size < w5.heap.size:=(by omega);have hmw5:w.heap.size+1 < w5.heap.size:=(by omega);clear hb hs)
          | (go_at_call 18;(with_reducible refine (says_p ⟨#[105,58]⟩ (at_+1+1) false (HP.out _ HBw5.out) (by decide) ⟨by omega,by omega⟩ O2.out).mono ?_);rintro e w6 ⟨rfl,hb,hs⟩;have hsw6:w6.heap.size=_:=hs.trans hsw5;have HBw6:=Lib.hid (HBw5.out.trans (hb.mono HBw5.out.size));have HZw6:=Lib.hid ((hb.block w.heap.size (by omega)).trans HZw5.out);have HTw6:=Lib.hid ((hb.block (w.heap.size+1) (by omega)).trans HTw5.out);have hlw6:w.heap.size < w6.heap.size:=(by omega);have hmw6:w.heap.size+1 < w6.heap.size:=(by omega);clear hb hs)
          | ((with_reducible apply store24 (g:=w.heap.size));rfl;(with_reducible rfl);rfl;rfl;(exact HZw6.out);rfl;rfl))
         ((try simp only [Exit.inBlock,Exit.then]);refine bodyPost_ret (v:=_) (results24q Try.results21 _ _ w.heap.size _ (.int .i64 0) (.int .i64 1) ?_ ?_ ?_ (row24 ?_) ?_) rfl ?_;rfl;rfl;rfl;(exact HZw6.out);rfl;exact And.intro (by rw [HE2.out];rfl) (Below.setRow (HBw6.out) (Nat.le_refl _) _))
      ·have H45:Hid (false=saysP l (at_+1) [45]):=Lib.hid (by rw [saysP_one];exact (decide_eq_false h45).symm)
       have HG:=Lib.hid (show restO l (at_+1)=optP (1) l (at_+1) by unfold restO;rw [if_neg h60,if_neg h45])
       clear h60
       by_cases o1:saysP l (at_+1) [105,41]=true
       ·have O1:=Lib.hid o1.symm
        have HE2:Hid (r=.ok ({ kind:=11,fold:=1 },at_+1+2)):=Lib.hid (by rw [HE.out,HG.out];exact opt_right o1)
        clear HE HG
        go_wp2_with (first
         | (go_at_call 18;(with_reducible refine (says_p ⟨#[60]⟩ (at_+1) false (HP.out _ HBr.out) (by decide) ⟨by omega,by omega⟩ H60.out).mono ?_);rintro e w3 ⟨rfl,hb,hs⟩;have hsw3:w3.heap.size=_:=hs.trans hsr;have HBw3:=Lib.hid (HBr.out.trans (hb.mono HBr.out.size));have HZw3:=Lib.hid ((hb.block w.heap.size (by omega)).trans HZr.out);have HTw3:=Lib.hid ((hb.block (w.heap.size+1) (by omega)).trans HTr.out);have hlw3:w.heap.size < w3.heap.size:=(by omega);have hmw3:w.heap.size+1 < w3.heap.size:=(by omega);clear hb hs)
         | (go_at_call 18;(with_reducible refine (says_p ⟨#[45]⟩ (at_+1) false (HP.out _ HBw3.out) (by decide) ⟨by omega,by omega⟩ H45.out).mono ?_);rintro e w4 ⟨rfl,hb,hs⟩;have hsw4:w4.heap.size=_:=hs.trans hsw3;have HBw4:=Lib.hid (HBw3.out.trans (hb.mono HBw3.out.size));have HZw4:=Lib.hid ((hb.block w.heap.size (by omega)).trans HZw3.out);have HTw4:=Lib.hid ((hb.block (w.heap.size+1) (by omega)).trans HTw3.out);have hlw4:w.heap.size < w4.heap.size:=(by omega);have hmw4:w.heap.size+1 < w4.heap.size:=(by omega);clear hb hs)
         | (go_at_call 18;(with_reducible refine (says_p ⟨#[105,41]⟩ (at_+1) true (HP.out _ HBw4.out) (by decide) ⟨by omega,by omega⟩ O1.out).mono ?_);rintro e w5 ⟨rfl,hb,hs⟩;have hsw5:w5.heap.size=_:=hs.trans hsw4;have HBw5:=Lib.hid (HBw4.out.trans (hb.mono HBw4.out.size));have HZw5:=Lib.hid ((hb.block w.heap.size (by omega)).trans HZw4.out);have HTw5:=Lib.hid ((hb.block (w.heap.size+1) (by omega)).trans HTw4.out);have hlw5:w.heap.size < w5.heap.size:=(by omega);have hmw5:w.heap.size+1 < w5.heap.size:=(by omega);clear hb hs)
         | ((with_reducible apply store24 (g:=w.heap.size));rfl;(with_reducible rfl);rfl;rfl;(exact HZw5.out);rfl;rfl))
        ((try simp only [Exit.inBlock,Exit.then]);refine bodyPost_ret (v:=_) (results24q Try.results21 _ _ w.heap.size _ (.int .i64 (at_+1+2)) (.int .i64 0) ?_ ?_ ?_ (row24 ?_) ?_) rfl ?_;rfl;rfl;rfl;(exact HZw5.out);rfl;exact And.intro (by rw [HE2.out];rfl) (Below.setRow (HBw5.out) (Nat.le_refl _) _))
       ·have o1:saysP l (at_+1) [105,41]=false:=by simpa using o1
        have O1:=Lib.hid o1.symm
        by_cases o2:saysP l (at_+1) [105,58]=true
        ·have O2:=Lib.hid o2.symm
         have HE2:Hid (r=.ok (openT 1 (1) [],at_+1+2)):=Lib.hid (by rw [HE.out,HG.out];exact opt_colon o1 o2)
         clear HE HG
         go_wp2_with (first
          | (go_at_call 18;(with_reducible refine (says_p ⟨#[60]⟩ (at_+1) false (HP.out _ HBr.out) (by decide) ⟨by omega,by omega⟩ H60.out).mono ?_);rintro e w3 ⟨rfl,hb,hs⟩;have hsw3:w3.heap.size=_:=hs.trans hsr;have HBw3:=Lib.hid (HBr.out.trans (hb.mono HBr.out.size));have HZw3:=Lib.hid ((hb.block w.heap.size (by omega)).trans HZr.out);have HTw3:=Lib.hid ((hb.block (w.heap.size+1) (by omega)).trans HTr.out);have hlw3:w.heap.size < w3.heap.size:=(by omega);have hmw3:w.heap.size+1 < w3.heap.size:=(by omega);clear hb hs)
          | (go_at_call 18;(with_reducible refine (says_p ⟨#[45]⟩ (at_+1) false (HP.out _ HBw3.out) (by decide) ⟨by omega,by omega⟩ H45.out).mono ?_);rintro e w4 ⟨rfl,hb,hs⟩;have hsw4:w4.heap.size=_:=hs.trans hsw3;have HBw4:=Lib.hid (HBw3.out.trans (hb.mono HBw3.out.size));have HZw4:=Lib.hid ((hb.block w.heap.size (by omega)).trans HZw3.out);have HTw4:=Lib.hid ((hb.block (w.heap.size+1) (by omega)).trans HTw3.out);have hlw4:w.heap.size < w4.heap.size:=(by omega);have hmw4:w.heap.size+1 < w4.heap.size:=(by omega);clear hb hs)
          | (go_at_call 18;(with_reducible refine (says_p ⟨#[105,41]⟩ (at_+1) false (HP.out _ HBw4.out) (by decide) ⟨by omega,by omega⟩ O1.out).mono ?_);rintro e w5 ⟨rfl,hb,hs⟩;have hsw5:w5.heap.size=_:=hs.trans hsw4;have HBw5:=Lib.hid (HBw4.out.trans (hb.mono HBw4.out.size));have HZw5:=Lib.hid ((hb.block w.heap.size (by omega)).trans HZw4.out);have HTw5:=Lib.hid ((hb.block (w.heap.size+1) (by omega)).trans HTw4.out);have hlw5:w.heap.size < w5.heap.size:=(by omega);have hmw5:w.heap.size+1 < w5.heap.size:=(by omega);clear hb hs)
          | (go_at_call 18;(with_reducible refine (says_p ⟨#[105,58]⟩ (at_+1) true (HP.out _ HBw5.out) (by decide) ⟨by omega,by omega⟩ O2.out).mono ?_);rintro e w6 ⟨rfl,hb,hs⟩;have hsw6:w6.heap.size=_:=hs.trans hsw5;have HBw6:=Lib.hid (HBw5.out.trans (hb.mono HBw5.out.size));have HZw6:=Lib.hid ((hb.block w.heap.size (by omega)).trans HZw5.out);have HTw6:=Lib.hid ((hb.block (w.heap.size+1) (by omega)).trans HTw5.out);have hlw6:w.heap.size < w6.heap.size:=(by omega);have hmw6:w.heap.size+1 < w6.heap.size:=(by omega);clear hb hs)
          | ((with_reducible apply store24 (g:=w.heap.size));rfl;(with_reducible rfl);rfl;rfl;(exact HZw6.out);rfl;rfl))
         ((try simp only [Exit.inBlock,Exit.then]);refine bodyPost_ret (v:=_) (results24q Try.results21 _ _ w.heap.size _ (.int .i64 (at_+1+2)) (.int .i64 0) ?_ ?_ ?_ (row24 ?_) ?_) rfl ?_;rfl;rfl;rfl;(exact HZw6.out);rfl;exact And.intro (by rw [HE2.out];rfl) (Below.setRow (HBw6.out) (Nat.le_refl _) _))
        ·have o2:saysP l (at_+1) [105,58]=false:=by simpa using o2
         have O2:=Lib.hid o2.symm
         have HE2:Hid (r=.error 1):=Lib.hid (by rw [HE.out,HG.out];exact opt_none o1 o2)
         clear HE HG
         go_wp2_with (first
          | (go_at_call 18;(with_reducible refine (says_p ⟨#[60]⟩ (at_+1) false (HP.out _ HBr.out) (by decide) ⟨by omega,by omega⟩ H60.out).mono ?_);rintro e w3 ⟨rfl,hb,hs⟩;have hsw3:w3.heap.size=_:=hs.trans hsr;have HBw3:=Lib.hid (HBr.out.trans (hb.mono HBr.out.size));have HZw3:=Lib.hid ((hb.block w.heap.size (by omega)).trans HZr.out);have HTw3:=Lib.hid ((hb.block (w.heap.size+1) (by omega)).trans HTr.out);have hlw3:w.heap.size < w3.heap.size:=(by omega);have hmw3:w.heap.size+1 < w3.heap.size:=(by omega);clear hb hs)
          | (go_at_call 18;(with_reducible refine (says_p ⟨#[45]⟩ (at_+1) false (HP.out _ HBw3.out) (by decide) ⟨by omega,by omega⟩ H45.out).mono ?_);rintro e w4 ⟨rfl,hb,hs⟩;have hsw4:w4.heap.size=_:=hs.trans hsw3;have HBw4:=Lib.hid (HBw3.out.trans (hb.mono HBw3.out.size));have HZw4:=Lib.hid ((hb.block w.heap.size (by omega)).trans HZw3.out);have HTw4:=Lib.hid ((hb.block (w.heap.size+1) (by omega)).trans HTw3.out);have hlw4:w.heap.size < w4.heap.size:=(by omega);have hmw4:w.heap.size+1 < w4.heap.size:=(by omega);clear hb hs)
          | (go_at_call 18;(with_reducible refine (says_p ⟨#[105,41]⟩ (at_+1) false (HP.out _ HBw4.out) (by decide) ⟨by omega,by omega⟩ O1.out).mono ?_);rintro e w5 ⟨rfl,hb,hs⟩;have hsw5:w5.heap.size=_:=hs.trans hsw4;have HBw5:=Lib.hid (HBw4.out.trans (hb.mono HBw4.out.size));have HZw5:=Lib.hid ((hb.block w.heap.size (by omega)).trans HZw4.out);have HTw5:=Lib.hid ((hb.block (w.heap.size+1) (by omega)).trans HTw4.out);have hlw5:w.heap.size < w5.heap.size:=(by omega);have hmw5:w.heap.size+1 < w5.heap.size:=(by omega);clear hb hs)
          | (go_at_call 18;(with_reducible refine (says_p ⟨#[105,58]⟩ (at_+1) false (HP.out _ HBw5.out) (by decide) ⟨by omega,by omega⟩ O2.out).mono ?_);rintro e w6 ⟨rfl,hb,hs⟩;have hsw6:w6.heap.size=_:=hs.trans hsw5;have HBw6:=Lib.hid (HBw5.out.trans (hb.mono HBw5.out.size));have HZw6:=Lib.hid ((hb.block w.heap.size (by omega)).trans HZw5.out);have HTw6:=Lib.hid ((hb.block (w.heap.size+1) (by omega)).trans HTw5.out);have hlw6:w.heap.size < w6.heap.size:=(by omega);have hmw6:w.heap.size+1 < w6.heap.size:=(by omega);clear hb hs)
          | ((with_reducible apply store24 (g:=w.heap.size));rfl;(with_reducible rfl);rfl;rfl;(exact HZw6.out);rfl;rfl))
         ((try simp only [Exit.inBlock,Exit.then]);refine bodyPost_ret (v:=_) (results24q Try.results21 _ _ w.heap.size _ (.int .i64 0) (.int .i64 1) ?_ ?_ ?_ (row24 ?_) ?_) rfl ?_;rfl;rfl;rfl;(exact HZw6.out);rfl;exact And.intro (by rw [HE2.out];rfl) (Below.setRow (HBw6.out) (Nat.le_refl _) _))
  ·have HQ:Hid (false=saysP l at_ [63]):=Lib.hid (by rw [saysP_one];exact (decide_eq_false hq).symm)
   rw [show openP 1 l at_=.ok (openT 11 0 [],at_) from by unfold openP;rw [if_neg (by decide),if_pos hq]]
   rw [← hW] at HBW HZW HTW hsW
   clear hq h hq0
   go_enter Try.func21,Try.ntmps21
   go_wp2_with (first
    | (rw [← hW];clear hW;go_at_call 18;(with_reducible refine (says_p ⟨#[63]⟩ (at_) false (HP.out _ HBW.out) (by decide) ⟨by omega,by omega⟩ HQ.out).mono ?_);rintro e w1 ⟨rfl,hb,hs⟩;have hsw1:w1.heap.size=_:=hs.trans hsW;have HBw1:=Lib.hid (HBW.out.trans (hb.mono HBW.out.size));have HZw1:=Lib.hid ((hb.block w.heap.size (by omega)).trans HZW.out);have HTw1:=Lib.hid ((hb.block (w.heap.size+1) (by omega)).trans HTW.out);have hlw1:w.heap.size < w1.heap.size:=(by omega);have hmw1:w.heap.size+1 < w1.heap.size:=(by omega);clear hb hs;obtain ⟨k1,k2,k3,k4,k5,k6,k7,k8⟩:=cells8 HTw1.out;have f1:=frozen_of_row _ _ (0+1) _ _ HTw1.out;have f1':=frozen_of_row _ _ 1 _ _ HTw1.out;have f2:=frozen_of_row _ _ (0+2) _ _ HTw1.out;have f2':=frozen_of_row _ _ 2 _ _ HTw1.out)
    | ((with_reducible apply store24 (g:=w.heap.size));rfl;(with_reducible rfl);rfl;rfl;(exact HZw1.out);rfl;rfl))
   ((try simp only [Exit.inBlock,Exit.then]);refine bodyPost_ret (v:=_) (results24q Try.results21 _ _ w.heap.size _ (.int .i64 at_) (.int .i64 0) ?_ ?_ ?_ (row24 ?_) ?_) rfl ?_;rfl;rfl;rfl;(exact HZw1.out);rfl;exact And.intro rfl (Below.setRow (HBw1.out) (Nat.le_refl _) _))
 ·rw [show openP d l at_=.ok (openT 11 0 [],at_) from by unfold openP;rw [if_pos hd]]
  have hdb:(d != 1)=true:=by simpa using hd
  have hdc:(d == 1)=false:=by simpa using hd
  clear hW h hq0
  go_enter Try.func21,Try.ntmps21
  go_wp2_with (first
   | fail
   | ((with_reducible apply store24 (g:=w.heap.size));rfl;(with_reducible rfl);rfl;rfl;(exact HZW.out);rfl;rfl))
  ((try simp only [Exit.inBlock,Exit.then]);refine bodyPost_ret (v:=_) (results24q Try.results21 _ _ w.heap.size _ (.int .i64 at_) (.int .i64 0) ?_ ?_ ?_ (row24 ?_) ?_) rfl ?_;rfl;rfl;rfl;(exact HZW.out);rfl;exact And.intro rfl (Below.setRow (HBW.out) (Nat.le_refl _) _))
end Go.Proofs.Ytmjlmjlkghpknaa
