/- Escaped of the reference: walked, second dialect. -/
import Derived.Test.YtmjlmjlkghpknaaTkAR
set_option linter.unusedVariables false
set_option linter.unusedSimpArgs false
namespace Go.Proofs.Ytmjlmjlkghpknaa
open Go.RowKit
set_option maxRecDepth 100000 in
set_option maxHeartbeats 8000000 in
theorem escaped20_two (at_:Int) (l:List Int) (A:Option Addr) (n c:Nat) (w:World) (h:Pts w.heap.size n c A l w) (h0:0≤at_) (h1:at_≤n) :
  Calls Try.prog 20 #[.int .i64 2,.slice A n c,.int .i64 at_] w fun e w'=>ROut (escapedP 2 l at_) e∧Below w.heap.size w w':=by
 have hsm:=h.small
 have hln:=h.len
 have HP:=Lib.hid (fun w' (hb:Below w.heap.size w w')=>h.next hb)
 obtain ⟨W0,hW0⟩:∃ W,W=(((w.alloc (.cells #[.slice A n c] 22)).alloc (.cells #[.int .i64 at_] 3)).alloc (.cells #[.int .i64 0,.int .i64 0,.string ⟨#[]⟩,.bool false,.int .i64 0,.int .i64 0,.int .i64 0,.int .i64 0] 24)):=⟨_,rfl⟩
 have HB0:=Lib.hid (show Below w.heap.size w W0 by rw [hW0];exact (((Below.refl _ _).alloc (Nat.le_refl _) _).alloc (by simp) _).alloc (by simp;omega) _)
 have hs0:W0.heap.size=w.heap.size+3:=by rw [hW0];simp
 have HL0:=Lib.hid (show W0.heap[w.heap.size]?=some (.cells #[.slice A n c] 22 (0,0)) by rw [hW0];exact hz_alloc (hz_alloc (heap_alloc_new w _)))
 have HA0:=Lib.hid (show W0.heap[w.heap.size+1]?=some (.cells #[.int .i64 at_] 3 (0,0)) by rw [hW0];have:=heap_alloc_new (w.alloc (.cells #[.slice A n c] 22)) (.cells #[.int .i64 at_] 3);exact hz_alloc (by simpa using this))
 have HZ0:=Lib.hid (show W0.heap[w.heap.size+2]?=some Z24 by rw [hW0];have:=hz_new (w:=(w.alloc (.cells #[.slice A n c] 22)).alloc (.cells #[.int .i64 at_] 3));simpa using this)
 obtain ⟨p,hp⟩:∃ p,p=ptAt l at_:=⟨_,rfl⟩
 have HPT:=Lib.hid hp
 have C28:=Lib.hid (pointAt28 l at_ A n c w.heap.size W0 (by unfold maxLen;omega) (HP.out _ HB0.out).row)
 rw [← hp] at C28
 have k1:=cell_of_row _ _ 0 _ _ _ HL0.out
 have k2:=cell_of_row _ _ 0 _ _ _ HA0.out
 have k1:W0.cell? ⟨w.heap.size,0,none⟩=some (.slice A n c):=k1
 have k2:W0.cell? ⟨w.heap.size+1,0,none⟩=some (.int .i64 at_):=k2
 have hin:=Lib.hid (pt_or l at_)
 clear h hp
 by_cases hneg:p < 0
 ·go_enter Try.func20,Try.ntmps20
  go_upto_region 1 with (fail)
  rw [← hW0]
  clear hW0
  go_wp2_with (first
   | (go_at_call 28;(with_reducible refine C28.out.mono ?_);rintro e w' ⟨rfl,rfl⟩)
   | ((with_reducible apply store24 (g:=w.heap.size+2));rfl;(with_reducible rfl);rfl;rfl;(exact HZ0.out);rfl;rfl))
  ((try simp only [Exit.inBlock,Exit.then]);refine bodyPost_ret (v:=_) (results24q Try.results20 _ _ (w.heap.size+2) _ (.int .i64 0) (.int .i64 1) ?_ ?_ ?_ (row24 ?_) ?_) rfl ?_;rfl;rfl;rfl;(exact HZ0.out);rfl;exact And.intro (by rw [show escapedP 2 l at_=.error 1 from esc_neg HPT.out hneg];rfl) (Below.setRow HB0.out (Nat.le_add_right _ _) _))
 ·have hneg':(decide (p < 0))=false:=decide_eq_false hneg
  have hat:at_+1≤n:=by rcases hin.out with h2|h2;(rw [← HPT.out] at h2;omega);(rw [hln] at h2;omega)
  obtain ⟨r,hr⟩:∃ r,r=escapedP 2 l at_:=⟨_,rfl⟩
  have HR:=Lib.hid hr
  have HNEG:=Lib.hid hneg
  rw [← hr]
  clear hr hin
  go_enter Try.func20,Try.ntmps20
  go_upto_region 1 with (fail)
  rw [← hW0]
  clear hW0
  go_upto_region 5 with (first
   | (go_at_call 28;(with_reducible refine C28.out.mono ?_);rintro e w' ⟨rfl,rfl⟩))
  have hes:Es w (W0.alloc (.cells #[.int .i64 (at_+1)] 3)) n c A l at_ (at_+1):=⟨HB0.out.alloc (by omega) _,by simp;omega,hz_alloc HL0.out,hz_alloc HA0.out,hz_alloc HZ0.out,by have:=heap_alloc_new W0 (.cells #[.int .i64 (at_+1)] 3);rw [hs0] at this;exact this⟩
  obtain ⟨W1,hW1⟩:∃ W,W=W0.alloc (.cells #[.int .i64 (at_+1)] 3):=⟨_,rfl⟩
  rw [← hW1] at hes ⊢
  have hs1:W1.heap.size=w.heap.size+4:=by rw [hW1];simp;omega
  have HES:=Lib.hid hes
  simp only [Nat.add_assoc,Nat.reduceAdd]
  clear hW1 HB0 hs0 HL0 HA0 HZ0 C28 k1 k2 hes
  obtain ⟨k1,k2,k3,k4,l1,l2,l3,l4⟩:=HES.out.facts
  have HE:=Lib.hid (show r=.ok (pointT p,at_+1) from HR.out.trans (esc_two HPT.out (by have:=HNEG.out;omega)))
  go_wp2_with fail
  have HD:=Lib.hid (Es.drew HES.out)
  go_region_held3 (fun w'=>w'.cell? ⟨w.heap.size+3,0,none⟩=some (.int .i64 (at_+1)))
   (first
    | with_reducible exact HD.out.facts.2.2.1
    | with_reducible exact HES.out.facts.2.2.1
    | with_reducible exact (put24_cell (by simp)).trans HES.out.facts.2.2.1)
   (first
    | ((go_at_call 23;(with_reducible refine (point23 (p) _).mono ?_);rintro e w2 ⟨he,hb⟩;obtain rfl:=(show e=.returned (.agg #[.int .i64 1,.int .i64 (p),.string ⟨#[]⟩,.bool false,.int .i64 0,.int .i64 0,.int .i64 0,.int .i64 0]) from he);clear he;have HES:=Lib.hid ((Es.drew HES.out).next hb);clear k1 k2 k3 k4 l1 l2 l3 l4;obtain ⟨k1,k2,k3,k4,l1,l2,l3,l4⟩:=HES.out.facts;obtain ⟨⟨z0,z1,z2,z3,z4,z5,z6,z7⟩,⟨g0,g1,g2,g3,g4,g5,g6,g7⟩⟩:=HES.out.zs;clear hb)))
  all_goals (go_wp2_with fail)
  all_goals (try go_simp)
  all_goals (refine bodyPost_ret (v:=.tuple #[.agg #[.int .i64 1,.int .i64 (p),.string ⟨#[]⟩,.bool false,.int .i64 0,.int .i64 0,.int .i64 0,.int .i64 0],.int .i64 (at_+1),.int .i64 0]) ?_ rfl ?_)
  all_goals (first|(refine And.intro ?_ ?_;(rw [HE.out];rfl);(with_reducible exact put24_below HES.out.bel (Nat.le_add_right _ _)))|(refine results24q Try.results20 _ _ (w.heap.size+2) (#[.int .i64 1,.int .i64 (p),.string ⟨#[]⟩,.bool false,.int .i64 0,.int .i64 0,.int .i64 0,.int .i64 0]) (.int .i64 (at_+1)) (.int .i64 0) ?_ ?_ ?_ ?_ ?_;rfl;rfl;rfl;(with_reducible exact put24 HES.out.row);rfl))
end Go.Proofs.Ytmjlmjlkghpknaa
