/- TokenAt of the reference: walked, the rest. -/
import Derived.Test.YtmjlmjlkghpknaaTkAN
set_option linter.unusedVariables false
set_option linter.unusedSimpArgs false
namespace Go.Proofs.Ytmjlmjlkghpknaa
open Go.RowKit
set_option maxRecDepth 100000 in
set_option maxHeartbeats 8000000 in
theorem tokenAt10_b (d at_:Int) (l:List Int) (A:Option Addr) (n c:Nat) (w:World) (h:Pts w.heap.size n c A l w) (hd1:1≤d) (hd3:d≤3) (hok:∀ q,-1≤ptAt l q∧ptAt l q≤1114111) (h0:0≤at_) (h1:at_ < n) (hS:¬ (ptAt l at_=46∨ptAt l at_=94∨ptAt l at_=36∨ptAt l at_=91∨ptAt l at_=42∨ptAt l at_=43∨ptAt l at_=63∨ptAt l at_=92)) :
  Calls Try.prog 10 #[.int .i64 d,.slice A n c,.int .i64 at_] w fun e w'=>ROut (tokenP d l at_) e∧Below w.heap.size w w':=by
 have HOK:=Lib.hid hok
 clear hok
 have hsm:=h.small
 have hln:=h.len
 have HP:=Lib.hid (fun w' (hb:Below w.heap.size w w')=>h.next hb)
 obtain ⟨W0,hW0⟩:∃ W,W=(((w.alloc (.cells #[.slice A n c] 22)).alloc (.cells #[.int .i64 at_] 3)).alloc (.cells #[.int .i64 0,.int .i64 0,.string ⟨#[]⟩,.bool false,.int .i64 0,.int .i64 0,.int .i64 0,.int .i64 0] 24)):=⟨_,rfl⟩
 have het:Et w W0 n c A l at_:=⟨by rw [hW0];exact (((Below.refl _ _).alloc (Nat.le_refl _) _).alloc (by simp) _).alloc (by simp;omega) _,by rw [hW0];simp,
  by rw [hW0];exact hz_alloc (hz_alloc (heap_alloc_new w _)),by rw [hW0];have:=heap_alloc_new (w.alloc (.cells #[.slice A n c] 22)) (.cells #[.int .i64 at_] 3);exact hz_alloc (by simpa using this),by rw [hW0];have:=hz_new (w:=(w.alloc (.cells #[.slice A n c] 22)).alloc (.cells #[.int .i64 at_] 3));simpa using this⟩
 obtain ⟨p,hp⟩:∃ p,p=ptAt l at_:=⟨_,rfl⟩
 have HPT:=Lib.hid hp
 rw [← hp] at hS
 have HS:=Lib.hid hS
 clear hS
 have HET:=Lib.hid het
 obtain ⟨r,hr⟩:∃ r,r=tokenP d l at_:=⟨_,rfl⟩
 have HR:=Lib.hid hr
 rw [← hr]
 have hat:at_+1≤n:=by omega
 have HROW:=Lib.hid h.row
 have hp0:=Lib.hid (show ∃ k:Nat,at_=k∧k < n from ⟨at_.toNat,by omega,by omega⟩)
 have HLN:=Lib.hid hln
 clear h hp hr het
 go_enter Try.func10,Try.ntmps10
 go_upto_region 1 with (fail)
 rw [← hW0]
 clear hW0
 simp only [Nat.add_assoc,Nat.reduceAdd]
 obtain ⟨k1,k2,l1,l2,l3⟩:=HET.out.facts
 go_upto_region 3 with (fail)
 have H46:=Lib.hid (show ¬ p=46 from fun e=>HS.out (by omega))
 have H94:=Lib.hid (show ¬ p=94 from fun e=>HS.out (by omega))
 have H36:=Lib.hid (show ¬ p=36 from fun e=>HS.out (by omega))
 have H91:=Lib.hid (show ¬ p=91 from fun e=>HS.out (by omega))
 have H42:=Lib.hid (show ¬ p=42 from fun e=>HS.out (by omega))
 have H43:=Lib.hid (show ¬ p=43 from fun e=>HS.out (by omega))
 have H63:=Lib.hid (show ¬ p=63 from fun e=>HS.out (by omega))
 have H92:=Lib.hid (show ¬ p=92 from fun e=>HS.out (by omega))
 clear HS
 go_upto_region 23 with (first
  | (go_at_call 17;(with_reducible refine (et_is HET.out HP.out ⟨by omega,by omega⟩ HPT.out 46 46 false rfl (decide_eq_false H46.out).symm).mono ?_);rintro e w3 ⟨rfl,hE,hb⟩;clear k1 k2 l1 l2 l3;have HET:=Lib.hid hE;obtain ⟨k1,k2,l1,l2,l3⟩:=HET.out.facts;clear hb hE)
  | (go_at_call 17;(with_reducible refine (et_is HET.out HP.out ⟨by omega,by omega⟩ HPT.out 94 94 false rfl (decide_eq_false H94.out).symm).mono ?_);rintro e w3 ⟨rfl,hE,hb⟩;clear k1 k2 l1 l2 l3;have HET:=Lib.hid hE;obtain ⟨k1,k2,l1,l2,l3⟩:=HET.out.facts;clear hb hE)
  | (go_at_call 17;(with_reducible refine (et_is HET.out HP.out ⟨by omega,by omega⟩ HPT.out 36 36 false rfl (decide_eq_false H36.out).symm).mono ?_);rintro e w3 ⟨rfl,hE,hb⟩;clear k1 k2 l1 l2 l3;have HET:=Lib.hid hE;obtain ⟨k1,k2,l1,l2,l3⟩:=HET.out.facts;clear hb hE)
  | (go_at_call 17;(with_reducible refine (et_is HET.out HP.out ⟨by omega,by omega⟩ HPT.out 91 91 false rfl (decide_eq_false H91.out).symm).mono ?_);rintro e w3 ⟨rfl,hE,hb⟩;clear k1 k2 l1 l2 l3;have HET:=Lib.hid hE;obtain ⟨k1,k2,l1,l2,l3⟩:=HET.out.facts;clear hb hE)
  | (go_at_call 17;(with_reducible refine (et_is HET.out HP.out ⟨by omega,by omega⟩ HPT.out 42 42 false rfl (decide_eq_false H42.out).symm).mono ?_);rintro e w3 ⟨rfl,hE,hb⟩;clear k1 k2 l1 l2 l3;have HET:=Lib.hid hE;obtain ⟨k1,k2,l1,l2,l3⟩:=HET.out.facts;clear hb hE)
  | (go_at_call 17;(with_reducible refine (et_is HET.out HP.out ⟨by omega,by omega⟩ HPT.out 43 43 false rfl (decide_eq_false H43.out).symm).mono ?_);rintro e w3 ⟨rfl,hE,hb⟩;clear k1 k2 l1 l2 l3;have HET:=Lib.hid hE;obtain ⟨k1,k2,l1,l2,l3⟩:=HET.out.facts;clear hb hE)
  | (go_at_call 17;(with_reducible refine (et_is HET.out HP.out ⟨by omega,by omega⟩ HPT.out 63 63 false rfl (decide_eq_false H63.out).symm).mono ?_);rintro e w3 ⟨rfl,hE,hb⟩;clear k1 k2 l1 l2 l3;have HET:=Lib.hid hE;obtain ⟨k1,k2,l1,l2,l3⟩:=HET.out.facts;clear hb hE)
  | (go_at_call 17;(with_reducible refine (et_is HET.out HP.out ⟨by omega,by omega⟩ HPT.out 92 92 false rfl (decide_eq_false H92.out).symm).mono ?_);rintro e w3 ⟨rfl,hE,hb⟩;clear k1 k2 l1 l2 l3;have HET:=Lib.hid hE;obtain ⟨k1,k2,l1,l2,l3⟩:=HET.out.facts;clear hb hE))
 by_cases hd:d=3
 ·have hd3b:(decide (d < 3))=false:=decide_eq_false (by omega)
  subst hd
  have HE:=Lib.hid (show r=.ok (pointT p,at_+1) from HR.out.trans (tok_three HPT.out H46.out H94.out H36.out H91.out H42.out H43.out H63.out H92.out))
  go_upto_region 38 with (first
   | fail)
  obtain ⟨kk,rfl,hkn⟩:=hp0.out
  obtain ⟨bb,oo,hoo,hAA,hbb,hcell⟩:=(HROW.out.below HET.out.bel (Nat.le_refl _)).int_at hkn
  have hpe:l[kk]'hoo=p:=by rw [HPT.out];exact (ptAt_in l hoo).symm
  subst hAA
  rw [hpe] at hcell
  repeat (first|(go_big_may;go_says (first
   | (go_at_call 23;(with_reducible refine (point23 p _).mono ?_);rintro e w3 ⟨he,hb⟩;obtain rfl:=(show e=.returned (.agg #[.int .i64 1,.int .i64 p,.string ⟨#[]⟩,.bool false,.int .i64 0,.int .i64 0,.int .i64 0,.int .i64 0]) from he);clear he;clear k1 k2 l1 l2 l3;have HET:=Lib.hid (HET.out.next hb);obtain ⟨k1,k2,l1,l2,l3⟩:=HET.out.facts;clear hb)
   | ((with_reducible apply store24 (g:=w.heap.size+2));rfl;(with_reducible rfl);rfl;rfl;(exact HET.out.hz);rfl;rfl)))|go_values|go_skip|go_guarded|go_step|go_upon|(simp only []))
  ((try simp only [Exit.inBlock,Exit.then]);refine bodyPost_ret (v:=_) (results24q Try.results10 _ _ (w.heap.size+2) _ (.int .i64 (kk+1)) (.int .i64 0) ?_ ?_ ?_ (row24 ?_) ?_) rfl ?_;rfl;rfl;rfl;(exact HET.out.hz);rfl;refine And.intro ?_ ?_;(rw [HE.out];rfl);exact (Below.setRow HET.out.bel (Nat.le_add_right _ _) _))
 ·have hdl:d < 3:=by omega
  have HD:=Lib.hid hd
  clear hd
  by_cases h40:p=40
  ·subst h40
   have HX:=Lib.hid (show r=openP d l (at_+1) from HR.out.trans (tok_low (p:=40) HPT.out HD.out (by decide) (by decide) (by decide) (by decide) (by decide) (by decide) (by decide) (by decide) rfl))
   obtain ⟨q,hq⟩:∃ q,q=openP d l (at_+1):=⟨_,rfl⟩
   cases q with
   | error x =>
    have HE:=Lib.hid (show r=.error x from HX.out.trans hq.symm)
    have HC:=Lib.hid hq.symm
    clear hq
    repeat (first|(go_big_may;go_says (first
     | (go_at_call 17;(with_reducible refine (et_is HET.out HP.out ⟨by omega,by omega⟩ HPT.out 40 40 true rfl rfl).mono ?_);rintro e w3 ⟨rfl,hE,hb⟩;clear k1 k2 l1 l2 l3;have HET:=Lib.hid hE;obtain ⟨k1,k2,l1,l2,l3⟩:=HET.out.facts;clear hb hE)
     | (go_at_call 21;(with_reducible refine (opened21 d (at_+1) l A n c _ (Pts.more (HP.out _ HET.out.bel) HET.out.bel.size) (by omega) (by omega)).mono ?_);rintro e w3 ⟨he,hb⟩;rw [HC.out] at he;obtain rfl:=(show e=.returned (.tuple #[.agg #[.int .i64 0,.int .i64 0,.string ⟨#[]⟩,.bool false,.int .i64 0,.int .i64 0,.int .i64 0,.int .i64 0],.int .i64 0,.int .i64 x]) from he);clear he;clear k1 k2 l1 l2 l3;have HET:=Lib.hid (HET.out.next hb);obtain ⟨k1,k2,l1,l2,l3⟩:=HET.out.facts;clear hb)
     | ((with_reducible apply store24 (g:=w.heap.size+2));rfl;(with_reducible rfl);rfl;rfl;(exact HET.out.hz);rfl;rfl)))|go_values|go_skip|go_guarded|go_step|go_upon|(simp only []))
    ((try simp only [Exit.inBlock,Exit.then]);refine bodyPost_ret (v:=_) (results24q Try.results10 _ _ (w.heap.size+2) _ (.int .i64 0) (.int .i64 x) ?_ ?_ ?_ (row24 ?_) ?_) rfl ?_;rfl;rfl;rfl;(exact HET.out.hz);rfl;refine And.intro ?_ ?_;(rw [HE.out];rfl);exact (Below.setRow HET.out.bel (Nat.le_add_right _ _) _))
   | ok q =>
    have HE:=Lib.hid (show r=.ok q from HX.out.trans hq.symm)
    have HC:=Lib.hid hq.symm
    clear hq
    repeat (first|(go_big_may;go_says (first
     | (go_at_call 17;(with_reducible refine (et_is HET.out HP.out ⟨by omega,by omega⟩ HPT.out 40 40 true rfl rfl).mono ?_);rintro e w3 ⟨rfl,hE,hb⟩;clear k1 k2 l1 l2 l3;have HET:=Lib.hid hE;obtain ⟨k1,k2,l1,l2,l3⟩:=HET.out.facts;clear hb hE)
     | (go_at_call 21;(with_reducible refine (opened21 d (at_+1) l A n c _ (Pts.more (HP.out _ HET.out.bel) HET.out.bel.size) (by omega) (by omega)).mono ?_);rintro e w3 ⟨he,hb⟩;rw [HC.out] at he;obtain rfl:=(show e=.returned (.tuple #[.agg #[.int .i64 q.1.kind,.int .i64 q.1.num,.string ⟨q.1.text.toArray⟩,.bool q.1.not_,.int .i64 q.1.least,.int .i64 q.1.most,.int .i64 q.1.way,.int .i64 q.1.fold],.int .i64 q.2,.int .i64 0]) from he);clear he;clear k1 k2 l1 l2 l3;have HET:=Lib.hid (HET.out.next hb);obtain ⟨k1,k2,l1,l2,l3⟩:=HET.out.facts;clear hb)
     | ((with_reducible apply store24 (g:=w.heap.size+2));rfl;(with_reducible rfl);rfl;rfl;(exact HET.out.hz);rfl;rfl)))|go_values|go_skip|go_guarded|go_step|go_upon|(simp only []))
    ((try simp only [Exit.inBlock,Exit.then]);refine bodyPost_ret (v:=_) (results24q Try.results10 _ _ (w.heap.size+2) _ (.int .i64 q.2) (.int .i64 0) ?_ ?_ ?_ (row24 ?_) ?_) rfl ?_;rfl;rfl;rfl;(exact HET.out.hz);rfl;refine And.intro ?_ ?_;(rw [HE.out];rfl);exact (Below.setRow HET.out.bel (Nat.le_add_right _ _) _))
  have H40:=Lib.hid h40
  clear h40
  by_cases h41:p=41
  ·subst h41
   have HE:=Lib.hid (show r=.ok ({ kind:=8 },at_+1) from HR.out.trans (tok_low (p:=41) HPT.out HD.out (by decide) (by decide) (by decide) (by decide) (by decide) (by decide) (by decide) (by decide) rfl))
   repeat (first|(go_big_may;go_says (first
    | (go_at_call 17;(with_reducible refine (et_is HET.out HP.out ⟨by omega,by omega⟩ HPT.out 40 40 false rfl rfl).mono ?_);rintro e w3 ⟨rfl,hE,hb⟩;clear k1 k2 l1 l2 l3;have HET:=Lib.hid hE;obtain ⟨k1,k2,l1,l2,l3⟩:=HET.out.facts;clear hb hE)
    | (go_at_call 17;(with_reducible refine (et_is HET.out HP.out ⟨by omega,by omega⟩ HPT.out 41 41 true rfl rfl).mono ?_);rintro e w3 ⟨rfl,hE,hb⟩;clear k1 k2 l1 l2 l3;have HET:=Lib.hid hE;obtain ⟨k1,k2,l1,l2,l3⟩:=HET.out.facts;clear hb hE)
    | ((with_reducible apply store24 (g:=w.heap.size+2));rfl;(with_reducible rfl);rfl;rfl;(exact HET.out.hz);rfl;rfl)))|go_values|go_skip|go_guarded|go_step|go_upon|(simp only []))
   ((try simp only [Exit.inBlock,Exit.then]);refine bodyPost_ret (v:=_) (results24q Try.results10 _ _ (w.heap.size+2) _ (.int .i64 (at_+1)) (.int .i64 0) ?_ ?_ ?_ (row24 ?_) ?_) rfl ?_;rfl;rfl;rfl;(exact HET.out.hz);rfl;refine And.intro ?_ ?_;(rw [HE.out];rfl);exact (Below.setRow HET.out.bel (Nat.le_add_right _ _) _))
  have H41:=Lib.hid h41
  clear h41
  by_cases h124:p=124
  ·subst h124
   have HE:=Lib.hid (show r=.ok ({ kind:=9 },at_+1) from HR.out.trans (tok_low (p:=124) HPT.out HD.out (by decide) (by decide) (by decide) (by decide) (by decide) (by decide) (by decide) (by decide) rfl))
   repeat (first|(go_big_may;go_says (first
    | (go_at_call 17;(with_reducible refine (et_is HET.out HP.out ⟨by omega,by omega⟩ HPT.out 40 40 false rfl rfl).mono ?_);rintro e w3 ⟨rfl,hE,hb⟩;clear k1 k2 l1 l2 l3;have HET:=Lib.hid hE;obtain ⟨k1,k2,l1,l2,l3⟩:=HET.out.facts;clear hb hE)
    | (go_at_call 17;(with_reducible refine (et_is HET.out HP.out ⟨by omega,by omega⟩ HPT.out 41 41 false rfl rfl).mono ?_);rintro e w3 ⟨rfl,hE,hb⟩;clear k1 k2 l1 l2 l3;have HET:=Lib.hid hE;obtain ⟨k1,k2,l1,l2,l3⟩:=HET.out.facts;clear hb hE)
    | (go_at_call 17;(with_reducible refine (et_is HET.out HP.out ⟨by omega,by omega⟩ HPT.out 124 124 true rfl rfl).mono ?_);rintro e w3 ⟨rfl,hE,hb⟩;clear k1 k2 l1 l2 l3;have HET:=Lib.hid hE;obtain ⟨k1,k2,l1,l2,l3⟩:=HET.out.facts;clear hb hE)
    | ((with_reducible apply store24 (g:=w.heap.size+2));rfl;(with_reducible rfl);rfl;rfl;(exact HET.out.hz);rfl;rfl)))|go_values|go_skip|go_guarded|go_step|go_upon|(simp only []))
   ((try simp only [Exit.inBlock,Exit.then]);refine bodyPost_ret (v:=_) (results24q Try.results10 _ _ (w.heap.size+2) _ (.int .i64 (at_+1)) (.int .i64 0) ?_ ?_ ?_ (row24 ?_) ?_) rfl ?_;rfl;rfl;rfl;(exact HET.out.hz);rfl;refine And.intro ?_ ?_;(rw [HE.out];rfl);exact (Below.setRow HET.out.bel (Nat.le_add_right _ _) _))
  have H124:=Lib.hid h124
  clear h124
  by_cases h123:p=123
  ·subst h123
   have HX:=Lib.hid (show r=braceP d l (at_+1) 123 from HR.out.trans (tok_low (p:=123) HPT.out HD.out (by decide) (by decide) (by decide) (by decide) (by decide) (by decide) (by decide) (by decide) rfl))
   obtain ⟨iv,hiv⟩:∃ x,x=intervalP d l (at_+1):=⟨_,rfl⟩
   have HIV:=Lib.hid hiv
   clear hiv
   cases iv with
   | none =>
    have HI:Hid (intervalP d l (at_+1)=none):=Lib.hid HIV.out.symm
    clear HIV
    by_cases hd2:d=2
    ·subst hd2
     have HE:=Lib.hid (show r=.error 1 from HX.out.trans (by unfold braceP;rw [HI.out];rfl))
     go_wp2_with (first
      | (go_at_call 17;(with_reducible refine (et_is HET.out HP.out ⟨by omega,by omega⟩ HPT.out 40 40 false rfl rfl).mono ?_);rintro e w3 ⟨rfl,hE,hb⟩;clear k1 k2 l1 l2 l3;have HET:=Lib.hid hE;obtain ⟨k1,k2,l1,l2,l3⟩:=HET.out.facts;clear hb hE)
      | (go_at_call 17;(with_reducible refine (et_is HET.out HP.out ⟨by omega,by omega⟩ HPT.out 41 41 false rfl rfl).mono ?_);rintro e w3 ⟨rfl,hE,hb⟩;clear k1 k2 l1 l2 l3;have HET:=Lib.hid hE;obtain ⟨k1,k2,l1,l2,l3⟩:=HET.out.facts;clear hb hE)
      | (go_at_call 17;(with_reducible refine (et_is HET.out HP.out ⟨by omega,by omega⟩ HPT.out 124 124 false rfl rfl).mono ?_);rintro e w3 ⟨rfl,hE,hb⟩;clear k1 k2 l1 l2 l3;have HET:=Lib.hid hE;obtain ⟨k1,k2,l1,l2,l3⟩:=HET.out.facts;clear hb hE)
      | (go_at_call 17;(with_reducible refine (et_is HET.out HP.out ⟨by omega,by omega⟩ HPT.out 123 123 true rfl rfl).mono ?_);rintro e w3 ⟨rfl,hE,hb⟩;clear k1 k2 l1 l2 l3;have HET:=Lib.hid hE;obtain ⟨k1,k2,l1,l2,l3⟩:=HET.out.facts;clear hb hE)
      | (go_at_call 22;(with_reducible refine (interval22 2 (at_+1) l A n c _ (Pts.more (HP.out _ HET.out.bel) HET.out.bel.size) (by omega) (by omega)).mono ?_);rintro e w3 ⟨he,hb⟩;rw [HI.out] at he;obtain rfl:=(show e=.returned (.tuple #[.agg #[.int .i64 0,.int .i64 0,.string ⟨#[]⟩,.bool false,.int .i64 0,.int .i64 0,.int .i64 0,.int .i64 0],.int .i64 0,.bool false,.int .i64 0]) from he);clear he;clear k1 k2 l1 l2 l3;have HET:=Lib.hid (HET.out.next hb);obtain ⟨k1,k2,l1,l2,l3⟩:=HET.out.facts;clear hb)
      | ((with_reducible apply store24 (g:=w.heap.size+2));rfl;(with_reducible rfl);rfl;rfl;(exact hz_alloc HET.out.hz);rfl;rfl))
     ((try simp only [Exit.inBlock,Exit.then]);refine bodyPost_ret (v:=_) (results24q Try.results10 _ _ (w.heap.size+2) _ (.int .i64 0) (.int .i64 1) ?_ ?_ ?_ (row24 ?_) ?_) rfl ?_;rfl;rfl;rfl;(exact hz_alloc HET.out.hz);rfl;refine And.intro ?_ ?_;(rw [HE.out];rfl);exact (Below.setRow (HET.out.bel.alloc HET.out.bel.size _) (Nat.le_add_right _ _) _))
    ·have hd1e:d=1:=by omega
     subst hd1e
     have HE:=Lib.hid (show r=.ok (pointT 123,at_+1) from HX.out.trans (by unfold braceP;rw [HI.out];rfl))
     go_upto_region 38 with (first
      | (go_at_call 17;(with_reducible refine (et_is HET.out HP.out ⟨by omega,by omega⟩ HPT.out 40 40 false rfl rfl).mono ?_);rintro e w3 ⟨rfl,hE,hb⟩;clear k1 k2 l1 l2 l3;have HET:=Lib.hid hE;obtain ⟨k1,k2,l1,l2,l3⟩:=HET.out.facts;clear hb hE)
      | (go_at_call 17;(with_reducible refine (et_is HET.out HP.out ⟨by omega,by omega⟩ HPT.out 41 41 false rfl rfl).mono ?_);rintro e w3 ⟨rfl,hE,hb⟩;clear k1 k2 l1 l2 l3;have HET:=Lib.hid hE;obtain ⟨k1,k2,l1,l2,l3⟩:=HET.out.facts;clear hb hE)
      | (go_at_call 17;(with_reducible refine (et_is HET.out HP.out ⟨by omega,by omega⟩ HPT.out 124 124 false rfl rfl).mono ?_);rintro e w3 ⟨rfl,hE,hb⟩;clear k1 k2 l1 l2 l3;have HET:=Lib.hid hE;obtain ⟨k1,k2,l1,l2,l3⟩:=HET.out.facts;clear hb hE)
      | (go_at_call 17;(with_reducible refine (et_is HET.out HP.out ⟨by omega,by omega⟩ HPT.out 123 123 true rfl rfl).mono ?_);rintro e w3 ⟨rfl,hE,hb⟩;clear k1 k2 l1 l2 l3;have HET:=Lib.hid hE;obtain ⟨k1,k2,l1,l2,l3⟩:=HET.out.facts;clear hb hE)
      | (go_at_call 22;(with_reducible refine (interval22 1 (at_+1) l A n c _ (Pts.more (HP.out _ HET.out.bel) HET.out.bel.size) (by omega) (by omega)).mono ?_);rintro e w3 ⟨he,hb⟩;rw [HI.out] at he;obtain rfl:=(show e=.returned (.tuple #[.agg #[.int .i64 0,.int .i64 0,.string ⟨#[]⟩,.bool false,.int .i64 0,.int .i64 0,.int .i64 0,.int .i64 0],.int .i64 0,.bool false,.int .i64 0]) from he);clear he;clear k1 k2 l1 l2 l3;have HET:=Lib.hid (HET.out.next hb);obtain ⟨k1,k2,l1,l2,l3⟩:=HET.out.facts;clear hb))
     obtain ⟨WQ,hWQ⟩:∃ X,X=w3.alloc (.cells #[.int .i64 0,.int .i64 0,.string ⟨#[]⟩,.bool false,.int .i64 0,.int .i64 0,.int .i64 0,.int .i64 0] 24):=⟨_,rfl⟩
     rw [← hWQ]
     have HET:=Lib.hid (show Et w WQ n c A l at_ by rw [hWQ];exact HET.out.next ((Below.refl _ _).alloc (Nat.le_refl _) _))
     clear hWQ k1 k2 l1 l2 l3
     obtain ⟨k1,k2,l1,l2,l3⟩:=HET.out.facts
     obtain ⟨kk,rfl,hkn⟩:=hp0.out
     obtain ⟨bb,oo,hoo,hAA,hbb,hcell⟩:=(HROW.out.below HET.out.bel (Nat.le_refl _)).int_at hkn
     have hpe:l[kk]'hoo=123:=by rw [HPT.out];exact (ptAt_in l hoo).symm
     subst hAA
     rw [hpe] at hcell
     repeat (first|(go_big_may;go_says (first
      | (go_at_call 23;(with_reducible refine (point23 123 _).mono ?_);rintro e w3 ⟨he,hb⟩;obtain rfl:=(show e=.returned (.agg #[.int .i64 1,.int .i64 123,.string ⟨#[]⟩,.bool false,.int .i64 0,.int .i64 0,.int .i64 0,.int .i64 0]) from he);clear he;clear k1 k2 l1 l2 l3;have HET:=Lib.hid (HET.out.next hb);obtain ⟨k1,k2,l1,l2,l3⟩:=HET.out.facts;clear hb)
      | ((with_reducible apply store24 (g:=w.heap.size+2));rfl;(with_reducible rfl);rfl;rfl;(exact HET.out.hz);rfl;rfl)))|go_values|go_skip|go_guarded|go_step|go_upon|(simp only []))
     ((try simp only [Exit.inBlock,Exit.then]);refine bodyPost_ret (v:=_) (results24q Try.results10 _ _ (w.heap.size+2) _ (.int .i64 (kk+1)) (.int .i64 0) ?_ ?_ ?_ (row24 ?_) ?_) rfl ?_;rfl;rfl;rfl;(exact HET.out.hz);rfl;refine And.intro ?_ ?_;(rw [HE.out];rfl);exact (Below.setRow HET.out.bel (Nat.le_add_right _ _) _))
   | some iv =>
    cases iv with
    | error x =>
     have HI:Hid (intervalP d l (at_+1)=some (.error x)):=Lib.hid HIV.out.symm
     have hx0:x≠0:=intervalE_er d l _ _ _ _ HI.out x rfl
     have hx1:(x != 0)=true:=by simpa using hx0
     have HE:=Lib.hid (show r=.error x from HX.out.trans (by unfold braceP;rw [HI.out]))
     clear HIV
     go_wp2_with (first
      | (go_at_call 17;(with_reducible refine (et_is HET.out HP.out ⟨by omega,by omega⟩ HPT.out 40 40 false rfl rfl).mono ?_);rintro e w3 ⟨rfl,hE,hb⟩;clear k1 k2 l1 l2 l3;have HET:=Lib.hid hE;obtain ⟨k1,k2,l1,l2,l3⟩:=HET.out.facts;clear hb hE)
      | (go_at_call 17;(with_reducible refine (et_is HET.out HP.out ⟨by omega,by omega⟩ HPT.out 41 41 false rfl rfl).mono ?_);rintro e w3 ⟨rfl,hE,hb⟩;clear k1 k2 l1 l2 l3;have HET:=Lib.hid hE;obtain ⟨k1,k2,l1,l2,l3⟩:=HET.out.facts;clear hb hE)
      | (go_at_call 17;(with_reducible refine (et_is HET.out HP.out ⟨by omega,by omega⟩ HPT.out 124 124 false rfl rfl).mono ?_);rintro e w3 ⟨rfl,hE,hb⟩;clear k1 k2 l1 l2 l3;have HET:=Lib.hid hE;obtain ⟨k1,k2,l1,l2,l3⟩:=HET.out.facts;clear hb hE)
      | (go_at_call 17;(with_reducible refine (et_is HET.out HP.out ⟨by omega,by omega⟩ HPT.out 123 123 true rfl rfl).mono ?_);rintro e w3 ⟨rfl,hE,hb⟩;clear k1 k2 l1 l2 l3;have HET:=Lib.hid hE;obtain ⟨k1,k2,l1,l2,l3⟩:=HET.out.facts;clear hb hE)
      | (go_at_call 22;(with_reducible refine (interval22 d (at_+1) l A n c _ (Pts.more (HP.out _ HET.out.bel) HET.out.bel.size) (by omega) (by omega)).mono ?_);rintro e w3 ⟨he,hb⟩;rw [HI.out] at he;obtain rfl:=(show e=.returned (.tuple #[.agg #[.int .i64 0,.int .i64 0,.string ⟨#[]⟩,.bool false,.int .i64 0,.int .i64 0,.int .i64 0,.int .i64 0],.int .i64 0,.bool true,.int .i64 x]) from he);clear he;clear k1 k2 l1 l2 l3;have HET:=Lib.hid (HET.out.next hb);obtain ⟨k1,k2,l1,l2,l3⟩:=HET.out.facts;clear hb)
      | ((with_reducible apply store24 (g:=w.heap.size+2));rfl;(with_reducible rfl);rfl;rfl;(exact hz_alloc HET.out.hz);rfl;rfl))
     ((try simp only [Exit.inBlock,Exit.then]);refine bodyPost_ret (v:=_) (results24q Try.results10 _ _ (w.heap.size+2) _ (.int .i64 0) (.int .i64 x) ?_ ?_ ?_ (row24 ?_) ?_) rfl ?_;rfl;rfl;rfl;(exact hz_alloc HET.out.hz);rfl;refine And.intro ?_ ?_;(rw [HE.out];rfl);exact (Below.setRow (HET.out.bel.alloc HET.out.bel.size _) (Nat.le_add_right _ _) _))
    | ok q =>
     have HI:Hid (intervalP d l (at_+1)=some (.ok q)):=Lib.hid HIV.out.symm
     have HE:=Lib.hid (show r=.ok q from HX.out.trans (by unfold braceP;rw [HI.out]))
     clear HIV
     go_wp2_with (first
      | (go_at_call 17;(with_reducible refine (et_is HET.out HP.out ⟨by omega,by omega⟩ HPT.out 40 40 false rfl rfl).mono ?_);rintro e w3 ⟨rfl,hE,hb⟩;clear k1 k2 l1 l2 l3;have HET:=Lib.hid hE;obtain ⟨k1,k2,l1,l2,l3⟩:=HET.out.facts;clear hb hE)
      | (go_at_call 17;(with_reducible refine (et_is HET.out HP.out ⟨by omega,by omega⟩ HPT.out 41 41 false rfl rfl).mono ?_);rintro e w3 ⟨rfl,hE,hb⟩;clear k1 k2 l1 l2 l3;have HET:=Lib.hid hE;obtain ⟨k1,k2,l1,l2,l3⟩:=HET.out.facts;clear hb hE)
      | (go_at_call 17;(with_reducible refine (et_is HET.out HP.out ⟨by omega,by omega⟩ HPT.out 124 124 false rfl rfl).mono ?_);rintro e w3 ⟨rfl,hE,hb⟩;clear k1 k2 l1 l2 l3;have HET:=Lib.hid hE;obtain ⟨k1,k2,l1,l2,l3⟩:=HET.out.facts;clear hb hE)
      | (go_at_call 17;(with_reducible refine (et_is HET.out HP.out ⟨by omega,by omega⟩ HPT.out 123 123 true rfl rfl).mono ?_);rintro e w3 ⟨rfl,hE,hb⟩;clear k1 k2 l1 l2 l3;have HET:=Lib.hid hE;obtain ⟨k1,k2,l1,l2,l3⟩:=HET.out.facts;clear hb hE)
      | (go_at_call 22;(with_reducible refine (interval22 d (at_+1) l A n c _ (Pts.more (HP.out _ HET.out.bel) HET.out.bel.size) (by omega) (by omega)).mono ?_);rintro e w3 ⟨he,hb⟩;rw [HI.out] at he;obtain rfl:=(show e=.returned (.tuple #[.agg #[.int .i64 q.1.kind,.int .i64 q.1.num,.string ⟨q.1.text.toArray⟩,.bool q.1.not_,.int .i64 q.1.least,.int .i64 q.1.most,.int .i64 q.1.way,.int .i64 q.1.fold],.int .i64 q.2,.bool true,.int .i64 0]) from he);clear he;clear k1 k2 l1 l2 l3;have HET:=Lib.hid (HET.out.next hb);obtain ⟨k1,k2,l1,l2,l3⟩:=HET.out.facts;clear hb)
      | ((with_reducible apply store24 (g:=w.heap.size+2));rfl;(with_reducible rfl);rfl;rfl;(exact hz_alloc HET.out.hz);rfl;rfl))
     ((try simp only [Exit.inBlock,Exit.then]);refine bodyPost_ret (v:=_) (results24q Try.results10 _ _ (w.heap.size+2) _ (.int .i64 q.2) (.int .i64 0) ?_ ?_ ?_ (row24 ?_) ?_) rfl ?_;rfl;rfl;rfl;(exact hz_alloc HET.out.hz);rfl;refine And.intro ?_ ?_;(rw [HE.out];rfl);exact (Below.setRow (HET.out.bel.alloc HET.out.bel.size _) (Nat.le_add_right _ _) _))
  have H123:=Lib.hid h123
  clear h123
  have HE:=Lib.hid (show r=.ok (pointT p,at_+1) from HR.out.trans (tok_low HPT.out HD.out H46.out H94.out H36.out H91.out H42.out H43.out H63.out H92.out (by rw [if_neg H40.out,if_neg H41.out,if_neg H124.out,if_neg H123.out])))
  go_upto_region 38 with (first
   | (go_at_call 17;(with_reducible refine (et_is HET.out HP.out ⟨by omega,by omega⟩ HPT.out 40 40 false rfl (decide_eq_false H40.out).symm).mono ?_);rintro e w3 ⟨rfl,hE,hb⟩;clear k1 k2 l1 l2 l3;have HET:=Lib.hid hE;obtain ⟨k1,k2,l1,l2,l3⟩:=HET.out.facts;clear hb hE)
   | (go_at_call 17;(with_reducible refine (et_is HET.out HP.out ⟨by omega,by omega⟩ HPT.out 41 41 false rfl (decide_eq_false H41.out).symm).mono ?_);rintro e w3 ⟨rfl,hE,hb⟩;clear k1 k2 l1 l2 l3;have HET:=Lib.hid hE;obtain ⟨k1,k2,l1,l2,l3⟩:=HET.out.facts;clear hb hE)
   | (go_at_call 17;(with_reducible refine (et_is HET.out HP.out ⟨by omega,by omega⟩ HPT.out 124 124 false rfl (decide_eq_false H124.out).symm).mono ?_);rintro e w3 ⟨rfl,hE,hb⟩;clear k1 k2 l1 l2 l3;have HET:=Lib.hid hE;obtain ⟨k1,k2,l1,l2,l3⟩:=HET.out.facts;clear hb hE)
   | (go_at_call 17;(with_reducible refine (et_is HET.out HP.out ⟨by omega,by omega⟩ HPT.out 123 123 false rfl (decide_eq_false H123.out).symm).mono ?_);rintro e w3 ⟨rfl,hE,hb⟩;clear k1 k2 l1 l2 l3;have HET:=Lib.hid hE;obtain ⟨k1,k2,l1,l2,l3⟩:=HET.out.facts;clear hb hE)
   | fail)
  obtain ⟨kk,rfl,hkn⟩:=hp0.out
  obtain ⟨bb,oo,hoo,hAA,hbb,hcell⟩:=(HROW.out.below HET.out.bel (Nat.le_refl _)).int_at hkn
  have hpe:l[kk]'hoo=p:=by rw [HPT.out];exact (ptAt_in l hoo).symm
  subst hAA
  rw [hpe] at hcell
  repeat (first|(go_big_may;go_says (first
   | (go_at_call 23;(with_reducible refine (point23 p _).mono ?_);rintro e w3 ⟨he,hb⟩;obtain rfl:=(show e=.returned (.agg #[.int .i64 1,.int .i64 p,.string ⟨#[]⟩,.bool false,.int .i64 0,.int .i64 0,.int .i64 0,.int .i64 0]) from he);clear he;clear k1 k2 l1 l2 l3;have HET:=Lib.hid (HET.out.next hb);obtain ⟨k1,k2,l1,l2,l3⟩:=HET.out.facts;clear hb)
   | ((with_reducible apply store24 (g:=w.heap.size+2));rfl;(with_reducible rfl);rfl;rfl;(exact HET.out.hz);rfl;rfl)))|go_values|go_skip|go_guarded|go_step|go_upon|(simp only []))
  ((try simp only [Exit.inBlock,Exit.then]);refine bodyPost_ret (v:=_) (results24q Try.results10 _ _ (w.heap.size+2) _ (.int .i64 (kk+1)) (.int .i64 0) ?_ ?_ ?_ (row24 ?_) ?_) rfl ?_;rfl;rfl;rfl;(exact HET.out.hz);rfl;refine And.intro ?_ ?_;(rw [HE.out];rfl);exact (Below.setRow HET.out.bel (Nat.le_add_right _ _) _))
theorem tokenAt10 (d at_:Int) (l:List Int) (A:Option Addr) (n c:Nat) (w:World) (h:Pts w.heap.size n c A l w) (hd1:1≤d) (hd3:d≤3) (hok:∀ q,-1≤ptAt l q∧ptAt l q≤1114111) (h0:0≤at_) (h1:at_ < n) :
  Calls Try.prog 10 #[.int .i64 d,.slice A n c,.int .i64 at_] w fun e w'=>ROut (tokenP d l at_) e∧Below w.heap.size w w':=by
 by_cases hS:ptAt l at_=46∨ptAt l at_=94∨ptAt l at_=36∨ptAt l at_=91∨ptAt l at_=42∨ptAt l at_=43∨ptAt l at_=63∨ptAt l at_=92
 ·exact tokenAt10_a d at_ l A n c w h hd1 hd3 hok h0 h1 hS
 ·exact tokenAt10_b d at_ l A n c w h hd1 hd3 hok h0 h1 hS
end Go.Proofs.Ytmjlmjlkghpknaa
