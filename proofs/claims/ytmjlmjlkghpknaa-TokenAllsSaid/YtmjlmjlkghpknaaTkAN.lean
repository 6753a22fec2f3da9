/- TokenAt of the reference: walked. -/
import Derived.Test.YtmjlmjlkghpknaaTkAW
set_option linter.unusedVariables false
set_option linter.unusedSimpArgs false
namespace Go.Proofs.Ytmjlmjlkghpknaa
open Go.RowKit
/-- a pattern and a place, boxed, and the token told -/
structure Et (w W:World) (n c:Nat) (A:Option Addr) (l:List Int) (at_:Int):Prop where
 bel:Below w.heap.size w W
 size:w.heap.size+3≤W.heap.size
 hl:W.heap[w.heap.size]?=some (.cells #[.slice A n c] 22 (0,0))
 ha:W.heap[w.heap.size+1]?=some (.cells #[.int .i64 at_] 3 (0,0))
 hz:W.heap[w.heap.size+2]?=some Z24
theorem Et.next {w W W':World} {n c:Nat} {A:Option Addr} {l:List Int} {at_:Int} (h:Et w W n c A l at_) (hb:Below W.heap.size W W'):Et w W' n c A l at_ :=
 ⟨h.bel.trans (hb.mono h.bel.size),Nat.le_trans h.size hb.size,row_next h.hl hb,row_next h.ha hb,row_next h.hz hb⟩
theorem Et.facts {w W:World} {n c:Nat} {A:Option Addr} {l:List Int} {at_:Int} (h:Et w W n c A l at_) :
  W.cell? ⟨w.heap.size,0,none⟩=some (.slice A n c)∧W.cell? ⟨w.heap.size+1,0,none⟩=some (.int .i64 at_)∧w.heap.size < W.heap.size∧w.heap.size+1 < W.heap.size∧w.heap.size+2 < W.heap.size:=by
 have h1:=h.size
 exact ⟨cell_of_row _ _ 0 _ _ _ h.hl,cell_of_row _ _ 0 _ _ _ h.ha,by omega,by omega,by omega⟩
theorem et_is {w W:World} {n c:Nat} {A:Option Addr} {l:List Int} {at_ p:Int} (h:Et w W n c A l at_) (hP:∀ w',Below w.heap.size w w'→Pts w.heap.size n c A l w') (hr:0≤at_∧at_≤2000) (hp:p=ptAt l at_) (b:UInt8) (x:Int) (v:Bool) (hx:(b.toNat:Int)=x) (hv:v=decide (p=x)) :
  Calls Try.prog 17 #[.string ⟨#[b]⟩,.pointer (some ⟨w.heap.size,0,none⟩),.pointer (some ⟨w.heap.size+1,0,none⟩)] W fun e w'=>e=.returned (.bool v)∧Et w w' n c A l at_∧Below W.heap.size W w' :=
 (is17 ⟨#[b]⟩ at_ v (hP W h.bel) h.facts.1 h.facts.2.1 (by simp [ByteArray.size]) hr (by rw [hv,hp,← hx];exact (saysP_one l at_ b).symm)).mono fun e w' ⟨he,hb,_⟩=>⟨he,h.next hb,hb⟩
theorem tok_one {d:Int} {l:List Int} {at_ p:Int} {r:TR} (hp:p=ptAt l at_) (h:(let q:=p;if q=46 then .ok ({ kind:=2 },at_+1)
 else if q=94 then .ok (lookT 3,at_+1)
 else if q=36 then .ok (lookT 4,at_+1)
 else if q=91 then .ok ({ kind:=5 },at_+1)
 else if q=42 then .ok (repeatP d l (at_+1) 0 (-1))
 else if q=43 then .ok (repeatP d l (at_+1) 1 (-1))
 else if q=63 then .ok (repeatP d l (at_+1) 0 1)
 else if q=92 then escapedP d l (at_+1)
 else if d=3 then .ok (pointT q,at_+1)
 else if q=40 then openP d l (at_+1)
 else if q=41 then .ok ({ kind:=8 },at_+1)
 else if q=124 then .ok ({ kind:=9 },at_+1)
 else if q=123 then braceP d l (at_+1) q
 else .ok (pointT q,at_+1))=r):tokenP d l at_=r:=by
 unfold tokenP
 rw [← hp]
 exact h
theorem tok_low {d:Int} {l:List Int} {at_ p:Int} {r:TR} (hp:p=ptAt l at_) (hd:d≠3) (h1:¬ p=46) (h2:¬ p=94) (h3:¬ p=36) (h4:¬ p=91) (h5:¬ p=42) (h6:¬ p=43) (h7:¬ p=63) (h8:¬ p=92)
  (h:(if p=40 then openP d l (at_+1) else if p=41 then .ok ({ kind:=8 },at_+1) else if p=124 then .ok ({ kind:=9 },at_+1) else if p=123 then braceP d l (at_+1) p else .ok (pointT p,at_+1))=r):tokenP d l at_=r:=by
 refine tok_one hp ?_
 simp only [if_neg h1,if_neg h2,if_neg h3,if_neg h4,if_neg h5,if_neg h6,if_neg h7,if_neg h8,if_neg hd]
 exact h
theorem tok_three {l:List Int} {at_ p:Int} (hp:p=ptAt l at_) (h1:¬ p=46) (h2:¬ p=94) (h3:¬ p=36) (h4:¬ p=91) (h5:¬ p=42) (h6:¬ p=43) (h7:¬ p=63) (h8:¬ p=92):tokenP 3 l at_=.ok (pointT p,at_+1):=by
 refine tok_one hp ?_
 simp only [if_neg h1,if_neg h2,if_neg h3,if_neg h4,if_neg h5,if_neg h6,if_neg h7,if_neg h8]
 rfl
set_option maxRecDepth 100000 in
set_option maxHeartbeats 8000000 in
theorem tokenAt10_a (d at_:Int) (l:List Int) (A:Option Addr) (n c:Nat) (w:World) (h:Pts w.heap.size n c A l w) (hd1:1≤d) (hd3:d≤3) (hok:∀ q,-1≤ptAt l q∧ptAt l q≤1114111) (h0:0≤at_) (h1:at_ < n) (hS:ptAt l at_=46∨ptAt l at_=94∨ptAt l at_=36∨ptAt l at_=91∨ptAt l at_=42∨ptAt l at_=43∨ptAt l at_=63∨ptAt l at_=92) :
  Calls Try.prog 10 #[.int .i64 d,.slice A n c,.int .i64 at_] w fun e w'=>ROut (tokenP d l at_) e∧Below w.heap.size w w':=by
 have HOK:=Lib.hid hok
 clear hok
 have hsm:=h.small
 have hln:=h.len
 have HP:=Lib.hid (fun w' (hb:Below w.heap.size w w')=>h.next hb)
 obtain ⟨W0,hW0⟩:∃ W,W=(((w.alloc (.cells #[.slice A n c] 22)).alloc (.cells #[.int .i64 at_] 3)).alloc (.cells #[.int .i64 0,.int .i64 0,.string ⟨#[]⟩,.bool false,.int .i64 0,.int .i64 0,.int .i64 0,.int .i64 0] 24)):=⟨_,rfl⟩
 have het:Et w W0 n c A l at_:=⟨by rw [hW0];exact (((Below.refl _ _).alloc (Nat.le_refl _) _).alloc (by simp) _).alloc (by simp;omega) _,by rw [hW0];simp,
  by rw [hW0];exact hz_alloc (hz_alloc (heap_alloc_new w _)),by rw [hW0];have:=heap_alloc_new (w.alloc (.cells #[.slice A n c] 22)) (.cells #[.int .i64 at_] 3);exact hz_alloc (by simpa using this),by rw [hW0];have:=hz_new (w:=(w.alloc (.cells #[.slice A n c] 22)).alloc (.cells #[.int .i64 at_] 3));simpa using this⟩
 obtain ⟨p,hp⟩:∃ p,p=ptAt l at_:=⟨_,rfl⟩
 have HPT:=Lib.hid hp
 rw [← hp] at hS
 have HS:=Lib.hid hS
 clear hS
 have HET:=Lib.hid het
 obtain ⟨r,hr⟩:∃ r,r=tokenP d l at_:=⟨_,rfl⟩
 have HR:=Lib.hid hr
 rw [← hr]
 have hat:at_+1≤n:=by omega
 have HROW:=Lib.hid h.row
 have hp0:=Lib.hid (show ∃ k:Nat,at_=k∧k < n from ⟨at_.toNat,by omega,by omega⟩)
 have HLN:=Lib.hid hln
 clear h hp hr het
 go_enter Try.func10,Try.ntmps10
 go_upto_region 1 with (fail)
 rw [← hW0]
 clear hW0
 simp only [Nat.add_assoc,Nat.reduceAdd]
 obtain ⟨k1,k2,l1,l2,l3⟩:=HET.out.facts
 go_upto_region 3 with (fail)
 by_cases h46:p=46
 ·subst h46
  have HE:=Lib.hid (show r=.ok ({ kind:=2 },at_+1) from HR.out.trans (tok_one HPT.out rfl))
  repeat (first|(go_big_may;go_says (first
   | (go_at_call 17;(with_reducible refine (et_is HET.out HP.out ⟨by omega,by omega⟩ HPT.out 46 46 true rfl rfl).mono ?_);rintro e w3 ⟨rfl,hE,hb⟩;clear k1 k2 l1 l2 l3;have HET:=Lib.hid hE;obtain ⟨k1,k2,l1,l2,l3⟩:=HET.out.facts;clear hb hE)
   | ((with_reducible apply store24 (g:=w.heap.size+2));rfl;(with_reducible rfl);rfl;rfl;(exact HET.out.hz);rfl;rfl)))|go_values|go_skip|go_guarded|go_step|go_upon|(simp only []))
  ((try simp only [Exit.inBlock,Exit.then]);refine bodyPost_ret (v:=_) (results24q Try.results10 _ _ (w.heap.size+2) _ (.int .i64 (at_+1)) (.int .i64 0) ?_ ?_ ?_ (row24 ?_) ?_) rfl ?_;rfl;rfl;rfl;(exact HET.out.hz);rfl;refine And.intro ?_ ?_;(rw [HE.out];rfl);exact (Below.setRow HET.out.bel (Nat.le_add_right _ _) _))
 have H46:=Lib.hid h46
 clear h46
 by_cases h94:p=94
 ·subst h94
  have HE:=Lib.hid (show r=.ok (lookT 3,at_+1) from HR.out.trans (tok_one HPT.out rfl))
  repeat (first|(go_big_may;go_says (first
   | (go_at_call 17;(with_reducible refine (et_is HET.out HP.out ⟨by omega,by omega⟩ HPT.out 46 46 false rfl rfl).mono ?_);rintro e w3 ⟨rfl,hE,hb⟩;clear k1 k2 l1 l2 l3;have HET:=Lib.hid hE;obtain ⟨k1,k2,l1,l2,l3⟩:=HET.out.facts;clear hb hE)
   | (go_at_call 17;(with_reducible refine (et_is HET.out HP.out ⟨by omega,by omega⟩ HPT.out 94 94 true rfl rfl).mono ?_);rintro e w3 ⟨rfl,hE,hb⟩;clear k1 k2 l1 l2 l3;have HET:=Lib.hid hE;obtain ⟨k1,k2,l1,l2,l3⟩:=HET.out.facts;clear hb hE)
   | ((with_reducible apply store24 (g:=w.heap.size+2));rfl;(with_reducible rfl);rfl;rfl;(exact HET.out.hz);rfl;rfl)))|go_values|go_skip|go_guarded|go_step|go_upon|(simp only []))
  ((try simp only [Exit.inBlock,Exit.then]);refine bodyPost_ret (v:=_) (results24q Try.results10 _ _ (w.heap.size+2) _ (.int .i64 (at_+1)) (.int .i64 0) ?_ ?_ ?_ (row24 ?_) ?_) rfl ?_;rfl;rfl;rfl;(exact HET.out.hz);rfl;refine And.intro ?_ ?_;(rw [HE.out];rfl);exact (Below.setRow HET.out.bel (Nat.le_add_right _ _) _))
 have H94:=Lib.hid h94
 clear h94
 by_cases h36:p=36
 ·subst h36
  have HE:=Lib.hid (show r=.ok (lookT 4,at_+1) from HR.out.trans (tok_one HPT.out rfl))
  repeat (first|(go_big_may;go_says (first
   | (go_at_call 17;(with_reducible refine (et_is HET.out HP.out ⟨by omega,by omega⟩ HPT.out 46 46 false rfl rfl).mono ?_);rintro e w3 ⟨rfl,hE,hb⟩;clear k1 k2 l1 l2 l3;have HET:=Lib.hid hE;obtain ⟨k1,k2,l1,l2,l3⟩:=HET.out.facts;clear hb hE)
   | (go_at_call 17;(with_reducible refine (et_is HET.out HP.out ⟨by omega,by omega⟩ HPT.out 94 94 false rfl rfl).mono ?_);rintro e w3 ⟨rfl,hE,hb⟩;clear k1 k2 l1 l2 l3;have HET:=Lib.hid hE;obtain ⟨k1,k2,l1,l2,l3⟩:=HET.out.facts;clear hb hE)
   | (go_at_call 17;(with_reducible refine (et_is HET.out HP.out ⟨by omega,by omega⟩ HPT.out 36 36 true rfl rfl).mono ?_);rintro e w3 ⟨rfl,hE,hb⟩;clear k1 k2 l1 l2 l3;have HET:=Lib.hid hE;obtain ⟨k1,k2,l1,l2,l3⟩:=HET.out.facts;clear hb hE)
   | ((with_reducible apply store24 (g:=w.heap.size+2));rfl;(with_reducible rfl);rfl;rfl;(exact HET.out.hz);rfl;rfl)))|go_values|go_skip|go_guarded|go_step|go_upon|(simp only []))
  ((try simp only [Exit.inBlock,Exit.then]);refine bodyPost_ret (v:=_) (results24q Try.results10 _ _ (w.heap.size+2) _ (.int .i64 (at_+1)) (.int .i64 0) ?_ ?_ ?_ (row24 ?_) ?_) rfl ?_;rfl;rfl;rfl;(exact HET.out.hz);rfl;refine And.intro ?_ ?_;(rw [HE.out];rfl);exact (Below.setRow HET.out.bel (Nat.le_add_right _ _) _))
 have H36:=Lib.hid h36
 clear h36
 by_cases h91:p=91
 ·subst h91
  have HE:=Lib.hid (show r=.ok ({ kind:=5 },at_+1) from HR.out.trans (tok_one HPT.out rfl))
  repeat (first|(go_big_may;go_says (first
   | (go_at_call 17;(with_reducible refine (et_is HET.out HP.out ⟨by omega,by omega⟩ HPT.out 46 46 false rfl rfl).mono ?_);rintro e w3 ⟨rfl,hE,hb⟩;clear k1 k2 l1 l2 l3;have HET:=Lib.hid hE;obtain ⟨k1,k2,l1,l2,l3⟩:=HET.out.facts;clear hb hE)
   | (go_at_call 17;(with_reducible refine (et_is HET.out HP.out ⟨by omega,by omega⟩ HPT.out 94 94 false rfl rfl).mono ?_);rintro e w3 ⟨rfl,hE,hb⟩;clear k1 k2 l1 l2 l3;have HET:=Lib.hid hE;obtain ⟨k1,k2,l1,l2,l3⟩:=HET.out.facts;clear hb hE)
   | (go_at_call 17;(with_reducible refine (et_is HET.out HP.out ⟨by omega,by omega⟩ HPT.out 36 36 false rfl rfl).mono ?_);rintro e w3 ⟨rfl,hE,hb⟩;clear k1 k2 l1 l2 l3;have HET:=Lib.hid hE;obtain ⟨k1,k2,l1,l2,l3⟩:=HET.out.facts;clear hb hE)
   | (go_at_call 17;(with_reducible refine (et_is HET.out HP.out ⟨by omega,by omega⟩ HPT.out 91 91 true rfl rfl).mono ?_);rintro e w3 ⟨rfl,hE,hb⟩;clear k1 k2 l1 l2 l3;have HET:=Lib.hid hE;obtain ⟨k1,k2,l1,l2,l3⟩:=HET.out.facts;clear hb hE)
   | ((with_reducible apply store24 (g:=w.heap.size+2));rfl;(with_reducible rfl);rfl;rfl;(exact HET.out.hz);rfl;rfl)))|go_values|go_skip|go_guarded|go_step|go_upon|(simp only []))
  ((try simp only [Exit.inBlock,Exit.then]);refine bodyPost_ret (v:=_) (results24q Try.results10 _ _ (w.heap.size+2) _ (.int .i64 (at_+1)) (.int .i64 0) ?_ ?_ ?_ (row24 ?_) ?_) rfl ?_;rfl;rfl;rfl;(exact HET.out.hz);rfl;refine And.intro ?_ ?_;(rw [HE.out];rfl);exact (Below.setRow HET.out.bel (Nat.le_add_right _ _) _))
 have H91:=Lib.hid h91
 clear h91
 by_cases h42:p=42
 ·subst h42
  have HE:=Lib.hid (show r=.ok (repeatP d l (at_+1) 0 (-1)) from HR.out.trans (tok_one HPT.out rfl))
  repeat (first|(go_big_may;go_says (first
   | (go_at_call 17;(with_reducible refine (et_is HET.out HP.out ⟨by omega,by omega⟩ HPT.out 46 46 false rfl rfl).mono ?_);rintro e w3 ⟨rfl,hE,hb⟩;clear k1 k2 l1 l2 l3;have HET:=Lib.hid hE;obtain ⟨k1,k2,l1,l2,l3⟩:=HET.out.facts;clear hb hE)
   | (go_at_call 17;(with_reducible refine (et_is HET.out HP.out ⟨by omega,by omega⟩ HPT.out 94 94 false rfl rfl).mono ?_);rintro e w3 ⟨rfl,hE,hb⟩;clear k1 k2 l1 l2 l3;have HET:=Lib.hid hE;obtain ⟨k1,k2,l1,l2,l3⟩:=HET.out.facts;clear hb hE)
   | (go_at_call 17;(with_reducible refine (et_is HET.out HP.out ⟨by omega,by omega⟩ HPT.out 36 36 false rfl rfl).mono ?_);rintro e w3 ⟨rfl,hE,hb⟩;clear k1 k2 l1 l2 l3;have HET:=Lib.hid hE;obtain ⟨k1,k2,l1,l2,l3⟩:=HET.out.facts;clear hb hE)
   | (go_at_call 17;(with_reducible refine (et_is HET.out HP.out ⟨by omega,by omega⟩ HPT.out 91 91 false rfl rfl).mono ?_);rintro e w3 ⟨rfl,hE,hb⟩;clear k1 k2 l1 l2 l3;have HET:=Lib.hid hE;obtain ⟨k1,k2,l1,l2,l3⟩:=HET.out.facts;clear hb hE)
   | (go_at_call 17;(with_reducible refine (et_is HET.out HP.out ⟨by omega,by omega⟩ HPT.out 42 42 true rfl rfl).mono ?_);rintro e w3 ⟨rfl,hE,hb⟩;clear k1 k2 l1 l2 l3;have HET:=Lib.hid hE;obtain ⟨k1,k2,l1,l2,l3⟩:=HET.out.facts;clear hb hE)
   | (go_at_call 17;(with_reducible refine (et_is HET.out HP.out ⟨by omega,by omega⟩ HPT.out 43 43 false rfl rfl).mono ?_);rintro e w3 ⟨rfl,hE,hb⟩;clear k1 k2 l1 l2 l3;have HET:=Lib.hid hE;obtain ⟨k1,k2,l1,l2,l3⟩:=HET.out.facts;clear hb hE)
   | (go_at_call 17;(with_reducible refine (et_is HET.out HP.out ⟨by omega,by omega⟩ HPT.out 63 63 false rfl rfl).mono ?_);rintro e w3 ⟨rfl,hE,hb⟩;clear k1 k2 l1 l2 l3;have HET:=Lib.hid hE;obtain ⟨k1,k2,l1,l2,l3⟩:=HET.out.facts;clear hb hE)
   | (go_at_call 19;(with_reducible refine (repeat19 d (at_+1) 0 (-1) l A n c _ (Pts.more (HP.out _ HET.out.bel) HET.out.bel.size) (by omega) (by omega)).mono ?_);rintro e w3 ⟨he,hb⟩;obtain rfl:=(show e=.returned (.tuple #[.agg #[.int .i64 (repeatP d l (at_+1) 0 (-1)).1.kind,.int .i64 (repeatP d l (at_+1) 0 (-1)).1.num,.string ⟨(repeatP d l (at_+1) 0 (-1)).1.text.toArray⟩,.bool (repeatP d l (at_+1) 0 (-1)).1.not_,.int .i64 (repeatP d l (at_+1) 0 (-1)).1.least,.int .i64 (repeatP d l (at_+1) 0 (-1)).1.most,.int .i64 (repeatP d l (at_+1) 0 (-1)).1.way,.int .i64 (repeatP d l (at_+1) 0 (-1)).1.fold],.int .i64 (repeatP d l (at_+1) 0 (-1)).2]) from he);clear he;clear k1 k2 l1 l2 l3;have HET:=Lib.hid (HET.out.next hb);obtain ⟨k1,k2,l1,l2,l3⟩:=HET.out.facts;clear hb)
   | ((with_reducible apply store24 (g:=w.heap.size+2));rfl;(with_reducible rfl);rfl;rfl;(exact hz_alloc HET.out.hz);rfl;rfl)))|go_values|go_skip|go_guarded|go_step|go_upon|(simp only []))
  ((try simp only [Exit.inBlock,Exit.then]);refine bodyPost_ret (v:=_) (results24q Try.results10 _ _ (w.heap.size+2) _ (.int .i64 (repeatP d l (at_+1) 0 (-1)).2) (.int .i64 0) ?_ ?_ ?_ (row24 ?_) ?_) rfl ?_;rfl;rfl;rfl;(exact hz_alloc HET.out.hz);rfl;refine And.intro ?_ ?_;(rw [HE.out];rfl);exact (Below.setRow (HET.out.bel.alloc HET.out.bel.size _) (Nat.le_add_right _ _) _))
 have H42:=Lib.hid h42
 clear h42
 by_cases h43:p=43
 ·subst h43
  have HE:=Lib.hid (show r=.ok (repeatP d l (at_+1) 1 (-1)) from HR.out.trans (tok_one HPT.out rfl))
  repeat (first|(go_big_may;go_says (first
   | (go_at_call 17;(with_reducible refine (et_is HET.out HP.out ⟨by omega,by omega⟩ HPT.out 46 46 false rfl rfl).mono ?_);rintro e w3 ⟨rfl,hE,hb⟩;clear k1 k2 l1 l2 l3;have HET:=Lib.hid hE;obtain ⟨k1,k2,l1,l2,l3⟩:=HET.out.facts;clear hb hE)
   | (go_at_call 17;(with_reducible refine (et_is HET.out HP.out ⟨by omega,by omega⟩ HPT.out 94 94 false rfl rfl).mono ?_);rintro e w3 ⟨rfl,hE,hb⟩;clear k1 k2 l1 l2 l3;have HET:=Lib.hid hE;obtain ⟨k1,k2,l1,l2,l3⟩:=HET.out.facts;clear hb hE)
   | (go_at_call 17;(with_reducible refine (et_is HET.out HP.out ⟨by omega,by omega⟩ HPT.out 36 36 false rfl rfl).mono ?_);rintro e w3 ⟨rfl,hE,hb⟩;clear k1 k2 l1 l2 l3;have HET:=Lib.hid hE;obtain ⟨k1,k2,l1,l2,l3⟩:=HET.out.facts;clear hb hE)
   | (go_at_call 17;(with_reducible refine (et_is HET.out HP.out ⟨by omega,by omega⟩ HPT.out 91 91 false rfl rfl).mono ?_);rintro e w3 ⟨rfl,hE,hb⟩;clear k1 k2 l1 l2 l3;have HET:=Lib.hid hE;obtain ⟨k1,k2,l1,l2,l3⟩:=HET.out.facts;clear hb hE)
   | (go_at_call 17;(with_reducible refine (et_is HET.out HP.out ⟨by omega,by omega⟩ HPT.out 42 42 false rfl rfl).mono ?_);rintro e w3 ⟨rfl,hE,hb⟩;clear k1 k2 l1 l2 l3;have HET:=Lib.hid hE;obtain ⟨k1,k2,l1,l2,l3⟩:=HET.out.facts;clear hb hE)
   | (go_at_call 17;(with_reducible refine (et_is HET.out HP.out ⟨by omega,by omega⟩ HPT.out 43 43 true rfl rfl).mono ?_);rintro e w3 ⟨rfl,hE,hb⟩;clear k1 k2 l1 l2 l3;have HET:=Lib.hid hE;obtain ⟨k1,k2,l1,l2,l3⟩:=HET.out.facts;clear hb hE)
   | (go_at_call 17;(with_reducible refine (et_is HET.out HP.out ⟨by omega,by omega⟩ HPT.out 63 63 false rfl rfl).mono ?_);rintro e w3 ⟨rfl,hE,hb⟩;clear k1 k2 l1 l2 l3;have HET:=Lib.hid hE;obtain ⟨k1,k2,l1,l2,l3⟩:=HET.out.facts;clear hb hE)
   | (go_at_call 19;(with_reducible refine (repeat19 d (at_+1) 1 (-1) l A n c _ (Pts.more (HP.out _ HET.out.bel) HET.out.bel.size) (by omega) (by omega)).mono ?_);rintro e w3 ⟨he,hb⟩;obtain rfl:=(show e=.returned (.tuple #[.agg #[.int .i64 (repeatP d l (at_+1) 1 (-1)).1.kind,.int .i64 (repeatP d l (at_+1) 1 (-1)).1.num,.string ⟨(repeatP d l (at_+1) 1 (-1)).1.text.toArray⟩,.bool (repeatP d l (at_+1) 1 (-1)).1.not_,.int .i64 (repeatP d l (at_+1) 1 (-1)).1.least,.int .i64 (repeatP d l (at_+1) 1 (-1)).1.most,.int .i64 (repeatP d l (at_+1) 1 (-1)).1.way,.int .i64 (repeatP d l (at_+1) 1 (-1)).1.fold],.int .i64 (repeatP d l (at_+1) 1 (-1)).2]) from he);clear he;clear k1 k2 l1 l2 l3;have HET:=Lib.hid (HET.out.next hb);obtain ⟨k1,k2,l1,l2,l3⟩:=HET.out.facts;clear hb)
   | ((with_reducible apply store24 (g:=w.heap.size+2));rfl;(with_reducible rfl);rfl;rfl;(exact hz_alloc HET.out.hz);rfl;rfl)))|go_values|go_skip|go_guarded|go_step|go_upon|(simp only []))
  ((try simp only [Exit.inBlock,Exit.then]);refine bodyPost_ret (v:=_) (results24q Try.results10 _ _ (w.heap.size+2) _ (.int .i64 (repeatP d l (at_+1) 1 (-1)).2) (.int .i64 0) ?_ ?_ ?_ (row24 ?_) ?_) rfl ?_;rfl;rfl;rfl;(exact hz_alloc HET.out.hz);rfl;refine And.intro ?_ ?_;(rw [HE.out];rfl);exact (Below.setRow (HET.out.bel.alloc HET.out.bel.size _) (Nat.le_add_right _ _) _))
 have H43:=Lib.hid h43
 clear h43
 by_cases h63:p=63
 ·subst h63
  have HE:=Lib.hid (show r=.ok (repeatP d l (at_+1) 0 1) from HR.out.trans (tok_one HPT.out rfl))
  repeat (first|(go_big_may;go_says (first
   | (go_at_call 17;(with_reducible refine (et_is HET.out HP.out ⟨by omega,by omega⟩ HPT.out 46 46 false rfl rfl).mono ?_);rintro e w3 ⟨rfl,hE,hb⟩;clear k1 k2 l1 l2 l3;have HET:=Lib.hid hE;obtain ⟨k1,k2,l1,l2,l3⟩:=HET.out.facts;clear hb hE)
   | (go_at_call 17;(with_reducible refine (et_is HET.out HP.out ⟨by omega,by omega⟩ HPT.out 94 94 false rfl rfl).mono ?_);rintro e w3 ⟨rfl,hE,hb⟩;clear k1 k2 l1 l2 l3;have HET:=Lib.hid hE;obtain ⟨k1,k2,l1,l2,l3⟩:=HET.out.facts;clear hb hE)
   | (go_at_call 17;(with_reducible refine (et_is HET.out HP.out ⟨by omega,by omega⟩ HPT.out 36 36 false rfl rfl).mono ?_);rintro e w3 ⟨rfl,hE,hb⟩;clear k1 k2 l1 l2 l3;have HET:=Lib.hid hE;obtain ⟨k1,k2,l1,l2,l3⟩:=HET.out.facts;clear hb hE)
   | (go_at_call 17;(with_reducible refine (et_is HET.out HP.out ⟨by omega,by omega⟩ HPT.out 91 91 false rfl rfl).mono ?_);rintro e w3 ⟨rfl,hE,hb⟩;clear k1 k2 l1 l2 l3;have HET:=Lib.hid hE;obtain ⟨k1,k2,l1,l2,l3⟩:=HET.out.facts;clear hb hE)
   | (go_at_call 17;(with_reducible refine (et_is HET.out HP.out ⟨by omega,by omega⟩ HPT.out 42 42 false rfl rfl).mono ?_);rintro e w3 ⟨rfl,hE,hb⟩;clear k1 k2 l1 l2 l3;have HET:=Lib.hid hE;obtain ⟨k1,k2,l1,l2,l3⟩:=HET.out.facts;clear hb hE)
   | (go_at_call 17;(with_reducible refine (et_is HET.out HP.out ⟨by omega,by omega⟩ HPT.out 43 43 false rfl rfl).mono ?_);rintro e w3 ⟨rfl,hE,hb⟩;clear k1 k2 l1 l2 l3;have HET:=Lib.hid hE;obtain ⟨k1,k2,l1,l2,l3⟩:=HET.out.facts;clear hb hE)
   | (go_at_call 17;(with_reducible refine (et_is HET.out HP.out ⟨by omega,by omega⟩ HPT.out 63 63 true rfl rfl).mono ?_);rintro e w3 ⟨rfl,hE,hb⟩;clear k1 k2 l1 l2 l3;have HET:=Lib.hid hE;obtain ⟨k1,k2,l1,l2,l3⟩:=HET.out.facts;clear hb hE)
   | (go_at_call 19;(with_reducible refine (repeat19 d (at_+1) 0 1 l A n c _ (Pts.more (HP.out _ HET.out.bel) HET.out.bel.size) (by omega) (by omega)).mono ?_);rintro e w3 ⟨he,hb⟩;obtain rfl:=(show e=.returned (.tuple #[.agg #[.int .i64 (repeatP d l (at_+1) 0 1).1.kind,.int .i64 (repeatP d l (at_+1) 0 1).1.num,.string ⟨(repeatP d l (at_+1) 0 1).1.text.toArray⟩,.bool (repeatP d l (at_+1) 0 1).1.not_,.int .i64 (repeatP d l (at_+1) 0 1).1.least,.int .i64 (repeatP d l (at_+1) 0 1).1.most,.int .i64 (repeatP d l (at_+1) 0 1).1.way,.int .i64 (repeatP d l (at_+1) 0 1).1.fold],.int .i64 (repeatP d l (at_+1) 0 1).2]) from he);clear he;clear k1 k2 l1 l2 l3;have HET:=Lib.hid (HET.out.next hb);obtain ⟨k1,k2,l1,l2,l3⟩:=HET.out.facts;clear hb)
   | ((with_reducible apply store24 (g:=w.heap.size+2));rfl;(with_reducible rfl);rfl;rfl;(exact hz_alloc HET.out.hz);rfl;rfl)))|go_values|go_skip|go_guarded|go_step|go_upon|(simp only []))
  ((try simp only [Exit.inBlock,Exit.then]);refine bodyPost_ret (v:=_) (results24q Try.results10 _ _ (w.heap.size+2) _ (.int .i64 (repeatP d l (at_+1) 0 1).2) (.int .i64 0) ?_ ?_ ?_ (row24 ?_) ?_) rfl ?_;rfl;rfl;rfl;(exact hz_alloc HET.out.hz);rfl;refine And.intro ?_ ?_;(rw [HE.out];rfl);exact (Below.setRow (HET.out.bel.alloc HET.out.bel.size _) (Nat.le_add_right _ _) _))
 have H63:=Lib.hid h63
 clear h63
 by_cases h92:p=92
 ·subst h92
  have HX:=Lib.hid (show r=escapedP d l (at_+1) from HR.out.trans (tok_one HPT.out rfl))
  obtain ⟨q,hq⟩:∃ q,q=escapedP d l (at_+1):=⟨_,rfl⟩
  cases q with
  | error x =>
   have HE:=Lib.hid (show r=.error x from HX.out.trans hq.symm)
   have HC:=Lib.hid hq.symm
   clear hq
   repeat (first|(go_big_may;go_says (first
    | (go_at_call 17;(with_reducible refine (et_is HET.out HP.out ⟨by omega,by omega⟩ HPT.out 46 46 false rfl rfl).mono ?_);rintro e w3 ⟨rfl,hE,hb⟩;clear k1 k2 l1 l2 l3;have HET:=Lib.hid hE;obtain ⟨k1,k2,l1,l2,l3⟩:=HET.out.facts;clear hb hE)
    | (go_at_call 17;(with_reducible refine (et_is HET.out HP.out ⟨by omega,by omega⟩ HPT.out 94 94 false rfl rfl).mono ?_);rintro e w3 ⟨rfl,hE,hb⟩;clear k1 k2 l1 l2 l3;have HET:=Lib.hid hE;obtain ⟨k1,k2,l1,l2,l3⟩:=HET.out.facts;clear hb hE)
    | (go_at_call 17;(with_reducible refine (et_is HET.out HP.out ⟨by omega,by omega⟩ HPT.out 36 36 false rfl rfl).mono ?_);rintro e w3 ⟨rfl,hE,hb⟩;clear k1 k2 l1 l2 l3;have HET:=Lib.hid hE;obtain ⟨k1,k2,l1,l2,l3⟩:=HET.out.facts;clear hb hE)
    | (go_at_call 17;(with_reducible refine (et_is HET.out HP.out ⟨by omega,by omega⟩ HPT.out 91 91 false rfl rfl).mono ?_);rintro e w3 ⟨rfl,hE,hb⟩;clear k1 k2 l1 l2 l3;have HET:=Lib.hid hE;obtain ⟨k1,k2,l1,l2,l3⟩:=HET.out.facts;clear hb hE)
    | (go_at_call 17;(with_reducible refine (et_is HET.out HP.out ⟨by omega,by omega⟩ HPT.out 42 42 false rfl rfl).mono ?_);rintro e w3 ⟨rfl,hE,hb⟩;clear k1 k2 l1 l2 l3;have HET:=Lib.hid hE;obtain ⟨k1,k2,l1,l2,l3⟩:=HET.out.facts;clear hb hE)
    | (go_at_call 17;(with_reducible refine (et_is HET.out HP.out ⟨by omega,by omega⟩ HPT.out 43 43 false rfl rfl).mono ?_);rintro e w3 ⟨rfl,hE,hb⟩;clear k1 k2 l1 l2 l3;have HET:=Lib.hid hE;obtain ⟨k1,k2,l1,l2,l3⟩:=HET.out.facts;clear hb hE)
    | (go_at_call 17;(with_reducible refine (et_is HET.out HP.out ⟨by omega,by omega⟩ HPT.out 63 63 false rfl rfl).mono ?_);rintro e w3 ⟨rfl,hE,hb⟩;clear k1 k2 l1 l2 l3;have HET:=Lib.hid hE;obtain ⟨k1,k2,l1,l2,l3⟩:=HET.out.facts;clear hb hE)
    | (go_at_call 17;(with_reducible refine (et_is HET.out HP.out ⟨by omega,by omega⟩ HPT.out 92 92 true rfl rfl).mono ?_);rintro e w3 ⟨rfl,hE,hb⟩;clear k1 k2 l1 l2 l3;have HET:=Lib.hid hE;obtain ⟨k1,k2,l1,l2,l3⟩:=HET.out.facts;clear hb hE)
    | (go_at_call 20;(with_reducible refine (escaped20 d (at_+1) l A n c _ (Pts.more (HP.out _ HET.out.bel) HET.out.bel.size) hd1 hd3 (by omega) (by omega) HOK.out).mono ?_);rintro e w3 ⟨he,hb⟩;rw [HC.out] at he;obtain rfl:=(show e=.returned (.tuple #[.agg #[.int .i64 0,.int .i64 0,.string ⟨#[]⟩,.bool false,.int .i64 0,.int .i64 0,.int .i64 0,.int .i64 0],.int .i64 0,.int .i64 x]) from he);clear he;clear k1 k2 l1 l2 l3;have HET:=Lib.hid (HET.out.next hb);obtain ⟨k1,k2,l1,l2,l3⟩:=HET.out.facts;clear hb)
    | ((with_reducible apply store24 (g:=w.heap.size+2));rfl;(with_reducible rfl);rfl;rfl;(exact HET.out.hz);rfl;rfl)))|go_values|go_skip|go_guarded|go_step|go_upon|(simp only []))
   ((try simp only [Exit.inBlock,Exit.then]);refine bodyPost_ret (v:=_) (results24q Try.results10 _ _ (w.heap.size+2) _ (.int .i64 0) (.int .i64 x) ?_ ?_ ?_ (row24 ?_) ?_) rfl ?_;rfl;rfl;rfl;(exact HET.out.hz);rfl;refine And.intro ?_ ?_;(rw [HE.out];rfl);exact (Below.setRow HET.out.bel (Nat.le_add_right _ _) _))
  | ok q =>
   have HE:=Lib.hid (show r=.ok q from HX.out.trans hq.symm)
   have HC:=Lib.hid hq.symm
   clear hq
   repeat (first|(go_big_may;go_says (first
    | (go_at_call 17;(with_reducible refine (et_is HET.out HP.out ⟨by omega,by omega⟩ HPT.out 46 46 false rfl rfl).mono ?_);rintro e w3 ⟨rfl,hE,hb⟩;clear k1 k2 l1 l2 l3;have HET:=Lib.hid hE;obtain ⟨k1,k2,l1,l2,l3⟩:=HET.out.facts;clear hb hE)
    | (go_at_call 17;(with_reducible refine (et_is HET.out HP.out ⟨by omega,by omega⟩ HPT.out 94 94 false rfl rfl).mono ?_);rintro e w3 ⟨rfl,hE,hb⟩;clear k1 k2 l1 l2 l3;have HET:=Lib.hid hE;obtain ⟨k1,k2,l1,l2,l3⟩:=HET.out.facts;clear hb hE)
    | (go_at_call 17;(with_reducible refine (et_is HET.out HP.out ⟨by omega,by omega⟩ HPT.out 36 36 false rfl rfl).mono ?_);rintro e w3 ⟨rfl,hE,hb⟩;clear k1 k2 l1 l2 l3;have HET:=Lib.hid hE;obtain ⟨k1,k2,l1,l2,l3⟩:=HET.out.facts;clear hb hE)
    | (go_at_call 17;(with_reducible refine (et_is HET.out HP.out ⟨by omega,by omega⟩ HPT.out 91 91 false rfl rfl).mono ?_);rintro e w3 ⟨rfl,hE,hb⟩;clear k1 k2 l1 l2 l3;have HET:=Lib.hid hE;obtain ⟨k1,k2,l1,l2,l3⟩:=HET.out.facts;clear hb hE)
    | (go_at_call 17;(with_reducible refine (et_is HET.out HP.out ⟨by omega,by omega⟩ HPT.out 42 42 false rfl rfl).mono ?_);rintro e w3 ⟨rfl,hE,hb⟩;clear k1 k2 l1 l2 l3;have HET:=Lib.hid hE;obtain ⟨k1,k2,l1,l2,l3⟩:=HET.out.facts;clear hb hE)
    | (go_at_call 17;(with_reducible refine (et_is HET.out HP.out ⟨by omega,by omega⟩ HPT.out 43 43 false rfl rfl).mono ?_);rintro e w3 ⟨rfl,hE,hb⟩;clear k1 k2 l1 l2 l3;have HET:=Lib.hid hE;obtain ⟨k1,k2,l1,l2,l3⟩:=HET.out.facts;clear hb hE)
    | (go_at_call 17;(with_reducible refine (et_is HET.out HP.out ⟨by omega,by omega⟩ HPT.out 63 63 false rfl rfl).mono ?_);rintro e w3 ⟨rfl,hE,hb⟩;clear k1 k2 l1 l2 l3;have HET:=Lib.hid hE;obtain ⟨k1,k2,l1,l2,l3⟩:=HET.out.facts;clear hb hE)
    | (go_at_call 17;(with_reducible refine (et_is HET.out HP.out ⟨by omega,by omega⟩ HPT.out 92 92 true rfl rfl).mono ?_);rintro e w3 ⟨rfl,hE,hb⟩;clear k1 k2 l1 l2 l3;have HET:=Lib.hid hE;obtain ⟨k1,k2,l1,l2,l3⟩:=HET.out.facts;clear hb hE)
    | (go_at_call 20;(with_reducible refine (escaped20 d (at_+1) l A n c _ (Pts.more (HP.out _ HET.out.bel) HET.out.bel.size) hd1 hd3 (by omega) (by omega) HOK.out).mono ?_);rintro e w3 ⟨he,hb⟩;rw [HC.out] at he;obtain rfl:=(show e=.returned (.tuple #[.agg #[.int .i64 q.1.kind,.int .i64 q.1.num,.string ⟨q.1.text.toArray⟩,.bool q.1.not_,.int .i64 q.1.least,.int .i64 q.1.most,.int .i64 q.1.way,.int .i64 q.1.fold],.int .i64 q.2,.int .i64 0]) from he);clear he;clear k1 k2 l1 l2 l3;have HET:=Lib.hid (HET.out.next hb);obtain ⟨k1,k2,l1,l2,l3⟩:=HET.out.facts;clear hb)
    | ((with_reducible apply store24 (g:=w.heap.size+2));rfl;(with_reducible rfl);rfl;rfl;(exact HET.out.hz);rfl;rfl)))|go_values|go_skip|go_guarded|go_step|go_upon|(simp only []))
   ((try simp only [Exit.inBlock,Exit.then]);refine bodyPost_ret (v:=_) (results24q Try.results10 _ _ (w.heap.size+2) _ (.int .i64 q.2) (.int .i64 0) ?_ ?_ ?_ (row24 ?_) ?_) rfl ?_;rfl;rfl;rfl;(exact HET.out.hz);rfl;refine And.intro ?_ ?_;(rw [HE.out];rfl);exact (Below.setRow HET.out.bel (Nat.le_add_right _ _) _))
 have H92:=Lib.hid h92
 clear h92
 exfalso
 have:=HS.out
 have a1:=H46.out
 have a2:=H94.out
 have a3:=H36.out
 have a4:=H91.out
 have a5:=H42.out
 have a6:=H43.out
 have a7:=H63.out
 have a8:=H92.out
 omega
end Go.Proofs.Ytmjlmjlkghpknaa
