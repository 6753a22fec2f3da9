/-
  A token of the reference at a backslash, DialectRuby: joined. What the reference's bracket is asked: all of it.
-/
import Derived.Test.YtbiahhojnjchnaaGreatHK
import Derived.Test.YtbiahhojnjchnaaGreatHL
import Derived.Test.YtbiahhojnjchnaaGreatTkAS
import Derived.Test.YtbiahhojnjchnaaGreatTkAT
import Derived.Test.YtbiahhojnjchnaaGreatHN
import Derived.Test.YtbiahhojnjchnaaGreatHO
import Derived.Test.YtbiahhojnjchnaaGreatGN
import Derived.Test.YtbiahhojnjchnaaGreatGF
import Derived.Test.YtbiahhojnjchnaaGreatHM
set_option linter.unusedVariables false
set_option linter.unusedSimpArgs false
namespace Go.Proofs.YtbiahhojnjchnaaGreat
open Go.RowKit
theorem escaped20r (at_:Int) (l:List Int) (A:Option Addr) (n c:Nat) (w:World) (h:Pts w.heap.size n c A l w) (h0:0≤at_) (h1:at_≤n) (hok:∀ q,-1≤ptAt l q∧ptAt l q≤1114111) :
  Calls Tryz.prog 139 #[.int .i64 1,.slice A n c,.int .i64 at_] w fun e w'=>ROutT (escapedP 1 l at_) e∧Below w.heap.size w w':=by
 by_cases hS:ptAt l at_=100∨ptAt l at_=68∨ptAt l at_=119∨ptAt l at_=87∨ptAt l at_=115∨ptAt l at_=83∨ptAt l at_=104∨ptAt l at_=72
 ·exact escaped20_oneA at_ l A n c w h h0 h1 hS
 ·by_cases h2:ptAt l at_=98∨ptAt l at_=66∨ptAt l at_=65∨ptAt l at_=122
  ·exact escaped20_oneB1a at_ l A n c w h h0 h1 hS h2
  ·by_cases h3:ptAt l at_=110∨ptAt l at_=116∨ptAt l at_=114∨ptAt l at_=102∨ptAt l at_=118∨ptAt l at_=97∨ptAt l at_=101
   ·exact escaped20_oneB1b at_ l A n c w h h0 h1 hS h3
   ·have hn:¬ (ptAt l at_=98∨ptAt l at_=66∨ptAt l at_=65∨ptAt l at_=122∨ptAt l at_=110∨ptAt l at_=116∨ptAt l at_=114∨ptAt l at_=102∨ptAt l at_=118∨ptAt l at_=97∨ptAt l at_=101):=by omega
    by_cases h4:(49≤ptAt l at_∧ptAt l at_≤57)∨ptAt l at_=120∨ptAt l at_=117
    ·exact escaped20_oneB2 at_ l A n c w h h0 h1 hok hS ⟨hn,h4⟩
    ·by_cases h5:ptAt l at_=107
     ·exact escaped20_oneB3a at_ l A n c w h h0 h1 hS ⟨hn,h4,h5⟩
     ·exact escaped20_oneB3b at_ l A n c w h h0 h1 hS ⟨hn,h4,h5⟩
/-- a pattern and a place, boxed, and the token told -/
structure Et (w W:World) (n c:Nat) (A:Option Addr) (l:List Int) (at_:Int):Prop where
 bel:Below w.heap.size w W
 size:w.heap.size+3≤W.heap.size
 hl:W.heap[w.heap.size]?=some (.cells #[.slice A n c] 22 (0,0))
 ha:W.heap[w.heap.size+1]?=some (.cells #[.int .i64 at_] 3 (0,0))
 hz:W.heap[w.heap.size+2]?=some Z24
theorem Et.next {w W W':World} {n c:Nat} {A:Option Addr} {l:List Int} {at_:Int} (h:Et w W n c A l at_) (hb:Below W.heap.size W W'):Et w W' n c A l at_ :=
 ⟨h.bel.trans (hb.mono h.bel.size),Nat.le_trans h.size hb.size,row_next h.hl hb,row_next h.ha hb,row_next h.hz hb⟩
theorem Et.facts {w W:World} {n c:Nat} {A:Option Addr} {l:List Int} {at_:Int} (h:Et w W n c A l at_) :
  W.cell? ⟨w.heap.size,0,none⟩=some (.slice A n c)∧W.cell? ⟨w.heap.size+1,0,none⟩=some (.int .i64 at_)∧w.heap.size < W.heap.size∧w.heap.size+1 < W.heap.size∧w.heap.size+2 < W.heap.size:=by
 have h1:=h.size
 exact ⟨cell_of_row _ _ 0 _ _ _ h.hl,cell_of_row _ _ 0 _ _ _ h.ha,by omega,by omega,by omega⟩
theorem et_is {w W:World} {n c:Nat} {A:Option Addr} {l:List Int} {at_ p:Int} (h:Et w W n c A l at_) (hP:∀ w',Below w.heap.size w w'→Pts w.heap.size n c A l w') (hr:0≤at_∧at_≤2000) (hp:p=ptAt l at_) (b:UInt8) (x:Int) (v:Bool) (hx:(b.toNat:Int)=x) (hv:v=decide (p=x)) :
  Calls Tryz.prog 137 #[.string ⟨#[b]⟩,.pointer (some ⟨w.heap.size,0,none⟩),.pointer (some ⟨w.heap.size+1,0,none⟩)] W fun e w'=>e=.returned (.bool v)∧Et w w' n c A l at_∧Below W.heap.size W w' :=
 (is17 ⟨#[b]⟩ at_ v (hP W h.bel) h.facts.1 h.facts.2.1 (by simp [ByteArray.size]) hr (by rw [hv,hp,← hx];exact (saysP_one l at_ b).symm)).mono fun e w' ⟨he,hb,_⟩=>⟨he,h.next hb,hb⟩
theorem tok_one {d:Int} {l:List Int} {at_ p:Int} {r:TR} (hp:p=ptAt l at_) (h:(let q:=p;if q=46 then .ok ({ kind:=2 },at_+1)
 else if q=94 then .ok (lookT 3,at_+1)
 else if q=36 then .ok (lookT 4,at_+1)
 else if q=91 then .ok ({ kind:=5 },at_+1)
 else if q=42 then .ok (repeatP d l (at_+1) 0 (-1))
 else if q=43 then .ok (repeatP d l (at_+1) 1 (-1))
 else if q=63 then .ok (repeatP d l (at_+1) 0 1)
 else if q=92 then escapedP d l (at_+1)
 else if d=3 then .ok (pointT q,at_+1)
 else if q=40 then openP d l (at_+1)
 else if q=41 then .ok ({ kind:=8 },at_+1)
 else if q=124 then .ok ({ kind:=9 },at_+1)
 else if q=123 then braceP d l (at_+1) q
 else .ok (pointT q,at_+1))=r):tokenP d l at_=r:=by
 unfold tokenP
 rw [← hp]
 exact h
set_option maxRecDepth 100000 in
set_option maxHeartbeats 8000000 in
theorem tokenAt10_r (at_:Int) (l:List Int) (A:Option Addr) (n c:Nat) (w:World) (h:Pts w.heap.size n c A l w) (hok:∀ q,-1≤ptAt l q∧ptAt l q≤1114111) (h0:0≤at_) (h1:at_ < n) (hS:ptAt l at_=92) :
  Calls Tryz.prog 115 #[.int .i64 1,.slice A n c,.int .i64 at_] w fun e w'=>ROutT (tokenP 1 l at_) e∧Below w.heap.size w w':=by
 have HOK:=Lib.hid hok
 clear hok
 have hsm:=h.small
 have hln:=h.len
 have HP:=Lib.hid (fun w' (hb:Below w.heap.size w w')=>h.next hb)
 obtain ⟨W0,hW0⟩:∃ W,W=(((w.alloc (.cells #[.slice A n c] 22)).alloc (.cells #[.int .i64 at_] 3)).alloc (.cells #[.int .i64 0,.int .i64 0,.string ⟨#[]⟩,.bool false,.int .i64 0,.int .i64 0,.int .i64 0,.int .i64 0] 108)):=⟨_,rfl⟩
 have het:Et w W0 n c A l at_:=⟨by rw [hW0];exact (((Below.refl _ _).alloc (Nat.le_refl _) _).alloc (by simp) _).alloc (by simp;omega) _,by rw [hW0];simp,
  by rw [hW0];exact hz_alloc (hz_alloc (heap_alloc_new w _)),by rw [hW0];have:=heap_alloc_new (w.alloc (.cells #[.slice A n c] 22)) (.cells #[.int .i64 at_] 3);exact hz_alloc (by simpa using this),by rw [hW0];have:=hz_new (w:=(w.alloc (.cells #[.slice A n c] 22)).alloc (.cells #[.int .i64 at_] 3));simpa using this⟩
 obtain ⟨p,hp⟩:∃ p,p=ptAt l at_:=⟨_,rfl⟩
 have HPT:=Lib.hid hp
 rw [← hp] at hS
 have HET:=Lib.hid het
 obtain ⟨r,hr⟩:∃ r,r=tokenP 1 l at_:=⟨_,rfl⟩
 have HR:=Lib.hid hr
 rw [← hr]
 have hat:at_+1≤n:=by omega
 have HROW:=Lib.hid h.row
 have hp0:=Lib.hid (show ∃ k:Nat,at_=k∧k < n from ⟨at_.toNat,by omega,by omega⟩)
 have HLN:=Lib.hid hln
 clear h hp hr het
 go_enter Tryz.func115,Tryz.ntmps115
 go_upto_region 1 with (fail)
 rw [← hW0]
 clear hW0
 simp only [Nat.add_assoc,Nat.reduceAdd]
 obtain ⟨k1,k2,l1,l2,l3⟩:=HET.out.facts
 go_upto_region 3 with (fail)
 subst hS
 have HX:=Lib.hid (show r=escapedP 1 l (at_+1) from HR.out.trans (tok_one HPT.out rfl))
 obtain ⟨q,hq⟩:∃ q,q=escapedP 1 l (at_+1):=⟨_,rfl⟩
 cases q with
 | error x =>
  have HE:=Lib.hid (show r=.error x from HX.out.trans hq.symm)
  have HC:=Lib.hid hq.symm
  clear hq
  repeat (first|(go_big_may;go_says (first
   | (go_at_call 137;(with_reducible refine (et_is HET.out HP.out ⟨by omega,by omega⟩ HPT.out 46 46 false rfl rfl).mono ?_);rintro e w3 ⟨rfl,hE,hb⟩;clear k1 k2 l1 l2 l3;have HET:=Lib.hid hE;obtain ⟨k1,k2,l1,l2,l3⟩:=HET.out.facts;clear hb hE)
   | (go_at_call 137;(with_reducible refine (et_is HET.out HP.out ⟨by omega,by omega⟩ HPT.out 94 94 false rfl rfl).mono ?_);rintro e w3 ⟨rfl,hE,hb⟩;clear k1 k2 l1 l2 l3;have HET:=Lib.hid hE;obtain ⟨k1,k2,l1,l2,l3⟩:=HET.out.facts;clear hb hE)
   | (go_at_call 137;(with_reducible refine (et_is HET.out HP.out ⟨by omega,by omega⟩ HPT.out 36 36 false rfl rfl).mono ?_);rintro e w3 ⟨rfl,hE,hb⟩;clear k1 k2 l1 l2 l3;have HET:=Lib.hid hE;obtain ⟨k1,k2,l1,l2,l3⟩:=HET.out.facts;clear hb hE)
   | (go_at_call 137;(with_reducible refine (et_is HET.out HP.out ⟨by omega,by omega⟩ HPT.out 91 91 false rfl rfl).mono ?_);rintro e w3 ⟨rfl,hE,hb⟩;clear k1 k2 l1 l2 l3;have HET:=Lib.hid hE;obtain ⟨k1,k2,l1,l2,l3⟩:=HET.out.facts;clear hb hE)
   | (go_at_call 137;(with_reducible refine (et_is HET.out HP.out ⟨by omega,by omega⟩ HPT.out 42 42 false rfl rfl).mono ?_);rintro e w3 ⟨rfl,hE,hb⟩;clear k1 k2 l1 l2 l3;have HET:=Lib.hid hE;obtain ⟨k1,k2,l1,l2,l3⟩:=HET.out.facts;clear hb hE)
   | (go_at_call 137;(with_reducible refine (et_is HET.out HP.out ⟨by omega,by omega⟩ HPT.out 43 43 false rfl rfl).mono ?_);rintro e w3 ⟨rfl,hE,hb⟩;clear k1 k2 l1 l2 l3;have HET:=Lib.hid hE;obtain ⟨k1,k2,l1,l2,l3⟩:=HET.out.facts;clear hb hE)
   | (go_at_call 137;(with_reducible refine (et_is HET.out HP.out ⟨by omega,by omega⟩ HPT.out 63 63 false rfl rfl).mono ?_);rintro e w3 ⟨rfl,hE,hb⟩;clear k1 k2 l1 l2 l3;have HET:=Lib.hid hE;obtain ⟨k1,k2,l1,l2,l3⟩:=HET.out.facts;clear hb hE)
   | (go_at_call 137;(with_reducible refine (et_is HET.out HP.out ⟨by omega,by omega⟩ HPT.out 92 92 true rfl rfl).mono ?_);rintro e w3 ⟨rfl,hE,hb⟩;clear k1 k2 l1 l2 l3;have HET:=Lib.hid hE;obtain ⟨k1,k2,l1,l2,l3⟩:=HET.out.facts;clear hb hE)
   | (go_at_call 139;(with_reducible refine (escaped20r (at_+1) l A n c _ (Pts.more (HP.out _ HET.out.bel) HET.out.bel.size) (by omega) (by omega) HOK.out).mono ?_);rintro e w3 ⟨he,hb⟩;rw [HC.out] at he;obtain rfl:=(show e=.returned (.tuple #[.agg #[.int .i64 0,.int .i64 0,.string ⟨#[]⟩,.bool false,.int .i64 0,.int .i64 0,.int .i64 0,.int .i64 0],.int .i64 0,.int .i64 x]) from he);clear he;clear k1 k2 l1 l2 l3;have HET:=Lib.hid (HET.out.next hb);obtain ⟨k1,k2,l1,l2,l3⟩:=HET.out.facts;clear hb)
   | ((with_reducible apply store24 (g:=w.heap.size+2));rfl;(with_reducible rfl);rfl;rfl;(exact HET.out.hz);rfl;rfl)))|go_values|go_skip|go_guarded|go_step|go_upon|(simp only []))
  ((try simp only [Exit.inBlock,Exit.then]);refine bodyPost_ret (v:=_) (results24q Tryz.results115 _ _ (w.heap.size+2) _ (.int .i64 0) (.int .i64 x) ?_ ?_ ?_ (row24 ?_) ?_) rfl ?_;rfl;rfl;rfl;(exact HET.out.hz);rfl;refine And.intro ?_ ?_;(rw [HE.out];rfl);exact (Below.setRow HET.out.bel (Nat.le_add_right _ _) _))
 | ok q =>
  have HE:=Lib.hid (show r=.ok q from HX.out.trans hq.symm)
  have HC:=Lib.hid hq.symm
  clear hq
  repeat (first|(go_big_may;go_says (first
   | (go_at_call 137;(with_reducible refine (et_is HET.out HP.out ⟨by omega,by omega⟩ HPT.out 46 46 false rfl rfl).mono ?_);rintro e w3 ⟨rfl,hE,hb⟩;clear k1 k2 l1 l2 l3;have HET:=Lib.hid hE;obtain ⟨k1,k2,l1,l2,l3⟩:=HET.out.facts;clear hb hE)
   | (go_at_call 137;(with_reducible refine (et_is HET.out HP.out ⟨by omega,by omega⟩ HPT.out 94 94 false rfl rfl).mono ?_);rintro e w3 ⟨rfl,hE,hb⟩;clear k1 k2 l1 l2 l3;have HET:=Lib.hid hE;obtain ⟨k1,k2,l1,l2,l3⟩:=HET.out.facts;clear hb hE)
   | (go_at_call 137;(with_reducible refine (et_is HET.out HP.out ⟨by omega,by omega⟩ HPT.out 36 36 false rfl rfl).mono ?_);rintro e w3 ⟨rfl,hE,hb⟩;clear k1 k2 l1 l2 l3;have HET:=Lib.hid hE;obtain ⟨k1,k2,l1,l2,l3⟩:=HET.out.facts;clear hb hE)
   | (go_at_call 137;(with_reducible refine (et_is HET.out HP.out ⟨by omega,by omega⟩ HPT.out 91 91 false rfl rfl).mono ?_);rintro e w3 ⟨rfl,hE,hb⟩;clear k1 k2 l1 l2 l3;have HET:=Lib.hid hE;obtain ⟨k1,k2,l1,l2,l3⟩:=HET.out.facts;clear hb hE)
   | (go_at_call 137;(with_reducible refine (et_is HET.out HP.out ⟨by omega,by omega⟩ HPT.out 42 42 false rfl rfl).mono ?_);rintro e w3 ⟨rfl,hE,hb⟩;clear k1 k2 l1 l2 l3;have HET:=Lib.hid hE;obtain ⟨k1,k2,l1,l2,l3⟩:=HET.out.facts;clear hb hE)
   | (go_at_call 137;(with_reducible refine (et_is HET.out HP.out ⟨by omega,by omega⟩ HPT.out 43 43 false rfl rfl).mono ?_);rintro e w3 ⟨rfl,hE,hb⟩;clear k1 k2 l1 l2 l3;have HET:=Lib.hid hE;obtain ⟨k1,k2,l1,l2,l3⟩:=HET.out.facts;clear hb hE)
   | (go_at_call 137;(with_reducible refine (et_is HET.out HP.out ⟨by omega,by omega⟩ HPT.out 63 63 false rfl rfl).mono ?_);rintro e w3 ⟨rfl,hE,hb⟩;clear k1 k2 l1 l2 l3;have HET:=Lib.hid hE;obtain ⟨k1,k2,l1,l2,l3⟩:=HET.out.facts;clear hb hE)
   | (go_at_call 137;(with_reducible refine (et_is HET.out HP.out ⟨by omega,by omega⟩ HPT.out 92 92 true rfl rfl).mono ?_);rintro e w3 ⟨rfl,hE,hb⟩;clear k1 k2 l1 l2 l3;have HET:=Lib.hid hE;obtain ⟨k1,k2,l1,l2,l3⟩:=HET.out.facts;clear hb hE)
   | (go_at_call 139;(with_reducible refine (escaped20r (at_+1) l A n c _ (Pts.more (HP.out _ HET.out.bel) HET.out.bel.size) (by omega) (by omega) HOK.out).mono ?_);rintro e w3 ⟨he,hb⟩;rw [HC.out] at he;obtain rfl:=(show e=.returned (.tuple #[.agg #[.int .i64 q.1.kind,.int .i64 q.1.num,.string ⟨q.1.text.toArray⟩,.bool q.1.not_,.int .i64 q.1.least,.int .i64 q.1.most,.int .i64 q.1.way,.int .i64 q.1.fold],.int .i64 q.2,.int .i64 0]) from he);clear he;clear k1 k2 l1 l2 l3;have HET:=Lib.hid (HET.out.next hb);obtain ⟨k1,k2,l1,l2,l3⟩:=HET.out.facts;clear hb)
   | ((with_reducible apply store24 (g:=w.heap.size+2));rfl;(with_reducible rfl);rfl;rfl;(exact HET.out.hz);rfl;rfl)))|go_values|go_skip|go_guarded|go_step|go_upon|(simp only []))
  ((try simp only [Exit.inBlock,Exit.then]);refine bodyPost_ret (v:=_) (results24q Tryz.results115 _ _ (w.heap.size+2) _ (.int .i64 q.2) (.int .i64 0) ?_ ?_ ?_ (row24 ?_) ?_) rfl ?_;rfl;rfl;rfl;(exact HET.out.hz);rfl;refine And.intro ?_ ?_;(rw [HE.out];rfl);exact (Below.setRow HET.out.bel (Nat.le_add_right _ _) _))
theorem rtokC {l:List Int} (hl:∀ x ∈ l,0≤x∧x≤1114111):RTokC l:=by
 intro at_ A n c w h h0 h1 hp
 refine tokenAt10_r at_ l A n c w h (fun q=>?_) h0 h1 hp
 unfold ptAt
 split
 ·rename_i hq
  have:=hl (l[q.toNat]'(by omega)) (List.getElem_mem _)
  omega
 ·omega
end Go.Proofs.YtbiahhojnjchnaaGreat
namespace Go.Proofs.YtbiahhojnjchnaaGreat
open Go.RowKit
theorem foldQ_foldP (a:List (Int × Int)):foldQ true (mem a)=FoldP a:=by
 funext q
 unfold foldQ
 rw [if_pos rfl]
 rfl
theorem refC {d:Int} {l:List Int} (hl:∀ x ∈ l,0≤x∧x≤1114111):RefC d l where
 is_:=fun s v w h=>isClass57 s v h w
 cls_:=fun s L w h=>classOf59 s L w h
 not_:=fun a A n c w hn hc hok ha=>(notOf_any a A n c w hn hc hok ha).mono fun e w' h=>by obtain ⟨out,h1,_,h2⟩:=h;exact ⟨out,h1,h2⟩
 make:=fun a A n c w hn hc hok ha=>(makeOf_any a A n c w hn hc hok ha).mono fun e w' h=>by obtain ⟨out,h1,_,h2⟩:=h;exact ⟨out,h1,h2⟩
 meet:=fun a b A B n c m d w hn hc hd hca hcb ha hb=>(meetOf_any a b A B n c m d w hn hc hca.1 hcb.1 ha hb).mono fun e w' h=>by obtain ⟨out,h1,_,h2⟩:=h;exact ⟨out,h1,h2⟩
 fold:=fun a A n c w hn hc hca ha=>(foldOf68 a A n c w hn hc hca.1 ha).mono fun e w' h=>by obtain ⟨out,h1,_,h2⟩:=h;exact ⟨out,by rw [foldQ_foldP];exact h1,h2⟩
 tok:=fun _=>rtokC hl
end Go.Proofs.YtbiahhojnjchnaaGreat
