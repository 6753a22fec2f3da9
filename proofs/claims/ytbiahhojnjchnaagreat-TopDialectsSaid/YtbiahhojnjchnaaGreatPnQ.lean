/-
  A pattern parsed without a fault: walked.
-/
import Derived.Test.YtbiahhojnjchnaaGreatIB
import Derived.Test.YtbiahhojnjchnaaGreatPnP
import Derived.Test.YtbiahhojnjchnaaGreatGS
set_option linter.unusedVariables false
set_option linter.unusedSimpArgs false
namespace Go.Proofs.YtbiahhojnjchnaaGreat
open Go.RowKit
theorem assertFz (w:World):(Instr.typeAssert .nilIface 20 26 true).run Tryz.prog w=.ok (.tuple #[.agg #[.int .i64 0,.int .i64 0],.bool false]) w:=by kernel_rfl
set_option maxHeartbeats 4000000 in
set_option maxRecDepth 100000 in
theorem idle43 (p q:Value) (w:World) :
  CallsD Tryz.prog 43 #[p,q] .returning w fun e u' w'=>e=.returned (.tuple #[])∧u'=.returning∧Below w.heap.size w w':=by
 refine callsD_of_wpS Tryz.func43 rfl fun c₀ cs hu=>?_
 apply wpS_seq
 refine wpS_regionL ?_
 simp only [Tryz.ntmps43]
 refine wpL_recover_none rfl ?_ ?_ ?_
 ·simp [execOp,go_sem]
 ·simp only [recoverD,hu]
 refine wpL_value rfl ?_ ?_ (w':=w) (v:=.tuple #[.agg #[.int .i64 0,.int .i64 0],.bool false])
 ·simp [execOp,go_sem,Array.replicate,assertFz]
 refine wpL_value rfl ?_ ?_ (w':=w) (v:=.tuple #[.agg #[.int .i64 0,.int .i64 0],.bool false])
 ·simp [execOp,go_sem,Array.replicate]
 refine wpL_value rfl ?_ ?_ (w':=w) (v:=.agg #[.int .i64 0,.int .i64 0])
 ·simp [execOp,go_sem,Array.replicate]
 refine wpL_value rfl ?_ ?_ (w':=w) (v:=.bool false)
 ·simp [execOp,go_sem,Array.replicate]
 refine wpL_value rfl ?_ ?_ (w':=w.alloc (.cells #[.int .i64 0,.int .i64 0] 26)) (v:=.pointer (some ⟨w.heap.size,0,none⟩))
 ·simp [execOp,go_sem,Array.replicate]
 refine wpL_skip rfl ?_ ?_ (w':=w.alloc (.cells #[.int .i64 0,.int .i64 0] 26))
 ·simp [execOp,go_sem,Array.replicate]
 refine wpL_value rfl ?_ ?_ (w':=w.alloc (.cells #[.int .i64 0,.int .i64 0] 26)) (v:=.bool false)
 ·simp [execOp,go_sem,Array.replicate]
 show Code.wpS _ _ _ _ _ _
 apply wpS_seq
 refine wpS_regionL ?_
 refine wpL_value rfl ?_ ?_ (w':=w.alloc (.cells #[.int .i64 0,.int .i64 0] 26)) (v:=.bool false)
 ·simp [execOp,go_sem,Array.replicate]
 show Code.wpS _ _ _ _ _ _
 refine wpS_cond (t:=false) (by simp [Act.eval,Act.put,Array.replicate]) ?_
 simp only [Bool.false_eq_true,if_false]
 refine wpS_of_wp (wp_skip ?_)
 show bodyPostS _ _ _ _ _ _ _ _ _
 have hc:c₀ :: cs={ c₀ with mode:=.returning } :: cs:=by cases c₀;simp_all
 exact ⟨rfl,.returning,hc,.tuple #[],by simp [results,Tryz.results43],rfl,rfl,(Below.refl _ _).alloc (Nat.le_refl _) _⟩
theorem end22 {w Y:World} {g:Nat} {a0 a1 a2 a3 a4 a5 a6 a7 a8 a9 b0 b1 b2 b3 b4 b5 b6 b7 b8 b9 z0 z1 y0 y1:Value} (V:World) (hV:V=((((((((((((Y.setCell ⟨g,0,none⟩ b0).setCell ⟨g,1,none⟩ b1).setCell ⟨g,2,none⟩ b2).setCell ⟨g,3,none⟩ b3).setCell ⟨g,4,none⟩ b4).setCell ⟨g,5,none⟩ b5).setCell ⟨g,6,none⟩ b6).setCell ⟨g,7,none⟩ b7).setCell ⟨g,8,none⟩ b8).setCell ⟨g,9,none⟩ b9).setCell ⟨g+1,0,none⟩ z0).setCell ⟨g+1,1,none⟩ z1).drew)
  (h0:Y.heap[g]?=some (.cells #[a0,a1,a2,a3,a4,a5,a6,a7,a8,a9] 45 (0,0))) (h1:Y.heap[g+1]?=some (.cells #[y0,y1] 26 (0,0))) (hb:Below g w Y) :
  V.heap[g]?=some (.cells #[b0,b1,b2,b3,b4,b5,b6,b7,b8,b9] 45 (0,0))∧V.heap[g+1]?=some (.cells #[z0,z1] 26 (0,0))∧Below g w V∧Mvd (fun k=>decide (k < g+3)) (fun _=>false) Y V:=by
 subst hV
 have q0:=put1 (i:=0) (v:=b0) (ds:=#[b0,a1,a2,a3,a4,a5,a6,a7,a8,a9]) h0 rfl
 have q1:=put1 (i:=1) (v:=b1) (ds:=#[b0,b1,a2,a3,a4,a5,a6,a7,a8,a9]) q0 rfl
 have q2:=put1 (i:=2) (v:=b2) (ds:=#[b0,b1,b2,a3,a4,a5,a6,a7,a8,a9]) q1 rfl
 have q3:=put1 (i:=3) (v:=b3) (ds:=#[b0,b1,b2,b3,a4,a5,a6,a7,a8,a9]) q2 rfl
 have q4:=put1 (i:=4) (v:=b4) (ds:=#[b0,b1,b2,b3,b4,a5,a6,a7,a8,a9]) q3 rfl
 have q5:=put1 (i:=5) (v:=b5) (ds:=#[b0,b1,b2,b3,b4,b5,a6,a7,a8,a9]) q4 rfl
 have q6:=put1 (i:=6) (v:=b6) (ds:=#[b0,b1,b2,b3,b4,b5,b6,a7,a8,a9]) q5 rfl
 have q7:=put1 (i:=7) (v:=b7) (ds:=#[b0,b1,b2,b3,b4,b5,b6,b7,a8,a9]) q6 rfl
 have q8:=put1 (i:=8) (v:=b8) (ds:=#[b0,b1,b2,b3,b4,b5,b6,b7,b8,a9]) q7 rfl
 have q9:=put1 (i:=9) (v:=b9) (ds:=#[b0,b1,b2,b3,b4,b5,b6,b7,b8,b9]) q8 rfl
 have r0:=hz_set (hz_set (hz_set (hz_set (hz_set (hz_set (hz_set (hz_set (hz_set (hz_set (p:=⟨g,0,none⟩) (v:=b0) h1 (by simp)) (p:=⟨g,1,none⟩) (v:=b1) (by simp)) (p:=⟨g,2,none⟩) (v:=b2) (by simp)) (p:=⟨g,3,none⟩) (v:=b3) (by simp)) (p:=⟨g,4,none⟩) (v:=b4) (by simp)) (p:=⟨g,5,none⟩) (v:=b5) (by simp)) (p:=⟨g,6,none⟩) (v:=b6) (by simp)) (p:=⟨g,7,none⟩) (v:=b7) (by simp)) (p:=⟨g,8,none⟩) (v:=b8) (by simp)) (p:=⟨g,9,none⟩) (v:=b9) (by simp)
 refine ⟨hz_drew (hz_set (hz_set q9 (by simp)) (by simp)),hz_drew (put1 (put1 r0 rfl) rfl),?_,?_⟩
 ·exact Below.drew ((put24_below (hb) (Nat.le_refl _)).setCell (Nat.le_refl _) _ |>.setCell (Nat.le_refl _) _ |>.setCell (by simp) _ |>.setCell (by simp) _)
 ·have K:Below g Y _:=Below.drew ((((put24_below (b0:=b0) (b1:=b1) (b2:=b2) (b3:=b3) (b4:=b4) (b5:=b5) (b6:=b6) (b7:=b7) (Below.refl g Y) (Nat.le_refl g)).setCell (p:=⟨g,8,none⟩) (Nat.le_refl _) b8).setCell (p:=⟨g,9,none⟩) (Nat.le_refl _) b9).setCell (p:=⟨g+1,0,none⟩) (by simp) z0 |>.setCell (p:=⟨g+1,1,none⟩) (by simp) z1)
  refine ⟨K.os,K.tape,K.output,K.size,fun k hk hm=>?_,fun k _ h=>(by cases h)⟩
  have hne:¬ k < g+3:=of_decide_eq_false hm
  have n1:k≠g:=by omega
  have n2:k≠g+1:=by omega
  show (World.drew _).heap[k]?=_
  rw [show ∀ X:World,X.drew.heap=X.heap from fun _=>rfl]
  rw [Below.heap_setCell _ _ _ _ n2,Below.heap_setCell _ _ _ _ n2,Below.heap_setCell _ _ _ _ n1,Below.heap_setCell _ _ _ _ n1,Below.heap_setCell _ _ _ _ n1,Below.heap_setCell _ _ _ _ n1,Below.heap_setCell _ _ _ _ n1,Below.heap_setCell _ _ _ _ n1,Below.heap_setCell _ _ _ _ n1,Below.heap_setCell _ _ _ _ n1,Below.heap_setCell _ _ _ _ n1,Below.heap_setCell _ _ _ _ n1]
theorem own_from {w w':World} {base:Nat} {e:TypeId} {size n:Nat} {v:Value} {xs:List Value} (h:w.ownsRow base e size v n xs) (hk:∀ k,k < w.heap.size→base≤k→w'.heap[k]?=w.heap[k]?):w'.ownsRow base e size v n xs:=by
 refine ⟨h.1,?_⟩
 rcases h.2 with h2|⟨g,cap,cur,hv,hg,hh,r⟩
 ·exact .inl h2
 ·exact .inr ⟨g,cap,cur,hv,hg,(hk g (lt_heap hh) hg).trans hh,r⟩
def ps0 (fo:Bool):PS:={ at_:=0,fold:=fo,deep:=0,groups:=0,names:=[],ags:=[] }
set_option maxRecDepth 100000 in
set_option maxHeartbeats 8000000 in
theorem parse22_ok {d:Int} {l:List Int} {fo:Bool} {A:Option Addr} {n c:Nat} {w:World} {canL:(Int→Prop)→List (Int × Int)} {FQ:(Int→Prop)→Int→Prop} {oth:PS→Tk→Int→FR (Tr × PS)} {tr:Tr} {s1:PS}
  (HT:Hid (TokC d l)) (HO:∀ b,OthC b n c d A l oth) (HC:Hid (∀ f out,IsSet out f→canL f=out)) (HF:Hid (FoldC FQ)) (hn:n≤300) (hnc:n≤c) (hcm:c≤maxLen) (ha:Rds w w.heap.size 1 A n (ints l))
  (hr:rightE d l=0) (hp:patternS (parK canL FQ oth d l 20) d l (ps0 fo)=.ok (tr,s1)) (hat:(n:Int)≤s1.at_) (hag:s1.ags=[]) (hno:agT tr=false) (hsz:sizeT tr≤1000) :
  Calls Tryz.prog 22 #[.int .i64 d,.slice A n c,.bool fo] w fun e w'=>∃ (dd:ND) (A2:Option Addr) (c2:Nat),e=.returned (.tuple #[.agg #[.int .i64 dd.kind,.slice dd.sA dd.sn dd.sc,.slice dd.kA dd.kn dd.kc,.int .i64 dd.num,.int .i64 dd.least,.int .i64 dd.most,.int .i64 dd.way,.bool dd.fold,.int .i64 s1.groups,.slice A2 s1.names.length c2],.agg #[.int .i64 0,.int .i64 0]]) ∧
   Hid (NodeAt w' w'.heap.size tr dd)∧Hid (Rds w' w'.heap.size 2 A2 s1.names.length (nameVs s1.names))∧Below w.heap.size w w':=by
 have hmf:∀ (fn:Fn) (first cap:Array Value) (w:World),(Instr.makeFunc fn first cap).run Tryz.prog w=.ok (.func fn first cap) w:=fun _ _ _ _=>rfl
 obtain ⟨W,hW⟩:∃ X,X=(w.alloc (.cells #[.int .i64 0,.slice none 0 0,.slice none 0 0,.int .i64 0,.int .i64 0,.int .i64 0,.int .i64 0,.bool false,.int .i64 0,.slice none 0 0] 45)).alloc (.cells #[.int .i64 0,.int .i64 0] 26):=⟨_,rfl⟩
 have hB:Below w.heap.size w W:=by rw [hW];exact ((Below.refl _ _).alloc (Nat.le_refl _) _).alloc (by simp) _
 have hsW:W.heap.size=w.heap.size+2:=by rw [hW];simp
 have hz0:W.heap[w.heap.size]?=some (.cells #[.int .i64 0,.slice none 0 0,.slice none 0 0,.int .i64 0,.int .i64 0,.int .i64 0,.int .i64 0,.bool false,.int .i64 0,.slice none 0 0] 45 (0,0)):=by rw [hW];exact hz_alloc (heap_alloc_new w _)
 have hz1:W.heap[w.heap.size+1]?=some (.cells #[.int .i64 0,.int .i64 0] 26 (0,0)):=by rw [hW];have:=heap_alloc_new (w.alloc (.cells #[.int .i64 0,.slice none 0 0,.slice none 0 0,.int .i64 0,.int .i64 0,.int .i64 0,.int .i64 0,.bool false,.int .i64 0,.slice none 0 0] 45)) (.cells #[.int .i64 0,.int .i64 0] 26);simpa using this
 have hA:=ha.below hB (Nat.le_refl _)
 have CR:=Lib.hid (right14 d l A n c _ W (by unfold maxLen;omega) hA)
 rw [hr] at CR
 obtain ⟨X,hX⟩:∃ X,X=W.alloc (.cells #[.int .i64 d,.slice A n c,.int .i64 0,.bool fo,.int .i64 0,.int .i64 0,.slice none 0 0,.slice none 0 0] 77):=⟨_,rfl⟩
 have hBX:Below W.heap.size W X:=by rw [hX];exact (Below.refl _ _).alloc (Nat.le_refl _) _
 have hps:PsAt W.heap.size n c d A l (ps0 fo) (.slice none 0 0) (.slice none 0 0) X:=by
  refine ⟨by rw [hX];exact heap_alloc_new W _,(hA.below hBX (by omega)).more (by omega),hn,hnc,hcm,World.ownsRow_nil _ _ _ _,World.ownsRow_nil _ _ _ _,fun g hg=>(by cases hg),(by simp [ps0]),(by simp [ps0]),(by simp [ps0]),(by simp [ps0])⟩
 have CP:=Lib.hid (pattern44 HT (Lib.hid (parK_calls HT (HO W.heap.size) HC HF 20)) (Lib.hid (parK_go (HO W.heap.size) 20)) hps ⟨by simp [ps0],by simp [ps0],by simp [ps0]⟩)
 rw [hp] at CP
 rw [hsW] at CP
 have HPM0:=Lib.hid (show ∀ k,k≠w.heap.size+2→pm (w.heap.size+2) (.slice none 0 0) (.slice none 0 0) k=false by
  intro k hk;simp [pm,Value.ownBlock];exact hk)
 have HXS:=Lib.hid (show X.heap.size=w.heap.size+3 by rw [hX];simp [hsW])
 have HB:=Lib.hid hB
 have HBX:=Lib.hid hBX
 have HZ0:=Lib.hid hz0
 have HZ1:=Lib.hid hz1
 have HSW:=Lib.hid hsW
 have HAG:=Lib.hid hag
 have HNO:=Lib.hid hno
 have HSZ:=Lib.hid hsz
 have HXX:=Lib.hid hX
 have HAT:=Lib.hid hat
 clear hB hBX hz0 hz1 hA ha hr hp hag hno hsz hps HT HO HC HF
 go_enter_defers Tryz.func22,Tryz.ntmps22
 go_upto_region 1 with (fail)
 rw [← hW]
 clear hW
 go_upto_region 6 with (go_at_call 29;(with_reducible refine CR.out.mono ?_);rintro e w1 ⟨rfl,rfl⟩)
 rw [← hX]
 clear hX CR
 go_upto_region 7 with (go_at_call 44;(with_reducible refine CP.out.mono ?_);rintro e w1 ⟨dd,U1,U2,he,hnd,hps,hmv⟩;obtain rfl:=(show e=.returned (.agg #[.int .i64 dd.kind,.slice dd.sA dd.sn dd.sc,.slice dd.kA dd.kn dd.kc,.int .i64 dd.num,.int .i64 dd.least,.int .i64 dd.most,.int .i64 dd.way,.bool dd.fold]) from he);have HND:=Lib.hid hnd;have HPS:=Lib.hid hps;have HMV:=Lib.hid hmv;clear he hnd hps hmv)
 have hb2:Below w1.heap.size w1 (w1.alloc (.cells #[.int .i64 dd.kind,.slice dd.sA dd.sn dd.sc,.slice dd.kA dd.kn dd.kc,.int .i64 dd.num,.int .i64 dd.least,.int .i64 dd.most,.int .i64 dd.way,.bool dd.fold] 42)):=(Below.refl _ _).alloc (Nat.le_refl _) _
 have HT2:=Lib.hid (show (w1.alloc (.cells #[.int .i64 dd.kind,.slice dd.sA dd.sn dd.sc,.slice dd.kA dd.kn dd.kc,.int .i64 dd.num,.int .i64 dd.least,.int .i64 dd.most,.int .i64 dd.way,.bool dd.fold] 42)).heap[w1.heap.size]?=some (.cells #[.int .i64 dd.kind,.slice dd.sA dd.sn dd.sc,.slice dd.kA dd.kn dd.kc,.int .i64 dd.num,.int .i64 dd.least,.int .i64 dd.most,.int .i64 dd.way,.bool dd.fold] 42 (0,0)) from heap_alloc_new w1 _)
 have HPS2:=Lib.hid (HPS.out.next hb2)
 have HND2:=Lib.hid (HND.out.mv (M':=fun k=>pm (w.heap.size+2) U1 U2 k || decide (k < X.heap.size)) (Mvd.below hb2))
 have hXs:=HXS.out
 have hBW:=HBX.out.size
 have HZ0':=Lib.hid (show (w1.alloc (.cells #[.int .i64 dd.kind,.slice dd.sA dd.sn dd.sc,.slice dd.kA dd.kn dd.kc,.int .i64 dd.num,.int .i64 dd.least,.int .i64 dd.most,.int .i64 dd.way,.bool dd.fold] 42)).heap[w.heap.size]?=some (.cells #[.int .i64 0,.slice none 0 0,.slice none 0 0,.int .i64 0,.int .i64 0,.int .i64 0,.int .i64 0,.bool false,.int .i64 0,.slice none 0 0] 45 (0,0)) from hz_alloc ((HMV.out.keep _ (by omega) (HPM0.out _ (by omega))).trans (row_next HZ0.out HBX.out)))
 have HZ1':=Lib.hid (show (w1.alloc (.cells #[.int .i64 dd.kind,.slice dd.sA dd.sn dd.sc,.slice dd.kA dd.kn dd.kc,.int .i64 dd.num,.int .i64 dd.least,.int .i64 dd.most,.int .i64 dd.way,.bool dd.fold] 42)).heap[w.heap.size+1]?=some (.cells #[.int .i64 0,.int .i64 0] 26 (0,0)) from hz_alloc ((HMV.out.keep _ (by omega) (HPM0.out _ (by omega))).trans (row_next HZ1.out HBX.out)))
 have HBF:=Lib.hid (show Below w.heap.size w (w1.alloc (.cells #[.int .i64 dd.kind,.slice dd.sA dd.sn dd.sc,.slice dd.kA dd.kn dd.kc,.int .i64 dd.num,.int .i64 dd.least,.int .i64 dd.most,.int .i64 dd.way,.bool dd.fold] 42)) from by
  refine (HB.out.trans (HBX.out.mono HB.out.size)).trans ?_
  refine Below.trans ⟨HMV.out.os,HMV.out.tape,HMV.out.output,HMV.out.size,fun k hk=>HMV.out.keep k (by omega) (HPM0.out _ (by omega))⟩ (hb2.mono (by have:=HMV.out.size;omega)))
 obtain ⟨Y,hY⟩:∃ Y,Y=w1.alloc (.cells #[.int .i64 dd.kind,.slice dd.sA dd.sn dd.sc,.slice dd.kA dd.kn dd.kc,.int .i64 dd.num,.int .i64 dd.least,.int .i64 dd.most,.int .i64 dd.way,.bool dd.fold] 42):=⟨_,rfl⟩
 rw [← hY] at HT2 HPS2 HND2 HZ0' HZ1' HBF ⊢
 clear hY hb2 HND HPS HZ0 HZ1 CP
 obtain ⟨p0,p1,p2,p3,p4,p5,p6,p7,pf⟩:=HPS2.out.cells
 obtain ⟨t0,t1,t2,t3,t4,t5,t6,t7⟩:=cells8 HT2.out
 have e1:decide (s1.at_ < (n:Int))=false:=decide_eq_false (by have:=HAT.out;omega)
 have e2:decide ((sizeT tr:Int) > 1000)=false:=decide_eq_false (by have:=HSZ.out;omega)
 have C47:=Lib.hid (settle47_none HPS2.out HAG.out)
 have C46:=Lib.hid (put46 (A1:=none) (n1:=0) (c1:=0) tr dd w1.heap.size 0 HND2.out.bare ⟨t0,t2⟩ HNO.out (by have:=HSZ.out;omega))
 go_upto_region 11 with (first
  | (go_at_call 47;(with_reducible refine C47.out.mono ?_);rintro e w' ⟨rfl,rfl⟩)
  | (go_at_call 46;(with_reducible refine C46.out.mono ?_);rintro e w' ⟨rfl,rfl⟩))
 clear C46 C47 e1 e2
 have HNM:=Lib.hid HPS2.out.names
 obtain ⟨A2,c2,hv2,q1,q2⟩:=own_slice HNM.out
 subst hv2
 have f0:=cell_of_row _ _ 0 _ _ _ HZ0'.out
 have f1:=cell_of_row _ _ 1 _ _ _ HZ0'.out
 have f2:=cell_of_row _ _ 2 _ _ _ HZ0'.out
 have f3:=cell_of_row _ _ 3 _ _ _ HZ0'.out
 have f4:=cell_of_row _ _ 4 _ _ _ HZ0'.out
 have f5:=cell_of_row _ _ 5 _ _ _ HZ0'.out
 have f6:=cell_of_row _ _ 6 _ _ _ HZ0'.out
 have f7:=cell_of_row _ _ 7 _ _ _ HZ0'.out
 have f8:=cell_of_row _ _ 8 _ _ _ HZ0'.out
 have f9:=cell_of_row _ _ 9 _ _ _ HZ0'.out
 have g0:=frozen_row (o:=0) HZ0'.out
 have g1:=frozen_row (o:=1) HZ0'.out
 have g2:=frozen_row (o:=2) HZ0'.out
 have g3:=frozen_row (o:=3) HZ0'.out
 have g4:=frozen_row (o:=4) HZ0'.out
 have g5:=frozen_row (o:=5) HZ0'.out
 have g6:=frozen_row (o:=6) HZ0'.out
 have g7:=frozen_row (o:=7) HZ0'.out
 have g8:=frozen_row (o:=8) HZ0'.out
 have g9:=frozen_row (o:=9) HZ0'.out
 have e0:=cell_of_row _ _ 0 _ _ _ HZ1'.out
 have e1:=cell_of_row _ _ 1 _ _ _ HZ1'.out
 have d0:=frozen_row (o:=0) HZ1'.out
 have d1:=frozen_row (o:=1) HZ1'.out
 simp only [List.getElem?_toArray,List.getElem?_cons_zero,List.getElem?_cons_succ] at f0 f1 f2 f3 f4 f5 f6 f7 f8 f9 e0 e1
 refine wp_region_noPanic ?_
 go_region
 all_goals (refine NoPanic.normal ?_)
 all_goals go_wp2_with fail
 all_goals
  obtain ⟨V,hV⟩:∃ V,V=((((((((((((Y.setCell ⟨w.heap.size,0,none⟩ (.int .i64 dd.kind)).setCell ⟨w.heap.size,1,none⟩ (.slice dd.sA dd.sn dd.sc)).setCell ⟨w.heap.size,2,none⟩ (.slice dd.kA dd.kn dd.kc)).setCell ⟨w.heap.size,3,none⟩ (.int .i64 dd.num)).setCell ⟨w.heap.size,4,none⟩ (.int .i64 dd.least)).setCell ⟨w.heap.size,5,none⟩ (.int .i64 dd.most)).setCell ⟨w.heap.size,6,none⟩ (.int .i64 dd.way)).setCell ⟨w.heap.size,7,none⟩ (.bool dd.fold)).setCell ⟨w.heap.size,8,none⟩ (.int .i64 s1.groups)).setCell ⟨w.heap.size,9,none⟩ (.slice A2 s1.names.length c2)).setCell ⟨w.heap.size+1,0,none⟩ (.int .i64 0)).setCell ⟨w.heap.size+1,1,none⟩ (.int .i64 0)).drew:=⟨_,rfl⟩
  have E:=Lib.hid (end22 V hV HZ0'.out HZ1'.out HBF.out)
  rw [← hV]
  clear hV HZ0' HZ1' HBF HT2 f0 f1 f2 f3 f4 f5 f6 f7 f8 f9 g0 g1 g2 g3 g4 g5 g6 g7 g8 g9 e0 e1 d0 d1 p0 p1 p2 p3 p4 p5 p6 p7 pf t0 t1 t2 t3 t4 t5 t6 t7
  have HN1:=Lib.hid (HND2.out.mv (M':=fun _=>false) (w':=V) ⟨E.out.2.2.2.os,E.out.2.2.2.tape,E.out.2.2.2.output,E.out.2.2.2.size,fun k hk hm=>E.out.2.2.2.keep k hk (by simp at hm ⊢;omega),fun k _ h=>(by cases h)⟩)
  have HR1:=Lib.hid (Rds.of_own (own_from HNM.out fun k hk hm=>E.out.2.2.2.keep k hk (by simp;omega)))
  clear HND2 HNM
  refine leaves_cons (f:=43) (args:=#[.pointer (some ⟨w.heap.size,0,none⟩),.pointer (some ⟨w.heap.size+1,0,none⟩)]) (by simp) (by simp [go_sem]) ?_
  refine (idle43 _ _ _).mono ?_
  rintro e u' w3 ⟨rfl,rfl,hb⟩
  have S1:=(hb.block _ (lt_heap E.out.1)).trans E.out.1
  have S2:=(hb.block _ (lt_heap E.out.2.1)).trans E.out.2.1
  have HB3:=Lib.hid (E.out.2.2.1.trans (hb.mono (E.out.2.2.1.size)))
  have HN3:=Lib.hid (HN1.out.mv (M':=fun _=>false) (Mvd.below hb))
  have HR3:=Lib.hid ((HR1.out.below hb (Nat.le_refl _)).more hb.size)
  have f0:=cell_of_row _ _ 0 _ _ _ S1
  have f1:=cell_of_row _ _ 1 _ _ _ S1
  have f2:=cell_of_row _ _ 2 _ _ _ S1
  have f3:=cell_of_row _ _ 3 _ _ _ S1
  have f4:=cell_of_row _ _ 4 _ _ _ S1
  have f5:=cell_of_row _ _ 5 _ _ _ S1
  have f6:=cell_of_row _ _ 6 _ _ _ S1
  have f7:=cell_of_row _ _ 7 _ _ _ S1
  have f8:=cell_of_row _ _ 8 _ _ _ S1
  have f9:=cell_of_row _ _ 9 _ _ _ S1
  have e0:=cell_of_row _ _ 0 _ _ _ S2
  have e1:=cell_of_row _ _ 1 _ _ _ S2
  simp only [List.getElem?_toArray,List.getElem?_cons_zero,List.getElem?_cons_succ] at f0 f1 f2 f3 f4 f5 f6 f7 f8 f9 e0 e1
  clear S1 S2 hb E
  simp [Leaves,settle,results,Tryz.results22,go_sem,f0,f1,f2,f3,f4,f5,f6,f7,f8,f9,e0,e1]
  exact ⟨dd,A2,⟨rfl,⟨rfl,rfl,rfl⟩,⟨rfl,rfl,rfl⟩,rfl,rfl,rfl,rfl,rfl,rfl⟩,Lib.hid HN3.out.bare,HR3,HB3.out⟩
end Go.Proofs.YtbiahhojnjchnaaGreat
