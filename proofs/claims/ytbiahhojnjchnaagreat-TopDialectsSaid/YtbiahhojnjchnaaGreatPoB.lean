/-
  A pattern parsed, with a fault: walked.
-/
import Derived.Test.YtbiahhojnjchnaaGreatPnQ
import Derived.Test.YtbiahhojnjchnaaGreatHA
set_option linter.unusedVariables false
set_option linter.unusedSimpArgs false
namespace Go.Proofs.YtbiahhojnjchnaaGreat
open Go.RowKit
set_option maxHeartbeats 4000000 in
set_option maxRecDepth 100000 in
theorem catch43 (t:Nat) (x y:Int) (older:List PanicEntry) (w:World) (hz:w.heap[t]?=some (.cells #[.int .i64 0,.slice none 0 0,.slice none 0 0,.int .i64 0,.int .i64 0,.int .i64 0,.int .i64 0,.bool false,.int .i64 0,.slice none 0 0] 45 (0,0))) (hr:w.heap[t+1]?=some (.cells #[.int .i64 0,.int .i64 0] 26 (0,0))) :
  CallsD Tryz.prog 43 #[.pointer (some ⟨t,0,none⟩),.pointer (some ⟨t+1,0,none⟩)] (.panicking ({ v:=.iface 26 (.agg #[.int .i64 x,.int .i64 y]),recovered:=false } :: older)) w fun e u' w' =>
   e=.returned (.tuple #[])∧u'=.panicking ({ v:=.iface 26 (.agg #[.int .i64 x,.int .i64 y]),recovered:=true } :: older)∧w'.heap[t]?=some (.cells #[.int .i64 0,.slice none 0 0,.slice none 0 0,.int .i64 0,.int .i64 0,.int .i64 0,.int .i64 0,.bool false,.int .i64 0,.slice none 0 0] 45 (0,0))∧w'.heap[t+1]?=some (.cells #[.int .i64 x,.int .i64 y] 26 (0,0))∧Below t w w':=by
 refine callsD_of_wpS Tryz.func43 rfl fun c₀ cs hu=>?_
 apply wpS_seq
 refine wpS_regionL ?_
 simp only [Tryz.ntmps43]
 refine wpL_recover rfl ?_ ?_ ?_ (v:=.iface 26 (.agg #[.int .i64 x,.int .i64 y])) (cs':={ c₀ with mode:=.panicking ({ v:=.iface 26 (.agg #[.int .i64 x,.int .i64 y]),recovered:=true } :: older) } :: cs)
 ·simp [execOp,go_sem]
 ·simp only [recoverD,hu]
 refine wpL_value rfl ?_ ?_ (w':=w) (v:=.tuple #[.agg #[.int .i64 x,.int .i64 y],.bool true])
 ·simp [execOp,go_sem,Array.replicate,assertF]
 refine wpL_value rfl ?_ ?_ (w':=w) (v:=.tuple #[.agg #[.int .i64 x,.int .i64 y],.bool true])
 ·simp [execOp,go_sem,Array.replicate]
 refine wpL_value rfl ?_ ?_ (w':=w) (v:=.agg #[.int .i64 x,.int .i64 y])
 ·simp [execOp,go_sem,Array.replicate]
 refine wpL_value rfl ?_ ?_ (w':=w) (v:=.bool true)
 ·simp [execOp,go_sem,Array.replicate]
 refine wpL_value rfl ?_ ?_ (w':=w.alloc (.cells #[.int .i64 0,.int .i64 0] 26)) (v:=.pointer (some ⟨w.heap.size,0,none⟩))
 ·simp [execOp,go_sem,Array.replicate]
 refine wpL_skip rfl ?_ ?_ (w':=w.alloc (.cells #[.int .i64 x,.int .i64 y] 26))
 ·simp [execOp,go_sem,Array.replicate]
 refine wpL_value rfl ?_ ?_ (w':=w.alloc (.cells #[.int .i64 x,.int .i64 y] 26)) (v:=.bool true)
 ·simp [execOp,go_sem,Array.replicate]
 show Code.wpS _ _ _ _ _ _
 apply wpS_seq
 refine wpS_regionL ?_
 refine wpL_value rfl ?_ ?_ (w':=w.alloc (.cells #[.int .i64 x,.int .i64 y] 26)) (v:=.bool true)
 ·simp [execOp,go_sem,Array.replicate]
 show Code.wpS _ _ _ _ _ _
 refine wpS_cond (t:=true) (by simp [Act.eval,Act.put,Array.replicate]) ?_
 simp only [if_true]
 refine wpS_of_wp ?_
 have ht:=lt_heap hz
 have hrr:=lt_heap hr
 have z1:=hz_alloc (o:=.cells #[.int .i64 x,.int .i64 y] 26) hz
 have z3:=hz_alloc (o:=.cells #[.int .i64 x,.int .i64 y] 26) hr
 have z4:=heap_alloc_new w (.cells #[.int .i64 x,.int .i64 y] 26)
 have n1:¬ w.heap.size=t:=by omega
 have n3:¬ w.heap.size=t+1:=by omega
 have HW:Hid (Below t w (w.alloc (.cells #[.int .i64 x,.int .i64 y] 26))):=Lib.hid ((Below.refl _ _).alloc (by omega) _)
 obtain ⟨W,hW⟩:∃ W,W=w.alloc (.cells #[.int .i64 x,.int .i64 y] 26):=⟨_,rfl⟩
 obtain ⟨g,hg⟩:∃ g,g=w.heap.size:=⟨_,rfl⟩
 rw [← hW] at HW z1 z3 z4 ⊢
 rw [← hg] at n1 n3 z4 ⊢
 have HZ1:=Lib.hid z1
 have HZ3:=Lib.hid z3
 have f0:=cell_of_row _ _ 0 _ _ _ HZ1.out
 have g0:=frozen_row (o:=0) HZ1.out
 have f1:=cell_of_row _ _ 1 _ _ _ HZ1.out
 have g1:=frozen_row (o:=1) HZ1.out
 have f2:=cell_of_row _ _ 2 _ _ _ HZ1.out
 have g2:=frozen_row (o:=2) HZ1.out
 have f3:=cell_of_row _ _ 3 _ _ _ HZ1.out
 have g3:=frozen_row (o:=3) HZ1.out
 have f4:=cell_of_row _ _ 4 _ _ _ HZ1.out
 have g4:=frozen_row (o:=4) HZ1.out
 have f5:=cell_of_row _ _ 5 _ _ _ HZ1.out
 have g5:=frozen_row (o:=5) HZ1.out
 have f6:=cell_of_row _ _ 6 _ _ _ HZ1.out
 have g6:=frozen_row (o:=6) HZ1.out
 have f7:=cell_of_row _ _ 7 _ _ _ HZ1.out
 have g7:=frozen_row (o:=7) HZ1.out
 have f8:=cell_of_row _ _ 8 _ _ _ HZ1.out
 have g8:=frozen_row (o:=8) HZ1.out
 have f9:=cell_of_row _ _ 9 _ _ _ HZ1.out
 have g9:=frozen_row (o:=9) HZ1.out
 have d0:=cell_of_row _ _ 0 _ _ _ HZ3.out
 have h0:=frozen_row (o:=0) HZ3.out
 have e0:=cell_of_row _ _ 0 _ _ _ z4
 have d1:=cell_of_row _ _ 1 _ _ _ HZ3.out
 have h1:=frozen_row (o:=1) HZ3.out
 have e1:=cell_of_row _ _ 1 _ _ _ z4
 simp only [List.getElem?_toArray,List.getElem?_cons_zero,List.getElem?_cons_succ] at f0 f1 f2 f3 f4 f5 f6 f7 f8 f9 d0 d1 e0 e1
 clear hW hg z1 z3 z4 hz hr
 simp [Act.put,Array.replicate]
 go_region
 show bodyPostS _ _ _ _ _ _ _ _ _
 have E:=end22 (V:=(((((((((((((W.setCell ⟨t,0,none⟩ (.int .i64 0)).setCell ⟨t,1,none⟩ (.slice none 0 0)).setCell ⟨t,2,none⟩ (.slice none 0 0)).setCell ⟨t,3,none⟩ (.int .i64 0)).setCell ⟨t,4,none⟩ (.int .i64 0)).setCell ⟨t,5,none⟩ (.int .i64 0)).setCell ⟨t,6,none⟩ (.int .i64 0)).setCell ⟨t,7,none⟩ (.bool false)).setCell ⟨t,8,none⟩ (.int .i64 0)).setCell ⟨t,9,none⟩ (.slice none 0 0)).setCell ⟨t+1,0,none⟩ (.int .i64 x)).setCell ⟨t+1,1,none⟩ (.int .i64 y))).drew) rfl HZ1.out HZ3.out HW.out
 exact ⟨rfl,_,rfl,.tuple #[],by simp [results,Tryz.results43],rfl,rfl,E.1,E.2.1,E.2.2.1⟩
set_option maxRecDepth 100000 in
set_option maxHeartbeats 8000000 in
theorem parse22_bad {d:Int} {l:List Int} {fo:Bool} {A:Option Addr} {n c:Nat} {w:World} {canL:(Int→Prop)→List (Int × Int)} {FQ:(Int→Prop)→Int→Prop} {oth:PS→Tk→Int→FR (Tr × PS)} {q:Int × Int}
  (HT:Hid (TokC d l)) (HO:∀ b,OthC b n c d A l oth) (HC:Hid (∀ f out,IsSet out f→canL f=out)) (HF:Hid (FoldC FQ)) (hn:n≤300) (hnc:n≤c) (hcm:c≤maxLen) (ha:Rds w w.heap.size 1 A n (ints l))
  (hr:rightE d l=0) (hp:patternS (parK canL FQ oth d l 20) d l (ps0 fo)=.error q) :
  Calls Tryz.prog 22 #[.int .i64 d,.slice A n c,.bool fo] w fun e w'=>e=.returned (.tuple #[.agg #[.int .i64 0,.slice none 0 0,.slice none 0 0,.int .i64 0,.int .i64 0,.int .i64 0,.int .i64 0,.bool false,.int .i64 0,.slice none 0 0],.agg #[.int .i64 q.1,.int .i64 q.2]])∧Below w.heap.size w w':=by
 have hmf:∀ (fn:Fn) (first cap:Array Value) (w:World),(Instr.makeFunc fn first cap).run Tryz.prog w=.ok (.func fn first cap) w:=fun _ _ _ _=>rfl
 obtain ⟨W,hW⟩:∃ X,X=(w.alloc (.cells #[.int .i64 0,.slice none 0 0,.slice none 0 0,.int .i64 0,.int .i64 0,.int .i64 0,.int .i64 0,.bool false,.int .i64 0,.slice none 0 0] 45)).alloc (.cells #[.int .i64 0,.int .i64 0] 26):=⟨_,rfl⟩
 have hB:Below w.heap.size w W:=by rw [hW];exact ((Below.refl _ _).alloc (Nat.le_refl _) _).alloc (by simp) _
 have hsW:W.heap.size=w.heap.size+2:=by rw [hW];simp
 have hz0:W.heap[w.heap.size]?=some (.cells #[.int .i64 0,.slice none 0 0,.slice none 0 0,.int .i64 0,.int .i64 0,.int .i64 0,.int .i64 0,.bool false,.int .i64 0,.slice none 0 0] 45 (0,0)):=by rw [hW];exact hz_alloc (heap_alloc_new w _)
 have hz1:W.heap[w.heap.size+1]?=some (.cells #[.int .i64 0,.int .i64 0] 26 (0,0)):=by rw [hW];have:=heap_alloc_new (w.alloc (.cells #[.int .i64 0,.slice none 0 0,.slice none 0 0,.int .i64 0,.int .i64 0,.int .i64 0,.int .i64 0,.bool false,.int .i64 0,.slice none 0 0] 45)) (.cells #[.int .i64 0,.int .i64 0] 26);simpa using this
 have hA:=ha.below hB (Nat.le_refl _)
 have CR:=Lib.hid (right14 d l A n c _ W (by unfold maxLen;omega) hA)
 rw [hr] at CR
 obtain ⟨X,hX⟩:∃ X,X=W.alloc (.cells #[.int .i64 d,.slice A n c,.int .i64 0,.bool fo,.int .i64 0,.int .i64 0,.slice none 0 0,.slice none 0 0] 77):=⟨_,rfl⟩
 have hBX:Below W.heap.size W X:=by rw [hX];exact (Below.refl _ _).alloc (Nat.le_refl _) _
 have hps:PsAt W.heap.size n c d A l (ps0 fo) (.slice none 0 0) (.slice none 0 0) X:=by
  refine ⟨by rw [hX];exact heap_alloc_new W _,(hA.below hBX (by omega)).more (by omega),hn,hnc,hcm,World.ownsRow_nil _ _ _ _,World.ownsRow_nil _ _ _ _,fun g hg=>(by cases hg),(by simp [ps0]),(by simp [ps0]),(by simp [ps0]),(by simp [ps0])⟩
 have CP:=Lib.hid (pattern44 HT (Lib.hid (parK_calls HT (HO W.heap.size) HC HF 20)) (Lib.hid (parK_go (HO W.heap.size) 20)) hps ⟨by simp [ps0],by simp [ps0],by simp [ps0]⟩)
 rw [hp] at CP
 rw [hsW] at CP
 have HPM0:=Lib.hid (show ∀ k,k≠w.heap.size+2→pm (w.heap.size+2) (.slice none 0 0) (.slice none 0 0) k=false by
  intro k hk;simp [pm,Value.ownBlock];exact hk)
 have HXS:=Lib.hid (show X.heap.size=w.heap.size+3 by rw [hX];simp [hsW])
 have HB:=Lib.hid hB
 have HBX:=Lib.hid hBX
 have HZ0:=Lib.hid hz0
 have HZ1:=Lib.hid hz1
 have HSW:=Lib.hid hsW
 have HXX:=Lib.hid hX
 clear hB hBX hz0 hz1 hA ha hr hp hps HT HO HC HF
 go_enter_defers Tryz.func22,Tryz.ntmps22
 go_upto_region 1 with (fail)
 rw [← hW]
 clear hW
 go_upto_region 6 with (go_at_call 29;(with_reducible refine CR.out.mono ?_);rintro e w1 ⟨rfl,rfl⟩)
 rw [← hX]
 clear hX CR
 go_wp2_with (go_at_call 44;(with_reducible refine CP.out.mono ?_);rintro e w1 ⟨he,hbad⟩;obtain rfl:=(show e=.panicked (faultV q.1 q.2) from he);have HBAD:=Lib.hid hbad;clear he hbad)
 have hXs:=HXS.out
 have hBW:=HBX.out.size
 obtain ⟨M',cs',hm,_,_⟩:=HBAD.out
 have y0:=(hm.keep _ (by omega) (HPM0.out _ (by omega))).trans (row_next HZ0.out HBX.out)
 have y1:=(hm.keep _ (by omega) (HPM0.out _ (by omega))).trans (row_next HZ1.out HBX.out)
 have HBF:=Lib.hid (show Below w.heap.size w w1 from (HB.out.trans (HBX.out.mono HB.out.size)).trans ⟨hm.os,hm.tape,hm.output,hm.size,fun k hk=>hm.keep k (by omega) (HPM0.out _ (by omega))⟩)
 have C43:=Lib.hid (catch43 w.heap.size q.1 q.2 [] w1 y0 y1)
 clear hm y0 y1 CP HBAD
 refine leaves_cons (f:=43) (args:=#[.pointer (some ⟨w.heap.size,0,none⟩),.pointer (some ⟨w.heap.size+1,0,none⟩)]) (by simp) (by simp [go_sem]) ?_
 refine C43.out.mono ?_
 rintro e u' w2 ⟨rfl,rfl,t1,t2,hB⟩
 have HB2:=Lib.hid (HBF.out.trans hB)
 have f0:=cell_of_row _ _ 0 _ _ _ t1
 have f1:=cell_of_row _ _ 1 _ _ _ t1
 have f2:=cell_of_row _ _ 2 _ _ _ t1
 have f3:=cell_of_row _ _ 3 _ _ _ t1
 have f4:=cell_of_row _ _ 4 _ _ _ t1
 have f5:=cell_of_row _ _ 5 _ _ _ t1
 have f6:=cell_of_row _ _ 6 _ _ _ t1
 have f7:=cell_of_row _ _ 7 _ _ _ t1
 have f8:=cell_of_row _ _ 8 _ _ _ t1
 have f9:=cell_of_row _ _ 9 _ _ _ t1
 have e0:=cell_of_row _ _ 0 _ _ _ t2
 have e1:=cell_of_row _ _ 1 _ _ _ t2
 clear t1 t2 hB C43
 simp only [List.getElem?_toArray,List.getElem?_cons_zero,List.getElem?_cons_succ] at f0 f1 f2 f3 f4 f5 f6 f7 f8 f9 e0 e1
 simp [Leaves,settle,results,Tryz.results22,go_sem,f0,f1,f2,f3,f4,f5,f6,f7,f8,f9,e0,e1]
 exact HB2.out
end Go.Proofs.YtbiahhojnjchnaaGreat
