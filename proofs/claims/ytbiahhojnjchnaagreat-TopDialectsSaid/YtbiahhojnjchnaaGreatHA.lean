/-
  Raw set of an expression: its recovery, and itself: walked. Parse an expression: walked.
-/
import Derived.Test.YtbiahhojnjchnaaGreatGV
import Derived.Test.YtbiahhojnjchnaaGreatGS
set_option linter.unusedVariables false
set_option linter.unusedSimpArgs false
namespace Go.Proofs.YtbiahhojnjchnaaGreat
open Go.RowKit
theorem assertF (x y:Value) (w:World):(Instr.typeAssert (.iface 26 (.agg #[x,y])) 20 26 true).run Tryz.prog w=.ok (.tuple #[.agg #[x,y],.bool true]) w:=by kernel_rfl
theorem assertF0 (w:World):(Instr.typeAssert .nilIface 20 26 true).run Tryz.prog w=.ok (.tuple #[.agg #[.int .i64 0,.int .i64 0],.bool false]) w:=by kernel_rfl
set_option maxHeartbeats 4000000 in
set_option maxRecDepth 100000 in
theorem idle57 (p q r:Value) (w:World) :
  CallsD Tryz.prog 57 #[p,q,r] .returning w fun e u' w'=>e=.returned (.tuple #[])∧u'=.returning∧Below w.heap.size w w':=by
 refine callsD_of_wpS Tryz.func57 rfl fun c₀ cs hu=>?_
 apply wpS_seq
 refine wpS_regionL ?_
 simp only [Tryz.ntmps57]
 refine wpL_recover_none rfl ?_ ?_ ?_
 ·simp [execOp,go_sem]
 ·simp only [recoverD,hu]
 refine wpL_value rfl ?_ ?_ (w':=w) (v:=.tuple #[.agg #[.int .i64 0,.int .i64 0],.bool false])
 ·simp [execOp,go_sem,Array.replicate,assertF0]
 refine wpL_value rfl ?_ ?_ (w':=w) (v:=.tuple #[.agg #[.int .i64 0,.int .i64 0],.bool false])
 ·simp [execOp,go_sem,Array.replicate]
 refine wpL_value rfl ?_ ?_ (w':=w) (v:=.agg #[.int .i64 0,.int .i64 0])
 ·simp [execOp,go_sem,Array.replicate]
 refine wpL_value rfl ?_ ?_ (w':=w) (v:=.bool false)
 ·simp [execOp,go_sem,Array.replicate]
 refine wpL_value rfl ?_ ?_ (w':=w.alloc (.cells #[.int .i64 0,.int .i64 0] 26)) (v:=.pointer (some ⟨w.heap.size,0,none⟩))
 ·simp [execOp,go_sem,Array.replicate]
 refine wpL_skip rfl ?_ ?_ (w':=w.alloc (.cells #[.int .i64 0,.int .i64 0] 26))
 ·simp [execOp,go_sem,Array.replicate]
 refine wpL_value rfl ?_ ?_ (w':=w.alloc (.cells #[.int .i64 0,.int .i64 0] 26)) (v:=.bool false)
 ·simp [execOp,go_sem,Array.replicate]
 show Code.wpS _ _ _ _ _ _
 apply wpS_seq
 refine wpS_regionL ?_
 refine wpL_value rfl ?_ ?_ (w':=w.alloc (.cells #[.int .i64 0,.int .i64 0] 26)) (v:=.bool false)
 ·simp [execOp,go_sem,Array.replicate]
 show Code.wpS _ _ _ _ _ _
 refine wpS_cond (t:=false) (by simp [Act.eval,Act.put,Array.replicate]) ?_
 simp only [Bool.false_eq_true,if_false]
 refine wpS_of_wp (wp_skip ?_)
 show bodyPostS _ _ _ _ _ _ _ _ _
 have hc:c₀ :: cs={ c₀ with mode:=.returning } :: cs:=by cases c₀;simp_all
 exact ⟨rfl,.returning,hc,.tuple #[],by simp [results,Tryz.results57],rfl,rfl,(Below.refl _ _).alloc (Nat.le_refl _) _⟩
set_option maxHeartbeats 4000000 in
set_option maxRecDepth 100000 in
/-- a frame that panics with a fault: it is handed back -/
theorem catch57 (t q r:Nat) (x y:Int) (A:Option Addr) (n c:Nat) (older:List PanicEntry) (w:World) (hz:w.heap[t]?=some (.cells #[.slice A n c] 23 (0,0))) (hq:w.heap[q]?=some (.cells #[.int .i64 0] 3 (0,0))) (hr:w.heap[r]?=some (.cells #[.int .i64 0,.int .i64 0] 26 (0,0))) (h1:t≠q) (h2:t≠r) (h3:q≠r) :
  CallsD Tryz.prog 57 #[.pointer (some ⟨t,0,none⟩),.pointer (some ⟨q,0,none⟩),.pointer (some ⟨r,0,none⟩)] (.panicking ({ v:=.iface 26 (.agg #[.int .i64 x,.int .i64 y]),recovered:=false } :: older)) w fun e u' w' =>
   e=.returned (.tuple #[])∧u'=.panicking ({ v:=.iface 26 (.agg #[.int .i64 x,.int .i64 y]),recovered:=true } :: older)∧w'.heap[t]?=some (.cells #[.slice none 0 0] 23 (0,0))∧w'.heap[q]?=some (.cells #[.int .i64 0] 3 (0,0))∧w'.heap[r]?=some (.cells #[.int .i64 x,.int .i64 y] 26 (0,0))∧∀ B,B≤t→B≤q→B≤r→B≤w.heap.size→Below B w w':=by
 refine callsD_of_wpS Tryz.func57 rfl fun c₀ cs hu=>?_
 apply wpS_seq
 refine wpS_regionL ?_
 simp only [Tryz.ntmps57]
 refine wpL_recover rfl ?_ ?_ ?_ (v:=.iface 26 (.agg #[.int .i64 x,.int .i64 y])) (cs':={ c₀ with mode:=.panicking ({ v:=.iface 26 (.agg #[.int .i64 x,.int .i64 y]),recovered:=true } :: older) } :: cs)
 ·simp [execOp,go_sem]
 ·simp only [recoverD,hu]
 refine wpL_value rfl ?_ ?_ (w':=w) (v:=.tuple #[.agg #[.int .i64 x,.int .i64 y],.bool true])
 ·simp [execOp,go_sem,Array.replicate,assertF]
 refine wpL_value rfl ?_ ?_ (w':=w) (v:=.tuple #[.agg #[.int .i64 x,.int .i64 y],.bool true])
 ·simp [execOp,go_sem,Array.replicate]
 refine wpL_value rfl ?_ ?_ (w':=w) (v:=.agg #[.int .i64 x,.int .i64 y])
 ·simp [execOp,go_sem,Array.replicate]
 refine wpL_value rfl ?_ ?_ (w':=w) (v:=.bool true)
 ·simp [execOp,go_sem,Array.replicate]
 refine wpL_value rfl ?_ ?_ (w':=w.alloc (.cells #[.int .i64 0,.int .i64 0] 26)) (v:=.pointer (some ⟨w.heap.size,0,none⟩))
 ·simp [execOp,go_sem,Array.replicate]
 refine wpL_skip rfl ?_ ?_ (w':=w.alloc (.cells #[.int .i64 x,.int .i64 y] 26))
 ·simp [execOp,go_sem,Array.replicate]
 refine wpL_value rfl ?_ ?_ (w':=w.alloc (.cells #[.int .i64 x,.int .i64 y] 26)) (v:=.bool true)
 ·simp [execOp,go_sem,Array.replicate]
 show Code.wpS _ _ _ _ _ _
 apply wpS_seq
 refine wpS_regionL ?_
 refine wpL_value rfl ?_ ?_ (w':=w.alloc (.cells #[.int .i64 x,.int .i64 y] 26)) (v:=.bool true)
 ·simp [execOp,go_sem,Array.replicate]
 show Code.wpS _ _ _ _ _ _
 refine wpS_cond (t:=true) (by simp [Act.eval,Act.put,Array.replicate]) ?_
 simp only [if_true]
 refine wpS_of_wp ?_
 have ht:=lt_heap hz
 have hqq:=lt_heap hq
 have hrr:=lt_heap hr
 have z1:=hz_alloc (o:=.cells #[.int .i64 x,.int .i64 y] 26) hz
 have z2:=hz_alloc (o:=.cells #[.int .i64 x,.int .i64 y] 26) hq
 have z3:=hz_alloc (o:=.cells #[.int .i64 x,.int .i64 y] 26) hr
 have z4:=heap_alloc_new w (.cells #[.int .i64 x,.int .i64 y] 26)
 have n1:¬ w.heap.size=t:=by omega
 have n2:¬ w.heap.size=q:=by omega
 have n3:¬ w.heap.size=r:=by omega
 have HW:Hid (∀ B,B≤w.heap.size→Below B w (w.alloc (.cells #[.int .i64 x,.int .i64 y] 26))):=Lib.hid (fun B hB=>(Below.refl _ _).alloc hB _)
 obtain ⟨W,hW⟩:∃ W,W=w.alloc (.cells #[.int .i64 x,.int .i64 y] 26):=⟨_,rfl⟩
 obtain ⟨g,hg⟩:∃ g,g=w.heap.size:=⟨_,rfl⟩
 rw [← hW] at HW z1 z2 z3 z4 ⊢
 rw [← hg] at n1 n2 n3 z4 HW ⊢
 have HZ1:=Lib.hid z1
 have HZ2:=Lib.hid z2
 have HZ3:=Lib.hid z3
 have a0:=cell_of_row _ _ 0 _ _ _ z1
 have a1:=frozen_row (o:=0) z1
 have b0:=cell_of_row _ _ 0 _ _ _ z2
 have b1:=frozen_row (o:=0) z2
 have d0:=cell_of_row _ _ 0 _ _ _ z3
 have d1:=cell_of_row _ _ 1 _ _ _ z3
 have d2:=frozen_row (o:=0) z3
 have d3:=frozen_row (o:=1) z3
 have e0:=cell_of_row _ _ 0 _ _ _ z4
 have e1:=cell_of_row _ _ 1 _ _ _ z4
 clear hW hg z1 z2 z3 z4 hz hq hr
 simp [Act.put,Array.replicate]
 go_region
 show bodyPostS _ _ _ _ _ _ _ _ _
 have hT:((((W.setCell ⟨t,0,none⟩ (.slice none 0 0)).setCell ⟨q,0,none⟩ (.int .i64 0)).setCell ⟨r,0,none⟩ (.int .i64 x)).setCell ⟨r,1,none⟩ (.int .i64 y)).heap[t]?=some (.cells #[.slice none 0 0] 23 (0,0)):=hz_set (hz_set (hz_set (put1 HZ1.out rfl) h1) h2) h2
 have hQ:((((W.setCell ⟨t,0,none⟩ (.slice none 0 0)).setCell ⟨q,0,none⟩ (.int .i64 0)).setCell ⟨r,0,none⟩ (.int .i64 x)).setCell ⟨r,1,none⟩ (.int .i64 y)).heap[q]?=some (.cells #[.int .i64 0] 3 (0,0)):=hz_set (hz_set (put1 (hz_set HZ2.out h1.symm) rfl) h3) h3
 have hR:((((W.setCell ⟨t,0,none⟩ (.slice none 0 0)).setCell ⟨q,0,none⟩ (.int .i64 0)).setCell ⟨r,0,none⟩ (.int .i64 x)).setCell ⟨r,1,none⟩ (.int .i64 y)).heap[r]?=some (.cells #[.int .i64 x,.int .i64 y] 26 (0,0)):=put1 (put1 (hz_set (hz_set HZ3.out h2.symm) h3.symm) rfl) rfl
 have hB:∀ B,B≤t→B≤q→B≤r→B≤g→Below B w ((((W.setCell ⟨t,0,none⟩ (.slice none 0 0)).setCell ⟨q,0,none⟩ (.int .i64 0)).setCell ⟨r,0,none⟩ (.int .i64 x)).setCell ⟨r,1,none⟩ (.int .i64 y)):=fun B b1 b2 b3 b4=>((((HW.out B b4).setCell b1 _).setCell b2 _).setCell b3 _).setCell b3 _
 exact ⟨rfl,_,rfl,.tuple #[],by simp [results,Tryz.results57],rfl,rfl,hT,hQ,hR,fun B b1 b2 b3 b4=>(hB B b1 b2 b3 b4).drew⟩
set_option maxHeartbeats 4000000 in
theorem clip60 (A:Option Addr) (n c:Nat) (w:World) (hn:n≤c):Calls Tryz.prog 60 #[.slice A n c] w fun e w'=>e=.returned (.slice A n n)∧w'=w:=by
 have i1:(0:Int)≤(n:Int):=by omega
 have i2:(n:Int)≤(c:Int):=by omega
 go_enter Tryz.func60,Tryz.ntmps60
 go_wp2
 go_ret
 exact ⟨rfl,rfl⟩
theorem below_keptb {b:Nat} {w W w1:World} (hB:Below w.heap.size w W) (hk:Kept b W w1) (hb:w.heap.size≤b):Below w.heap.size w w1 :=
 ⟨hk.os.trans hB.os,hk.tape.trans hB.tape,hk.output.trans hB.output,Nat.le_trans hB.size hk.size,fun k h=>(hk.block k (Nat.lt_of_lt_of_le h hB.size) (by omega)).trans (hB.block k h)⟩
theorem raw_endb {w W2:World} {A1:Option Addr} {n1 c1 k:Nat} {x:Int} {out:List (Int × Int)} (V:World) (hV:V=((((W2.setCell ⟨w.heap.size,0,none⟩ (.slice A1 n1 n1)).setCell ⟨w.heap.size+1,0,none⟩ (.int .i64 x)).setCell ⟨w.heap.size+1+1,0,none⟩ (.int .i64 0)).setCell ⟨w.heap.size+1+1,1,none⟩ (.int .i64 0)).drew)
  (h0:W2.heap[w.heap.size]?=some (.cells #[.slice A1 n1 c1] 23 (0,0))) (h1:W2.heap[w.heap.size+1]?=some (.cells #[.int .i64 0] 3 (0,0))) (h2:W2.heap[w.heap.size+1+1]?=some (.cells #[.int .i64 0,.int .i64 0] 26 (0,0))) (hb:Below w.heap.size w W2) (ho:W2.ownsRow k 67 2 (.slice A1 n1 c1) n1 (rngs out)) (hk:w.heap.size+1+1 < k) :
  V.heap[w.heap.size]?=some (.cells #[.slice A1 n1 n1] 23 (0,0))∧V.heap[w.heap.size+1]?=some (.cells #[.int .i64 x] 3 (0,0))∧V.heap[w.heap.size+1+1]?=some (.cells #[.int .i64 0,.int .i64 0] 26 (0,0))∧Below w.heap.size w V∧Rds V V.heap.size 2 A1 n1 (rngs out):=by
 subst hV
 refine ⟨?_,?_,?_,?_,?_⟩
 ·exact hz_set (hz_set (hz_set (put1 h0 rfl) (by simp)) (by simp;omega)) (by simp;omega)
 ·exact hz_set (hz_set (put1 (hz_set h1 (by simp)) rfl) (by simp)) (by simp)
 ·exact put1 (put1 (hz_set (hz_set h2 (by simp;omega)) (by simp)) rfl) rfl
 ·exact Below.drew ((((hb.setCell (Nat.le_refl _) _).setCell (by simp) _).setCell (by simp;omega) _).setCell (by simp;omega) _)
 ·have o1:=own_keptb ho ((Kept.refl w.heap.size W2).set 0 (.slice A1 n1 n1)) (by omega)
  have o2:=own_keptb o1 ((Kept.refl (w.heap.size+1) _).set 0 (.int .i64 x)) (by omega)
  have o3:=own_keptb o2 ((Kept.refl (w.heap.size+1+1) _).set 0 (.int .i64 0)) (by omega)
  have o4:=own_keptb o3 ((Kept.refl (w.heap.size+1+1) _).set 1 (.int .i64 0)) (by omega)
  exact (Rds.of_own o4).drew
/-- what Raw hands back -/
def RawOut (R:BR SP) (w:World) (e:Ending) (w':World):Prop:=match R with
 | .error q=>e=.returned (.tuple #[.slice none 0 0,.int .i64 0,.agg #[.int .i64 q.1,.int .i64 q.2]])∧Below w.heap.size w w'
 | .ok q=>∃ out,IsSet out q.1∧(0≤q.2∧q.2≤300)∧((out.length≤400∧∃ A' n',e=.returned (.tuple #[.slice A' n' n',.int .i64 q.2,.agg #[.int .i64 0,.int .i64 0]])∧Rds w' w'.heap.size 2 A' n' (rngs out)∧Below w.heap.size w w') ∨
   (400 < out.length∧e=.returned (.tuple #[.slice none 0 0,.int .i64 0,.agg #[.int .i64 2,.int .i64 0]])∧Below w.heap.size w w'))
set_option maxHeartbeats 8000000 in
set_option maxRecDepth 100000 in
theorem raw30 {d at_:Int} {fo:Bool} {A:Option Addr} {l:List Int} {n c:Nat} {w:World} {R:BR SP} (hn:n≤300) (hc:n≤c) (h0:0≤at_) (h1:at_≤n) (ha:Rds w w.heap.size 1 A n (ints l))
  (CA:∀ b W,BSt b n c d fo 0 A l at_ W→Calls Tryz.prog 58 #[.pointer (some ⟨b,0,none⟩)] W (BOut b n c d fo 0 A l 480000 R W)) :
  Calls Tryz.prog 30 #[.int .i64 d,.slice A n c,.int .i64 at_,.bool fo] w (RawOut R w):=by
 have hmf:∀ (fn:Fn) (first cap:Array Value) (w:World),(Instr.makeFunc fn first cap).run Tryz.prog w=.ok (.func fn first cap) w:=fun _ _ _ _=>rfl
 obtain ⟨W,hW⟩:∃ W,W=(((w.alloc (.cells #[.slice none 0 0] 23)).alloc (.cells #[.int .i64 0] 3)).alloc (.cells #[.int .i64 0,.int .i64 0] 26)).alloc (.cells #[.int .i64 d,.slice A n c,.int .i64 at_,.bool fo,.int .i64 0] 96):=⟨_,rfl⟩
 have hB:Below w.heap.size w W:=by rw [hW];go_grown
 have hsW:W.heap.size=w.heap.size+4:=by rw [hW];simp
 have z0:W.heap[w.heap.size]?=some (.cells #[.slice none 0 0] 23 (0,0)):=by rw [hW];exact hz_alloc (hz_alloc (hz_alloc (heap_alloc_new w _)))
 have z1:W.heap[w.heap.size+1]?=some (.cells #[.int .i64 0] 3 (0,0)):=by rw [hW];have:=heap_alloc_new (w.alloc (.cells #[.slice none 0 0] 23)) (.cells #[.int .i64 0] 3);exact hz_alloc (hz_alloc (by simpa using this))
 have z2:W.heap[w.heap.size+1+1]?=some (.cells #[.int .i64 0,.int .i64 0] 26 (0,0)):=by rw [hW];have:=heap_alloc_new ((w.alloc (.cells #[.slice none 0 0] 23)).alloc (.cells #[.int .i64 0] 3)) (.cells #[.int .i64 0,.int .i64 0] 26);exact hz_alloc (by simpa using this)
 have z3:W.heap[w.heap.size+1+1+1]?=some (.cells #[.int .i64 d,.slice A n c,.int .i64 at_,.bool fo,.int .i64 0] 96 (0,0)):=by rw [hW];have:=heap_alloc_new (((w.alloc (.cells #[.slice none 0 0] 23)).alloc (.cells #[.int .i64 0] 3)).alloc (.cells #[.int .i64 0,.int .i64 0] 26)) (.cells #[.int .i64 d,.slice A n c,.int .i64 at_,.bool fo,.int .i64 0] 96);simpa using this
 have HS:=Lib.hid (show BSt (w.heap.size+1+1+1) n c d fo 0 A l at_ W from ⟨z3,(ha.below hB (Nat.le_refl _)).more (by omega),h0,h1,hn,hc⟩)
 have C:=Lib.hid (CA _ W HS.out)
 have HSZ:=Lib.hid hsW
 clear ha z3 CA
 cases R with
 | error q =>
  obtain ⟨x,y⟩:=q
  go_enter_defers Tryz.func30,Tryz.ntmps30
  go_wp2_with fail
  rw [← hW]
  refine C.out.mono ?_
  rintro e w1 ⟨hk,he⟩
  obtain rfl:=(show e=.panicked (faultV x y) from he)
  have y0:=(hk.block _ (by omega) (by omega)).trans z0
  have y1:=(hk.block _ (by omega) (by omega)).trans z1
  have y2:=(hk.block _ (by omega) (by omega)).trans z2
  have HB1:=Lib.hid (below_keptb hB hk (by omega))
  have C57:=Lib.hid (catch57 w.heap.size (w.heap.size+1) (w.heap.size+1+1) x y none 0 0 [] w1 y0 y1 y2 (by omega) (by omega) (by omega))
  have hks:=hk.size
  clear he hk C hW hB y0 y1 y2 z0 z1 z2
  go_wp2_with fail
  refine leaves_cons (f:=57) (args:=#[.pointer (some ⟨w.heap.size,0,none⟩),.pointer (some ⟨w.heap.size+1,0,none⟩),.pointer (some ⟨w.heap.size+1+1,0,none⟩)]) (by simp) (by simp [go_sem]) ?_
  refine C57.out.mono ?_
  rintro e u' w2 ⟨rfl,rfl,t1,t2,t3,hB⟩
  have HB2:=Lib.hid (HB1.out.trans (hB w.heap.size (Nat.le_refl _) (by omega) (by omega) (by omega)))
  have f0:=cell_of_row _ _ 0 _ _ _ t1
  have f1:=cell_of_row _ _ 0 _ _ _ t2
  have f2:=cell_of_row _ _ 0 _ _ _ t3
  have f3:=cell_of_row _ _ 1 _ _ _ t3
  clear t1 t2 t3 hB C57
  simp at f0 f1 f2 f3
  simp [Leaves,settle,results,Tryz.results30,go_sem,f0,f1,f2,f3]
  exact ⟨rfl,HB2.out⟩
 | ok q =>
  obtain ⟨f,nx⟩:=q
  go_enter_defers Tryz.func30,Tryz.ntmps30
  go_wp2_with fail
  rw [← hW]
  refine C.out.mono ?_
  rintro e w1 ⟨hk,out,A1,n1,c1,hset,hln,rfl,hown,hS1⟩
  have y0:=(hk.block _ (by omega) (by omega)).trans z0
  have y1:=(hk.block _ (by omega) (by omega)).trans z1
  have y2:=(hk.block _ (by omega) (by omega)).trans z2
  have HB1:=Lib.hid (below_keptb hB hk (by omega))
  have HS1:=Lib.hid hS1
  have HO1:=Lib.hid hown
  have HSET:=Lib.hid hset
  have hn1:n1=out.length:=own_rngs_len hown
  have hks:=hk.size
  obtain ⟨_,_,hv1,q1,q2⟩:=own_slice hown
  injection hv1 with e1 e2 e3
  subst e1 e3
  have HN1:=Lib.hid hn1
  have hnx:0≤nx∧nx≤300:=by have h1:=hS1.lo;have h2:=hS1.hi;have h3:=hS1.small;omega
  have f0:w1.cell? ⟨w.heap.size,0,none⟩=some (.slice none 0 0):=cell_of_row _ _ 0 _ _ _ y0
  have f0':w1.frozen? ⟨w.heap.size,0,none⟩=false:=frozen_row y0
  have HY0:=Lib.hid y0
  have HY1:=Lib.hid y1
  have HY2:=Lib.hid y2
  clear hset hown hS1 hk C hW hB y0 y1 y2 z0 z1 z2 hsW hn1
  by_cases h4:400 < n1
  ·have e4:(decide ((400:Int) < (n1:Int)))=true:=decide_eq_true (by omega)
   go_upto_region 5 with (fail)
   obtain ⟨W2,hW2⟩:∃ X,X=w1.setCell ⟨w.heap.size,0,none⟩ (.slice A1 n1 c1):=⟨_,rfl⟩
   have HB2:=Lib.hid (show Below w.heap.size w W2 by rw [hW2];exact HB1.out.setCell (Nat.le_refl _) _)
   have y0:W2.heap[w.heap.size]?=some (.cells #[.slice A1 n1 c1] 23 (0,0)):=by rw [hW2];exact put1 HY0.out rfl
   have y1:W2.heap[w.heap.size+1]?=some (.cells #[.int .i64 0] 3 (0,0)):=by rw [hW2];exact hz_set HY1.out (by simp)
   have y2:W2.heap[w.heap.size+1+1]?=some (.cells #[.int .i64 0,.int .i64 0] 26 (0,0)):=by rw [hW2];exact hz_set HY2.out (by simp;omega)
   rw [← hW2]
   have C57:=Lib.hid (catch57 w.heap.size (w.heap.size+1) (w.heap.size+1+1) 2 0 A1 n1 c1 [] W2 y0 y1 y2 (by omega) (by omega) (by omega))
   have hsz2:=lt_heap y2
   clear hW2 HY0 HY1 HY2 HS1 HO1 f0 f0' y0 y1 y2
   go_wp2_with fail
   refine (fail21 2 0 _).mono ?_
   rintro e w3 ⟨rfl,rfl⟩
   go_wp2_with fail
   refine leaves_cons (f:=57) (args:=#[.pointer (some ⟨w.heap.size,0,none⟩),.pointer (some ⟨w.heap.size+1,0,none⟩),.pointer (some ⟨w.heap.size+1+1,0,none⟩)]) (by simp) (by simp [go_sem]) ?_
   refine C57.out.mono ?_
   rintro e u' w2 ⟨rfl,rfl,t1,t2,t3,hB⟩
   have HB3:=Lib.hid (HB2.out.trans (hB w.heap.size (Nat.le_refl _) (by omega) (by omega) (by omega)))
   have f0:=cell_of_row _ _ 0 _ _ _ t1
   have f1:=cell_of_row _ _ 0 _ _ _ t2
   have f2:=cell_of_row _ _ 0 _ _ _ t3
   have f3:=cell_of_row _ _ 1 _ _ _ t3
   clear t1 t2 t3 hB C57
   simp at f0 f1 f2 f3
   have FIN:=Lib.hid (show RawOut (.ok (f,nx)) w (.returned (.tuple #[.slice none 0 0,.int .i64 0,.agg #[.int .i64 2,.int .i64 0]])) w2 from ⟨out,HSET.out,hnx,.inr ⟨by have:=HN1.out;omega,rfl,HB3.out⟩⟩)
   simp [Leaves,settle,results,Tryz.results30,go_sem,f0,f1,f2,f3]
   exact FIN.out
  ·have e4:(decide ((400:Int) < (n1:Int)))=false:=decide_eq_false (by omega)
   go_upto_region 6 with (fail)
   obtain ⟨W2,hW2⟩:∃ X,X=w1.setCell ⟨w.heap.size,0,none⟩ (.slice A1 n1 c1):=⟨_,rfl⟩
   have HB2:=Lib.hid (show Below w.heap.size w W2 by rw [hW2];exact HB1.out.setCell (Nat.le_refl _) _)
   have HO2:=Lib.hid (show W2.ownsRow W.heap.size 67 2 (.slice A1 n1 c1) n1 (rngs out) by rw [hW2];exact own_keptb HO1.out ((Kept.refl w.heap.size w1).set 0 _) (by rw [HSZ.out];omega))
   have HS2:=Lib.hid (show RdAt (w.heap.size+1+1+1) d A n c nx fo 0 W2 by rw [hW2];exact hz_set HS1.out.rd (show w.heap.size+1+1+1≠w.heap.size by omega))
   have HY0':=Lib.hid (show W2.heap[w.heap.size]?=some (.cells #[.slice A1 n1 c1] 23 (0,0)) by rw [hW2];exact put1 HY0.out rfl)
   have HY1':=Lib.hid (show W2.heap[w.heap.size+1]?=some (.cells #[.int .i64 0] 3 (0,0)) by rw [hW2];exact hz_set HY1.out (by simp))
   have HY2':=Lib.hid (show W2.heap[w.heap.size+1+1]?=some (.cells #[.int .i64 0,.int .i64 0] 26 (0,0)) by rw [hW2];exact hz_set HY2.out (by simp;omega))
   rw [← hW2]
   clear hW2 HB1 HO1 HS1 HY0 HY1 HY2 f0 f0'
   have f0:=cell_of_row _ _ 0 _ _ _ HY0'.out
   have f0':=frozen_row (o:=0) HY0'.out
   have f1:=cell_of_row _ _ 0 _ _ _ HY1'.out
   have f1':=frozen_row (o:=0) HY1'.out
   have f2:=cell_of_row _ _ 0 _ _ _ HY2'.out
   have f2':=frozen_row (o:=0) HY2'.out
   have f3:=cell_of_row _ _ 1 _ _ _ HY2'.out
   have f3':=frozen_row (o:=1) HY2'.out
   obtain ⟨c0,c1',c2,c3,g2⟩:=HS2.out.cells
   clear c0 c1' c3 g2
   refine wp_region_noPanic ?_
   go_region_with (go_at_call 60;(with_reducible refine (clip60 A1 n1 c1 _ q1).mono ?_);rintro e w' ⟨rfl,rfl⟩)
   all_goals (refine NoPanic.normal ?_)
   all_goals go_wp2_with fail
   all_goals
    obtain ⟨V,hV⟩:∃ V,V=((((W2.setCell ⟨w.heap.size,0,none⟩ (.slice A1 n1 n1)).setCell ⟨w.heap.size+1,0,none⟩ (.int .i64 nx)).setCell ⟨w.heap.size+1+1,0,none⟩ (.int .i64 0)).setCell ⟨w.heap.size+1+1,1,none⟩ (.int .i64 0)).drew:=⟨_,rfl⟩
    have E:=Lib.hid (raw_endb V hV HY0'.out HY1'.out HY2'.out HB2.out HO2.out (by rw [HSZ.out];omega))
    rw [← hV]
    clear hV HY0' HY1' HY2' HB2 HO2 HS2 f0 f0' f1 f1' f2 f2' f3 f3' c2
    refine leaves_cons (f:=57) (args:=#[.pointer (some ⟨w.heap.size,0,none⟩),.pointer (some ⟨w.heap.size+1,0,none⟩),.pointer (some ⟨w.heap.size+1+1,0,none⟩)]) (by simp) (by simp [go_sem]) ?_
    refine (idle57 _ _ _ _).mono ?_
    rintro e u' w3 ⟨rfl,rfl,hb⟩
    have S1:=row_next E.out.1 hb
    have S2:=row_next E.out.2.1 hb
    have S3:=row_next E.out.2.2.1 hb
    have HB3:=Lib.hid (E.out.2.2.2.1.trans (hb.mono E.out.2.2.2.1.size))
    have HR3:=Lib.hid ((E.out.2.2.2.2.below hb (Nat.le_refl _)).more hb.size)
    have f0:=cell_of_row _ _ 0 _ _ _ S1
    have f1:=cell_of_row _ _ 0 _ _ _ S2
    have f2:=cell_of_row _ _ 0 _ _ _ S3
    have f3:=cell_of_row _ _ 1 _ _ _ S3
    clear S1 S2 S3 hb E
    simp at f0 f1 f2 f3
    have FIN:=Lib.hid (show RawOut (.ok (f,nx)) w (.returned (.tuple #[.slice A1 n1 n1,.int .i64 nx,.agg #[.int .i64 0,.int .i64 0]])) w3 from ⟨out,HSET.out,hnx,.inl ⟨by have:=HN1.out;omega,A1,n1,rfl,HR3.out,HB3.out⟩⟩)
    simp [Leaves,settle,results,Tryz.results30,go_sem,f0,f1,f2,f3]
    exact FIN.out
end Go.Proofs.YtbiahhojnjchnaaGreat
namespace Go.Proofs.YtbiahhojnjchnaaGreat
open Go.RowKit
def parseE (d:Int) (l:List Int) (at_:Int):Int:=if rightE d l≠0 then rightE d l else if at_ < 0∨(l.length:Int) < at_ then 3 else 0
/-- the same, in one form for all ways -/
def Tell (R:BR SP) (A:Option Addr) (n:Nat) (v x y:Int) (w':World):Prop:=match R with
 | .error q=>A=none∧n=0∧v=0∧x=q.1∧y=q.2
 | .ok q=>∃ out,IsSet out q.1∧(0≤q.2∧q.2≤300)∧((out.length≤400∧v=q.2∧x=0∧y=0∧Rds w' w'.heap.size 2 A n (rngs out))∨(400 < out.length∧A=none∧n=0∧v=0∧x=2∧y=0))
theorem RawOut.tell {R:BR SP} {w w':World} {e:Ending} (h:RawOut R w e w'):∃ A n v x y,e=.returned (.tuple #[.slice A n n,.int .i64 v,.agg #[.int .i64 x,.int .i64 y]])∧Tell R A n v x y w'∧Below w.heap.size w w':=by
 cases R with
 | error q=>exact ⟨none,0,0,q.1,q.2,h.1,⟨rfl,rfl,rfl,rfl,rfl⟩,h.2⟩
 | ok q =>
  obtain ⟨out,hs,hq,⟨hl,A',n',he,hr,hb⟩|⟨hl,he,hb⟩⟩:=h
  ·exact ⟨A',n',q.2,0,0,he,⟨out,hs,hq,.inl ⟨hl,rfl,rfl,rfl,hr⟩⟩,hb⟩
  ·exact ⟨none,0,0,2,0,he,⟨out,hs,hq,.inr ⟨hl,rfl,rfl,rfl,rfl,rfl⟩⟩,hb⟩
theorem Tell.raw {R:BR SP} {A:Option Addr} {n:Nat} {v x y:Int} {w w':World} (h:Tell R A n v x y w') (hb:Below w.heap.size w w'):RawOut R w (.returned (.tuple #[.slice A n n,.int .i64 v,.agg #[.int .i64 x,.int .i64 y]])) w':=by
 cases R with
 | error q=>obtain ⟨rfl,rfl,rfl,rfl,rfl⟩:=h;exact ⟨rfl,hb⟩
 | ok q =>
  obtain ⟨out,hs,hq,⟨hl,rfl,rfl,rfl,hr⟩|⟨hl,rfl,rfl,rfl,rfl,rfl⟩⟩:=h
  ·exact ⟨out,hs,hq,.inl ⟨hl,A,n,rfl,hr,hb⟩⟩
  ·exact ⟨out,hs,hq,.inr ⟨hl,rfl,hb⟩⟩
theorem Tell.stored {R:BR SP} {A:Option Addr} {n:Nat} {v x y:Int} {w:World} {g:Nat} {t:TypeId} (h:Tell R A n v x y w) (hg:w.heap[g]?=some (.cells #[.int .i64 0,.int .i64 0] t (0,0))):Tell R A n v x y ((w.setCell ⟨g,0,none⟩ (.int .i64 x)).setCell ⟨g,1,none⟩ (.int .i64 y)):=by
 cases R with
 | error q=>exact h
 | ok q =>
  obtain ⟨out,hs,hq,⟨hl,rfl,rfl,rfl,hr⟩|h⟩:=h
  ·refine ⟨out,hs,hq,.inl ⟨hl,rfl,rfl,rfl,?_⟩⟩
   have hV:((w.setCell ⟨g,0,none⟩ (.int .i64 0)).setCell ⟨g,1,none⟩ (.int .i64 0)).heap[g]?=some (.cells #[.int .i64 0,.int .i64 0] t (0,0)):=put1 (put1 hg rfl) rfl
   have hsame:∀ k:Nat,((w.setCell ⟨g,0,none⟩ (.int .i64 0)).setCell ⟨g,1,none⟩ (.int .i64 0)).heap[k]?=w.heap[k]?:=by
    intro k
    by_cases hk:k=g
    ·rw [hk,hV,hg]
    ·rw [Below.heap_setCell _ _ _ _ hk,Below.heap_setCell _ _ _ _ hk]
   have hsz:((w.setCell ⟨g,0,none⟩ (.int .i64 0)).setCell ⟨g,1,none⟩ (.int .i64 0)).heap.size=w.heap.size:=by simp [World.setCell]
   rw [hsz]
   exact hr.keep fun p _=>World.cell?_of_block (hsame p.block)
  ·exact ⟨out,hs,hq,.inr h⟩
set_option maxHeartbeats 4000000 in
set_option maxRecDepth 100000 in
theorem parse12_bad {d at_ x:Int} {fo:Bool} {A:Option Addr} {l:List Int} {n c:Nat} {w:World} (hx:parseE d l at_=x) (hx0:x≠0) (hn:n≤maxLen) (ha:Rds w w.heap.size 1 A n (ints l)) :
  Calls Tryz.prog 12 #[.int .i64 d,.slice A n c,.int .i64 at_,.bool fo] w fun e w'=>e=.returned (.tuple #[.slice none 0 0,.int .i64 0,.agg #[.int .i64 x,.int .i64 0]])∧Below w.heap.size w w':=by
 have HLN:=ha.ints_len
 have C:=Lib.hid (right14 d l A n c (w.heap.size+1) (w.alloc (.cells #[.int .i64 0,.int .i64 0] 26)) hn ((ha.alloc (Nat.le_refl _) _).more (by omega)))
 have e2:(x != 0)=true:=bne_iff_ne.2 hx0
 unfold parseE at hx
 clear ha
 by_cases hr:rightE d l=0
 ·rw [if_neg (by simpa using hr)] at hx
  rw [hr] at C
  have hat:at_ < 0∨(n:Int) < at_:=by
   rw [← HLN]
   by_cases h:at_ < 0∨(l.length:Int) < at_
   ·exact h
   ·rw [if_neg h] at hx;exact absurd hx.symm hx0
  rw [← HLN] at hat
  rw [if_pos hat] at hx
  subst hx
  have HAT:=Lib.hid hat
  clear hat hr hx0
  by_cases h0:at_ < 0
  ·have e1:(decide (at_ < 0))=true:=decide_eq_true h0
   go_enter Tryz.func12,Tryz.ntmps12
   go_upto_region 5 with (go_at_call 29;(with_reducible refine C.out.mono ?_);rintro e w' ⟨rfl,rfl⟩)
   repeat (first|go_values|go_skip|go_guarded|go_step|go_upon|(simp only []))
   (try simp only [Exit.inBlock,Exit.then])
   refine bodyPost_ret (v:=.tuple #[.slice none 0 0,.int .i64 0,.agg #[.int .i64 3,.int .i64 0]]) ?_ rfl ?_
   ·simp [results,Tryz.results12,go_sem]
   ·exact ⟨rfl,by (repeat' (first|(with_reducible exact Below.refl _ _)|(with_reducible refine Below.setCell ?_ (by simp<;>omega) _)|(with_reducible refine Below.alloc ?_ (by simp<;>omega) _)))⟩
  ·have e1:(decide (at_ < 0))=false:=decide_eq_false h0
   have e3:(decide ((n:Int) < at_))=true:=decide_eq_true (by have:=HAT.out;omega)
   go_enter Tryz.func12,Tryz.ntmps12
   go_upto_region 5 with (go_at_call 29;(with_reducible refine C.out.mono ?_);rintro e w' ⟨rfl,rfl⟩)
   repeat (first|go_values|go_skip|go_guarded|go_step|go_upon|(simp only []))
   (try simp only [Exit.inBlock,Exit.then])
   refine bodyPost_ret (v:=.tuple #[.slice none 0 0,.int .i64 0,.agg #[.int .i64 3,.int .i64 0]]) ?_ rfl ?_
   ·simp [results,Tryz.results12,go_sem]
   ·exact ⟨rfl,by (repeat' (first|(with_reducible exact Below.refl _ _)|(with_reducible refine Below.setCell ?_ (by simp<;>omega) _)|(with_reducible refine Below.alloc ?_ (by simp<;>omega) _)))⟩
 ·rw [if_pos (by simpa using hr)] at hx
  rw [hx] at C
  have e1:(x == 0)=false:=beq_eq_false_iff_ne.2 hx0
  clear hr hx hx0
  go_enter Tryz.func12,Tryz.ntmps12
  go_upto_region 5 with (go_at_call 29;(with_reducible refine C.out.mono ?_);rintro e w' ⟨rfl,rfl⟩)
  repeat (first|go_values|go_skip|go_guarded|go_step|go_upon|(simp only []))
  (try simp only [Exit.inBlock,Exit.then])
  refine bodyPost_ret (v:=.tuple #[.slice none 0 0,.int .i64 0,.agg #[.int .i64 x,.int .i64 0]]) ?_ rfl ?_
  ·simp [results,Tryz.results12,go_sem]
  ·exact ⟨rfl,by (repeat' (first|(with_reducible exact Below.refl _ _)|(with_reducible refine Below.setCell ?_ (by simp<;>omega) _)|(with_reducible refine Below.alloc ?_ (by simp<;>omega) _)))⟩
theorem rightE_okb {d:Int} {l:List Int} (h:rightE d l=0):l.length≤300∧(∀ x ∈ l,0≤x∧x≤1114111)∧1≤d∧d≤3:=by
 unfold rightE at h
 split at h
 ·cases h
 ·split at h
  ·cases h
  ·split at h
   ·rename_i h1 h2 h3
    exact ⟨by omega,fun x hx=>by have:=List.all_eq_true.1 h3 x hx;simpa [okPt] using this,by omega,by omega⟩
   ·cases h
set_option maxHeartbeats 4000000 in
set_option maxRecDepth 100000 in
theorem parse12_good {d at_:Int} {fo:Bool} {A:Option Addr} {l:List Int} {n c:Nat} {w:World} {R:BR SP} (hx:parseE d l at_=0) (hc:n≤c) (ha:Rds w w.heap.size 1 A n (ints l))
  (CA:∀ b W,BSt b n c d fo 0 A l at_ W→Calls Tryz.prog 58 #[.pointer (some ⟨b,0,none⟩)] W (BOut b n c d fo 0 A l 480000 R W)) :
  Calls Tryz.prog 12 #[.int .i64 d,.slice A n c,.int .i64 at_,.bool fo] w (RawOut R w):=by
 have HLN:=ha.ints_len
 have hr:rightE d l=0:=by
  unfold parseE at hx
  by_cases h:rightE d l=0
  ·exact h
  ·rw [if_pos h] at hx;exact absurd hx h
 have hat:0≤at_∧at_≤n:=by
  unfold parseE at hx
  rw [if_neg (by simpa using hr)] at hx
  by_cases h:at_ < 0∨(l.length:Int) < at_
  ·rw [if_pos h] at hx;cases hx
  ·omega
 have hn:n≤300:=by have:=(rightE_okb hr).1;omega
 obtain ⟨W,hW⟩:∃ X,X=w.alloc (.cells #[.int .i64 0,.int .i64 0] 26):=⟨_,rfl⟩
 have hB:Below w.heap.size w W:=by rw [hW];exact (Below.refl _ _).alloc (Nat.le_refl _) _
 have hsW:W.heap.size=w.heap.size+1:=by rw [hW];simp
 have hz:W.heap[w.heap.size]?=some (.cells #[.int .i64 0,.int .i64 0] 26 (0,0)):=by rw [hW];exact heap_alloc_new w _
 have hA:=(ha.below hB (Nat.le_refl _)).more (B':=W.heap.size) (by omega)
 have C:=Lib.hid (right14 d l A n c W.heap.size W (by unfold maxLen;omega) hA)
 rw [hr] at C
 have RW:=Lib.hid (raw30 (fo:=fo) hn hc hat.1 hat.2 hA CA)
 have HB:=Lib.hid hB
 have HZ:=Lib.hid hz
 have n0:(decide (at_ < 0))=false:=decide_eq_false (by omega)
 have n1:(decide ((n:Int) < at_))=false:=decide_eq_false (by omega)
 clear ha hA hB hz CA hr
 go_enter Tryz.func12,Tryz.ntmps12
 go_upto_region 1 with (fail)
 rw [← hW]
 clear hW
 go_upto_region 6 with (go_at_call 29;(with_reducible refine C.out.mono ?_);rintro e w' ⟨rfl,rfl⟩)
 repeat (first|(go_big_may;go_says (go_at_call 30;(with_reducible refine RW.out.mono ?_);rintro e w2 hro;obtain ⟨A',n',v,x,y,rfl,htell,hb⟩:=hro.tell;have HT:=Lib.hid htell;have HB2:=Lib.hid (HB.out.trans (hb.mono (by omega)));have HZ2:=Lib.hid (row_next HZ.out hb);have f0:=cell_of_row _ _ 0 _ _ _ HZ2.out;have f1:=cell_of_row _ _ 1 _ _ _ HZ2.out;have g0:=frozen_row (o:=0) HZ2.out;have g1:=frozen_row (o:=1) HZ2.out;clear hro htell hb))|go_values|go_skip|go_guarded|go_step|go_upon|(simp only []))
 (try simp only [Exit.inBlock,Exit.then])
 have hV:((w2.setCell ⟨w.heap.size,0,none⟩ (.int .i64 x)).setCell ⟨w.heap.size,1,none⟩ (.int .i64 y)).heap[w.heap.size]?=some (.cells #[.int .i64 x,.int .i64 y] 26 (0,0)):=put1 (put1 HZ2.out rfl) rfl
 have HTV:=Lib.hid (HT.out.stored HZ2.out)
 have HBV:=Lib.hid ((HB2.out.setCell (p:=⟨w.heap.size,0,none⟩) (Nat.le_refl _) (.int .i64 x)).setCell (p:=⟨w.heap.size,1,none⟩) (Nat.le_refl _) (.int .i64 y))
 obtain ⟨V,hVV⟩:∃ X,X=(w2.setCell ⟨w.heap.size,0,none⟩ (.int .i64 x)).setCell ⟨w.heap.size,1,none⟩ (.int .i64 y):=⟨_,rfl⟩
 rw [← hVV] at hV HBV HTV ⊢
 clear hVV f0 f1 g0 g1
 have f0:=cell_of_row _ _ 0 _ _ _ hV
 have f1:=cell_of_row _ _ 1 _ _ _ hV
 simp at f0 f1
 refine bodyPost_ret (v:=.tuple #[.slice A' n' n',.int .i64 v,.agg #[.int .i64 x,.int .i64 y]]) ?_ rfl ?_
 ·simp [results,Tryz.results12,go_sem,f0,f1]
 ·exact HTV.out.raw HBV.out
end Go.Proofs.YtbiahhojnjchnaaGreat
