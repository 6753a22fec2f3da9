/-
  The other atoms: any point, what looks, options: walked.
-/
import Derived.Test.YtbiahhojnjchnaaGreatPnL
set_option linter.unusedVariables false
set_option linter.unusedSimpArgs false
namespace Go.Proofs.YtbiahhojnjchnaaGreat
open Go.RowKit
def anyS:List (Int × Int):=[(0,9),(11,1114111)]
set_option maxRecDepth 100000 in
set_option maxHeartbeats 8000000 in
theorem atom_any {b n c:Nat} {d:Int} {A:Option Addr} {l:List Int} {s:PS} {V1 V2:Value} {w:World} {t:Tk} {nx:Int} (hk:t.kind=2) (hnx:0≤nx∧nx≤n) (h:PsAt b n c d A l s V1 V2 w) :
  Calls Tryz.prog 112 #[.pointer (some ⟨b,0,none⟩),.agg #[.int .i64 t.kind,.int .i64 t.num,.string ⟨t.text.toArray⟩,.bool t.not_,.int .i64 t.least,.int .i64 t.most,.int .i64 t.way,.int .i64 t.fold],.int .i64 nx] w (POut b n c d A l (pm b V1 V2) w (.ok (setT anyS,{ s with at_:=nx }))):=by
 have e1:(t.kind == 1)=false:=by rw [hk];rfl
 have e2:(t.kind == 2)=true:=by rw [hk];rfl
 clear hk
 have hlt:=h.lt
 have HPM:=Lib.hid (fun k hk=>pm_lt (k:=k) h hk)
 obtain ⟨W1,hW1⟩:∃ X,X=(w.alloc (.cells #[.int .i64 t.kind,.int .i64 t.num,.string ⟨t.text.toArray⟩,.bool t.not_,.int .i64 t.least,.int .i64 t.most,.int .i64 t.way,.int .i64 t.fold] 108)).alloc (.cells #[.int .i64 0,.slice none 0 0,.slice none 0 0,.int .i64 0,.int .i64 0,.int .i64 0,.int .i64 0,.bool false] 42):=⟨_,rfl⟩
 have hB1:Below w.heap.size w W1:=by rw [hW1];exact ((Below.refl _ _).alloc (Nat.le_refl _) _).alloc (by simp) _
 have hr0:W1.heap[w.heap.size]?=some (tokO t):=by rw [hW1];exact hz_alloc (heap_alloc_new w _)
 have hr1:W1.heap[w.heap.size+1]?=some Z42:=by rw [hW1];have:=z42_new (w:=w.alloc (.cells #[.int .i64 t.kind,.int .i64 t.num,.string ⟨t.text.toArray⟩,.bool t.not_,.int .i64 t.least,.int .i64 t.most,.int .i64 t.way,.int .i64 t.fold] 108));simpa using this
 have HO:=Lib.hid (show At2 b n c d A l s V1 V2 V1 V2 w t W1 from ⟨h.next hB1,Mvd.of_below (M:=pm b V1 V2) (M':=pm b V1 V2) hB1 (fun _ _ h=>h),fun k h1 _=>pm_none HPM.out h1,hr0,hr1,hlt⟩)
 clear h hB1 hr0 hr1
 obtain ⟨p0,p1,p2,p3,p4,p5,p6,p7,pf⟩:=HO.out.ps.cells
 go_enter Tryz.func112,Tryz.ntmps112
 go_upto_region 1 with (fail)
 rw [← hW1]
 clear hW1
 go_upto_region 3 with (fail)
 have HO:=Lib.hid (show At2 b n c d A l { s with at_:=nx } V1 V2 V1 V2 w t (W1.setCell ⟨b,2,none⟩ (.int .i64 nx)) from HO.out.set (j:=2) rfl rfl rfl hnx HO.out.ps.dp HO.out.ps.gr)
 obtain ⟨X,hX⟩:∃ X,X=W1.setCell ⟨b,2,none⟩ (.int .i64 nx):=⟨_,rfl⟩
 rw [← hX] at HO ⊢
 clear hX p0 p1 p2 p3 p4 p5 p6 p7 pf
 obtain ⟨t0,t1,t2,t3,t4,t5,t6,t7⟩:=cells8 HO.out.r0
 have hbY:Below X.heap.size X (X.alloc (.cells #[.int .i64 0,.int .i64 9,.int .i64 11,.int .i64 1114111] 67)):=(Below.refl _ _).alloc (Nat.le_refl _) _
 have HOY:=Lib.hid (HO.out.next hbY)
 have HR:=Lib.hid (show Rds (mask (fun k=>pm b V1 V2 k || decide (k < w.heap.size+2)) (X.alloc (.cells #[.int .i64 0,.int .i64 9,.int .i64 11,.int .i64 1114111] 67))) (X.alloc (.cells #[.int .i64 0,.int .i64 9,.int .i64 11,.int .i64 1114111] 67)).heap.size 2 (some ⟨X.heap.size,0,none⟩) 2 (rngs anyS) from by
  refine ⟨rfl,fun _=>⟨X.heap.size,0,rfl,by simp,fun j u hu=>mask_of ?_ ?_⟩⟩
  ·have h1:=pm_none (V1:=V1) (V2:=V2) (fun k hk=>pm_lt HO.out.ps hk) (Nat.le_refl X.heap.size)
   have h2:=HO.out.size
   simp [h1];omega
  ·rw [Nat.zero_add,cell_of_row _ _ j _ _ _ (heap_alloc_new X _)]
   have hl:(rngs anyS)[j]?=(#[.int .i64 0,.int .i64 9,.int .i64 11,.int .i64 1114111]:Array Value)[j]?:=by
    rw [← Array.getElem?_toList];rfl
   rw [← hl];exact hu)
 have CS:=Lib.hid (points130 (c:=2) (Nat.le_refl _) (show 2≤maxLen by unfold maxLen;omega) HR.out)
 clear hbY
 go_wp2_with (first
  | (go_at_call 130;(with_reducible refine CS.out.mono ?_);rintro e w3 ⟨⟨dd,he,hnd⟩,hb3⟩;obtain rfl:=(show e=.returned (.agg #[.int .i64 dd.kind,.slice dd.sA dd.sn dd.sc,.slice dd.kA dd.kn dd.kc,.int .i64 dd.num,.int .i64 dd.least,.int .i64 dd.most,.int .i64 dd.way,.bool dd.fold]) from he);have HND:=Lib.hid hnd;have HO3:=Lib.hid (HOY.out.next hb3);clear he hnd hb3)
  | ((with_reducible apply store42 (g:=w.heap.size+1));rfl;(with_reducible rfl);rfl;rfl;(exact HO3.out.r1);rfl;rfl))
 (try simp only [Exit.inBlock,Exit.then])
 refine bodyPost_ret (v:=_) (results42 Tryz.results112 _ _ (w.heap.size+1) _ ?_ (row42 HO3.out.r1) ?_) rfl ?_
 ·rfl
 ·rfl
 ·obtain ⟨k1,k2,k3⟩:=HO3.out.fin #[.int .i64 dd.kind,.slice dd.sA dd.sn dd.sc,.slice dd.kA dd.kn dd.kc,.int .i64 dd.num,.int .i64 dd.least,.int .i64 dd.most,.int .i64 dd.way,.bool dd.fold] HND.out
  exact ⟨dd,V1,V2,rfl,k1,k2,k3⟩
set_option maxRecDepth 100000 in
set_option maxHeartbeats 8000000 in
theorem atom_look {b n c:Nat} {d:Int} {A:Option Addr} {l:List Int} {s:PS} {V1 V2:Value} {w:World} {t:Tk} {nx:Int} (hk:t.kind=3) (hnx:0≤nx∧nx≤n) (h:PsAt b n c d A l s V1 V2 w) :
  Calls Tryz.prog 112 #[.pointer (some ⟨b,0,none⟩),.agg #[.int .i64 t.kind,.int .i64 t.num,.string ⟨t.text.toArray⟩,.bool t.not_,.int .i64 t.least,.int .i64 t.most,.int .i64 t.way,.int .i64 t.fold],.int .i64 nx] w (POut b n c d A l (pm b V1 V2) w (.ok (.mk t.num [] [] 0 0 0 0 false,{ s with at_:=nx }))):=by
 have e1:(t.kind == 1)=false:=by rw [hk];rfl
 have e2:(t.kind == 2)=false:=by rw [hk];rfl
 have e3:(t.kind == 3)=true:=by rw [hk];rfl
 clear hk
 have hlt:=h.lt
 have HPM:=Lib.hid (fun k hk=>pm_lt (k:=k) h hk)
 obtain ⟨W1,hW1⟩:∃ X,X=(w.alloc (.cells #[.int .i64 t.kind,.int .i64 t.num,.string ⟨t.text.toArray⟩,.bool t.not_,.int .i64 t.least,.int .i64 t.most,.int .i64 t.way,.int .i64 t.fold] 108)).alloc (.cells #[.int .i64 0,.slice none 0 0,.slice none 0 0,.int .i64 0,.int .i64 0,.int .i64 0,.int .i64 0,.bool false] 42):=⟨_,rfl⟩
 have hB1:Below w.heap.size w W1:=by rw [hW1];exact ((Below.refl _ _).alloc (Nat.le_refl _) _).alloc (by simp) _
 have hr0:W1.heap[w.heap.size]?=some (tokO t):=by rw [hW1];exact hz_alloc (heap_alloc_new w _)
 have hr1:W1.heap[w.heap.size+1]?=some Z42:=by rw [hW1];have:=z42_new (w:=w.alloc (.cells #[.int .i64 t.kind,.int .i64 t.num,.string ⟨t.text.toArray⟩,.bool t.not_,.int .i64 t.least,.int .i64 t.most,.int .i64 t.way,.int .i64 t.fold] 108));simpa using this
 have HO:=Lib.hid (show At2 b n c d A l s V1 V2 V1 V2 w t W1 from ⟨h.next hB1,Mvd.of_below (M:=pm b V1 V2) (M':=pm b V1 V2) hB1 (fun _ _ h=>h),fun k h1 _=>pm_none HPM.out h1,hr0,hr1,hlt⟩)
 clear h hB1 hr0 hr1
 obtain ⟨p0,p1,p2,p3,p4,p5,p6,p7,pf⟩:=HO.out.ps.cells
 go_enter Tryz.func112,Tryz.ntmps112
 go_upto_region 1 with (fail)
 rw [← hW1]
 clear hW1
 go_upto_region 3 with (fail)
 have HO:=Lib.hid (show At2 b n c d A l { s with at_:=nx } V1 V2 V1 V2 w t (W1.setCell ⟨b,2,none⟩ (.int .i64 nx)) from HO.out.set (j:=2) rfl rfl rfl hnx HO.out.ps.dp HO.out.ps.gr)
 obtain ⟨X,hX⟩:∃ X,X=W1.setCell ⟨b,2,none⟩ (.int .i64 nx):=⟨_,rfl⟩
 rw [← hX] at HO ⊢
 clear hX p0 p1 p2 p3 p4 p5 p6 p7 pf
 obtain ⟨t0,t1,t2,t3,t4,t5,t6,t7⟩:=cells8 HO.out.r0
 have HND:=Lib.hid (show Nd (fun k=>pm b V1 V2 k || decide (k < w.heap.size+2)) X (.mk t.num [] [] 0 0 0 0 false) ⟨t.num,none,0,0,none,0,0,0,0,0,0,false⟩ from
  nd_of [] ⟨rfl,rfl,rfl,rfl,rfl,rfl,nil_rds _ _ _,Nat.le_refl _,Nat.zero_le _,nil_rds _ _ _,Nat.le_refl _,Nat.zero_le _,KidsAt.nil⟩)
 go_wp2_with ((with_reducible apply store42 (g:=w.heap.size+1));rfl;(with_reducible rfl);rfl;rfl;(exact HO.out.r1);rfl;rfl)
 (try simp only [Exit.inBlock,Exit.then])
 refine bodyPost_ret (v:=_) (results42 Tryz.results112 _ _ (w.heap.size+1) _ ?_ (row42 HO.out.r1) ?_) rfl ?_
 ·rfl
 ·rfl
 ·obtain ⟨k1,k2,k3⟩:=HO.out.fin #[.int .i64 t.num,.slice none 0 0,.slice none 0 0,.int .i64 0,.int .i64 0,.int .i64 0,.int .i64 0,.bool false] HND.out
  exact ⟨⟨t.num,none,0,0,none,0,0,0,0,0,0,false⟩,V1,V2,rfl,k1,k2,k3⟩
set_option maxRecDepth 100000 in
set_option maxHeartbeats 8000000 in
theorem atom_opt {b n c:Nat} {d:Int} {A:Option Addr} {l:List Int} {s:PS} {V1 V2:Value} {w:World} {t:Tk} {nx:Int} (hk:t.kind=11) (hnx:0≤nx∧nx≤n) (h:PsAt b n c d A l s V1 V2 w) :
  Calls Tryz.prog 112 #[.pointer (some ⟨b,0,none⟩),.agg #[.int .i64 t.kind,.int .i64 t.num,.string ⟨t.text.toArray⟩,.bool t.not_,.int .i64 t.least,.int .i64 t.most,.int .i64 t.way,.int .i64 t.fold],.int .i64 nx] w (POut b n c d A l (pm b V1 V2) w (.ok (emptyT,{ s with at_:=nx,fold:=decide (0 < t.fold) }))):=by
 have e1:(t.kind == 1)=false:=by rw [hk];rfl
 have e2:(t.kind == 2)=false:=by rw [hk];rfl
 have e3:(t.kind == 3)=false:=by rw [hk];rfl
 have e4:(t.kind == 4)=false:=by rw [hk];rfl
 have e5:(t.kind == 5)=false:=by rw [hk];rfl
 have e11:(t.kind == 11)=true:=by rw [hk];rfl
 clear hk
 have hlt:=h.lt
 have HPM:=Lib.hid (fun k hk=>pm_lt (k:=k) h hk)
 obtain ⟨W1,hW1⟩:∃ X,X=(w.alloc (.cells #[.int .i64 t.kind,.int .i64 t.num,.string ⟨t.text.toArray⟩,.bool t.not_,.int .i64 t.least,.int .i64 t.most,.int .i64 t.way,.int .i64 t.fold] 108)).alloc (.cells #[.int .i64 0,.slice none 0 0,.slice none 0 0,.int .i64 0,.int .i64 0,.int .i64 0,.int .i64 0,.bool false] 42):=⟨_,rfl⟩
 have hB1:Below w.heap.size w W1:=by rw [hW1];exact ((Below.refl _ _).alloc (Nat.le_refl _) _).alloc (by simp) _
 have hr0:W1.heap[w.heap.size]?=some (tokO t):=by rw [hW1];exact hz_alloc (heap_alloc_new w _)
 have hr1:W1.heap[w.heap.size+1]?=some Z42:=by rw [hW1];have:=z42_new (w:=w.alloc (.cells #[.int .i64 t.kind,.int .i64 t.num,.string ⟨t.text.toArray⟩,.bool t.not_,.int .i64 t.least,.int .i64 t.most,.int .i64 t.way,.int .i64 t.fold] 108));simpa using this
 have HO:=Lib.hid (show At2 b n c d A l s V1 V2 V1 V2 w t W1 from ⟨h.next hB1,Mvd.of_below (M:=pm b V1 V2) (M':=pm b V1 V2) hB1 (fun _ _ h=>h),fun k h1 _=>pm_none HPM.out h1,hr0,hr1,hlt⟩)
 clear h hB1 hr0 hr1
 obtain ⟨p0,p1,p2,p3,p4,p5,p6,p7,pf⟩:=HO.out.ps.cells
 go_enter Tryz.func112,Tryz.ntmps112
 go_upto_region 1 with (fail)
 rw [← hW1]
 clear hW1
 go_upto_region 3 with (fail)
 have HO:=Lib.hid (show At2 b n c d A l { s with at_:=nx } V1 V2 V1 V2 w t (W1.setCell ⟨b,2,none⟩ (.int .i64 nx)) from HO.out.set (j:=2) rfl rfl rfl hnx HO.out.ps.dp HO.out.ps.gr)
 obtain ⟨X,hX⟩:∃ X,X=W1.setCell ⟨b,2,none⟩ (.int .i64 nx):=⟨_,rfl⟩
 rw [← hX] at HO ⊢
 clear hX p0 p1 p2 p3 p4 p5 p6 p7 pf
 obtain ⟨t0,t1,t2,t3,t4,t5,t6,t7⟩:=cells8 HO.out.r0
 obtain ⟨q0,q1,q2,q3,q4,q5,q6,q7,qf⟩:=HO.out.ps.cells
 go_upto_region 26 with (fail)
 have HO1:=Lib.hid (show At2 b n c d A l { s with at_:=nx,fold:=decide (0 < t.fold) } V1 V2 V1 V2 w t (X.setCell ⟨b,3,none⟩ (.bool (decide (0 < t.fold)))) from HO.out.set (j:=3) rfl rfl rfl hnx HO.out.ps.dp HO.out.ps.gr)
 obtain ⟨Y,hY⟩:∃ Y,Y=X.setCell ⟨b,3,none⟩ (.bool (decide (0 < t.fold))):=⟨_,rfl⟩
 rw [← hY] at HO1 ⊢
 clear hY q0 q1 q2 q3 q4 q5 q6 q7 qf t0 t1 t2 t3 t4 t5 t6 t7
 have CS:=Lib.hid (empty128 (fun k=>pm b V1 V2 k || decide (k < w.heap.size+2)) Y)
 go_wp2_with (first
  | (go_at_call 128;(with_reducible refine CS.out.mono ?_);rintro e w3 ⟨⟨dd,he,hnd⟩,hb3⟩;obtain rfl:=(show e=.returned (.agg #[.int .i64 dd.kind,.slice dd.sA dd.sn dd.sc,.slice dd.kA dd.kn dd.kc,.int .i64 dd.num,.int .i64 dd.least,.int .i64 dd.most,.int .i64 dd.way,.bool dd.fold]) from he);have HND:=Lib.hid hnd;have HO3:=Lib.hid (HO1.out.next hb3);clear he hnd hb3)
  | ((with_reducible apply store42 (g:=w.heap.size+1));rfl;(with_reducible rfl);rfl;rfl;(exact HO3.out.r1);rfl;rfl))
 (try simp only [Exit.inBlock,Exit.then])
 refine bodyPost_ret (v:=_) (results42 Tryz.results112 _ _ (w.heap.size+1) _ ?_ (row42 HO3.out.r1) ?_) rfl ?_
 ·rfl
 ·rfl
 ·obtain ⟨k1,k2,k3⟩:=HO3.out.fin #[.int .i64 dd.kind,.slice dd.sA dd.sn dd.sc,.slice dd.kA dd.kn dd.kc,.int .i64 dd.num,.int .i64 dd.least,.int .i64 dd.most,.int .i64 dd.way,.bool dd.fold] HND.out
  exact ⟨dd,V1,V2,rfl,k1,k2,k3⟩
end Go.Proofs.YtbiahhojnjchnaaGreat
