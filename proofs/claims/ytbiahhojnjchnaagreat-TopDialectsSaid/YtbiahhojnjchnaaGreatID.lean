/-
  Two nodes that are the same tree: walked. Two patterns that are the same: walked.
-/
import Derived.Test.YtbiahhojnjchnaaGreatIF
import Derived.Test.YtbiahhojnjchnaaGreatGA
import Derived.Lib.QuietBelow
import Derived.BigQuiet
import Derived.Deep.QuietTactic
import Derived.Test.YtbiahhojnjchnaaGreatIC
set_option linter.unusedVariables false
set_option linter.unusedSimpArgs false
namespace Go.Proofs.YtbiahhojnjchnaaGreat
open Go.RowKit
theorem node_next {w w':World} {t:Tr} {d:ND} (h:NodeAt w w.heap.size t d) (hb:Below w.heap.size w w'):NodeAt w' w'.heap.size t d:=NodeAt.map (fun r=>(r.below hb (Nat.le_refl _)).more hb.size) _ _ h
theorem sameS_self (a:List (Int × Int)):sameS a a=true:=by simp [sameS]
set_option maxRecDepth 100000 in
set_option maxHeartbeats 8000000 in
theorem same23 (t:Tr):∀ (d1 d2:ND) (w:World),NodeAt w w.heap.size t d1→NodeAt w w.heap.size t d2 →
  Calls Tryz.prog 23 #[.agg #[.int .i64 d1.kind,.slice d1.sA d1.sn d1.sc,.slice d1.kA d1.kn d1.kc,.int .i64 d1.num,.int .i64 d1.least,.int .i64 d1.most,.int .i64 d1.way,.bool d1.fold],.agg #[.int .i64 d2.kind,.slice d2.sA d2.sn d2.sc,.slice d2.kA d2.kn d2.kc,.int .i64 d2.num,.int .i64 d2.least,.int .i64 d2.most,.int .i64 d2.way,.bool d2.fold]] w fun e w'=>e=.returned (.bool true)∧Below w.heap.size w w':=by
 refine tree_ind (P:=fun t=>∀ (d1 d2:ND) (w:World),NodeAt w w.heap.size t d1→NodeAt w w.heap.size t d2 →
  Calls Tryz.prog 23 #[.agg #[.int .i64 d1.kind,.slice d1.sA d1.sn d1.sc,.slice d1.kA d1.kn d1.kc,.int .i64 d1.num,.int .i64 d1.least,.int .i64 d1.most,.int .i64 d1.way,.bool d1.fold],.agg #[.int .i64 d2.kind,.slice d2.sA d2.sn d2.sc,.slice d2.kA d2.kn d2.kc,.int .i64 d2.num,.int .i64 d2.least,.int .i64 d2.most,.int .i64 d2.way,.bool d2.fold]] w fun e w'=>e=.returned (.bool true)∧Below w.heap.size w w') (fun t ih d1 d2 w h1 h2=>?_) t
 obtain ⟨ds1,h1⟩:=h1.of
 obtain ⟨ds2,h2⟩:=h2.of
 rw [h1.kind,h1.num,h1.least,h1.most,h1.way,h1.fold,h2.kind,h2.num,h2.least,h2.most,h2.way,h2.fold]
 have hkn:d2.kn=d1.kn:=by
  have a1:=nodes_at h1.kids;have a2:=nodes_at h2.kids;have b1:=KidsAt.len h1.each;have b2:=KidsAt.len h2.each;omega
 have hm1:=h1.kc2
 have hl1:=h1.kc1
 have hsm1:=Nat.le_trans h1.sc1 h1.sc2
 have hsm2:=Nat.le_trans h2.sc1 h2.sc2
 have HL:=Lib.hid (show ds1.length=d1.kn∧ds2.length=d1.kn∧t.kids.length=d1.kn by
  have a1:=nodes_at h1.kids;have a2:=nodes_at h2.kids;have b1:=KidsAt.len h1.each;exact ⟨a1,by omega,by omega⟩)
 have H1:=Lib.hid h1
 have H2:=Lib.hid h2
 have HIH:=Lib.hid ih
 obtain ⟨tk,ts,tks,tn,tl,tm,tw,tf⟩:=t
 simp only [Tr.kind,Tr.num,Tr.least,Tr.most,Tr.way,Tr.fold]
 obtain ⟨k1,sA1,sn1,sc1,kA1,kn1,kc1,n1,l1,m1,w1,f1⟩:=d1
 obtain ⟨k2,sA2,sn2,sc2,kA2,kn2,kc2,n2,l2,m2,w2,f2⟩:=d2
 simp only at hkn hm1 hl1 hsm1 hsm2 HL ⊢
 subst hkn
 clear h1 h2 ih
 obtain ⟨W,hW⟩:∃ X,X=(w.alloc (.cells #[.int .i64 tk,.slice sA1 sn1 sc1,.slice kA1 kn2 kc1,.int .i64 tn,.int .i64 tl,.int .i64 tm,.int .i64 tw,.bool tf] 42)).alloc (.cells #[.int .i64 tk,.slice sA2 sn2 sc2,.slice kA2 kn2 kc2,.int .i64 tn,.int .i64 tl,.int .i64 tm,.int .i64 tw,.bool tf] 42):=⟨_,rfl⟩
 have hB:Below w.heap.size w W:=by rw [hW];exact ((Below.refl _ _).alloc (Nat.le_refl _) _).alloc (by simp) _
 have z0:W.heap[w.heap.size]?=some (.cells #[.int .i64 tk,.slice sA1 sn1 sc1,.slice kA1 kn2 kc1,.int .i64 tn,.int .i64 tl,.int .i64 tm,.int .i64 tw,.bool tf] 42 (0,0)):=by rw [hW];exact hz_alloc (heap_alloc_new w _)
 have z1:W.heap[w.heap.size+1]?=some (.cells #[.int .i64 tk,.slice sA2 sn2 sc2,.slice kA2 kn2 kc2,.int .i64 tn,.int .i64 tl,.int .i64 tm,.int .i64 tw,.bool tf] 42 (0,0)):=by
  rw [hW];have:=heap_alloc_new (w.alloc (.cells #[.int .i64 tk,.slice sA1 sn1 sc1,.slice kA1 kn2 kc1,.int .i64 tn,.int .i64 tl,.int .i64 tm,.int .i64 tw,.bool tf] 42)) (.cells #[.int .i64 tk,.slice sA2 sn2 sc2,.slice kA2 kn2 kc2,.int .i64 tn,.int .i64 tl,.int .i64 tm,.int .i64 tw,.bool tf] 42);simpa using this
 have HB:=Lib.hid hB
 have HZ0:=Lib.hid z0
 have HZ1:=Lib.hid z1
 have CS:=Lib.hid (sameSet_any ts ts sA1 sA2 sn1 sn2 sc1 sc2 W w.heap.size w.heap.size hsm1 hsm2 (H1.out.set.below hB (Nat.le_refl _)) (H2.out.set.below hB (Nat.le_refl _)))
 rw [sameS_self] at CS
 obtain ⟨a0,a1,a2,a3,a4,a5,a6,a7⟩:=cells8 z0
 obtain ⟨b0,b1,b2,b3,b4,b5,b6,b7⟩:=cells8 z1
 unfold maxLen at hm1
 clear hB z0 z1 hsm1 hsm2
 go_enter Tryz.func23,Tryz.ntmps23
 go_upto_region 1 with (fail)
 rw [← hW]
 clear hW
 go_upto_region 3 with (go_at_call 16;(with_reducible refine CS.out.mono ?_);rintro e w3 ⟨rfl,q,rfl⟩)
 go_wp2_with fail
 go_loopw [5] (fun i wr=>∃ k:Nat,k≤kn2∧i=.int .i64 k∧Hid (Below W.heap.size W wr)) (fun i _=>kn2 - (intOf i).toNat)
 case atStart=>exact ⟨0,Nat.zero_le _,rfl,Lib.hid (below_drewN (Below.refl _ _) q)⟩
 case round =>
  clear a0 a1 a2 a3 a4 a5 a6 a7 b0 b1 b2 b3 b4 b5 b6 b7 CS
  obtain ⟨k,hk,rfl,HR⟩:=hrel
  have hwr:=HB.out.size
  have y0:=row_next HZ0.out HR.out
  have y1:=row_next HZ1.out HR.out
  have HWR:=Lib.hid (HB.out.trans (HR.out.mono hwr))
  have x2:=cell_of_row _ _ 2 _ _ _ y0
  have x3:=cell_of_row _ _ 2 _ _ _ y1
  simp only [List.getElem?_toArray,List.getElem?_cons_zero,List.getElem?_cons_succ] at x2 x3
  clear y0 y1
  by_cases hlt:k < kn2
  ·obtain ⟨g1,o1,hl1,hA1,hb1,r0,r1,r2,r3,r4,r5,r6,r7⟩:=(H1.out.kids.below HWR.out (Nat.le_refl _)).node_at hlt
   obtain ⟨g2,o2,hl2,hA2,hb2,u0,u1,u2,u3,u4,u5,u6,u7⟩:=(H2.out.kids.below HWR.out (Nat.le_refl _)).node_at hlt
   simp only at hA1 hA2
   subst hA1 hA2
   have hkl:k < tks.length:=by have h9:=HL.out.2.2;simp only [Tr.kids] at h9;omega
   have HIC:=Lib.hid (fun (wq:World) (hb:Below wr.heap.size wr wq)=>HIH.out _ (List.getElem_mem hkl) ds1[k] ds2[k] wq (node_next (H1.out.each.at k hkl hl1) (HWR.out.trans (hb.mono HWR.out.size))) (node_next (H2.out.each.at k hkl hl2) (HWR.out.trans (hb.mono HWR.out.size))))
   obtain ⟨e1,he1⟩:∃ x,x=ds1[k]:=⟨_,rfl⟩
   obtain ⟨e2,he2⟩:∃ x,x=ds2[k]:=⟨_,rfl⟩
   rw [← he1] at r0 r1 r2 r3 r4 r5 r6 r7 HIC
   rw [← he2] at u0 u1 u2 u3 u4 u5 u6 u7 HIC
   clear he1 he2
   obtain ⟨k1,pA1,pn1,pc1,qA1,qn1,qc1,n1,l1,m1,w1,f1⟩:=e1
   obtain ⟨k2,pA2,pn2,pc2,qA2,qn2,qc2,n2,l2,m2,w2,f2⟩:=e2
   simp only at r0 r1 r2 r3 r4 r5 r6 r7 u0 u1 u2 u3 u4 u5 u6 u7 HIC
   have i1:(0:Int)≤(k:Int):=by omega
   have i2:(k:Int) < (kn2:Int):=by omega
   have W1:IntKind.i64.wrap ((k:Int)+1)=(k:Int)+1:=IntWalk.i64_in _ (by omega)
   have CQ:=fun (d:Nat) (os:Array Obj)=>Calls.regrown_of (HIC.out (Sort.grow (redrawn wr d) os) (below_regrown wr d os))
   have v2:=fun (d:Nat) (os:Array Obj)=>cell_regrown x2 d os
   have v3:=fun (d:Nat) (os:Array Obj)=>cell_regrown x3 d os
   have c0:=fun (d:Nat) (os:Array Obj)=>cell_regrown r0 d os
   have s0:=fun (d:Nat) (os:Array Obj)=>cell_regrown u0 d os
   have c1:=fun (d:Nat) (os:Array Obj)=>cell_regrown r1 d os
   have s1:=fun (d:Nat) (os:Array Obj)=>cell_regrown u1 d os
   have c2:=fun (d:Nat) (os:Array Obj)=>cell_regrown r2 d os
   have s2:=fun (d:Nat) (os:Array Obj)=>cell_regrown u2 d os
   have c3:=fun (d:Nat) (os:Array Obj)=>cell_regrown r3 d os
   have s3:=fun (d:Nat) (os:Array Obj)=>cell_regrown u3 d os
   have c4:=fun (d:Nat) (os:Array Obj)=>cell_regrown r4 d os
   have s4:=fun (d:Nat) (os:Array Obj)=>cell_regrown u4 d os
   have c5:=fun (d:Nat) (os:Array Obj)=>cell_regrown r5 d os
   have s5:=fun (d:Nat) (os:Array Obj)=>cell_regrown u5 d os
   have c6:=fun (d:Nat) (os:Array Obj)=>cell_regrown r6 d os
   have s6:=fun (d:Nat) (os:Array Obj)=>cell_regrown u6 d os
   have c7:=fun (d:Nat) (os:Array Obj)=>cell_regrown r7 d os
   have s7:=fun (d:Nat) (os:Array Obj)=>cell_regrown u7 d os
   go_upto_region 6 with (fail)
   refine wp_region_quiet_below (by kernel_rfl) (by kernel_rfl) ?_
   repeat (first|go_big_quiet_step (exact CQ _ _)|quiet_step (exact CQ _ _))
   refine wpQuiet_nil ?_
   intro _ hw'
   obtain ⟨⟨dq,osq⟩,hw''⟩:=hw'
   subst hw''
   have HBY:=Lib.hid (HR.out.trans ((below_regrown wr dq osq).mono HR.out.size))
   clear CQ v2 v3 c0 c1 c2 c3 c4 c5 c6 c7 s0 s1 s2 s3 s4 s5 s6 s7
   generalize Sort.grow (redrawn wr dq) osq=WQ at HBY ⊢
   go_wp2_with fail
   go_roundw
   case rel=>exact ⟨k+1,by omega,by first|rfl|go_num|(congr 1;omega),HBY⟩
   case measure=>simp [intOf];omega
  ·have hkk:k=kn2:=by omega
   have i2:¬ (k:Int) < (kn2:Int):=by omega
   clear hkk
   go_wp2_with fail
   go_ret
   exact ⟨rfl,HWR.out⟩
end Go.Proofs.YtbiahhojnjchnaaGreat
namespace Go.Proofs.YtbiahhojnjchnaaGreat
open Go.RowKit
set_option maxRecDepth 100000 in
set_option maxHeartbeats 8000000 in
theorem same25 (t:Tr) (gr:Int) (ns:List (ByteArray × Int)) (d1 d2:ND) (A1 A2:Option Addr) (n c1 c2:Nat) (w:World) (h1:NodeAt w w.heap.size t d1) (h2:NodeAt w w.heap.size t d2) (hn:n≤maxLen) (r1:Rds w w.heap.size 2 A1 n (nms ns)) (r2:Rds w w.heap.size 2 A2 n (nms ns)) :
  Calls Tryz.prog 25 #[patV d1 gr A1 n c1,patV d2 gr A2 n c2] w fun e w'=>e=.returned (.bool true)∧Below w.heap.size w w':=by
 unfold maxLen at hn
 obtain ⟨W,hW⟩:∃ X,X=(w.alloc (.cells #[.int .i64 d1.kind,.slice d1.sA d1.sn d1.sc,.slice d1.kA d1.kn d1.kc,.int .i64 d1.num,.int .i64 d1.least,.int .i64 d1.most,.int .i64 d1.way,.bool d1.fold,.int .i64 gr,.slice A1 n c1] 45)).alloc (.cells #[.int .i64 d2.kind,.slice d2.sA d2.sn d2.sc,.slice d2.kA d2.kn d2.kc,.int .i64 d2.num,.int .i64 d2.least,.int .i64 d2.most,.int .i64 d2.way,.bool d2.fold,.int .i64 gr,.slice A2 n c2] 45):=⟨_,rfl⟩
 have hB:Below w.heap.size w W:=by rw [hW];exact ((Below.refl _ _).alloc (Nat.le_refl _) _).alloc (by simp) _
 have z0:W.heap[w.heap.size]?=some (.cells #[.int .i64 d1.kind,.slice d1.sA d1.sn d1.sc,.slice d1.kA d1.kn d1.kc,.int .i64 d1.num,.int .i64 d1.least,.int .i64 d1.most,.int .i64 d1.way,.bool d1.fold,.int .i64 gr,.slice A1 n c1] 45 (0,0)):=by rw [hW];exact hz_alloc (heap_alloc_new w _)
 have z1:W.heap[w.heap.size+1]?=some (.cells #[.int .i64 d2.kind,.slice d2.sA d2.sn d2.sc,.slice d2.kA d2.kn d2.kc,.int .i64 d2.num,.int .i64 d2.least,.int .i64 d2.most,.int .i64 d2.way,.bool d2.fold,.int .i64 gr,.slice A2 n c2] 45 (0,0)):=by
  rw [hW];have:=heap_alloc_new (w.alloc (.cells #[.int .i64 d1.kind,.slice d1.sA d1.sn d1.sc,.slice d1.kA d1.kn d1.kc,.int .i64 d1.num,.int .i64 d1.least,.int .i64 d1.most,.int .i64 d1.way,.bool d1.fold,.int .i64 gr,.slice A1 n c1] 45)) (.cells #[.int .i64 d2.kind,.slice d2.sA d2.sn d2.sc,.slice d2.kA d2.kn d2.kc,.int .i64 d2.num,.int .i64 d2.least,.int .i64 d2.most,.int .i64 d2.way,.bool d2.fold,.int .i64 gr,.slice A2 n c2] 45);simpa using this
 have HB:=Lib.hid hB
 have HZ0:=Lib.hid z0
 have HZ1:=Lib.hid z1
 have HR1:=Lib.hid r1
 have HR2:=Lib.hid r2
 have C23:=Lib.hid (same23 t d1 d2 W (node_next h1 hB) (node_next h2 hB))
 unfold patV
 have a0:=cell_of_row _ _ 0 _ _ _ z0
 have b0:=cell_of_row _ _ 0 _ _ _ z1
 have a1:=cell_of_row _ _ 1 _ _ _ z0
 have b1:=cell_of_row _ _ 1 _ _ _ z1
 have a2:=cell_of_row _ _ 2 _ _ _ z0
 have b2:=cell_of_row _ _ 2 _ _ _ z1
 have a3:=cell_of_row _ _ 3 _ _ _ z0
 have b3:=cell_of_row _ _ 3 _ _ _ z1
 have a4:=cell_of_row _ _ 4 _ _ _ z0
 have b4:=cell_of_row _ _ 4 _ _ _ z1
 have a5:=cell_of_row _ _ 5 _ _ _ z0
 have b5:=cell_of_row _ _ 5 _ _ _ z1
 have a6:=cell_of_row _ _ 6 _ _ _ z0
 have b6:=cell_of_row _ _ 6 _ _ _ z1
 have a7:=cell_of_row _ _ 7 _ _ _ z0
 have b7:=cell_of_row _ _ 7 _ _ _ z1
 have a8:=cell_of_row _ _ 8 _ _ _ z0
 have b8:=cell_of_row _ _ 8 _ _ _ z1
 have a9:=cell_of_row _ _ 9 _ _ _ z0
 have b9:=cell_of_row _ _ 9 _ _ _ z1
 simp only [List.getElem?_toArray,List.getElem?_cons_zero,List.getElem?_cons_succ] at a0 a1 a2 a3 a4 a5 a6 a7 a8 a9 b0 b1 b2 b3 b4 b5 b6 b7 b8 b9
 clear hB z0 z1 r1 r2 h1 h2
 go_enter Tryz.func25,Tryz.ntmps25
 go_upto_region 1 with (fail)
 rw [← hW]
 clear hW
 go_upto_region 3 with (go_at_call 23;(with_reducible refine C23.out.mono ?_);rintro e w3 ⟨rfl,hb⟩;have HB3:=Lib.hid hb;have y9:=(hb.cell (p:=⟨w.heap.size,9,none⟩) (lt_heap HZ0.out)).trans a9;have x9:=(hb.cell (p:=⟨w.heap.size+1,9,none⟩) (lt_heap HZ1.out)).trans b9;have y8:=(hb.cell (p:=⟨w.heap.size,8,none⟩) (lt_heap HZ0.out)).trans a8;have x8:=(hb.cell (p:=⟨w.heap.size+1,8,none⟩) (lt_heap HZ1.out)).trans b8;clear hb)
 have HBF:=Lib.hid (HB.out.trans (HB3.out.mono HB.out.size))
 clear a0 a1 a2 a3 a4 a5 a6 a7 a8 a9 b0 b1 b2 b3 b4 b5 b6 b7 b8 b9 C23 y8 x8
 go_wp2_with fail
 go_loopw [5] (fun i wr=>∃ k:Nat,k≤n∧i=.int .i64 k∧∃ q,wr=w3.drewN q) (fun i _=>n - (intOf i).toNat)
 case atStart=>exact ⟨0,Nat.zero_le _,rfl,0,rfl⟩
 case round =>
  obtain ⟨k,hk,rfl,q,rfl⟩:=hrel
  by_cases hlt:k < n
  ·obtain ⟨g1,o1,hl1,hA1,hb1,p0,p1⟩:=(HR1.out.below HBF.out (Nat.le_refl _)).nm_at hlt
   obtain ⟨g2,o2,hl2,hA2,hb2,q0,q1⟩:=(HR2.out.below HBF.out (Nat.le_refl _)).nm_at hlt
   obtain ⟨p,hp⟩:∃ p,p=ns[k]:=⟨_,rfl⟩
   rw [← hp] at p0 p1 q0 q1
   clear hp
   subst hA1 hA2
   have i1:(0:Int)≤(k:Int):=by omega
   have i2:(k:Int) < (n:Int):=by omega
   have W1:IntKind.i64.wrap ((k:Int)+1)=(k:Int)+1:=IntWalk.i64_in _ (by omega)
   have e1:(p.1.toList == p.1.toList)=true:=by simp
   go_wp2_with fail
   go_quiet (fail)
   go_wp2
   go_roundw
   case rel=>exact ⟨k+1,by omega,by first|rfl|go_num|(congr 1;omega),_,rfl⟩
   case measure=>simp [intOf];omega
  ·have hkk:k=n:=by omega
   have i2:¬ (k:Int) < (n:Int):=by omega
   clear hkk
   go_wp2_with fail
   go_ret
   exact ⟨rfl,below_drewN HBF.out _⟩
end Go.Proofs.YtbiahhojnjchnaaGreat
