/-
  What stands open: walked, over the pattern within.
-/
import Derived.Test.YtbiahhojnjchnaaGreatIA
import Derived.Deep.RegionLaw
set_option linter.unusedVariables false
set_option linter.unusedSimpArgs false
namespace Go.Proofs.YtbiahhojnjchnaaGreat
open Go.RowKit
theorem Op.fin {b n c:Nat} {d:Int} {A:Option Addr} {l:List Int} {s:PS} {U1 U2 V1 V2:Value} {w X:World} {t:Tk} {o:Array Value} (h:Op b n c d A l s U1 U2 V1 V2 w t o X) (cs:Array Value):PsAt b n c d A l s U1 U2 (X.setRow (w.heap.size+1) cs)∧Mvd (pm b V1 V2) (pm b U1 U2) w (X.setRow (w.heap.size+1) cs):=by
 have hno:=pm_no (h.no (w.heap.size+1) (by omega) (by omega))
 have hbw:=h.hb
 refine ⟨h.ps.mvd (F:=fun i=>i == w.heap.size+1) (F':=fun i=>i == w.heap.size+1) (mvd_store cs (by simp) fun _ _ h=>h) fun i _ hi=>?_,h.mv.over (F:=fun i=>i == w.heap.size+1) (F':=fun i=>i == w.heap.size+1) (mvd_store cs (by simp) fun _ _ h=>h) fun i hi=>by simp;omega⟩
 have hi:i=w.heap.size+1:=by simpa using hi
 subst hi
 exact ⟨hno.1,by omega,hno.2.1,hno.2.2⟩
theorem open_node {b n c:Nat} {d:Int} {A:Option Addr} {l:List Int} {s:PS} {Q1 Q2 V1 V2 v:Value} {w X:World} {t:Tk} {o:Array Value} {tr:Tr} {dd:ND} (h:Op b n c d A l s Q1 Q2 V1 V2 w t o X) (hnd:Nd (fun k=>pm b Q1 Q2 k || decide (k < w.heap.size+3)) X tr dd) (k nb:Int) (cs:Array Value) :
  Nd (fun k=>pm b Q1 Q2 k || decide (k < w.heap.size)) (((X.setCell ⟨w.heap.size+2,2,none⟩ v).alloc (.cells #[.int .i64 dd.kind,.slice dd.sA dd.sn dd.sc,.slice dd.kA dd.kn dd.kc,.int .i64 dd.num,.int .i64 dd.least,.int .i64 dd.most,.int .i64 dd.way,.bool dd.fold] 42)).setRow (w.heap.size+1) cs) (.mk k [] [tr] nb 0 0 0 false) ⟨k,none,0,0,some ⟨X.heap.size,0,none⟩,1,1,nb,0,0,0,false⟩:=by
 have hsz:=h.size
 have hk2:Kept (w.heap.size+2) X (X.setCell ⟨w.heap.size+2,2,none⟩ v):=(Kept.refl _ _).set 2 v
 have hs:(X.setCell ⟨w.heap.size+2,2,none⟩ v).heap.size=X.heap.size:=by simp [World.setCell]
 obtain ⟨Y,hY⟩:∃ Y,Y=X.setCell ⟨w.heap.size+2,2,none⟩ v:=⟨_,rfl⟩
 rw [← hY] at hk2 hs ⊢
 clear hY
 have hbY:Below Y.heap.size Y (Y.alloc (.cells #[.int .i64 dd.kind,.slice dd.sA dd.sn dd.sc,.slice dd.kA dd.kn dd.kc,.int .i64 dd.num,.int .i64 dd.least,.int .i64 dd.most,.int .i64 dd.way,.bool dd.fold] 42)):=(Below.refl _ _).alloc (Nat.le_refl _) _
 have hsub:∀ k,(fun k=>pm b Q1 Q2 k || decide (k < w.heap.size)) k=true→(fun k=>pm b Q1 Q2 k || decide (k < w.heap.size+3)) k=true:=by
  intro k hk
  simp only [Bool.or_eq_true,decide_eq_true_eq] at hk ⊢
  rcases hk with hk|hk
  ·exact .inl hk
  ·exact .inr (by omega)
 have hx:Nd (fun k=>pm b Q1 Q2 k || decide (k < w.heap.size)) _ tr dd:=((hnd.mv (Mvd.kept hk2 (by simp))).mv (Mvd.below hbY)).mv (mvd_store (M:=fun k=>pm b Q1 Q2 k || decide (k < w.heap.size+3)) (r:=w.heap.size+1) cs (by simp) fun k _ hk=>hsub k hk)
 refine nd_of [dd] ⟨rfl,rfl,rfl,rfl,rfl,rfl,nil_rds _ _ _,Nat.le_refl _,Nat.zero_le _,?_,Nat.le_refl _,(show 1≤maxLen by unfold maxLen;omega),Kds.one hx⟩
 have hrow:((Y.alloc (.cells #[.int .i64 dd.kind,.slice dd.sA dd.sn dd.sc,.slice dd.kA dd.kn dd.kc,.int .i64 dd.num,.int .i64 dd.least,.int .i64 dd.most,.int .i64 dd.way,.bool dd.fold] 42)).setRow (w.heap.size+1) cs).heap[X.heap.size]?=some (.cells #[.int .i64 dd.kind,.slice dd.sA dd.sn dd.sc,.slice dd.kA dd.kn dd.kc,.int .i64 dd.num,.int .i64 dd.least,.int .i64 dd.most,.int .i64 dd.way,.bool dd.fold] 42 (0,0)):=by
  rw [← hs]
  exact (setRow_ne _ _ _ _ (by omega)).trans (heap_alloc_new Y _)
 refine ⟨rfl,fun _=>⟨X.heap.size,0,rfl,lt_heap hrow,fun j u hu=>mask_of ?_ ?_⟩⟩
 ·have:=pm_none (V1:=Q1) (V2:=Q2) (fun k hk=>pm_lt h.ps hk) (Nat.le_refl X.heap.size)
  simp [this];omega
 ·rw [Nat.zero_add,cell_of_row _ _ j _ _ _ hrow]
  have hl:(nds [dd])[j]?=(#[.int .i64 dd.kind,.slice dd.sA dd.sn dd.sc,.slice dd.kA dd.kn dd.kc,.int .i64 dd.num,.int .i64 dd.least,.int .i64 dd.most,.int .i64 dd.way,.bool dd.fold]:Array Value)[j]?:=by
   rw [← Array.getElem?_toList];rfl
  rw [← hl];exact hu
/-- what is asked of the pattern within -/
structure PatC (b n c:Nat) (d:Int) (A:Option Addr) (l:List Int) (G:PS→Prop) (pat:PS→FR (Tr × PS)):Prop where
 calls:∀ s U1 U2 W,G s→PsAt b n c d A l s U1 U2 W→Calls Tryz.prog 44 #[.pointer (some ⟨b,0,none⟩)] W (POut b n c d A l (pm b U1 U2) W (pat s))
 deep:∀ s p,G s→pat s=.ok p→p.2.deep=s.deep
set_option maxRecDepth 100000 in
set_option maxHeartbeats 32000000 in
theorem open132 {b n c:Nat} {d:Int} {A:Option Addr} {l:List Int} {G:PS→Prop} {pat:PS→FR (Tr × PS)} {s:PS} {V1 V2:Value} {w:World} {t:Tk} {frm:Int} (HT:Hid (TokC d l)) (HP:Hid (PatC b n c d A l G pat)) (h:PsAt b n c d A l s V1 V2 w)
  (HGP:Hid (G { openIn s t with fold:=foldIn s t,deep:=s.deep+1 })) (hnl:s.names.length≤500) :
  Calls Tryz.prog 132 #[.pointer (some ⟨b,0,none⟩),.agg #[.int .i64 t.kind,.int .i64 t.num,.string ⟨t.text.toArray⟩,.bool t.not_,.int .i64 t.least,.int .i64 t.most,.int .i64 t.way,.int .i64 t.fold],.int .i64 frm] w (POut b n c d A l (pm b V1 V2) w (openS pat d l s t frm)):=by
 have hmf:∀ (fn:Fn) (first cap:Array Value) (w:World),(Instr.makeFunc fn first cap).run Tryz.prog w=.ok (.func fn first cap) w:=fun _ _ _ _=>rfl
 have hdp:=h.dp
 have hgr:=h.gr
 have hlt:=h.lt
 have hlen:=h.len
 have HPM:=Lib.hid (fun k hk=>pm_lt (k:=k) h hk)
 obtain ⟨R,hR⟩:∃ R,R=openS pat d l s t frm:=⟨_,rfl⟩
 rw [← hR]
 unfold openS at hR
 have HEa:=Lib.hid hR
 obtain ⟨W1,hW1⟩:∃ X,X=(w.alloc (.cells #[.int .i64 t.kind,.int .i64 t.num,.string ⟨t.text.toArray⟩,.bool t.not_,.int .i64 t.least,.int .i64 t.most,.int .i64 t.way,.int .i64 t.fold] 108)).alloc (.cells #[.int .i64 0,.slice none 0 0,.slice none 0 0,.int .i64 0,.int .i64 0,.int .i64 0,.int .i64 0,.bool false] 42):=⟨_,rfl⟩
 have hB1:Below w.heap.size w W1:=by rw [hW1];exact ((Below.refl _ _).alloc (Nat.le_refl _) _).alloc (by simp) _
 have hs1:W1.heap.size=w.heap.size+2:=by rw [hW1];simp
 have hr0:W1.heap[w.heap.size]?=some (tokO t):=by rw [hW1];exact hz_alloc (heap_alloc_new w _)
 have hr1:W1.heap[w.heap.size+1]?=some Z42:=by rw [hW1];have:=z42_new (w:=w.alloc (.cells #[.int .i64 t.kind,.int .i64 t.num,.string ⟨t.text.toArray⟩,.bool t.not_,.int .i64 t.least,.int .i64 t.most,.int .i64 t.way,.int .i64 t.fold] 108));simpa using this
 have hp1:=h.next hB1
 have HP1:=Lib.hid hp1
 have HB1:=Lib.hid hB1
 obtain ⟨p0,p1,p2,p3,p4,p5,p6,p7,pf⟩:=hp1.cells
 obtain ⟨t0,t1,t2,t3,t4,t5,t6,t7⟩:=cells8 hr0
 have HR0:=Lib.hid hr0
 have HR1:=Lib.hid hr1
 have HS1:=Lib.hid hs1
 have HPS:=Lib.hid h
 clear hR h hB1 hr0 hr1 hp1 hs1
 go_enter Tryz.func132,Tryz.ntmps132
 go_upto_region 1 with (fail)
 rw [← hW1]
 clear hW1
 by_cases hd20:s.deep=20
 ·have e1:(s.deep == 20)=true:=by simpa using hd20
  have HER:=Lib.hid (HEa.out.trans (if_pos hd20))
  clear hd20
  go_wp2_with (go_at_call 45;(with_reducible refine (fail45 _ _ _).mono ?_);rintro e w6 ⟨rfl,rfl⟩)
  rw [HER.out]
  exact ⟨rfl,rfl,HP1.out.bad (Mvd.of_below (M:=pm b V1 V2) (M':=pm b V1 V2) HB1.out fun _ _ h=>h)⟩
 have e1:(s.deep == 20)=false:=by simpa using hd20
 have HEb:=Lib.hid (HEa.out.trans (if_neg hd20))
 clear HEa
 go_upto_region 4 with (fail)
 obtain ⟨W2,hW2⟩:∃ X,X=W1.alloc (.cells #[.int .i64 t.num,.slice none 0 0,.slice none 0 0,.int .i64 0,.int .i64 0,.int .i64 0,.int .i64 0,.bool false] 42):=⟨_,rfl⟩
 have hB2:Below W1.heap.size W1 W2:=by rw [hW2];exact (Below.refl _ _).alloc (Nat.le_refl _) _
 have HO:=Lib.hid (show Op b n c d A l s V1 V2 V1 V2 w t #[.int .i64 t.num,.slice none 0 0,.slice none 0 0,.int .i64 0,.int .i64 0,.int .i64 0,.int .i64 0,.bool false] W2 from
  ⟨HP1.out.next hB2,(Mvd.of_below (M:=pm b V1 V2) (M':=pm b V1 V2) HB1.out fun _ _ h=>h).trans (Mvd.below hB2),fun k h1 _=>pm_none HPM.out h1,row_next HR0.out hB2,row_next HR1.out hB2,by rw [hW2,← HS1.out];exact heap_alloc_new W1 _,hlt⟩)
 rw [← hW2,HS1.out]
 clear hW2 hB2 p0 p1 p2 p3 p4 p5 p6 p7 pf t0 t1 t2 t3 t4 t5 t6 t7 HP1 HB1 HR0 HR1 HS1 HPS e1
 obtain ⟨p0,p1,p2,p3,p4,p5,p6,p7,pf⟩:=HO.out.cells
 obtain ⟨t0,t1,t2,t3,t4,t5,t6,t7⟩:=cells8 HO.out.r0
 obtain ⟨nb,hnb⟩:∃ nb:Int,nb=groupNo s t:=⟨_,rfl⟩
 obtain ⟨s1,hs1⟩:∃ s1,s1=openIn s t:=⟨_,rfl⟩
 rw [← hs1,← hnb] at HEb
 rw [← hs1] at HGP
 have HS1:=Lib.hid hs1
 have HNB:=Lib.hid hnb
 have HSF:=Lib.hid (show s1.fold=s.fold by rw [hs1];rfl)
 have HSD1:=Lib.hid (show s1.deep=s.deep by rw [hs1];rfl)
 obtain ⟨RR,hRR⟩:∃ RR:FR (Tr × PS),RR=(match pat { s1 with fold:=foldIn s t,deep:=s.deep+1 } with
  | .error q=>.error q
  | .ok p=>match nextS d l { p.2 with deep:=p.2.deep - 1,fold:=s.fold } with
   | .error q=>.error q
   | .ok none=>.error (1,p.2.at_)
   | .ok (some (t2,nx))=>if t2.kind≠8 then .error (1,p.2.at_)
    else if t.num=1 then .ok (p.1,{ p.2 with deep:=p.2.deep - 1,fold:=s.fold,at_:=nx })
    else .ok (.mk t.num [] [p.1] nb 0 0 0 false,{ p.2 with deep:=p.2.deep - 1,fold:=s.fold,at_:=nx })):=⟨_,rfl⟩
 have HEE:=Lib.hid (show R=if t.num=11∧s.groups=20 then .error (2,frm) else if t.num=11∧t.text≠[]∧0≤idxN t.text s.names 0 then .error (6,frm) else RR by rw [hRR];exact HEb.out)
 have HRR:=Lib.hid hRR
 clear hRR HEb hs1 hnb
 go_upto_if 25 with (fail)
 go_cut [25] from 25 to 72 (fun z wc=>z=.bool (t.num == 11)∧Hid (R=RR)∧∃ U1,Hid (Op b n c d A l s1 U1 V2 V1 V2 w t #[.int .i64 t.num,.slice none 0 0,.slice none 0 0,.int .i64 nb,.int .i64 0,.int .i64 0,.int .i64 0,.bool false] wc))
 ·by_cases h11:t.num=11
  ·have e1:(t.num == 11)=true:=by simpa using h11
   have H11:=Lib.hid h11
   clear h11
   by_cases hg20:s.groups=20
   ·have e2:(s.groups == 20)=true:=by simpa using hg20
    have HER:=Lib.hid (HEE.out.trans (if_pos ⟨H11.out,hg20⟩))
    clear hg20
    go_wp2_with (go_at_call 45;(with_reducible refine (fail45 _ _ _).mono ?_);rintro e w6 ⟨rfl,rfl⟩)
    rw [HER.out]
    exact ⟨rfl,rfl,HO.out.bad⟩
   ·have e2:(s.groups == 20)=false:=by simpa using hg20
    have HEg:=Lib.hid (HEE.out.trans (if_neg (fun x=>hg20 x.2)))
    have hg19:s.groups+1≤20:=by omega
    have WG:IntKind.i64.wrap (s.groups+1)=s.groups+1:=IntWalk.i64_in _ (by omega)
    clear hg20
    go_upto_region 8 with (fail)
    have HO:=Lib.hid (show Op b n c d A l { s with groups:=s.groups+1 } V1 V2 V1 V2 w t #[.int .i64 t.num,.slice none 0 0,.slice none 0 0,.int .i64 0,.int .i64 0,.int .i64 0,.int .i64 0,.bool false] (W2.setCell ⟨b,5,none⟩ (.int .i64 (s.groups+1))) from HO.out.set (j:=5) rfl rfl rfl ⟨HO.out.ps.lo,HO.out.ps.hi⟩ HO.out.ps.dp ⟨by simp only;omega,by simp only;omega⟩)
    obtain ⟨X1,hX⟩:∃ X,X=W2.setCell ⟨b,5,none⟩ (.int .i64 (s.groups+1)):=⟨_,rfl⟩
    rw [← hX] at HO ⊢
    clear hX
    clear p0 p1 p2 p3 p4 p5 p6 p7 pf t0 t1 t2 t3 t4 t5 t6 t7 WG e2
    obtain ⟨p0,p1,p2,p3,p4,p5,p6,p7,pf⟩:=HO.out.cells
    (try simp only at p5)
    obtain ⟨t0,t1,t2,t3,t4,t5,t6,t7⟩:=cells8 HO.out.r0
    obtain ⟨y0,y1,y2,y3,y4,y5,y6,y7⟩:=cells8 HO.out.r2
    have hf2:X1.frozen? ⟨w.heap.size+2,3,none⟩=false:=frozen_row HO.out.r2
    go_upto_region 9 with (fail)
    have HO:=Lib.hid (show Op b n c d A l { s with groups:=s.groups+1 } V1 V2 V1 V2 w t #[.int .i64 t.num,.slice none 0 0,.slice none 0 0,.int .i64 (s.groups+1),.int .i64 0,.int .i64 0,.int .i64 0,.bool false] (X1.setCell ⟨w.heap.size+2,3,none⟩ (.int .i64 (s.groups+1))) from HO.out.out 3 _)
    obtain ⟨X2,hX⟩:∃ X,X=X1.setCell ⟨w.heap.size+2,3,none⟩ (.int .i64 (s.groups+1)):=⟨_,rfl⟩
    rw [← hX] at HO ⊢
    clear hX
    clear p0 p1 p2 p3 p4 p5 p6 p7 pf t0 t1 t2 t3 t4 t5 t6 t7 y0 y1 y2 y3 y4 y5 y6 y7 hf2
    obtain ⟨p0,p1,p2,p3,p4,p5,p6,p7,pf⟩:=HO.out.cells
    obtain ⟨t0,t1,t2,t3,t4,t5,t6,t7⟩:=cells8 HO.out.r0
    have HNQ:=Lib.hid (show nb=s.groups+1 by rw [HNB.out];unfold groupNo;rw [if_pos H11.out])
    by_cases htx:t.text=[]
    ·have he:t.text.isEmpty=true:=by rw [htx];rfl
     have HQ:=Lib.hid (show s1=({ s with groups:=s.groups+1 }:PS) by rw [HS1.out];unfold openIn;rw [if_pos H11.out,if_neg (fun x=>x.2 htx)])
     have HEx:=Lib.hid (HEg.out.trans (if_neg (fun x=>x.2.1 htx)))
     clear htx
     go_wp2_with fail
     go_meet
     exact ⟨congrArg Value.bool e1.symm,HEx,V1,Lib.hid (by rw [HQ.out,HNQ.out];exact HO.out)⟩
    ·have he:t.text.isEmpty=false:=by
      cases h:t.text with
      | nil=>exact absurd h htx
      | cons _ _=>rfl
     obtain ⟨A1,c1,hv1,hc1,hm1⟩:=own_slice HO.out.ps.names
     subst hv1
     have CC:=Lib.hid (contains169 (c:=c1) s.names A1 s.names.length X2 (by omega) (Rds.of_own HO.out.ps.names) HO.out.r0)
     by_cases hi:0≤idxN t.text s.names 0
     ·have HER:=Lib.hid (HEg.out.trans (if_pos ⟨H11.out,htx,hi⟩))
      rw [decide_eq_true hi] at CC
      clear hi htx
      go_wp2_with (first
       | (go_at_call 169;(with_reducible refine CC.out.mono ?_);rintro e w5 ⟨rfl,hb⟩;have HO5:=Lib.hid (HO.out.next hb);clear hb)
       | (go_at_call 45;(with_reducible refine (fail45 _ _ _).mono ?_);rintro e w6 ⟨rfl,rfl⟩))
      rw [HER.out]
      exact ⟨rfl,rfl,HO5.out.bad⟩
     ·have HEx:=Lib.hid (HEg.out.trans (if_neg (fun x=>hi x.2.2)))
      rw [decide_eq_false hi] at CC
      clear hi
      go_upto_region 12 with (go_at_call 169;(with_reducible refine CC.out.mono ?_);rintro e w5 ⟨rfl,hb⟩;have HO5:=Lib.hid (HO.out.next hb);clear hb)
      obtain ⟨q0,q1,q2,q3,q4,q5,q6,q7,qf⟩:=HO5.out.cells
      (try simp only at q5)
      obtain ⟨x0,x1,x2,x3,x4,x5,x6,x7⟩:=cells8 HO5.out.r0
      clear p0 p1 p2 p3 p4 p5 p6 p7 pf t0 t1 t2 t3 t4 t5 t6 t7
      have hbY:Below w5.heap.size w5 ((w5.alloc (.cells #[.string ⟨t.text.toArray⟩,.int .i64 (s.groups+1)] 55)).drew):=((Below.refl _ _).alloc (Nat.le_refl _) _).drew
      have HOY:=Lib.hid (HO5.out.next hbY)
      obtain ⟨y0,y1,y2,y3,y4,y5,y6,y7,yf⟩:=HOY.out.cells
      (try simp only at y5)
      have HRN:=Lib.hid (show Rds ((w5.alloc (.cells #[.string ⟨t.text.toArray⟩,.int .i64 (s.groups+1)] 55)).drew) (w5.heap.size+1) 2 (some ⟨w5.heap.size,0,none⟩) 1 (nameVs [(t.text,s.groups+1)]) from Rds.new w5 2 1 #[.string ⟨t.text.toArray⟩,.int .i64 (s.groups+1)] 55 (nameVs [(t.text,s.groups+1)]) rfl rfl)
      have hbn:(some b:Option Nat)≠(Value.slice A1 s.names.length c1).ownBlock:=fun e=>by have:=(World.ownsRow.lt HOY.out.ps.names b e.symm).1;omega
      have HBY:=Lib.hid hbY
      have hsb:=HOY.out.ps.lt
      have hx0:=lt_heap HO5.out.r0
      have v2:∀ o,(w5.alloc o).drew.cell? ⟨w.heap.size,0+2,none⟩=some (.string ⟨t.text.toArray⟩):=fun o=>(World.cell?_alloc_lt w5 o ⟨w.heap.size,0+2,none⟩ hx0).trans x2
      clear hbY
      go_region_law (first
       | (refine step_app_names (.tmp 60) (.tmp 68) HOY.out.ps.names HRN.out (by simp only;omega) (by have:=hsb;omega) rfl rfl rfl rfl ?_;intro v3 w6 hown3 hg3 hat3;obtain ⟨A3,c3,hv3,q3_,q4_⟩:=own_slice hown3;subst hv3;have HOW:=Lib.hid hown3;have HGW:=Lib.hid hg3;have HATW:=Lib.hid hat3;have z6:=hg3.cell y6 hbn;have zf:w6.frozen? ⟨b,6,none⟩=false:=(World.frozen?_of_block (a:=⟨b,6,none⟩) (hg3.block b hsb hbn)).trans (yf 6);clear hown3 hg3 hat3 q3_ q4_))
      all_goals
       have HON:=Lib.hid (HO5.out.name (v:=.slice A3 (s.names.length+1) c3) t.text (s.groups+1) HBY.out HOW.out HGW.out HATW.out)
       have HQ:=Lib.hid (show s1=({ s with groups:=s.groups+1,names:=s.names ++ [(t.text,s.groups+1)] }:PS) by rw [HS1.out];unfold openIn;rw [if_pos H11.out,if_pos ⟨H11.out,htx⟩])
       go_wp2_with fail
       go_meet
       exact ⟨congrArg Value.bool e1.symm,HEx,_,Lib.hid (by rw [HQ.out,HNQ.out];exact HON.out)⟩
  ·have e1:(t.num == 11)=false:=by simpa using h11
   have HQ:=Lib.hid (show s1=s∧nb=0 from ⟨by rw [HS1.out];unfold openIn;rw [if_neg h11,if_neg (fun x=>h11 x.1)],by rw [HNB.out];unfold groupNo;rw [if_neg h11]⟩)
   have HEx:=Lib.hid (HEE.out.trans ((if_neg (fun x=>h11 x.1)).trans (if_neg (fun x=>h11 x.1))))
   clear h11
   go_wp2_with fail
   go_meet
   exact ⟨congrArg Value.bool e1.symm,HEx,V1,Lib.hid (by rw [HQ.out.1,HQ.out.2];exact HO.out)⟩
 obtain ⟨rfl,HE0,U1,HO⟩:=hcut
 have HE:=Lib.hid (HE0.out.trans HRR.out)
 clear p0 p1 p2 p3 p4 p5 p6 p7 pf t0 t1 t2 t3 t4 t5 t6 t7 HEE HRR HE0
 go_upto_region 13 with (fail)
 obtain ⟨p0,p1,p2,p3,p4,p5,p6,p7,pf⟩:=HO.out.cells
 rw [HSF.out] at p3
 rw [HSD1.out] at p4
 obtain ⟨t0,t1,t2,t3,t4,t5,t6,t7⟩:=cells8 HO.out.r0
 go_upto_if 78 with (fail)
 obtain ⟨ff,hff⟩:∃ ff,ff=foldIn s t:=⟨_,rfl⟩
 rw [← hff] at HE HGP
 have HFF:=Lib.hid (show ff=if t.fold≠0 then decide (0 < t.fold) else s.fold from hff)
 clear hff
 go_cut [78] from 78 to 85 (fun z wc=>z=.bool (t.fold != 0)∧Hid (Op b n c d A l { (s1:PS) with fold:=ff } U1 V2 V1 V2 w t (#[.int .i64 t.num,.slice none 0 0,.slice none 0 0,.int .i64 nb,.int .i64 0,.int .i64 0,.int .i64 0,.bool false]) wc))
 ·by_cases hf0:t.fold=0
  ·have e1:(t.fold != 0)=false:=by simpa using hf0
   have HQ:=Lib.hid (show s.fold=ff by rw [HFF.out,if_neg (fun x=>x hf0)])
   clear hf0
   go_wp2_with fail
   go_meet
   exact ⟨congrArg Value.bool e1.symm,Lib.hid (by rw [← HQ.out,← HSF.out];exact HO.out)⟩
  ·have e1:(t.fold != 0)=true:=by simpa using hf0
   have HQ:=Lib.hid (show decide (0 < t.fold)=ff by rw [HFF.out,if_pos hf0])
   clear hf0
   go_wp2_with fail
   go_meet
   exact ⟨congrArg Value.bool e1.symm,Lib.hid (by rw [← HQ.out];exact HO.out.set (j:=3) rfl rfl rfl ⟨HO.out.ps.lo,HO.out.ps.hi⟩ HO.out.ps.dp HO.out.ps.gr)⟩
 obtain ⟨rfl,HO⟩:=hcut
 clear p0 p1 p2 p3 p4 p5 p6 p7 pf t0 t1 t2 t3 t4 t5 t6 t7
 obtain ⟨XA,hXA⟩:∃ X,X=wc:=⟨_,rfl⟩
 subst hXA
 obtain ⟨p0,p1,p2,p3,p4,p5,p6,p7,pf⟩:=HO.out.cells
 (try simp only at p4)
 rw [HSD1.out] at p4
 have WD:IntKind.i64.wrap (s.deep+1)=s.deep+1:=IntWalk.i64_in _ (by omega)
 go_upto_region 17 with (fail)
 have HO:=Lib.hid (show Op b n c d A l { (s1:PS) with fold:=ff,deep:=s.deep+1 } U1 V2 V1 V2 w t (#[.int .i64 t.num,.slice none 0 0,.slice none 0 0,.int .i64 nb,.int .i64 0,.int .i64 0,.int .i64 0,.bool false]) (XA.setCell ⟨b,4,none⟩ (.int .i64 (s.deep+1))) from HO.out.set (j:=4) rfl rfl rfl ⟨HO.out.ps.lo,HO.out.ps.hi⟩ ⟨by simp only;omega,by simp only;omega⟩ HO.out.ps.gr)
 obtain ⟨X3,hX⟩:∃ X,X=XA.setCell ⟨b,4,none⟩ (.int .i64 (s.deep+1)):=⟨_,rfl⟩
 rw [← hX] at HO ⊢
 clear hX
 clear p0 p1 p2 p3 p4 p5 p6 p7 pf WD
 have CP:=Lib.hid (HP.out.calls _ _ _ _ HGP.out HO.out.ps)
 have HDP:=Lib.hid (fun p=>HP.out.deep _ p HGP.out)
 obtain ⟨s2,hs2⟩:∃ s2,s2=({ (s1:PS) with fold:=ff,deep:=s.deep+1 }:PS):=⟨_,rfl⟩
 rw [← hs2] at CP HDP HE HO
 have HSD:=Lib.hid (show s2.deep=s.deep+1 by rw [hs2])
 clear hs2
 cases hb:pat s2 with
 | error q =>
  have HER:=Lib.hid (show R=.error q by rw [HE.out,hb])
  rw [hb] at CP
  clear hb
  go_wp2_with (go_at_call 44;(with_reducible refine CP.out.mono ?_);rintro e w4 ⟨he,hbad⟩;obtain rfl:=(show e=.panicked (faultV q.1 q.2) from he);have HBAD:=Lib.hid hbad;clear he hbad)
  rw [HER.out]
  exact ⟨rfl,rfl,PBad.of HO.out.mv HBAD.out⟩
 | ok p =>
  obtain ⟨tr,s3⟩:=p
  have hd3:1≤s3.deep:=by have h1:=(HDP.out _ hb).trans HSD.out;(try simp only at h1);omega
  have HF:=Lib.hid (show R=(match nextS d l { s3 with deep:=s3.deep - 1,fold:=s.fold } with
   | .error q=>.error q
   | .ok none=>.error (1,s3.at_)
   | .ok (some (t2,nx))=>if t2.kind≠8 then .error (1,s3.at_)
    else if t.num=1 then .ok (tr,{ s3 with deep:=s3.deep - 1,fold:=s.fold,at_:=nx })
    else .ok (.mk t.num [] [tr] nb 0 0 0 false,{ s3 with deep:=s3.deep - 1,fold:=s.fold,at_:=nx })) by rw [HE.out,hb]<;>rfl)
  rw [hb] at CP
  clear hb HDP HSD HE
  go_upto_region 18 with (go_at_call 44;(with_reducible refine CP.out.mono ?_);rintro e w4 ⟨dd,Q1,Q2,he,hnd,hps,hmv⟩;obtain rfl:=(show e=.returned (.agg #[.int .i64 dd.kind,.slice dd.sA dd.sn dd.sc,.slice dd.kA dd.kn dd.kc,.int .i64 dd.num,.int .i64 dd.least,.int .i64 dd.most,.int .i64 dd.way,.bool dd.fold]) from he);have HND:=Lib.hid hnd;have HOC:=Lib.hid (HO.out.call hps hmv);clear he hnd hps hmv)
  have hbY:Below w4.heap.size w4 (w4.alloc (.cells #[.int .i64 dd.kind,.slice dd.sA dd.sn dd.sc,.slice dd.kA dd.kn dd.kc,.int .i64 dd.num,.int .i64 dd.least,.int .i64 dd.most,.int .i64 dd.way,.bool dd.fold] 42)):=(Below.refl _ _).alloc (Nat.le_refl _) _
  have HIN:=Lib.hid (show (w4.alloc (.cells #[.int .i64 dd.kind,.slice dd.sA dd.sn dd.sc,.slice dd.kA dd.kn dd.kc,.int .i64 dd.num,.int .i64 dd.least,.int .i64 dd.most,.int .i64 dd.way,.bool dd.fold] 42)).heap[w4.heap.size]?=some (.cells #[.int .i64 dd.kind,.slice dd.sA dd.sn dd.sc,.slice dd.kA dd.kn dd.kc,.int .i64 dd.num,.int .i64 dd.least,.int .i64 dd.most,.int .i64 dd.way,.bool dd.fold] 42 (0,0)) from heap_alloc_new w4 _)
  have hx3:=HO.out.size
  have HND:=Lib.hid (show Nd (fun k=>pm b Q1 Q2 k || decide (k < w.heap.size+3)) (w4.alloc (.cells #[.int .i64 dd.kind,.slice dd.sA dd.sn dd.sc,.slice dd.kA dd.kn dd.kc,.int .i64 dd.num,.int .i64 dd.least,.int .i64 dd.most,.int .i64 dd.way,.bool dd.fold] 42)) tr dd from HND.out.mv (Mvd.of_below hbY fun k _ hk=>by
   simp only [Bool.or_eq_true,decide_eq_true_eq] at hk ⊢
   rcases hk with hk|hk
   ·exact .inl hk
   ·exact .inr (by omega)))
  have hb4:b < w4.heap.size:=HOC.out.ps.lt
  have h4s:=HOC.out.size
  have HO:=Lib.hid (HOC.out.next hbY)
  clear HOC hbY CP hx3
  obtain ⟨X4,hX⟩:∃ X,X=w4.alloc (.cells #[.int .i64 dd.kind,.slice dd.sA dd.sn dd.sc,.slice dd.kA dd.kn dd.kc,.int .i64 dd.num,.int .i64 dd.least,.int .i64 dd.most,.int .i64 dd.way,.bool dd.fold] 42):=⟨_,rfl⟩
  rw [← hX] at HIN HND HO ⊢
  clear hX
  obtain ⟨p0,p1,p2,p3,p4,p5,p6,p7,pf⟩:=HO.out.cells
  have hd20':=HO.out.ps.dp.2
  have WD:IntKind.i64.wrap (s3.deep - 1)=s3.deep - 1:=IntWalk.i64_in _ (by (try simp only at hd20');omega)
  go_upto_region 19 with (fail)
  have HO:=Lib.hid (show Op b n c d A l { s3 with deep:=s3.deep - 1 } Q1 Q2 V1 V2 w t (#[.int .i64 t.num,.slice none 0 0,.slice none 0 0,.int .i64 nb,.int .i64 0,.int .i64 0,.int .i64 0,.bool false]) (X4.setCell ⟨b,4,none⟩ (.int .i64 (s3.deep - 1))) from HO.out.set (j:=4) rfl rfl rfl ⟨HO.out.ps.lo,HO.out.ps.hi⟩ ⟨by simp only;omega,by simp only;omega⟩ HO.out.ps.gr)
  have hk5:Kept b X4 (X4.setCell ⟨b,4,none⟩ (.int .i64 (s3.deep - 1))):=(Kept.refl b X4).set 4 _
  have HIN:=Lib.hid ((hk5.block w4.heap.size (lt_heap HIN.out) (Nat.ne_of_gt hb4)).trans HIN.out)
  have HND:=Lib.hid (HND.out.mv (Mvd.kept (M:=fun k=>pm b Q1 Q2 k || decide (k < w.heap.size+3)) hk5 (by simp [pm])))
  clear hk5 WD
  obtain ⟨X5,hX⟩:∃ X,X=X4.setCell ⟨b,4,none⟩ (.int .i64 (s3.deep - 1)):=⟨_,rfl⟩
  rw [← hX] at HIN HND HO ⊢
  clear hX
  clear p0 p1 p2 p3 p4 p5 p6 p7 pf
  obtain ⟨p0,p1,p2,p3,p4,p5,p6,p7,pf⟩:=HO.out.cells
  go_upto_region 20 with (fail)
  have HO:=Lib.hid (show Op b n c d A l { s3 with deep:=s3.deep - 1,fold:=s.fold } Q1 Q2 V1 V2 w t (#[.int .i64 t.num,.slice none 0 0,.slice none 0 0,.int .i64 nb,.int .i64 0,.int .i64 0,.int .i64 0,.bool false]) (X5.setCell ⟨b,3,none⟩ (.bool s.fold)) from HO.out.set (j:=3) rfl rfl rfl ⟨HO.out.ps.lo,HO.out.ps.hi⟩ HO.out.ps.dp HO.out.ps.gr)
  have hk5:Kept b X5 (X5.setCell ⟨b,3,none⟩ (.bool s.fold)):=(Kept.refl b X5).set 3 _
  have HIN:=Lib.hid ((hk5.block w4.heap.size (lt_heap HIN.out) (Nat.ne_of_gt hb4)).trans HIN.out)
  have HND:=Lib.hid (HND.out.mv (Mvd.kept (M:=fun k=>pm b Q1 Q2 k || decide (k < w.heap.size+3)) hk5 (by simp [pm])))
  clear hk5
  obtain ⟨X6,hX⟩:∃ X,X=X5.setCell ⟨b,3,none⟩ (.bool s.fold):=⟨_,rfl⟩
  rw [← hX] at HIN HND HO ⊢
  clear hX
  clear p0 p1 p2 p3 p4 p5 p6 p7 pf
  obtain ⟨s4,hs4⟩:∃ s4,s4=({ s3 with deep:=s3.deep - 1,fold:=s.fold }:PS):=⟨_,rfl⟩
  have HG:=Lib.hid (show R=(match nextS d l s4 with
   | .error q=>.error q
   | .ok none=>.error (1,s4.at_)
   | .ok (some (t2,nx))=>if t2.kind≠8 then .error (1,s4.at_)
    else if t.num=1 then .ok (tr,{ s4 with at_:=nx })
    else .ok (.mk t.num [] [tr] nb 0 0 0 false,{ s4 with at_:=nx })) by rw [hs4];exact HF.out)
  rw [← hs4] at HO
  clear hs4 HF
  have CN:=Lib.hid (next78 HT HO.out.ps)
  cases hnx:nextS d l s4 with
  | error q =>
   have HER:=Lib.hid (show R=.error q by rw [HG.out,hnx])
   rw [hnx] at CN
   clear hnx
   go_wp2_with (go_at_call 78;(with_reducible refine CN.out.mono ?_);rintro e w7 ⟨he,hb⟩;obtain rfl:=(show e=.panicked (faultV q.1 q.2) from he);have HB7:=Lib.hid hb;clear he hb)
   rw [HER.out]
   exact ⟨rfl,rfl,(HO.out.next HB7.out).bad⟩
  | ok q =>
   cases q with
   | none =>
    have HER:=Lib.hid (show R=.error (1,s4.at_) by rw [HG.out,hnx])
    rw [hnx] at CN
    clear hnx
    go_upto_region 22 with (go_at_call 78;(with_reducible refine CN.out.mono ?_);rintro e w7 ⟨he,hb⟩;obtain rfl:=(show e=.returned (.tuple #[.agg #[.int .i64 0,.int .i64 0,.string ⟨#[]⟩,.bool false,.int .i64 0,.int .i64 0,.int .i64 0,.int .i64 0],.int .i64 s4.at_,.bool false]) from he);have HO:=Lib.hid (HO.out.next (hb.alloc hb.size (.cells #[.int .i64 0,.int .i64 0,.string ⟨#[]⟩,.bool false,.int .i64 0,.int .i64 0,.int .i64 0,.int .i64 0] 108)));clear he hb)
    obtain ⟨p0,p1,p2,p3,p4,p5,p6,p7,pf⟩:=HO.out.cells
    go_wp2_with (go_at_call 45;(with_reducible refine (fail45 _ _ _).mono ?_);rintro e w6 ⟨rfl,rfl⟩)
    rw [HER.out]
    exact ⟨rfl,rfl,HO.out.bad⟩
   | some q =>
    obtain ⟨t2,nx⟩:=q
    have hmv:=next_mv hnx HO.out.ps.lo
    rw [hnx] at CN
    have HI:=Lib.hid (show R=(if t2.kind≠8 then .error (1,s4.at_)
     else if t.num=1 then .ok (tr,{ s4 with at_:=nx })
     else .ok (.mk t.num [] [tr] nb 0 0 0 false,{ s4 with at_:=nx })) by rw [HG.out,hnx])
    clear hnx HG
    go_upto_region 21 with (go_at_call 78;(with_reducible refine CN.out.mono ?_);rintro e w7 ⟨he,hb⟩;obtain rfl:=(show e=.returned (.tuple #[.agg #[.int .i64 t2.kind,.int .i64 t2.num,.string ⟨t2.text.toArray⟩,.bool t2.not_,.int .i64 t2.least,.int .i64 t2.most,.int .i64 t2.way,.int .i64 t2.fold],.int .i64 nx,.bool true]) from he);have HB7:=Lib.hid (hb.alloc hb.size (.cells #[.int .i64 t2.kind,.int .i64 t2.num,.string ⟨t2.text.toArray⟩,.bool t2.not_,.int .i64 t2.least,.int .i64 t2.most,.int .i64 t2.way,.int .i64 t2.fold] 108));have HT7:=Lib.hid (heap_alloc_new w7 (.cells #[.int .i64 t2.kind,.int .i64 t2.num,.string ⟨t2.text.toArray⟩,.bool t2.not_,.int .i64 t2.least,.int .i64 t2.most,.int .i64 t2.way,.int .i64 t2.fold] 108));clear he hb)
    have HO:=Lib.hid (HO.out.next HB7.out)
    have HIN:=Lib.hid (row_next HIN.out HB7.out)
    have HND:=Lib.hid (HND.out.mv (Mvd.below HB7.out))
    clear HB7 CN
    obtain ⟨X7,hX⟩:∃ X,X=w7.alloc (.cells #[.int .i64 t2.kind,.int .i64 t2.num,.string ⟨t2.text.toArray⟩,.bool t2.not_,.int .i64 t2.least,.int .i64 t2.most,.int .i64 t2.way,.int .i64 t2.fold] 108):=⟨_,rfl⟩
    rw [← hX] at HIN HND HO HT7 ⊢
    clear hX
    obtain ⟨t0,t1,t2_,t3,t4,t5,t6,t7⟩:=cells8 HT7.out
    obtain ⟨p0,p1,p2,p3,p4,p5,p6,p7,pf⟩:=HO.out.cells
    by_cases h8:t2.kind=8
    ·have e1:(t2.kind != 8)=false:=by simpa using h8
     have HJ:=Lib.hid (HI.out.trans (if_neg (fun x=>x h8)))
     clear h8
     go_upto_region 24 with (fail)
     have HO:=Lib.hid (show Op b n c d A l { s4 with at_:=nx } Q1 Q2 V1 V2 w t (#[.int .i64 t.num,.slice none 0 0,.slice none 0 0,.int .i64 nb,.int .i64 0,.int .i64 0,.int .i64 0,.bool false]) (X7.setCell ⟨b,2,none⟩ (.int .i64 nx)) from HO.out.set (j:=2) rfl rfl rfl ⟨by simp only;have:=HO.out.ps.lo;omega,by simp only;omega⟩ HO.out.ps.dp HO.out.ps.gr)
     have hk5:Kept b X7 (X7.setCell ⟨b,2,none⟩ (.int .i64 nx)):=(Kept.refl b X7).set 2 _
     have HIN:=Lib.hid ((hk5.block w4.heap.size (lt_heap HIN.out) (Nat.ne_of_gt hb4)).trans HIN.out)
     have HND:=Lib.hid (HND.out.mv (Mvd.kept (M:=fun k=>pm b Q1 Q2 k || decide (k < w.heap.size+3)) hk5 (by simp [pm])))
     clear hk5 t0 t1 t2_ t3 t4 t5 t6 t7 p0 p1 p2 p3 p4 p5 p6 p7 pf HT7
     obtain ⟨X8,hX⟩:∃ X,X=X7.setCell ⟨b,2,none⟩ (.int .i64 nx):=⟨_,rfl⟩
     rw [← hX] at HIN HND HO ⊢
     clear hX
     obtain ⟨t0,t1,t2_,t3,t4,t5,t6,t7⟩:=cells8 HO.out.r0
     obtain ⟨z0,z1,z2,z3,z4,z5,z6,z7⟩:=cells8 HIN.out
     by_cases hn1:t.num=1
     ·have e2:(t.num == 1)=true:=by simpa using hn1
      have HER:=Lib.hid (HJ.out.trans (if_pos hn1))
      clear hn1
      go_wp2_with ((with_reducible apply store42 (g:=w.heap.size+1));rfl;(with_reducible rfl);rfl;rfl;(exact HO.out.r1);rfl;rfl)
      (try simp only [Exit.inBlock,Exit.then])
      refine bodyPost_ret (v:=_) (results42 Tryz.results132 _ _ (w.heap.size+1) _ ?_ (row42 HO.out.r1) ?_) rfl ?_
      ·rfl
      ·rfl
      ·rw [HER.out]
       obtain ⟨k2,k3⟩:=HO.out.fin #[.int .i64 dd.kind,.slice dd.sA dd.sn dd.sc,.slice dd.kA dd.kn dd.kc,.int .i64 dd.num,.int .i64 dd.least,.int .i64 dd.most,.int .i64 dd.way,.bool dd.fold]
       refine ⟨dd,Q1,Q2,rfl,HND.out.mv (mvd_store _ (by simp) fun k _ hk=>?_),k2,k3⟩
       simp only [Bool.or_eq_true,decide_eq_true_eq] at hk ⊢
       rcases hk with hk|hk
       ·exact .inl hk
       ·exact .inr (by omega)
     ·have e2:(t.num == 1)=false:=by simpa using hn1
      have HER:=Lib.hid (HJ.out.trans (if_neg hn1))
      clear hn1
      obtain ⟨y0,y1,y2,y3,y4,y5,y6,y7⟩:=cells8 HO.out.r2
      have hl2:w.heap.size+2 < X8.heap.size:=lt_heap HO.out.r2
      have hf2:X8.frozen? ⟨w.heap.size+2,2,none⟩=false:=frozen_row HO.out.r2
      go_upto_region 27 with (fail)
      have HO9:=Lib.hid ((HO.out.out 2 (.slice (some ⟨X8.heap.size,0,none⟩) 1 1)).next (show Below _ _ ((X8.setCell ⟨w.heap.size+2,2,none⟩ (.slice (some ⟨X8.heap.size,0,none⟩) 1 1)).alloc (.cells #[.int .i64 dd.kind,.slice dd.sA dd.sn dd.sc,.slice dd.kA dd.kn dd.kc,.int .i64 dd.num,.int .i64 dd.least,.int .i64 dd.most,.int .i64 dd.way,.bool dd.fold] 42)) from (Below.refl _ _).alloc (Nat.le_refl _) _))
      have HNN:=Lib.hid (fun cs=>open_node (v:=.slice (some ⟨X8.heap.size,0,none⟩) 1 1) HO.out HND.out t.num nb cs)
      have HR2:=Lib.hid (show ((X8.setCell ⟨w.heap.size+2,2,none⟩ (.slice (some ⟨X8.heap.size,0,none⟩) 1 1)).alloc (.cells #[.int .i64 dd.kind,.slice dd.sA dd.sn dd.sc,.slice dd.kA dd.kn dd.kc,.int .i64 dd.num,.int .i64 dd.least,.int .i64 dd.most,.int .i64 dd.way,.bool dd.fold] 42)).heap[w.heap.size+2]?=some (.cells #[.int .i64 t.num,.slice none 0 0,.slice (some ⟨X8.heap.size,0,none⟩) 1 1,.int .i64 (nb),.int .i64 0,.int .i64 0,.int .i64 0,.bool false] 42 (0,0)) from HO9.out.r2)
      clear y0 y1 y2 y3 y4 y5 y6 y7 hl2 hf2 z0 z1 z2 z3 z4 z5 z6 z7
      obtain ⟨X9,hX⟩:∃ X,X=(X8.setCell ⟨w.heap.size+2,2,none⟩ (.slice (some ⟨X8.heap.size,0,none⟩) 1 1)).alloc (.cells #[.int .i64 dd.kind,.slice dd.sA dd.sn dd.sc,.slice dd.kA dd.kn dd.kc,.int .i64 dd.num,.int .i64 dd.least,.int .i64 dd.most,.int .i64 dd.way,.bool dd.fold] 42):=⟨_,rfl⟩
      rw [← hX] at HO9 HNN HR2 ⊢
      clear hX
      obtain ⟨y0,y1,y2,y3,y4,y5,y6,y7⟩:=cells8 HR2.out
      go_wp2_with ((with_reducible apply store42 (g:=w.heap.size+1));rfl;(with_reducible rfl);rfl;rfl;(exact HO9.out.r1);rfl;rfl)
      (try simp only [Exit.inBlock,Exit.then])
      refine bodyPost_ret (v:=_) (results42 Tryz.results132 _ _ (w.heap.size+1) _ ?_ (row42 HO9.out.r1) ?_) rfl ?_
      ·rfl
      ·rfl
      ·rw [HER.out]
       obtain ⟨k2,k3⟩:=HO9.out.fin #[.int .i64 t.num,.slice none 0 0,.slice (some ⟨X8.heap.size,0,none⟩) 1 1,.int .i64 (nb),.int .i64 0,.int .i64 0,.int .i64 0,.bool false]
       exact ⟨⟨t.num,none,0,0,some ⟨X8.heap.size,0,none⟩,1,1,nb,0,0,0,false⟩,Q1,Q2,rfl,HNN.out _,k2,k3⟩
    ·have e1:(t2.kind != 8)=true:=by simpa using h8
     have HER:=Lib.hid (show R=.error (1,s4.at_) from HI.out.trans (if_pos h8))
     clear h8
     go_wp2_with (go_at_call 45;(with_reducible refine (fail45 _ _ _).mono ?_);rintro e w6 ⟨rfl,rfl⟩)
     rw [HER.out]
     exact ⟨rfl,rfl,HO.out.bad⟩
end Go.Proofs.YtbiahhojnjchnaaGreat
