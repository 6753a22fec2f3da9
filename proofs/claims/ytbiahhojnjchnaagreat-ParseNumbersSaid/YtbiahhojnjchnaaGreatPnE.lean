/-
  Branches made one node: walked.
-/
import Derived.Test.YtbiahhojnjchnaaGreatPnD
set_option linter.unusedVariables false
set_option linter.unusedSimpArgs false
namespace Go.Proofs.YtbiahhojnjchnaaGreat
open Go.RowKit
set_option maxRecDepth 100000 in
set_option maxHeartbeats 8000000 in
theorem either79 {M:Nat→Bool} {ts:List Tr} {ds:List ND} {A:Option Addr} {n c:Nat} {w:World} (hM:∀ k,M k=true→k < w.heap.size) (hk:Kds M w ts ds) (hr:Rds w w.heap.size 8 A n (nds ds)) (hn:n≤500000) (hz:(ts.flatMap flatEi).length≤500000) :
  Calls Tryz.prog 79 #[.slice A n c] w fun e w'=>NOutT M (eiT ts) e w'∧Below w.heap.size w w':=by
 obtain ⟨W,hW⟩:∃ X,X=w.alloc (.cells #[.int .i64 0,.slice none 0 0,.slice none 0 0,.int .i64 0,.int .i64 0,.int .i64 0,.int .i64 0,.bool false] 42):=⟨_,rfl⟩
 have HB:=Lib.hid (show Below w.heap.size w W by rw [hW];exact (Below.refl _ _).alloc (Nat.le_refl _) _)
 have HZ:=Lib.hid (show W.heap[w.heap.size]?=some Z42 by rw [hW];exact z42_new)
 have HK:=Lib.hid hk
 have HR:=Lib.hid hr
 have HM:=Lib.hid hM
 have HLN:=Lib.hid (show ts.length=n by rw [hk.len];exact nodes_at hr)
 have HZZ:=Lib.hid hz
 clear hk hr hM hz
 go_enter Tryz.func79,Tryz.ntmps79
 go_upto_region 1 with (fail)
 rw [← hW]
 clear hW
 have hWs:=lt_heap HZ.out
 by_cases hn1:n=1
 ·subst hn1
  have HBW:=HB
  obtain ⟨b3,o3,hl3,hA3,hb3,q0,q1,q2,q3,q4,q5,q6,q7⟩:=(HR.out.below HB.out (Nat.le_refl _)).node_at (k:=0) (Nat.zero_lt_one)
  have hl1:=HLN.out
  obtain ⟨t1,rfl⟩:∃ t1,ts=[t1]:=List.length_eq_one_iff.1 hl1
  obtain ⟨x,rfl⟩:∃ x,ds=[x]:=List.length_eq_one_iff.1 (HK.out.len.symm.trans rfl)
  subst hA3
  simp only [Nat.zero_mul,Nat.add_zero,List.getElem_cons_zero] at q0 q1 q2 q3 q4 q5 q6 q7
  have HN7:=Lib.hid (HK.out.at 0 (Nat.zero_lt_one) (Nat.zero_lt_one))
  simp only [List.getElem_cons_zero] at HN7
  clear hl1
  go_wp2_with ((with_reducible apply store42 (g:=w.heap.size));rfl;(with_reducible rfl);rfl;rfl;(exact HZ.out);rfl;rfl)
  (try simp only [Exit.inBlock,Exit.then])
  refine bodyPost_ret (v:=_) (results42 Tryz.results79 _ _ w.heap.size _ ?_ (row42 HZ.out) ?_) rfl ?_
  ·rfl
  ·rfl
  ·have hbf:Below w.heap.size w _:=Below.setRow HBW.out (Nat.le_refl _) #[.int .i64 x.kind,.slice x.sA x.sn x.sc,.slice x.kA x.kn x.kc,.int .i64 x.num,.int .i64 x.least,.int .i64 x.most,.int .i64 x.way,.bool x.fold]
   exact ⟨⟨x,rfl,HN7.out.mv (Mvd.below hbf)⟩,hbf⟩
 have en1:((n:Int) == 1)=false:=beq_eq_false_iff_ne.2 (by omega)
 have HEI:=Lib.hid (show eiT ts=.mk 10 [] (ts.flatMap flatEi) 0 0 0 0 false by
  have h:=HLN.out
  match ts,h with
  | [],_=>rfl
  | [_],h=>simp at h;omega
  | _ :: _ :: _,_=>rfl)
 clear hn1
 go_wp2_with fail
 go_loopw [14,3] (fun i v wr=>∃ (k:Nat) (os:List ND),k≤n∧i=.int .i64 k∧Hid (wr.ownsRow W.heap.size 42 8 v os.length (nds os))∧Hid (Kds M w ((ts.take k).flatMap flatEi) os)∧Hid (Below W.heap.size W wr)) (fun i _ _=>n - (intOf i).toNat)
 case atStart=>exact ⟨0,[],Nat.zero_le _,rfl,Lib.hid (World.ownsRow_nil _ _ _ _),Lib.hid (Kds.nil _ _),Lib.hid (Below.refl _ _)⟩
 case round =>
  obtain ⟨k,os,hkn,rfl,HO,HKS,HBR⟩:=hrel
  have hsz:=HBR.out.size
  by_cases hlt:k < n
  ·have hb0:Below w.heap.size w wr:=HB.out.trans (HBR.out.mono HB.out.size)
   obtain ⟨b2,o2,hl,hA,hb2,q0,q1,q2,q3,q4,q5,q6,q7⟩:=(HR.out.below hb0 (Nat.le_refl _)).node_at hlt
   have hlk:k < ts.length:=by have:=HLN.out;omega
   obtain ⟨d,hd⟩:∃ d,d=ds[k]:=⟨_,rfl⟩
   obtain ⟨t,ht⟩:∃ t,t=ts[k]:=⟨_,rfl⟩
   have HND:=Lib.hid (show Nd M w t d by rw [hd,ht];exact HK.out.at k hlk hl)
   have HSN:=Lib.hid (flat_snoc flatEi ts k hlk)
   have HLE:=Lib.hid (flat_le flatEi ts (k+1))
   rw [← ht] at HSN
   rw [← hd] at q0 q1 q2 q3 q4 q5 q6 q7
   subst hA
   have HB0:=Lib.hid hb0
   clear hd ht hb0
   have i1:(k:Int) < (n:Int):=by omega
   have W1:IntKind.i64.wrap ((k:Int)+1)=(k:Int)+1:=IntWalk.i64_in _ (by omega)
   go_upto_region 7 with (fail)
   obtain ⟨X,hX⟩:∃ X,X=wr.alloc (.cells #[.int .i64 d.kind,.slice d.sA d.sn d.sc,.slice d.kA d.kn d.kc,.int .i64 d.num,.int .i64 d.least,.int .i64 d.most,.int .i64 d.way,.bool d.fold] 42):=⟨_,rfl⟩
   have hXZ:X.heap[wr.heap.size]?=some (.cells #[.int .i64 d.kind,.slice d.sA d.sn d.sc,.slice d.kA d.kn d.kc,.int .i64 d.num,.int .i64 d.least,.int .i64 d.most,.int .i64 d.way,.bool d.fold] 42 (0,0)):=by rw [hX];exact heap_alloc_new wr _
   have HBX:=Lib.hid (show Below wr.heap.size wr X by rw [hX];exact (Below.refl _ _).alloc (Nat.le_refl _) _)
   rw [← hX]
   clear hX q0 q1 q2 q3 q4 q5 q6 q7
   obtain ⟨q0,q1,q2,q3,q4,q5,q6,q7⟩:=cells8 hXZ
   have HOX:=Lib.hid (own_below HO.out HBX.out (Nat.le_refl _))
   have HWX:=Lib.hid (HBR.out.trans (HBX.out.mono hsz))
   have hsX:=HWX.out.size
   clear hXZ HO HBX
   obtain ⟨es,HN0⟩:=HND.out.of
   have HN:=Lib.hid HN0
   have HKD:=Lib.hid (HN0.kind)
   have HEK:=Lib.hid (HN0.kids.bare)
   have hkn2:=HN0.knum
   clear HN0
   by_cases h9:d.kind=10
   ·have HF:=Lib.hid (show flatEi t=t.kids by unfold flatEi;rw [if_pos (HKD.out.symm.trans h9)])
    have e2:(d.kind == 10)=true:=by simpa using h9
    have HES:=Lib.hid (show Rds X w.heap.size 8 d.kA d.kn (nds es) from HEK.out.below (HB.out.trans (HWX.out.mono HB.out.size)) (Nat.le_refl _))
    have HL:=Lib.hid (show os.length+d.kn≤500000 by
     have h1:=HKS.out.len
     have h2:=HLE.out
     rw [HSN.out,HF.out,List.length_append] at h2
     have h3:=HZZ.out
     omega)
    clear h9 hkn2
    go_upto_region 10 with (at_builtin;refine app_nodes (.tmp 21) (.tmp 23) (base:=W.heap.size) (xs:=os) (ys:=es) (n:=os.length) (m:=d.kn) HOX.out HES.out (by have:=HL.out;omega) hsX rfl rfl rfl rfl ?_;intro v3 w6 hown3 hg3 hat3;have HO6:=Lib.hid hown3;have HB6:=Lib.hid (HWX.out.grown hg3 hsX (fun g hg=>(World.ownsRow.lt HOX.out g hg).1));clear hown3 hg3 hat3)
    go_wp2_with fail
    go_roundw
    case rel=>exact ⟨k+1,os ++ es,by omega,by first|rfl|go_num|(congr 1;omega),Lib.hid (by rw [List.length_append,HN.out.knum.2];exact HO6.out),Lib.hid (by rw [HSN.out,HF.out];exact HKS.out.append HN.out.each),HB6⟩
    case measure=>simp [intOf];omega
   ·have HF:=Lib.hid (show flatEi t=[t] by unfold flatEi;rw [if_neg (fun x=>h9 (HKD.out.trans x))])
    have e2:(d.kind == 10)=false:=by simpa using h9
    have hbY:Below X.heap.size X (X.alloc (.cells #[.int .i64 d.kind,.slice d.sA d.sn d.sc,.slice d.kA d.kn d.kc,.int .i64 d.num,.int .i64 d.least,.int .i64 d.most,.int .i64 d.way,.bool d.fold] 42)):=(Below.refl _ _).alloc (Nat.le_refl _) _
    have HOY:=Lib.hid (own_below HOX.out hbY (Nat.le_refl _))
    have HRY:=Lib.hid (show Rds (X.alloc (.cells #[.int .i64 d.kind,.slice d.sA d.sn d.sc,.slice d.kA d.kn d.kc,.int .i64 d.num,.int .i64 d.least,.int .i64 d.most,.int .i64 d.way,.bool d.fold] 42)) (X.heap.size+1) 8 (some ⟨X.heap.size,0,none⟩) 1 (nds [d]) from Rds.new X 8 1 _ 42 (nds [d]) rfl rfl)
    have HWY:=Lib.hid (HWX.out.trans (hbY.mono hsX))
    have hsY:=HWY.out.size
    have HL:=Lib.hid (show os.length+1≤500000 by
     have h1:=HKS.out.len
     have h2:=HLE.out
     rw [HSN.out,HF.out,List.length_append] at h2
     have h3:=HZZ.out
     simp only [List.length_cons,List.length_nil] at h2
     omega)
    clear h9 hkn2 hbY
    go_upto_region 10 with (at_builtin;refine app_nodes (.tmp 25) (.tmp 27) (base:=W.heap.size) (xs:=os) (ys:=[d]) (n:=os.length) (m:=1) HOY.out HRY.out (by have:=HL.out;omega) hsY rfl rfl rfl rfl ?_;intro v3 w6 hown3 hg3 hat3;have HO6:=Lib.hid hown3;have HB6:=Lib.hid (HWY.out.grown hg3 hsY (fun g hg=>(World.ownsRow.lt HOY.out g hg).1));clear hown3 hg3 hat3)
    go_wp2_with fail
    go_roundw
    case rel=>exact ⟨k+1,os ++ [d],by omega,by first|rfl|go_num|(congr 1;omega),Lib.hid (by rw [List.length_append];exact HO6.out),Lib.hid (by rw [HSN.out,HF.out];exact HKS.out.append (Kds.one HND.out)),HB6⟩
    case measure=>simp [intOf];omega
  ·have hkn3:k=n:=by omega
   subst hkn3
   have i1:¬ (k:Int) < (k:Int):=by omega
   have HAL:=Lib.hid (show Kds M w (ts.flatMap flatEi) os by have:=HKS.out;rwa [List.take_of_length_le (by have:=HLN.out;omega)] at this)
   have HZR:=Lib.hid (row_next HZ.out HBR.out)
   have HBW:=Lib.hid (HB.out.trans (HBR.out.mono HB.out.size))
   obtain ⟨A3,c3,hv3,hc3,hm3⟩:=own_slice HO.out
   subst hv3
   obtain ⟨us,hus⟩:∃ us,us=ts.flatMap flatEi:=⟨_,rfl⟩
   have HUS:=Lib.hid hus
   rw [← hus] at HAL
   have hlen:=HAL.out.len
   clear hus HKS hlt HZ HB HR HK
   obtain ⟨m,hmm⟩:∃ m,m=os.length:=⟨_,rfl⟩
   have HMM:=Lib.hid hmm
   rw [← hmm] at HO hc3 ⊢
   clear hlen hmm
   go_wp2_with ((with_reducible apply store42 (g:=w.heap.size));rfl;(with_reducible rfl);rfl;rfl;(exact HZR.out);rfl;rfl)
   (try simp only [Exit.inBlock,Exit.then])
   refine bodyPost_ret (v:=_) (results42 Tryz.results79 _ _ w.heap.size _ ?_ (row42 HZR.out) ?_) rfl ?_
   ·rfl
   ·rfl
   ·have hbf:Below w.heap.size w _:=Below.setRow HBW.out (Nat.le_refl _) #[.int .i64 10,.slice none 0 0,.slice A3 m c3,.int .i64 0,.int .i64 0,.int .i64 0,.int .i64 0,.bool false]
    have hof:=own_keptb HO.out (kept_setRow w.heap.size wr #[.int .i64 10,.slice none 0 0,.slice A3 m c3,.int .i64 0,.int .i64 0,.int .i64 0,.int .i64 0,.bool false]) hWs
    obtain ⟨A4,c4,hv4,hr4⟩:=Rds.own_cover (M:=M) hof (fun g hg=>by
     cases e:M g
     ·rfl
     ·have h1:=HM.out g e
      have h2:=(World.ownsRow.lt HO.out g hg).1
      omega)
    injection hv4 with e1 e2 e3
    subst e1
    refine ⟨?_,hbf⟩
    rw [HEI.out,← HUS.out]
    exact ⟨⟨10,none,0,0,A3,m,c3,0,0,0,0,false⟩,rfl,nd_of os ⟨rfl,rfl,rfl,rfl,rfl,rfl,nil_rds _ _ _,Nat.le_refl _,Nat.zero_le _,hr4,hc3,hm3,HAL.out.mv (Mvd.below hbf)⟩⟩
end Go.Proofs.YtbiahhojnjchnaaGreat
