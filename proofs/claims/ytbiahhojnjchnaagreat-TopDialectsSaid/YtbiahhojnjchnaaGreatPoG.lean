/-
  The law TopDialects: walked.
-/
import Derived.Test.YtbiahhojnjchnaaGreatIE
import Derived.Test.YtbiahhojnjchnaaGreatID
import Derived.Laws.StructEq
set_option linter.unusedVariables false
set_option linter.unusedSimpArgs false
namespace Go.Proofs.YtbiahhojnjchnaaGreat
open Go.RowKit
theorem tmod7 (x:Int):(0≤x→0≤Int.tmod x 7∧Int.tmod x 7 < 7)∧(x < 0→0≤-(Int.tmod (x+1) 7)∧-(Int.tmod (x+1) 7) < 7):=by
 refine ⟨fun h=>⟨Int.tmod_nonneg _ h,Int.tmod_lt_of_pos _ (by omega)⟩,fun h=>?_⟩
 rw [← Int.neg_tmod]
 exact ⟨Int.tmod_nonneg _ (by omega),Int.tmod_lt_of_pos _ (by omega)⟩
set_option maxRecDepth 100000 in
theorem choose27 (x:Int) (w:World) (h0:-9223372036854775808≤x) (h1:x≤9223372036854775807):Calls Tryz.prog 27 #[.int .i64 x,.int .i64 7] w fun e w'=>(∃ r:Nat,r < 7∧e=.returned (.int .i64 r))∧w=w':=by
 have HT:=Lib.hid (tmod7 x)
 by_cases hx:x < 0
 ·go_enter Tryz.func27,Tryz.ntmps27
  go_wp2_with fail
  go_ret
  exact ⟨⟨(-(Int.tmod (x+1) 7)).toNat,by have:=HT.out.2 hx;omega,by rw [Int.toNat_of_nonneg (HT.out.2 hx).1];rfl⟩,rfl⟩
 ·go_enter Tryz.func27,Tryz.ntmps27
  go_wp2_with fail
  go_ret
  exact ⟨⟨(x % 7).toNat,by omega,by rw [Int.toNat_of_nonneg (by omega)];rfl⟩,rfl⟩
def Z7:Array Value:=#[.int .i64 97,.int .i64 98,.int .i64 99,.int .i64 46,.int .i64 42,.int .i64 94,.int .i64 36]
theorem z7_at {r:Nat} (h:r < 7):∃ z,z ∈ let7L∧Z7[r]?=some (.int .i64 z):=by
 match r,h with
 | 0,_=>exact ⟨97,by decide,rfl⟩
 | 1,_=>exact ⟨98,by decide,rfl⟩
 | 2,_=>exact ⟨99,by decide,rfl⟩
 | 3,_=>exact ⟨46,by decide,rfl⟩
 | 4,_=>exact ⟨42,by decide,rfl⟩
 | 5,_=>exact ⟨94,by decide,rfl⟩
 | 6,_=>exact ⟨36,by decide,rfl⟩
theorem cells10 {w:World} {g:Nat} {v0 v1 v2 v3 v4 v5 v6 v7 v8 v9:Value} (h:w.heap[g]?=some (.cells #[v0,v1,v2,v3,v4,v5,v6,v7,v8,v9] 45 (0,0))):w.cell? ⟨g,0,none⟩=some v0∧w.cell? ⟨g,1,none⟩=some v1∧w.cell? ⟨g,2,none⟩=some v2∧w.cell? ⟨g,3,none⟩=some v3∧w.cell? ⟨g,4,none⟩=some v4∧w.cell? ⟨g,5,none⟩=some v5∧w.cell? ⟨g,6,none⟩=some v6∧w.cell? ⟨g,7,none⟩=some v7∧w.cell? ⟨g,8,none⟩=some v8∧w.cell? ⟨g,9,none⟩=some v9:=by
 refine ⟨?_,?_,?_,?_,?_,?_,?_,?_,?_,?_⟩<;>(rw [cell_of_row w g _ _ 45 (0,0) h];rfl)
theorem nil_rd (w:World) (A:Option Addr):Rds w w.heap.size 2 A 0 (nms []):=⟨rfl,fun h=>absurd h (by omega)⟩
set_option maxHeartbeats 8000000 in
set_option maxRecDepth 100000 in
theorem lawTopDialects {FQ:(Int→Prop)→Int→Prop} (HF:Hid (FoldC FQ)) (l:List Int) (A:Option Addr) (n c:Nat) (fo:Bool) (w:World) (hn:n≤maxLen) (hbd:∀ x ∈ l,-9223372036854775808≤x∧x≤9223372036854775807) (ha:Rds w w.heap.size 1 A n (ints l)) :
  Calls Tryz.prog 10 #[.slice A n c,.bool fo] w fun e w'=>e=.returned (.bool true)∧Below w.heap.size w w':=by
 obtain ⟨canL,hcan⟩:=can_some
 have HCAN:=Lib.hid hcan
 clear hcan
 have HA:=Lib.hid ha
 have HBD:=Lib.hid hbd
 have CB:=Lib.hid (parseBegun21 HF w)
 unfold maxLen at hn
 clear ha hbd
 go_enter Tryz.func10,Tryz.ntmps10
 go_upto_region 5 with (go_at_call 21;(with_reducible refine CB.out.mono ?_);rintro e w1 ⟨rfl,hb⟩;have HB1:=Lib.hid hb;clear hb)
 go_loopw [5,6] (fun v5 v6 wr=>∃ qs:List Int,qs.length≤n∧qs.length≤100∧v6=.int .i64 (qs.length:Nat)∧Hid (Lets qs)∧Hid (wr.ownsRow w.heap.size 3 1 v5 qs.length (ints qs))∧Hid (Below w.heap.size w wr)) (fun _ i _=>100 - (intOf i).toNat)
 case atStart=>exact ⟨[],Nat.zero_le _,Nat.zero_le _,rfl,Lib.hid (fun q hq=>by cases hq),Lib.hid (World.ownsRow_nil _ _ _ _),HB1⟩
 case round =>
  obtain ⟨qs,hqn,hq100,rfl,HQS,HI,HB⟩:=hrel
  obtain ⟨K,hK⟩:∃ K,K=qs.length:=⟨_,rfl⟩
  have HK:=Lib.hid hK
  rw [← hK] at hqn hq100 HI ⊢
  clear hK
  obtain ⟨g,hg⟩:∃ g,g=decide (K < n∧K < 100):=⟨_,rfl⟩
  have HG:=Lib.hid hg
  clear hg
  go_upto_region 5 with (fail)
  go_cut [22] from 15 to 23 (fun v wc=>v=.bool g∧wc=wr)
  ·by_cases h1:K < n
   ·have HV:=Lib.hid (show decide ((K:Int) < 100)=g by rw [HG.out];exact decide_eq_decide.2 (by omega))
    go_wp2_with fail
    go_meet
    exact ⟨congrArg Value.bool HV.out,rfl⟩
   ·have HV:=Lib.hid (show false=g by rw [HG.out];exact (decide_eq_false fun z=>h1 z.1).symm)
    go_wp2_with fail
    go_meet
    exact ⟨congrArg Value.bool HV.out,rfl⟩
  obtain ⟨rfl,rfl⟩:=hcut
  cases g with
  | true =>
   obtain ⟨hl1,hl2⟩:=of_decide_eq_true HG.out.symm
   clear HG
   obtain ⟨b1,off1,hl,hA,hb1,hc1⟩:=(HA.out.below HB.out (Nat.le_refl _)).int_at hl1
   have hx:=HBD.out _ (List.getElem_mem hl)
   obtain ⟨x,hxx⟩:∃ x,x=l[K]:=⟨_,rfl⟩
   rw [← hxx] at hc1 hx
   obtain ⟨hx0,hx1⟩:=hx
   have C5:=Lib.hid (fun w=>choose27 x w hx0 hx1)
   clear hxx hx0 hx1
   subst hA
   have i1:(0:Int)≤(K:Int):=by omega
   have i2:(K:Int) < (n:Int):=by omega
   have hbl:b1 < wc.heap.size:=World.block_lt_of_cell? wc ⟨b1,_,none⟩ hc1
   have hc1':=(World.cell?_alloc_lt wc (.cells #[.int .i64 97,.int .i64 98,.int .i64 99,.int .i64 46,.int .i64 42,.int .i64 94,.int .i64 36] 3) ⟨b1,_,none⟩ hbl).trans hc1
   have W1:IntKind.i64.wrap ((K:Int)+1)=(K:Int)+1:=IntWalk.i64_in _ (by omega)
   go_upto_region 7 with (fail)
   obtain ⟨X,hX⟩:∃ X,X=wc.alloc (.cells #[.int .i64 97,.int .i64 98,.int .i64 99,.int .i64 46,.int .i64 42,.int .i64 94,.int .i64 36] 3):=⟨_,rfl⟩
   have HZ7:=Lib.hid (heap_alloc_new wc (.cells #[.int .i64 97,.int .i64 98,.int .i64 99,.int .i64 46,.int .i64 42,.int .i64 94,.int .i64 36] 3))
   have HIX:=Lib.hid (HI.out.alloc (.cells #[.int .i64 97,.int .i64 98,.int .i64 99,.int .i64 46,.int .i64 42,.int .i64 94,.int .i64 36] 3))
   have HBX:=Lib.hid (HB.out.alloc HB.out.size (.cells #[.int .i64 97,.int .i64 98,.int .i64 99,.int .i64 46,.int .i64 42,.int .i64 94,.int .i64 36] 3))
   rw [← hX] at HZ7 HIX HBX
   have HXX:=Lib.hid hX
   clear hX
   go_wp2_with (first
    | (go_at_call 27;rw [← HXX.out];(with_reducible refine (C5.out _).mono ?_);rintro e w2 ⟨⟨r,hr7,rfl⟩,rfl⟩;obtain ⟨z,hz,hz7⟩:=z7_at hr7;have HZZ:=Lib.hid hz;have hcz:=(cell_of_row _ _ r _ _ _ HZ7.out).trans hz7;have j1:(0:Int)≤(r:Int):=(by omega);have j2:(r:Int) < 7:=(by omega);have RQ:=Lib.hid (show Rds (X.alloc (.cells #[.int .i64 z] 3)) (X.heap.size+1) 1 (some ⟨X.heap.size,0,none⟩) 1 (ints [z]) by have:=Rds.new X 1 1 #[.int .i64 z] 3 (ints [z]) rfl rfl;simpa using this);clear hz hz7)
    | (at_builtin;go_loud (refine app_ints (.tmp 25) (.tmp 34) (base:=w.heap.size) (xs:=qs) (ys:=[z]) (n:=K) (m:=1) (HIX.out.alloc _) RQ.out (by omega) (by have:=HBX.out.size;simp;omega) rfl rfl rfl rfl ?_;intro v3 w3 hown3 hg3 hat3)))
   have hb3:Below w.heap.size X w3:=((Below.refl _ _).alloc HBX.out.size _).grown hg3 (by have:=HBX.out.size;simp;omega) (fun g hg=>(HIX.out.lt g hg).1)
   go_roundw
   case rel=>exact ⟨qs ++ [z],by have:=HK.out;simp;omega,by have:=HK.out;simp;omega,by rw [List.length_append,← HK.out];simp,Lib.hid (by intro y hy;rcases List.mem_append.1 hy with hy|hy;exact HQS.out y hy;obtain rfl:=List.mem_singleton.1 hy;exact HZZ.out),Lib.hid (by rw [List.length_append,← HK.out];exact hown3),Lib.hid (HBX.out.trans hb3)⟩
   case measure=>simp [intOf];omega
  | false =>
   obtain ⟨A0,c0,hv,hnc0,hcm0⟩:=own_slice HI.out
   subst hv
   have HNC:=Lib.hid hnc0
   have HCM:=Lib.hid hcm0
   have HR0:=Lib.hid (Rds.of_own HI.out)
   have C22:=Lib.hid (fun (d:Int) (hd:1≤d∧d≤3) (W:World) (hb:Below wc.heap.size wc W)=>parse22_lets (d:=d) (fo:=fo) HQS.out hd HCAN HF hq100 HNC.out HCM.out ((HR0.out.below hb (Nat.le_refl _)).more hb.size))
   obtain ⟨R,hR⟩:∃ R,R=patternS (parK canL FQ othD 1 qs 20) 1 qs (ps0 fo):=⟨_,rfl⟩
   rw [← hR] at C22
   obtain ⟨x,y,hxy⟩:∃ x y,(x,y)=erR R:=⟨_,_,rfl⟩
   obtain ⟨tr,htr⟩:∃ tr,tr=trR R:=⟨_,rfl⟩
   unfold ParsedAs at C22
   rw [← hxy,← htr] at C22
   clear hnc0 hcm0 hR hxy htr HG HK
   go_upto_region 9 with (go_at_call 22;(with_reducible refine (C22.out 1 (by omega) wc (Below.refl _ _)).mono ?_);rintro e v1 ⟨d1,A1,c1,rfl,hnd,hb⟩;have HN1:=hnd;have HC1:=Lib.hid hb;clear hnd hb)
   obtain ⟨Y1,hY1⟩:∃ Y,Y=(v1.alloc (.cells #[.int .i64 d1.kind,.slice d1.sA d1.sn d1.sc,.slice d1.kA d1.kn d1.kc,.int .i64 d1.num,.int .i64 d1.least,.int .i64 d1.most,.int .i64 d1.way,.bool d1.fold,.int .i64 0,.slice A1 0 c1] 45)).alloc (.cells #[.int .i64 x,.int .i64 y] 26):=⟨_,rfl⟩
   have hB1:Below v1.heap.size v1 Y1:=by rw [hY1];exact ((Below.refl _ _).alloc (Nat.le_refl _) _).alloc (by simp) _
   have HP1:=Lib.hid (show Y1.heap[v1.heap.size]?=some (.cells #[.int .i64 d1.kind,.slice d1.sA d1.sn d1.sc,.slice d1.kA d1.kn d1.kc,.int .i64 d1.num,.int .i64 d1.least,.int .i64 d1.most,.int .i64 d1.way,.bool d1.fold,.int .i64 0,.slice A1 0 c1] 45 (0,0)) by rw [hY1];exact hz_alloc (heap_alloc_new v1 _))
   have HF1:=Lib.hid (show Y1.heap[v1.heap.size+1]?=some (.cells #[.int .i64 x,.int .i64 y] 26 (0,0)) by rw [hY1];have:=heap_alloc_new (v1.alloc (.cells #[.int .i64 d1.kind,.slice d1.sA d1.sn d1.sc,.slice d1.kA d1.kn d1.kc,.int .i64 d1.num,.int .i64 d1.least,.int .i64 d1.most,.int .i64 d1.way,.bool d1.fold,.int .i64 0,.slice A1 0 c1] 45)) (.cells #[.int .i64 x,.int .i64 y] 26);simpa using this)
   rw [← hY1]
   have HB1_:=Lib.hid (HC1.out.trans (hB1.mono HC1.out.size))
   have HN1:=Lib.hid (node_next HN1.out hB1)
   clear hY1 hB1
   go_upto_region 10 with (go_at_call 22;(with_reducible refine (C22.out 2 (by omega) Y1 HB1_.out).mono ?_);rintro e v2 ⟨d2,A2,c2,rfl,hnd,hb⟩;have HN2:=hnd;have HC2:=Lib.hid hb;clear hnd hb)
   obtain ⟨Y2,hY2⟩:∃ Y,Y=(v2.alloc (.cells #[.int .i64 d2.kind,.slice d2.sA d2.sn d2.sc,.slice d2.kA d2.kn d2.kc,.int .i64 d2.num,.int .i64 d2.least,.int .i64 d2.most,.int .i64 d2.way,.bool d2.fold,.int .i64 0,.slice A2 0 c2] 45)).alloc (.cells #[.int .i64 x,.int .i64 y] 26):=⟨_,rfl⟩
   have hB2:Below v2.heap.size v2 Y2:=by rw [hY2];exact ((Below.refl _ _).alloc (Nat.le_refl _) _).alloc (by simp) _
   have HP2:=Lib.hid (show Y2.heap[v2.heap.size]?=some (.cells #[.int .i64 d2.kind,.slice d2.sA d2.sn d2.sc,.slice d2.kA d2.kn d2.kc,.int .i64 d2.num,.int .i64 d2.least,.int .i64 d2.most,.int .i64 d2.way,.bool d2.fold,.int .i64 0,.slice A2 0 c2] 45 (0,0)) by rw [hY2];exact hz_alloc (heap_alloc_new v2 _))
   have HF2:=Lib.hid (show Y2.heap[v2.heap.size+1]?=some (.cells #[.int .i64 x,.int .i64 y] 26 (0,0)) by rw [hY2];have:=heap_alloc_new (v2.alloc (.cells #[.int .i64 d2.kind,.slice d2.sA d2.sn d2.sc,.slice d2.kA d2.kn d2.kc,.int .i64 d2.num,.int .i64 d2.least,.int .i64 d2.most,.int .i64 d2.way,.bool d2.fold,.int .i64 0,.slice A2 0 c2] 45)) (.cells #[.int .i64 x,.int .i64 y] 26);simpa using this)
   rw [← hY2]
   have HS2_:=Lib.hid (HC2.out.trans (hB2.mono HC2.out.size))
   have HB2_:=Lib.hid (HB1_.out.trans (HS2_.out.mono HB1_.out.size))
   have HN2:=Lib.hid (node_next HN2.out hB2)
   have HN1:=Lib.hid (node_next HN1.out HS2_.out)
   have HP1:=Lib.hid (row_next HP1.out HS2_.out)
   have HF1:=Lib.hid (row_next HF1.out HS2_.out)
   clear hY2 hB2
   go_upto_region 11 with (go_at_call 22;(with_reducible refine (C22.out 3 (by omega) Y2 HB2_.out).mono ?_);rintro e v3 ⟨d3,A3,c3,rfl,hnd,hb⟩;have HN3:=hnd;have HC3:=Lib.hid hb;clear hnd hb)
   obtain ⟨Y3,hY3⟩:∃ Y,Y=(v3.alloc (.cells #[.int .i64 d3.kind,.slice d3.sA d3.sn d3.sc,.slice d3.kA d3.kn d3.kc,.int .i64 d3.num,.int .i64 d3.least,.int .i64 d3.most,.int .i64 d3.way,.bool d3.fold,.int .i64 0,.slice A3 0 c3] 45)).alloc (.cells #[.int .i64 x,.int .i64 y] 26):=⟨_,rfl⟩
   have hB3:Below v3.heap.size v3 Y3:=by rw [hY3];exact ((Below.refl _ _).alloc (Nat.le_refl _) _).alloc (by simp) _
   have HP3:=Lib.hid (show Y3.heap[v3.heap.size]?=some (.cells #[.int .i64 d3.kind,.slice d3.sA d3.sn d3.sc,.slice d3.kA d3.kn d3.kc,.int .i64 d3.num,.int .i64 d3.least,.int .i64 d3.most,.int .i64 d3.way,.bool d3.fold,.int .i64 0,.slice A3 0 c3] 45 (0,0)) by rw [hY3];exact hz_alloc (heap_alloc_new v3 _))
   have HF3:=Lib.hid (show Y3.heap[v3.heap.size+1]?=some (.cells #[.int .i64 x,.int .i64 y] 26 (0,0)) by rw [hY3];have:=heap_alloc_new (v3.alloc (.cells #[.int .i64 d3.kind,.slice d3.sA d3.sn d3.sc,.slice d3.kA d3.kn d3.kc,.int .i64 d3.num,.int .i64 d3.least,.int .i64 d3.most,.int .i64 d3.way,.bool d3.fold,.int .i64 0,.slice A3 0 c3] 45)) (.cells #[.int .i64 x,.int .i64 y] 26);simpa using this)
   rw [← hY3]
   have HS3_:=Lib.hid (HC3.out.trans (hB3.mono HC3.out.size))
   have HB3_:=Lib.hid (HB2_.out.trans (HS3_.out.mono HB2_.out.size))
   have HN3:=Lib.hid (node_next HN3.out hB3)
   have HN1:=Lib.hid (node_next HN1.out HS3_.out)
   have HP1:=Lib.hid (row_next HP1.out HS3_.out)
   have HF1:=Lib.hid (row_next HF1.out HS3_.out)
   have HN2:=Lib.hid (node_next HN2.out HS3_.out)
   have HP2:=Lib.hid (row_next HP2.out HS3_.out)
   have HF2:=Lib.hid (row_next HF2.out HS3_.out)
   clear hY3 hB3
   have HBF:=Lib.hid (HB.out.trans (HB3_.out.mono HB.out.size))
   have C25a:=Lib.hid (same25 tr 0 [] d1 d2 A1 A2 0 c1 c2 Y3 HN1.out HN2.out (by unfold maxLen;omega) (nil_rd _ _) (nil_rd _ _))
   have C25b:=Lib.hid (fun (W:World) (hb:Below Y3.heap.size Y3 W)=>same25 tr 0 [] d2 d3 A2 A3 0 c2 c3 W (node_next HN2.out hb) (node_next HN3.out hb) (by unfold maxLen;omega) (nil_rd _ _) (nil_rd _ _))
   unfold patV at C25a C25b
   obtain ⟨p10,p11,p12,p13,p14,p15,p16,p17,p18,p19⟩:=cells10 HP1.out
   have f10:=cell_of_row _ _ 0 _ _ _ HF1.out
   have f11:=cell_of_row _ _ 1 _ _ _ HF1.out
   obtain ⟨p20,p21,p22,p23,p24,p25,p26,p27,p28,p29⟩:=cells10 HP2.out
   have f20:=cell_of_row _ _ 0 _ _ _ HF2.out
   have f21:=cell_of_row _ _ 1 _ _ _ HF2.out
   obtain ⟨p30,p31,p32,p33,p34,p35,p36,p37,p38,p39⟩:=cells10 HP3.out
   have f30:=cell_of_row _ _ 0 _ _ _ HF3.out
   have f31:=cell_of_row _ _ 1 _ _ _ HF3.out
   simp only [List.getElem?_toArray,List.getElem?_cons_zero,List.getElem?_cons_succ] at f10 f11 f20 f21 f30 f31
   go_wp2_with (first
    | (go_at_call 25;(with_reducible refine C25a.out.mono ?_);rintro e w4 ⟨rfl,hb⟩;obtain ⟨q20,q21,q22,q23,q24,q25,q26,q27,q28,q29⟩:=cells10 (row_next HP2.out hb);obtain ⟨q30,q31,q32,q33,q34,q35,q36,q37,q38,q39⟩:=cells10 (row_next HP3.out hb);have HB4:=Lib.hid hb;clear hb)
    | (go_at_call 25;(with_reducible refine (C25b.out _ HB4.out).mono ?_);rintro e w5 ⟨rfl,hb⟩;have HB5:=Lib.hid hb;clear hb))
   go_ret
   exact ⟨ret_bool (by simp),HBF.out.trans ((HB4.out.trans (HB5.out.mono HB4.out.size)).mono HBF.out.size)⟩
end Go.Proofs.YtbiahhojnjchnaaGreat
