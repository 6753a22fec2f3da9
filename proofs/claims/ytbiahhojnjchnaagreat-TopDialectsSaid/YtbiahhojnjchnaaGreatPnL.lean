/-
  The parser's atoms: points and what stands open: walked.
-/
import Derived.Test.YtbiahhojnjchnaaGreatPnK
set_option linter.unusedVariables false
set_option linter.unusedSimpArgs false
namespace Go.Proofs.YtbiahhojnjchnaaGreat
open Go.RowKit
/-- a set's row, folded if asked -/
def setN (canL:(Int→Prop)→List (Int × Int)) (FQ:(Int→Prop)→Int→Prop) (fo:Bool) (L:List (Int × Int)):List (Int × Int):=if fo=true then canL (FQ (mem L)) else L
/-- of a row of the call's own -/
theorem points130_own {M:Nat→Bool} {s:List (Int × Int)} {A:Option Addr} {base n c:Nat} {w:World} (h:w.ownsRow base 67 2 (.slice A n c) n (rngs s)) (hM:∀ k,M k=true→k < base):Calls Tryz.prog 130 #[.slice A n c] w fun e w'=>NOutT M (setT s) e w'∧Below w.heap.size w w':=by
 obtain ⟨A',c',e,h1,h2⟩:=own_slice h
 obtain ⟨A2,c2,e2,hr⟩:=Rds.own_cover (M:=M) h (fun g hg=>by
  cases e:M g
  ·rfl
  ·have h1:=hM g e;have h2:=(World.ownsRow.lt h g hg).1;omega)
 injection e with _ _ e3
 injection e2 with e4 _ _
 subst e4
 exact points130 (by omega) (by omega) hr
def FoldC (FQ:(Int→Prop)→Int→Prop):Prop:=∀ (a:List (Int × Int)) (A:Option Addr) (n c:Nat) (w:World),n≤14000→c≤maxLen→Can a→Rds w w.heap.size 2 A n (rngs a)→Calls Tryz.prog 38 #[.slice A n c] w fun e w'=>∃ out,IsSet out (FQ (mem a))∧OwnRngs w out e w'
set_option maxRecDepth 100000 in
set_option maxHeartbeats 4000000 in
theorem set129 {b n c:Nat} {d:Int} {A:Option Addr} {l:List Int} {s:PS} {V1 V2:Value} {w:World} {M:Nat→Bool} {canL:(Int→Prop)→List (Int × Int)} {FQ:(Int→Prop)→Int→Prop} (HC:Hid (∀ f out,IsSet out f→canL f=out)) (HF:Hid (s.fold=true→FoldC FQ)) (h:PsAt b n c d A l s V1 V2 w)
  {L:List (Int × Int)} {A1:Option Addr} {n1 c1:Nat} (hn1:n1≤14000) (hnc:n1≤c1) (hc1:c1≤maxLen) (hL:Can L) (hM:∀ k,M k=true→k < w.heap.size) (ha:Rds (mask M w) w.heap.size 2 A1 n1 (rngs L)) :
  Calls Tryz.prog 129 #[.pointer (some ⟨b,0,none⟩),.slice A1 n1 c1] w fun e w'=>NOutT M (setT (setN canL FQ s.fold L)) e w'∧Below w.heap.size w w':=by
 obtain ⟨W,hW⟩:∃ X,X=w.alloc (.cells #[.int .i64 0,.slice none 0 0,.slice none 0 0,.int .i64 0,.int .i64 0,.int .i64 0,.int .i64 0,.bool false] 42):=⟨_,rfl⟩
 have hB:Below w.heap.size w W:=by rw [hW];exact (Below.refl _ _).alloc (Nat.le_refl _) _
 have HB:=Lib.hid hB
 have HZ:=Lib.hid (show W.heap[w.heap.size]?=some Z42 by rw [hW];exact z42_new)
 have HR:=Lib.hid (ha.mv (M':=fun k=>M k || k == w.heap.size) (by decide) (Mvd.of_below hB fun k hk h=>by simp only [Bool.or_eq_true,beq_iff_eq] at h;exact h.resolve_right (by omega)))
 have HMM:=Lib.hid hM
 have hlt:=h.lt
 obtain ⟨p0,p1,p2,p3,p4,p5,p6,p7,pf⟩:=(h.next hB).cells
 have CF:=Lib.hid (fun e=>HF.out e L A1 n1 c1 W hn1 hc1 hL (HR.out.bare))
 obtain ⟨fo,hfo⟩:∃ fo,fo=s.fold:=⟨_,rfl⟩
 rw [← hfo] at p3 CF ⊢
 have hlc:=Lib.hid hL
 clear h ha hB hM hfo hL
 go_enter Tryz.func129,Tryz.ntmps129
 go_upto_region 1 with (fail)
 rw [← hW]
 clear hW
 cases fo with
 | false =>
  go_wp2_with (first
   | (go_at_call 130;(with_reducible refine (points130 (M:=fun k=>M k || k == w.heap.size) hnc hc1 HR.out).mono ?_);rintro e w2 ⟨⟨dd,he,hnd⟩,hb2⟩;obtain rfl:=(show e=.returned (.agg #[.int .i64 dd.kind,.slice dd.sA dd.sn dd.sc,.slice dd.kA dd.kn dd.kc,.int .i64 dd.num,.int .i64 dd.least,.int .i64 dd.most,.int .i64 dd.way,.bool dd.fold]) from he);have HND:=Lib.hid hnd;have HB2:=Lib.hid hb2;have HZ2:=Lib.hid (row_next HZ.out hb2);clear he hnd hb2)
   | ((with_reducible apply store42 (g:=w.heap.size));rfl;(with_reducible rfl);rfl;rfl;(exact HZ2.out);rfl;rfl))
  (try simp only [Exit.inBlock,Exit.then])
  refine bodyPost_ret (v:=_) (results42 Tryz.results129 _ _ w.heap.size _ ?_ (row42 HZ2.out) ?_) rfl ?_
  ·rfl
  ·rfl
  ·refine ⟨⟨dd,rfl,?_⟩,Below.setRow (HB.out.trans (HB2.out.mono HB.out.size)) (Nat.le_refl _) _⟩
   exact HND.out.mv (mvd_store _ (by simp) fun k _ hk=>by simp [hk])
 | true =>
  have HMB:=Lib.hid (show ∀ k,(fun k=>M k || k == w.heap.size) k=true→k < W.heap.size by
   intro k hk
   simp only [Bool.or_eq_true,beq_iff_eq] at hk
   have:=lt_heap HZ.out
   rcases hk with hk|hk
   ·have:=HMM.out k hk;omega
   ·omega)
  go_wp2_with (first
   | (go_at_call 38;(with_reducible refine (CF.out rfl).mono ?_);rintro e w2 ⟨out,hset,A2,n2,c2,rfl,hown,hb2⟩;have HSET:=Lib.hid hset;have HO2:=Lib.hid hown;have HB2:=Lib.hid hb2;have HZ2:=Lib.hid (row_next HZ.out hb2);clear hset hown hb2)
   | (go_at_call 130;(with_reducible refine (points130_own HO2.out (M:=fun k=>M k || k == w.heap.size) HMB.out).mono ?_);rintro e w3 ⟨⟨dd,he,hnd⟩,hb3⟩;obtain rfl:=(show e=.returned (.agg #[.int .i64 dd.kind,.slice dd.sA dd.sn dd.sc,.slice dd.kA dd.kn dd.kc,.int .i64 dd.num,.int .i64 dd.least,.int .i64 dd.most,.int .i64 dd.way,.bool dd.fold]) from he);have HND:=Lib.hid hnd;have HB3:=Lib.hid hb3;have HZ3:=Lib.hid (row_next HZ2.out hb3);clear he hnd hb3)
   | ((with_reducible apply store42 (g:=w.heap.size));rfl;(with_reducible rfl);rfl;rfl;(exact HZ3.out);rfl;rfl))
  (try simp only [Exit.inBlock,Exit.then])
  refine bodyPost_ret (v:=_) (results42 Tryz.results129 _ _ w.heap.size _ ?_ (row42 HZ3.out) ?_) rfl ?_
  ·rfl
  ·rfl
  ·refine ⟨⟨dd,rfl,?_⟩,Below.setRow (HB.out.trans ((HB2.out.trans (HB3.out.mono HB2.out.size)).mono HB.out.size)) (Nat.le_refl _) _⟩
   have hc:=HC.out _ _ HSET.out
   rw [setN,if_pos rfl,hc]
   exact HND.out.mv (mvd_store _ (by simp) fun k _ hk=>by simp [hk])
structure At2 (b n c:Nat) (d:Int) (A:Option Addr) (l:List Int) (s:PS) (U1 U2 V1 V2:Value) (w:World) (t:Tk) (X:World):Prop where
 ps:PsAt b n c d A l s U1 U2 X
 mv:Mvd (pm b V1 V2) (pm b U1 U2) w X
 no:∀ k,w.heap.size≤k→k < w.heap.size+2→pm b U1 U2 k=false
 r0:X.heap[w.heap.size]?=some (tokO t)
 r1:X.heap[w.heap.size+1]?=some Z42
 hb:b < w.heap.size
section
variable {b n c:Nat} {d:Int} {A:Option Addr} {l:List Int} {s s':PS} {U1 U2 V1 V2 Q1 Q2:Value} {w X Y:World} {t:Tk}
theorem At2.size (h:At2 b n c d A l s U1 U2 V1 V2 w t X):w.heap.size+2≤X.heap.size:=lt_heap h.r1
theorem At2.next (h:At2 b n c d A l s U1 U2 V1 V2 w t X) (hb:Below X.heap.size X Y):At2 b n c d A l s U1 U2 V1 V2 w t Y :=
 ⟨h.ps.next hb,h.mv.trans (Mvd.below hb),h.no,row_next h.r0 hb,row_next h.r1 hb,h.hb⟩
theorem At2.set (h:At2 b n c d A l s U1 U2 V1 V2 w t X) {j:Nat} {v:Value}
  (hv:(#[.int .i64 d,.slice A n c,.int .i64 s.at_,.bool s.fold,.int .i64 s.deep,.int .i64 s.groups,U1,U2]:Array Value).setIfInBounds j v=#[.int .i64 d,.slice A n c,.int .i64 s'.at_,.bool s'.fold,.int .i64 s'.deep,.int .i64 s'.groups,U1,U2])
  (hn:s'.names=s.names) (ha:s'.ags=s.ags) (h0:0≤s'.at_∧s'.at_≤n) (hd:0≤s'.deep∧s'.deep≤20) (hg:0≤s'.groups∧s'.groups≤20):At2 b n c d A l s' U1 U2 V1 V2 w t (X.setCell ⟨b,j,none⟩ v):=by
 have hk:Kept b X (X.setCell ⟨b,j,none⟩ v):=(Kept.refl b X).set j v
 have hbw:=h.hb
 exact ⟨h.ps.set hv hn ha h0 hd hg,h.mv.trans (Mvd.kept hk (pm_b _ _ _)),h.no,hz_set (p:=⟨b,j,none⟩) h.r0 (by simp only;omega),hz_set (p:=⟨b,j,none⟩) h.r1 (by simp only;omega),h.hb⟩
theorem At2.call (h:At2 b n c d A l s U1 U2 V1 V2 w t X) (hp:PsAt b n c d A l s' Q1 Q2 Y) (hm:Mvd (pm b U1 U2) (pm b Q1 Q2) X Y):At2 b n c d A l s' Q1 Q2 V1 V2 w t Y:=by
 have hsz:=h.size
 have hk:∀ k,w.heap.size≤k→k < w.heap.size+2→Y.heap[k]?=X.heap[k]?:=fun k h1 h2=>hm.keep k (by omega) (h.no k h1 h2)
 refine ⟨hp,h.mv.trans hm,fun k h1 h2=>?_,(hk _ (by omega) (by omega)).trans h.r0,(hk _ (by omega) (by omega)).trans h.r1,h.hb⟩
 cases e:pm b Q1 Q2 k
 ·rfl
 ·rw [← h.no k h1 h2];exact (hm.sub k (by omega) e).symm
theorem At2.fin (h:At2 b n c d A l s U1 U2 V1 V2 w t X) (cs:Array Value) {tr:Tr} {dd:ND} (hnd:Nd (fun k=>pm b U1 U2 k || decide (k < w.heap.size+2)) X tr dd) :
  Nd (fun k=>pm b U1 U2 k || decide (k < w.heap.size)) (X.setRow (w.heap.size+1) cs) tr dd∧PsAt b n c d A l s U1 U2 (X.setRow (w.heap.size+1) cs)∧Mvd (pm b V1 V2) (pm b U1 U2) w (X.setRow (w.heap.size+1) cs):=by
 have hno:=pm_no (h.no (w.heap.size+1) (by omega) (by omega))
 have hbw:=h.hb
 refine ⟨hnd.mv (mvd_store cs (by simp) fun k _ hk=>?_),h.ps.mvd (F:=fun i=>i == w.heap.size+1) (F':=fun i=>i == w.heap.size+1) (mvd_store cs (by simp) fun _ _ h=>h) fun i _ hi=>?_,h.mv.over (F:=fun i=>i == w.heap.size+1) (F':=fun i=>i == w.heap.size+1) (mvd_store cs (by simp) fun _ _ h=>h) fun i hi=>by simp;omega⟩
 ·simp only [Bool.or_eq_true,decide_eq_true_eq] at hk ⊢
  rcases hk with hk|hk
  ·exact .inl hk
  ·exact .inr (by omega)
 ·have hi:i=w.heap.size+1:=by simpa using hi
  subst hi
  exact ⟨hno.1,by omega,hno.2.1,hno.2.2⟩
end
set_option maxRecDepth 100000 in
set_option maxHeartbeats 8000000 in
theorem atom_point {b n c:Nat} {d:Int} {A:Option Addr} {l:List Int} {s:PS} {V1 V2:Value} {w:World} {t:Tk} {nx:Int} {canL:(Int→Prop)→List (Int × Int)} {FQ:(Int→Prop)→Int→Prop} (HC:Hid (∀ f out,IsSet out f→canL f=out)) (HF:Hid (s.fold=true→FoldC FQ)) (hk:t.kind=1) (hp:0≤t.num∧t.num≤1114111) (hnx:0≤nx∧nx≤n) (h:PsAt b n c d A l s V1 V2 w) :
  Calls Tryz.prog 112 #[.pointer (some ⟨b,0,none⟩),.agg #[.int .i64 t.kind,.int .i64 t.num,.string ⟨t.text.toArray⟩,.bool t.not_,.int .i64 t.least,.int .i64 t.most,.int .i64 t.way,.int .i64 t.fold],.int .i64 nx] w (POut b n c d A l (pm b V1 V2) w (.ok (setT (setN canL FQ s.fold [(t.num,t.num)]),{ s with at_:=nx }))):=by
 have e1:(t.kind == 1)=true:=by simpa using hk
 have hcan:Can [(t.num,t.num)]:=⟨fun r hr=>by rw [List.mem_singleton.1 hr];exact (okR_iff _).2 ⟨hp.1,Int.le_refl _,hp.2⟩,by simp⟩
 have HCAN:=Lib.hid hcan
 clear hcan hk hp
 have hlt:=h.lt
 have HPM:=Lib.hid (fun k hk=>pm_lt (k:=k) h hk)
 obtain ⟨W1,hW1⟩:∃ X,X=(w.alloc (.cells #[.int .i64 t.kind,.int .i64 t.num,.string ⟨t.text.toArray⟩,.bool t.not_,.int .i64 t.least,.int .i64 t.most,.int .i64 t.way,.int .i64 t.fold] 108)).alloc (.cells #[.int .i64 0,.slice none 0 0,.slice none 0 0,.int .i64 0,.int .i64 0,.int .i64 0,.int .i64 0,.bool false] 42):=⟨_,rfl⟩
 have hB1:Below w.heap.size w W1:=by rw [hW1];exact ((Below.refl _ _).alloc (Nat.le_refl _) _).alloc (by simp) _
 have hr0:W1.heap[w.heap.size]?=some (tokO t):=by rw [hW1];exact hz_alloc (heap_alloc_new w _)
 have hr1:W1.heap[w.heap.size+1]?=some Z42:=by rw [hW1];have:=z42_new (w:=w.alloc (.cells #[.int .i64 t.kind,.int .i64 t.num,.string ⟨t.text.toArray⟩,.bool t.not_,.int .i64 t.least,.int .i64 t.most,.int .i64 t.way,.int .i64 t.fold] 108));simpa using this
 have HO:=Lib.hid (show At2 b n c d A l s V1 V2 V1 V2 w t W1 from ⟨h.next hB1,Mvd.of_below (M:=pm b V1 V2) (M':=pm b V1 V2) hB1 (fun _ _ h=>h),fun k h1 _=>pm_none HPM.out h1,hr0,hr1,hlt⟩)
 clear h hB1 hr0 hr1
 obtain ⟨p0,p1,p2,p3,p4,p5,p6,p7,pf⟩:=HO.out.ps.cells
 go_enter Tryz.func112,Tryz.ntmps112
 go_upto_region 1 with (fail)
 rw [← hW1]
 clear hW1
 go_upto_region 3 with (fail)
 have HO:=Lib.hid (show At2 b n c d A l { s with at_:=nx } V1 V2 V1 V2 w t (W1.setCell ⟨b,2,none⟩ (.int .i64 nx)) from HO.out.set (j:=2) rfl rfl rfl hnx HO.out.ps.dp HO.out.ps.gr)
 obtain ⟨X,hX⟩:∃ X,X=W1.setCell ⟨b,2,none⟩ (.int .i64 nx):=⟨_,rfl⟩
 rw [← hX] at HO ⊢
 clear hX p0 p1 p2 p3 p4 p5 p6 p7 pf
 obtain ⟨t0,t1,t2,t3,t4,t5,t6,t7⟩:=cells8 HO.out.r0
 have hbY:Below X.heap.size X (X.alloc (.cells #[.int .i64 t.num,.int .i64 t.num] 67)):=(Below.refl _ _).alloc (Nat.le_refl _) _
 have HOY:=Lib.hid (HO.out.next hbY)
 have HR:=Lib.hid (show Rds (mask (fun k=>pm b V1 V2 k || decide (k < w.heap.size+2)) (X.alloc (.cells #[.int .i64 t.num,.int .i64 t.num] 67))) (X.alloc (.cells #[.int .i64 t.num,.int .i64 t.num] 67)).heap.size 2 (some ⟨X.heap.size,0,none⟩) 1 (rngs [(t.num,t.num)]) from by
  refine ⟨rfl,fun _=>⟨X.heap.size,0,rfl,by simp,fun j u hu=>mask_of ?_ ?_⟩⟩
  ·have h1:=pm_none (V1:=V1) (V2:=V2) (fun k hk=>pm_lt HO.out.ps hk) (Nat.le_refl X.heap.size)
   have h2:=HO.out.size
   simp [h1];omega
  ·rw [Nat.zero_add,cell_of_row _ _ j _ _ _ (heap_alloc_new X _)]
   have hl:(rngs [(t.num,t.num)])[j]?=(#[.int .i64 t.num,.int .i64 t.num]:Array Value)[j]?:=by
    rw [← Array.getElem?_toList];rfl
   rw [← hl];exact hu)
 have CS:=Lib.hid (set129 (s:={ s with at_:=nx }) (M:=fun k=>pm b V1 V2 k || decide (k < w.heap.size+2)) HC HF HOY.out.ps (c1:=1) (by omega) (Nat.le_refl _) (show 1≤maxLen by unfold maxLen;omega) HCAN.out (fun k hk=>by
  simp only [Bool.or_eq_true,decide_eq_true_eq] at hk
  rcases hk with hk|hk
  ·exact pm_lt HOY.out.ps hk
  ·exact Nat.lt_of_lt_of_le hk HOY.out.size) HR.out)
 clear hbY
 go_wp2_with (first
  | (go_at_call 129;(with_reducible refine CS.out.mono ?_);rintro e w3 ⟨⟨dd,he,hnd⟩,hb3⟩;obtain rfl:=(show e=.returned (.agg #[.int .i64 dd.kind,.slice dd.sA dd.sn dd.sc,.slice dd.kA dd.kn dd.kc,.int .i64 dd.num,.int .i64 dd.least,.int .i64 dd.most,.int .i64 dd.way,.bool dd.fold]) from he);have HND:=Lib.hid hnd;have HO3:=Lib.hid (HOY.out.next hb3);clear he hnd hb3)
  | ((with_reducible apply store42 (g:=w.heap.size+1));rfl;(with_reducible rfl);rfl;rfl;(exact HO3.out.r1);rfl;rfl))
 (try simp only [Exit.inBlock,Exit.then])
 refine bodyPost_ret (v:=_) (results42 Tryz.results112 _ _ (w.heap.size+1) _ ?_ (row42 HO3.out.r1) ?_) rfl ?_
 ·rfl
 ·rfl
 ·obtain ⟨k1,k2,k3⟩:=HO3.out.fin #[.int .i64 dd.kind,.slice dd.sA dd.sn dd.sc,.slice dd.kA dd.kn dd.kc,.int .i64 dd.num,.int .i64 dd.least,.int .i64 dd.most,.int .i64 dd.way,.bool dd.fold] HND.out
  exact ⟨dd,V1,V2,rfl,k1,k2,k3⟩
set_option maxRecDepth 100000 in
set_option maxHeartbeats 8000000 in
theorem atom_open {b n c:Nat} {d:Int} {A:Option Addr} {l:List Int} {s:PS} {V1 V2:Value} {w:World} {t:Tk} {nx:Int} {opn:FR (Tr × PS)} (hk:t.kind=7) (hnx:0≤nx∧nx≤n) (h:PsAt b n c d A l s V1 V2 w)
  (HOP:Hid (∀ X,PsAt b n c d A l { s with at_:=nx } V1 V2 X→Calls Tryz.prog 132 #[.pointer (some ⟨b,0,none⟩),.agg #[.int .i64 t.kind,.int .i64 t.num,.string ⟨t.text.toArray⟩,.bool t.not_,.int .i64 t.least,.int .i64 t.most,.int .i64 t.way,.int .i64 t.fold],.int .i64 s.at_] X (POut b n c d A l (pm b V1 V2) X opn))) :
  Calls Tryz.prog 112 #[.pointer (some ⟨b,0,none⟩),.agg #[.int .i64 t.kind,.int .i64 t.num,.string ⟨t.text.toArray⟩,.bool t.not_,.int .i64 t.least,.int .i64 t.most,.int .i64 t.way,.int .i64 t.fold],.int .i64 nx] w (POut b n c d A l (pm b V1 V2) w opn):=by
 have HK:=Lib.hid hk
 have e7:(t.kind == 7)=true:=by simpa using hk
 have e1:(t.kind == 1)=false:=by rw [hk];rfl
 have e2:(t.kind == 2)=false:=by rw [hk];rfl
 have e3:(t.kind == 3)=false:=by rw [hk];rfl
 have e4:(t.kind == 4)=false:=by rw [hk];rfl
 have e5:(t.kind == 5)=false:=by rw [hk];rfl
 have e11:(t.kind == 11)=false:=by rw [hk];rfl
 have e10:(t.kind == 10)=false:=by rw [hk];rfl
 clear hk
 have hlt:=h.lt
 have HPM:=Lib.hid (fun k hk=>pm_lt (k:=k) h hk)
 obtain ⟨W1,hW1⟩:∃ X,X=(w.alloc (.cells #[.int .i64 t.kind,.int .i64 t.num,.string ⟨t.text.toArray⟩,.bool t.not_,.int .i64 t.least,.int .i64 t.most,.int .i64 t.way,.int .i64 t.fold] 108)).alloc (.cells #[.int .i64 0,.slice none 0 0,.slice none 0 0,.int .i64 0,.int .i64 0,.int .i64 0,.int .i64 0,.bool false] 42):=⟨_,rfl⟩
 have hB1:Below w.heap.size w W1:=by rw [hW1];exact ((Below.refl _ _).alloc (Nat.le_refl _) _).alloc (by simp) _
 have hr0:W1.heap[w.heap.size]?=some (tokO t):=by rw [hW1];exact hz_alloc (heap_alloc_new w _)
 have hr1:W1.heap[w.heap.size+1]?=some Z42:=by rw [hW1];have:=z42_new (w:=w.alloc (.cells #[.int .i64 t.kind,.int .i64 t.num,.string ⟨t.text.toArray⟩,.bool t.not_,.int .i64 t.least,.int .i64 t.most,.int .i64 t.way,.int .i64 t.fold] 108));simpa using this
 have HO:=Lib.hid (show At2 b n c d A l s V1 V2 V1 V2 w t W1 from ⟨h.next hB1,Mvd.of_below (M:=pm b V1 V2) (M':=pm b V1 V2) hB1 (fun _ _ h=>h),fun k h1 _=>pm_none HPM.out h1,hr0,hr1,hlt⟩)
 clear h hB1 hr0 hr1
 obtain ⟨p0,p1,p2,p3,p4,p5,p6,p7,pf⟩:=HO.out.ps.cells
 go_enter Tryz.func112,Tryz.ntmps112
 go_upto_region 1 with (fail)
 rw [← hW1]
 clear hW1
 go_upto_region 3 with (fail)
 have HO:=Lib.hid (show At2 b n c d A l { s with at_:=nx } V1 V2 V1 V2 w t (W1.setCell ⟨b,2,none⟩ (.int .i64 nx)) from HO.out.set (j:=2) rfl rfl rfl hnx HO.out.ps.dp HO.out.ps.gr)
 obtain ⟨X,hX⟩:∃ X,X=W1.setCell ⟨b,2,none⟩ (.int .i64 nx):=⟨_,rfl⟩
 rw [← hX] at HO ⊢
 clear hX p0 p1 p2 p3 p4 p5 p6 p7 pf
 obtain ⟨t0,t1,t2,t3,t4,t5,t6,t7⟩:=cells8 HO.out.r0
 have CO:=Lib.hid (HOP.out X HO.out.ps)
 cases opn with
 | error q =>
  go_wp2_with (go_at_call 132;(with_reducible refine CO.out.mono ?_);rintro e w3 ⟨he,hbad⟩;obtain rfl:=(show e=.panicked (faultV q.1 q.2) from he);have HBAD:=Lib.hid hbad;clear he hbad)
  exact ⟨rfl,rfl,PBad.of HO.out.mv HBAD.out⟩
 | ok p =>
  obtain ⟨tr,s3⟩:=p
  go_wp2_with (first
   | (go_at_call 132;(with_reducible refine CO.out.mono ?_);rintro e w3 ⟨dd,Q1,Q2,he,hnd,hps,hmv⟩;obtain rfl:=(show e=.returned (.agg #[.int .i64 dd.kind,.slice dd.sA dd.sn dd.sc,.slice dd.kA dd.kn dd.kc,.int .i64 dd.num,.int .i64 dd.least,.int .i64 dd.most,.int .i64 dd.way,.bool dd.fold]) from he);have HND:=Lib.hid hnd;have HO3:=Lib.hid (HO.out.call hps hmv);clear he hnd hps hmv)
   | ((with_reducible apply store42 (g:=w.heap.size+1));rfl;(with_reducible rfl);rfl;rfl;(exact HO3.out.r1);rfl;rfl))
  (try simp only [Exit.inBlock,Exit.then])
  refine bodyPost_ret (v:=_) (results42 Tryz.results112 _ _ (w.heap.size+1) _ ?_ (row42 HO3.out.r1) ?_) rfl ?_
  ·rfl
  ·rfl
  ·have hx:=HO.out.size
   obtain ⟨k1,k2,k3⟩:=HO3.out.fin #[.int .i64 dd.kind,.slice dd.sA dd.sn dd.sc,.slice dd.kA dd.kn dd.kc,.int .i64 dd.num,.int .i64 dd.least,.int .i64 dd.most,.int .i64 dd.way,.bool dd.fold] (HND.out.mv (Mvd.less w3 fun k _ hk=>by
    simp only [Bool.or_eq_true,decide_eq_true_eq] at hk ⊢
    rcases hk with hk|hk
    ·exact .inl hk
    ·exact .inr (by omega)))
   exact ⟨dd,Q1,Q2,rfl,k1,k2,k3⟩
end Go.Proofs.YtbiahhojnjchnaaGreat
