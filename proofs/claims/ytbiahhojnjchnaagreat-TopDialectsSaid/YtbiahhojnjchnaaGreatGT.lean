/-
  Within a function that reads a token: the reader's state beside a result that is still zero; behind x or u: walked. Behind k: walked. Behind a backslash: walked, in short. (Printed by genEsc.py.) A token: walked.
-/
import Derived.Test.YtbiahhojnjchnaaGreatGQ
import Derived.Test.YtbiahhojnjchnaaGreatGR
import Derived.Deep.CutBlock
set_option linter.unusedVariables false
set_option linter.unusedSimpArgs false
namespace Go.Proofs.YtbiahhojnjchnaaGreat
open Go.RowKit
structure Zt (b n c:Nat) (d:Int) (A:Option Addr) (l:List Int) (w0:World) (at_:Int) (w:World):Prop where
 st:St b n c d A l at_ w
 kp:Kept b w0 w
 z:w.heap[w0.heap.size]?=some Z24
 lt:b < w0.heap.size
section
variable {b n c:Nat} {d at_ x:Int} {A:Option Addr} {l:List Int} {w0 w w':World}
theorem Zt.start (h:St b n c d A l at_ w):Zt b n c d A l w at_ (w.alloc (.cells #[.int .i64 0,.int .i64 0,.string ⟨#[]⟩,.bool false,.int .i64 0,.int .i64 0,.int .i64 0,.int .i64 0] 108)) :=
 ⟨h.alloc _,(Kept.refl _ _).alloc _,hz_new,h.lt⟩
theorem Zt.by (h:Zt b n c d A l w0 at_ w) (hs:St b n c d A l x w') (hk:Kept b w w'):Zt b n c d A l w0 x w' :=
 ⟨hs,h.kp.trans hk,(hk.block _ (lt_heap h.z) (Nat.ne_of_gt h.lt)).trans h.z,h.lt⟩
theorem Zt.next (h:Zt b n c d A l w0 at_ w) (hb:Below w.heap.size w w'):Zt b n c d A l w0 at_ w':=h.by (h.st.next hb) (Kept.of hb)
theorem Zt.move (h:Zt b n c d A l w0 at_ w) (h0:0≤x) (h1:x≤n):Zt b n c d A l w0 x (w.setCell ⟨b,2,none⟩ (.int .i64 x)):=h.by (h.st.move h0 h1) ((Kept.refl _ _).set 2 _)
theorem Zt.done (h:Zt b n c d A l w0 at_ w) (t:Tk):TOut b n c d A l (.ok (t,at_)) (.returned t.agg) (w.setRow w0.heap.size #[.int .i64 t.kind,.int .i64 t.num,.string ⟨t.text.toArray⟩,.bool t.not_,.int .i64 t.least,.int .i64 t.most,.int .i64 t.way,.int .i64 t.fold])∧Kept b w0 (w.setRow w0.heap.size #[.int .i64 t.kind,.int .i64 t.num,.string ⟨t.text.toArray⟩,.bool t.not_,.int .i64 t.least,.int .i64 t.most,.int .i64 t.way,.int .i64 t.fold]) :=
 ⟨⟨rfl,h.st.setRow h.lt _⟩,h.kp.setRow (Nat.le_refl _) _⟩
end
/-- a row of points in memory -/
structure Row (w:World) (b:Nat) (l:List Int) (v:Value):Prop where
 is:∃ A' c',v=.slice A' l.length c'∧Rds w b 1 A' l.length (ints l)
theorem Row.of {w:World} {b k c':Nat} {A':Option Addr} {l:List Int} (hl:l.length=k) (h:Rds w b 1 A' k (ints l)):Row w b l (.slice A' k c'):=by
 subst hl;exact ⟨A',c',rfl,h⟩
theorem Row.kept {w w':World} {b:Nat} {l:List Int} {v:Value} (h:Row w b l v) (hk:Kept b w w') (hb:b < w.heap.size):Row w' b l v:=by
 obtain ⟨A',c',e,hr⟩:=h.is
 exact ⟨A',c',e,hr.kept hk (Nat.le_refl _) (Nat.le_of_lt hb)⟩
theorem Row.back {w w':World} {b:Nat} {l:List Int} {v:Value} (h:Row w' b l v) (hk:Kept b w w') (hb:b < w.heap.size):Row w b l v:=by
 obtain ⟨A',c',e,hr⟩:=h.is
 exact ⟨A',c',e,hr.keep fun p hp=>(hk.cell (by omega) (by omega)).symm⟩
theorem number_row {w:World} {b:Nat} {l:List Int} {v:Value} (h:Row w b l v) (ha:∀ p ∈ l,isHexP p=true) (hl:l.length≤6):Calls Tryz.prog 222 #[v,.int .i64 16] w fun e w'=>e=.returned (.int .i64 (hexN l))∧w=w':=by
 obtain ⟨A',c',rfl,hr⟩:=h.is
 exact number61 l A' l.length c' w b hl ha hr
theorem decimal_row {w:World} {b:Nat} {l:List Int} {v:Value} (h:Row w b l v) (ha:∀ p ∈ l,isDig p=true) (hl:l.length≤3):Calls Tryz.prog 209 #[v] w fun e w'=>e=.returned (.int .i64 (decN l))∧w=w':=by
 obtain ⟨A',c',rfl,hr⟩:=h.is
 exact (decimal53 l A' l.length c' w b hl ha hr).mono fun _ _ ⟨e,hw⟩=>⟨e,hw.symm⟩
theorem runPts_all (f:Int→Bool) (l:List Int) (at_:Int) (m:Nat):∀ p ∈ runPts l at_ (runLen f l at_ m),f p=true:=by
 intro p hp
 obtain ⟨i,hi,rfl⟩:=List.mem_iff_getElem.1 hp
 rw [runPts_get]
 rw [runPts_length] at hi
 exact runLen_yes _ _ _ _ _ hi
theorem hexN_lt (l:List Int) (h:∀ p ∈ l,isHexP p=true) (hl:l.length≤6):0≤hexN l∧hexN l≤16777215:=by
 have h1:=hexN_small l h l.length (Nat.le_refl _)
 rw [List.take_length] at h1
 have h3:(16:Int) ^ l.length≤16777216:=by
  have:l.length=0∨l.length=1∨l.length=2∨l.length=3∨l.length=4∨l.length=5∨l.length=6:=by omega
  rcases this with h|h|h|h|h|h|h<;>rw [h]<;>decide
 omega
theorem hexN_4 (l:List Int) (h:∀ p ∈ l,isHexP p=true) (hl:l.length≤4):hexN l≤65535:=by
 have h1:=hexN_small l h l.length (Nat.le_refl _)
 rw [List.take_length] at h1
 have h3:(16:Int) ^ l.length≤65536:=by
  have:l.length=0∨l.length=1∨l.length=2∨l.length=3∨l.length=4:=by omega
  rcases this with h|h|h|h|h<;>rw [h]<;>decide
 omega
set_option maxRecDepth 100000 in
set_option maxHeartbeats 40000000 in
set_option maxRecDepth 100000 in
set_option maxHeartbeats 8000000 in
theorem scalar50 {b n c:Nat} {d at_:Int} {A:Option Addr} {l:List Int} {w:World} (p:Int) (h:St b n c d A l at_ w) :
  Calls Tryz.prog 206 #[.pointer (some ⟨b,0,none⟩),.int .i64 p] w fun e w'=>TOut b n c d A l (scalarP l at_ p) e w'∧Kept b w w':=by
 have HZ0:=Lib.hid (Zt.start h)
 have hlo:=h.lo
 have hlt:=h.lt
 obtain ⟨r,hr⟩:∃ r,r=scalarP l at_ p:=⟨_,rfl⟩
 rw [← hr]
 have HR:=Lib.hid hr
 obtain ⟨W0,hW0⟩:∃ X,X=w.alloc (.cells #[.int .i64 0,.int .i64 0,.string ⟨#[]⟩,.bool false,.int .i64 0,.int .i64 0,.int .i64 0,.int .i64 0] 108):=⟨_,rfl⟩
 rw [← hW0] at HZ0
 clear h hr
 go_enter Tryz.func206,Tryz.ntmps206
 go_upto_region 1 with (fail)
 rw [← hW0]
 clear hW0
 go_upto_block 0 with (fail)
 go_cut [5] from 7 to 24 (fun v wc=>∃ x nx,Hid (r=scalarEnd x nx)∧Hid (Row wc b x v)∧Hid (∀ q ∈ x,isHexP q=true)∧x.length≤6∧Hid (Zt b n c d A l w nx wc))
 ·by_cases hp:p=117
  ·have e1:(p == 117)=true:=by simpa using hp
   have HP:=Lib.hid (show r=if runLen isHexP l at_ 4 < 4 then .error 1 else scalarEnd (runPts l at_ (runLen isHexP l at_ 4)) (at_+runLen isHexP l at_ 4) by rw [HR.out];unfold scalarP;rw [if_pos hp])
   have hle:=runLen_le isHexP l 4 at_
   have HX:=Lib.hid (runPts_all isHexP l at_ 4)
   obtain ⟨K,hK⟩:∃ K,K=runLen isHexP l at_ 4:=⟨_,rfl⟩
   have CR:=run_st runHex 4 HZ0.out.st (by decide)
   rw [show ((4:Nat):Int)=4 from rfl] at CR
   have CR:=Lib.hid CR
   rw [← hK] at HP hle HX CR
   clear hK hp HR
   by_cases hk:K < 4
   ·have e2:(decide ((K:Int) < 4))=true:=decide_eq_true (by omega)
    have hE:r=.error 1:=by rw [HP.out,if_pos hk]
    subst hE
    go_wp2_with (first
     | (go_at_call 210;(with_reducible refine CR.out.mono ?_);rintro e w2 ⟨A',c',rfl,hs,h2,k2⟩;have HZ2:=Lib.hid (HZ0.out.by h2 k2);clear hs h2 k2)
     | (go_at_call 202;(with_reducible refine (fail46 1 _).mono ?_);rintro e w' ⟨rfl,rfl⟩))
    exact ⟨rfl,rfl,HZ2.out.kp⟩
   ·have e2:(decide ((K:Int) < 4))=false:=decide_eq_false (by omega)
    go_wp2_with (first
     | (go_at_call 210;(with_reducible refine CR.out.mono ?_);rintro e w2 ⟨A',c',rfl,hs,h2,k2⟩;have HRS:=Lib.hid hs;have HZ2:=Lib.hid (HZ0.out.by h2 k2);clear hs h2 k2))
    go_meet
    exact ⟨_,_,Lib.hid (by rw [HP.out,if_neg hk]),Lib.hid (Row.of (runPts_length l at_ K) HRS.out),HX,by rw [runPts_length];omega,HZ2⟩
  ·have e1:(p == 117)=false:=by simpa using hp
   by_cases h123:ptAt l at_=123
   ·have CM:=Lib.hid (may_yesT 123 HZ0.out.st (by omega) h123)
    have hfit:=HZ0.out.st.pt_in (by omega)
    have HP:=Lib.hid (show r=if ptAt l (at_+1+runLen isHexP l (at_+1) 6)≠125 then .error 1 else scalarEnd (runPts l (at_+1) (runLen isHexP l (at_+1) 6)) (at_+1+runLen isHexP l (at_+1) 6+1) by rw [HR.out];unfold scalarP;rw [if_neg hp,if_pos h123])
    have hle:=runLen_le isHexP l 6 (at_+1)
    have HX:=Lib.hid (runPts_all isHexP l (at_+1) 6)
    have CR:∀ W,St b n c d A l (at_+1) W→_:=fun W hW=>run_st runHex 6 hW (by decide)
    rw [show ((6:Nat):Int)=6 from rfl] at CR
    have CR:=Lib.hid CR
    obtain ⟨K,hK⟩:∃ K,K=runLen isHexP l (at_+1) 6:=⟨_,rfl⟩
    rw [← hK] at HP hle HX CR
    clear hK hp h123 HR
    by_cases hm:ptAt l (at_+1+K)=125
    ·go_wp2_with (first
      | (go_at_call 201;(with_reducible refine CM.out.mono ?_);rintro e w1 ⟨rfl,h1,k1⟩;have HZ1:=Lib.hid (HZ0.out.by h1 k1);clear h1 k1)
      | (go_at_call 210;(with_reducible refine (CR.out _ HZ1.out.st).mono ?_);rintro e w2 ⟨A',c',rfl,hs,h2,k2⟩;have HRS:=Lib.hid hs;have HZ2:=Lib.hid (HZ1.out.by h2 k2);clear hs h2 k2)
      | (go_at_call 214;(with_reducible refine (must_yes 125 HZ2.out.st (by omega) hm).mono ?_);rintro e w3 ⟨rfl,h3,k3⟩;have HZ3:=Lib.hid (HZ2.out.by h3 k3);have HK3:=Lib.hid k3;clear h3 k3))
     go_meet
     exact ⟨_,_,Lib.hid (by rw [HP.out,if_neg (by simpa using hm)]),Lib.hid ((Row.of (runPts_length l (at_+1) K) HRS.out).kept HK3.out HZ2.out.st.lt),HX,by rw [runPts_length];omega,HZ3⟩
    ·have hE:r=.error 1:=by rw [HP.out,if_pos hm]
     subst hE
     go_wp2_with (first
      | (go_at_call 201;(with_reducible refine CM.out.mono ?_);rintro e w1 ⟨rfl,h1,k1⟩;have HZ1:=Lib.hid (HZ0.out.by h1 k1);clear h1 k1)
      | (go_at_call 210;(with_reducible refine (CR.out _ HZ1.out.st).mono ?_);rintro e w2 ⟨A',c',rfl,hs,h2,k2⟩;have HZ2:=Lib.hid (HZ1.out.by h2 k2);clear hs h2 k2)
      | (go_at_call 214;(with_reducible refine (must_no 125 HZ2.out.st (by omega) hm).mono ?_);rintro e w3 ⟨rfl,k3⟩;have HK3:=Lib.hid (HZ2.out.kp.trans k3);clear k3))
     exact ⟨rfl,rfl,HK3.out⟩
   ·have CM:=Lib.hid (may_noT 123 HZ0.out.st (by omega) h123)
    have HP:=Lib.hid (show r=scalarEnd (runPts l at_ (runLen isHexP l at_ 2)) (at_+runLen isHexP l at_ 2) by rw [HR.out];unfold scalarP;rw [if_neg hp,if_neg h123])
    have hle:=runLen_le isHexP l 2 at_
    have HX:=Lib.hid (runPts_all isHexP l at_ 2)
    have CR:∀ W,St b n c d A l at_ W→_:=fun W hW=>run_st runHex 2 hW (by decide)
    rw [show ((2:Nat):Int)=2 from rfl] at CR
    have CR:=Lib.hid CR
    obtain ⟨K,hK⟩:∃ K,K=runLen isHexP l at_ 2:=⟨_,rfl⟩
    rw [← hK] at HP hle HX CR
    clear hK hp h123 HR
    go_wp2_with (first
     | (go_at_call 201;(with_reducible refine CM.out.mono ?_);rintro e w1 ⟨rfl,h1,k1⟩;have HZ1:=Lib.hid (HZ0.out.by h1 k1);clear h1 k1)
     | (go_at_call 210;(with_reducible refine (CR.out _ HZ1.out.st).mono ?_);rintro e w2 ⟨A',c',rfl,hs,h2,k2⟩;have HRS:=Lib.hid hs;have HZ2:=Lib.hid (HZ1.out.by h2 k2);clear hs h2 k2))
    go_meet
    exact ⟨_,_,HP,Lib.hid (Row.of (runPts_length l at_ K) HRS.out),HX,by rw [runPts_length];omega,HZ2⟩
 ·obtain ⟨x,nx,HS,HRW,HX,hx6,HZ⟩:=hcut
  obtain ⟨A',c',rfl,-⟩:=HRW.out.is
  clear HR HZ0
  by_cases h0:x.length=0
  ·have e1:((x.length:Int) == 0)=true:=by simpa using h0
   have hE:r=.error 1:=by rw [HS.out];unfold scalarEnd;rw [if_pos h0]
   subst hE
   clear h0
   go_wp2_with (go_at_call 202;(with_reducible refine (fail46 1 _).mono ?_);rintro e w' ⟨rfl,rfl⟩)
   exact ⟨rfl,rfl,HZ.out.kp⟩
  ·have e1:((x.length:Int) == 0)=false:=by simpa using h0
   have CN:=Lib.hid (number_row HRW.out HX.out hx6)
   by_cases hbig:1114111 < hexN x
   ·have hE:r=.error 3:=by rw [HS.out];unfold scalarEnd;rw [if_neg h0,if_pos hbig]
    obtain ⟨N,hN⟩:∃ N,N=hexN x:=⟨_,rfl⟩
    rw [← hN] at CN hbig
    have e2:(decide ((1114111:Int) < N))=true:=decide_eq_true hbig
    subst hE
    clear h0 hN
    go_wp2_with (first
     | (go_at_call 222;(with_reducible refine CN.out.mono ?_);rintro e w' ⟨rfl,rfl⟩)
     | (go_at_call 202;(with_reducible refine (fail46 3 _).mono ?_);rintro e w' ⟨rfl,rfl⟩))
    exact ⟨rfl,rfl,HZ.out.kp⟩
   ·have hE:r=.ok (pointT (hexN x),nx):=by rw [HS.out];unfold scalarEnd;rw [if_neg h0,if_neg hbig]
    obtain ⟨N,hN⟩:∃ N,N=hexN x:=⟨_,rfl⟩
    rw [← hN] at CN hbig hE
    have e2:(decide ((1114111:Int) < N))=false:=decide_eq_false hbig
    subst hE
    clear h0 hN
    go_wp2_with (first
     | (go_at_call 222;(with_reducible refine CN.out.mono ?_);rintro e w' ⟨rfl,rfl⟩)
     | (go_at_call 175;(with_reducible refine (point_st N HZ.out.st).mono ?_);rintro e w3 ⟨rfl,h3,k3⟩;have HZ3:=Lib.hid (HZ.out.by h3 k3);clear h3 k3)
     | ((with_reducible apply store24 (g:=w.heap.size));rfl;(with_reducible rfl);rfl;rfl;(exact HZ3.out.z);rfl;rfl))
    ((try simp only [Exit.inBlock,Exit.then]);refine bodyPost_ret (v:=_) (results24 Tryz.results206 _ _ w.heap.size _ ?_ (row24 HZ3.out.z) ?_) rfl ?_;rfl;rfl;exact HZ3.out.done (pointT N))
end Go.Proofs.YtbiahhojnjchnaaGreat
namespace Go.Proofs.YtbiahhojnjchnaaGreat
open Go.RowKit
theorem tcells {w:World} {g:Nat} {v0 v1 v2 v3 v4 v5 v6 v7:Value} (h:w.heap[g]?=some (.cells #[v0,v1,v2,v3,v4,v5,v6,v7] 108 (0,0))):(∀ o,w.frozen? ⟨g,o,none⟩=false)∧w.cell? ⟨g,0,none⟩=some v0∧w.cell? ⟨g,1,none⟩=some v1∧w.cell? ⟨g,2,none⟩=some v2∧w.cell? ⟨g,3,none⟩=some v3∧w.cell? ⟨g,4,none⟩=some v4∧w.cell? ⟨g,5,none⟩=some v5∧w.cell? ⟨g,6,none⟩=some v6∧w.cell? ⟨g,7,none⟩=some v7:=by
 refine ⟨fun o=>by unfold World.frozen?;rw [h];rfl,?_,?_,?_,?_,?_,?_,?_,?_⟩<;>(rw [cell_of_row w g _ _ 108 (0,0) h];rfl)
theorem row_set {w:World} {g i:Nat} {cs:Array Value} {T:TypeId} {fr:Nat × Nat} {v:Value} (h:w.heap[g]?=some (.cells cs T fr)):(w.setCell ⟨g,i,none⟩ v).heap[g]?=some (.cells (cs.setIfInBounds i v) T fr):=by
 rw [setCell_eq_setRow w g i cs T fr v h];exact setRow_heap w g cs _ T fr h
theorem decN_lt (l:List Int) (h:∀ p ∈ l,isDig p=true) (hl:l.length≤3):0≤decN l∧decN l≤999:=by
 have h1:=decN_small l h l.length (Nat.le_refl _)
 rw [List.take_length] at h1
 have h3:(10:Int) ^ l.length≤1000:=by
  have:l.length=0∨l.length=1∨l.length=2∨l.length=3:=by omega
  rcases this with h|h|h|h<;>rw [h]<;>decide
 omega
theorem Zt.set2 {b n c g:Nat} {d at_:Int} {A:Option Addr} {l:List Int} {w0 w:World} (h:Zt b n c d A l w0 at_ w) (hg0:w0.heap.size < g) (hbg:b < g) (i:Nat) (v:Value):Zt b n c d A l w0 at_ (w.setCell ⟨g,i,none⟩ v) :=
 ⟨h.st.setOther hbg v,h.kp.setNew (p:=⟨g,i,none⟩) (Nat.le_of_lt hg0) v,hz_set h.z (Nat.ne_of_lt hg0),h.lt⟩
theorem kept_row {b g:Nat} {w w':World} {o:Obj} (h:w.heap[g]?=some o) (hk:Kept b w w') (hg:b < g):w'.heap[g]?=some o:=(hk.block g (lt_heap h) (Nat.ne_of_gt hg)).trans h
set_option maxRecDepth 100000 in
set_option maxHeartbeats 8000000 in
theorem named51 {b n c:Nat} {d at_:Int} {A:Option Addr} {l:List Int} {w:World} (h:St b n c d A l at_ w) :
  Calls Tryz.prog 207 #[.pointer (some ⟨b,0,none⟩)] w fun e w'=>TOut b n c d A l (namedP l at_) e w'∧Kept b w w':=by
 have HZ:=Lib.hid (Zt.start h)
 have hlo:=h.lo
 have hlt:=h.lt
 obtain ⟨r,hr⟩:∃ r,r=namedP l at_:=⟨_,rfl⟩
 rw [← hr]
 have HR:=Lib.hid hr
 obtain ⟨W0,hW0⟩:∃ X,X=w.alloc (.cells #[.int .i64 0,.int .i64 0,.string ⟨#[]⟩,.bool false,.int .i64 0,.int .i64 0,.int .i64 0,.int .i64 0] 108):=⟨_,rfl⟩
 rw [← hW0] at HZ
 clear h hr
 by_cases h60:ptAt l at_=60
 ·obtain ⟨K,hK⟩:∃ K,K=nameLen l (at_+1):=⟨_,rfl⟩
  obtain ⟨nm,hnm⟩:∃ nm,nm=bytesP (runPts l (at_+1) (nameLen l (at_+1))):=⟨_,rfl⟩
  have CM:=Lib.hid (must_yes 60 HZ.out.st (by omega) h60)
  have CN:=Lib.hid (fun (W:World) (hW:St b n c d A l (at_+1) W)=>name_some nm K hW ⟨hnm,hK⟩)
  have NK:=Lib.hid (And.intro hnm hK)
  have HP:=Lib.hid (show r=if K=0 then (if ptAt l (at_+1)=45 then numP true l (at_+1+1) else numP false l (at_+1)) else if ptAt l (at_+1+K)=62 then .ok ({ kind:=10,text:=nm },at_+1+K+1) else .error 1 by rw [HR.out,namedP,if_neg (fun x=>x h60),← hnm,← hK])
  clear hK hnm h60 HR
  go_enter Tryz.func207,Tryz.ntmps207
  go_upto_region 1 with (fail)
  rw [← hW0]
  clear hW0
  go_upto_region 3 with (first
   | (go_at_call 214;(with_reducible refine CM.out.mono ?_);rintro e w1 ⟨rfl,h1,k1⟩;have HZ:=Lib.hid (HZ.out.by h1 k1);clear h1 k1)
   | (go_at_call 213;(with_reducible refine (CN.out _ HZ.out.st).mono ?_);rintro e w2 ⟨rfl,h1,k1⟩;have HZ:=Lib.hid (HZ.out.by h1 k1);clear h1 k1))
  obtain ⟨g,hg⟩:∃ g,g=w2.heap.size:=⟨_,rfl⟩
  obtain ⟨X,hX⟩:∃ X,X=w2.alloc (.cells #[.int .i64 10,.int .i64 0,.string ⟨nm.toArray⟩,.bool false,.int .i64 0,.int .i64 0,.int .i64 0,.int .i64 0] 108):=⟨_,rfl⟩
  have HT:=Lib.hid (show X.heap[g]?=some (.cells #[.int .i64 10,.int .i64 0,.string ⟨nm.toArray⟩,.bool false,.int .i64 0,.int .i64 0,.int .i64 0,.int .i64 0] 108 (0,0)) by rw [hX,hg];exact heap_alloc_new w2 _)
  have hbg:b < g:=by rw [hg];exact HZ.out.st.lt
  have hg0:w.heap.size < g:=by rw [hg];exact lt_heap HZ.out.z
  have HZ:=Lib.hid (show Zt b n c d A l w (at_+1+K) X by rw [hX];exact HZ.out.next ((Below.refl _ _).alloc (Nat.le_refl _) _))
  rw [← hX,← hg]
  clear hX hg CM CN
  by_cases hk0:K=0
  ·have hne:nm.isEmpty=true:=by
    rw [NK.out.1,← NK.out.2,hk0];rfl
   subst hk0
   have hx:at_+1+((0:Nat):Int)=at_+1:=by omega
   rw [hx] at HZ
   have HP2:=Lib.hid (show r=if ptAt l (at_+1)=45 then numP true l (at_+1+1) else numP false l (at_+1) from HP.out.trans (if_pos rfl))
   clear HP
   clear hx
   obtain ⟨mi,hmi⟩:∃ mi,mi=decide (ptAt l (at_+1)=45):=⟨_,rfl⟩
   have HMI:=Lib.hid hmi
   clear hmi
   obtain ⟨tf,ta,tb,tc,td,te,tg,th,ti⟩:=tcells HT.out
   go_upto_region 4 with (fail)
   clear tf ta tb tc td te tg th ti
   go_cut [4] from 14 to 15 (fun v wc=>∃ a,v=.bool mi∧Hid (r=numP mi l a)∧0≤a∧Hid (Zt b n c d A l w a wc)∧Hid (wc.heap[g]?=some (.cells #[.int .i64 10,.int .i64 0,.string ⟨nm.toArray⟩,.bool false,.int .i64 0,.int .i64 0,.int .i64 0,.int .i64 0] 108 (0,0))))
   ·by_cases h45:ptAt l (at_+1)=45
    ·have CM:=Lib.hid (may_yesT 45 HZ.out.st (by omega) h45)
     go_wp2_with (go_at_call 201;(with_reducible refine CM.out.mono ?_);rintro e w3 ⟨rfl,h1,k1⟩;have HK1:=Lib.hid k1;have HZ:=Lib.hid (HZ.out.by h1 k1);clear h1 k1)
     go_meet
     exact ⟨at_+1+1,congrArg Value.bool (by rw [HMI.out,decide_eq_true h45]),Lib.hid (by rw [HP2.out,if_pos h45,HMI.out,decide_eq_true h45]),by omega,HZ,Lib.hid (kept_row HT.out HK1.out hbg)⟩
    ·have CM:=Lib.hid (may_noT 45 HZ.out.st (by omega) h45)
     go_wp2_with (go_at_call 201;(with_reducible refine CM.out.mono ?_);rintro e w3 ⟨rfl,h1,k1⟩;have HK1:=Lib.hid k1;have HZ:=Lib.hid (HZ.out.by h1 k1);clear h1 k1)
     go_meet
     exact ⟨at_+1,congrArg Value.bool (by rw [HMI.out,decide_eq_false h45]),Lib.hid (by rw [HP2.out,if_neg h45,HMI.out,decide_eq_false h45]),by omega,HZ,Lib.hid (kept_row HT.out HK1.out hbg)⟩
   ·obtain ⟨a,rfl,HP,ha,HZ,HT⟩:=hcut
    clear HMI HP2
    have hle:=runLen_le isDig l 3 a
    have HX:=Lib.hid (runPts_all isDig l a 3)
    have CR:=run_st runDig 3 HZ.out.st (by decide)
    rw [show ((3:Nat):Int)=3 from rfl] at CR
    have CR:=Lib.hid CR
    have HN:=Lib.hid (show r=if runLen isDig l a 3=0 then .error 1 else if ptAt l (a+runLen isDig l a 3)≠62 then .error 1 else if decN (runPts l a (runLen isDig l a 3))=0 then .error 3 else .ok ({ kind:=10,num:=if mi=true then -decN (runPts l a (runLen isDig l a 3)) else decN (runPts l a (runLen isDig l a 3)) },a+runLen isDig l a 3+1) from HP.out)
    obtain ⟨J,hJ⟩:∃ J,J=runLen isDig l a 3:=⟨_,rfl⟩
    rw [← hJ] at hle HX CR HN
    clear hJ HP
    by_cases hj0:J=0
    ·have e1:((J:Int) == 0)=true:=by simpa using hj0
     have hE:r=.error 1:=by rw [HN.out,if_pos hj0]
     subst hE
     clear hj0
     go_wp2_with (first
      | (go_at_call 210;(with_reducible refine CR.out.mono ?_);rintro e w4 ⟨A',c',rfl,hs,h2,k2⟩;have HZ:=Lib.hid (HZ.out.by h2 k2);clear hs h2 k2)
      | (go_at_call 202;(with_reducible refine (fail46 1 _).mono ?_);rintro e w' ⟨rfl,rfl⟩))
     exact ⟨rfl,rfl,HZ.out.kp⟩
    ·have e1:((J:Int) == 0)=false:=by simpa using hj0
     obtain ⟨N,hN⟩:∃ N,N=decN (runPts l a J):=⟨_,rfl⟩
     have hNs:=decN_lt _ HX.out (by rw [runPts_length];exact hle)
     have CD:=Lib.hid (fun (W:World) (v:Value) (hv:Row W b (runPts l a J) v)=>decimal_row hv HX.out (by rw [runPts_length];exact hle))
     rw [← hN] at CD HN hNs
     have HN:=Lib.hid (HN.out.trans (if_neg hj0))
     clear hN hj0
     go_upto_region 8 with (first
      | (go_at_call 210;(with_reducible refine CR.out.mono ?_);rintro e w4 ⟨A',c',rfl,hs,h2,k2⟩;have HZ:=Lib.hid (HZ.out.by h2 k2);have HT:=Lib.hid (kept_row HT.out k2 hbg);have HRS:=Lib.hid hs;clear hs h2 k2))
     have HRW:=Lib.hid (Row.of (c':=c') (runPts_length l a J) HRS.out)
     obtain ⟨tf,ta,tb,tc,td,te,tg,th,ti⟩:=tcells HT.out
     go_upto_region 9 with (go_at_call 209;(with_reducible refine (CD.out _ _ HRW.out).mono ?_);rintro e w' ⟨rfl,rfl⟩)
     have HT:=Lib.hid (show (w4.setCell ⟨g,1,none⟩ (.int .i64 N)).heap[g]?=some (.cells #[.int .i64 10,.int .i64 N,.string ⟨nm.toArray⟩,.bool false,.int .i64 0,.int .i64 0,.int .i64 0,.int .i64 0] 108 (0,0)) from row_set HT.out)
     have HZ:=Lib.hid (HZ.out.set2 hg0 hbg 1 (.int .i64 N))
     obtain ⟨X,hX⟩:∃ X,X=w4.setCell ⟨g,1,none⟩ (.int .i64 N):=⟨_,rfl⟩
     rw [← hX] at HT HZ ⊢
     clear hX tf ta tb tc td te tg th ti HRW HRS CR CD HX
     obtain ⟨V,hV⟩:∃ V,V=if mi=true then -N else N:=⟨_,rfl⟩
     rw [← hV] at HN
     have HVV:=Lib.hid hV
     clear hV
     have hmv:V=0↔N=0:=by rw [HVV.out];split<;>omega
     have W9:IntKind.i64.wrap (-N)=-N:=IntWalk.i64_in _ (by omega)
     go_upto_if 25 with (fail)
     go_cut [29] from 26 to 29 (fun _ wc=>Hid (wc.heap[g]?=some (.cells #[.int .i64 10,.int .i64 V,.string ⟨nm.toArray⟩,.bool false,.int .i64 0,.int .i64 0,.int .i64 0,.int .i64 0] 108 (0,0)))∧Hid (Zt b n c d A l w (a+J) wc))
     ·cases mi with
      | false =>
       have hv:V=N:=HVV.out
       subst hv
       go_wp2_with fail
       go_meet
       exact ⟨HT,HZ⟩
      | true =>
       have hv:V=-N:=HVV.out
       subst hv
       obtain ⟨tf,ta,tb,tc,td,te,tg,th,ti⟩:=tcells HT.out
       go_wp2_with fail
       go_meet
       exact ⟨Lib.hid (row_set HT.out),Lib.hid (HZ.out.set2 hg0 hbg 1 (.int .i64 (-N)))⟩
     ·obtain ⟨HT,HZ⟩:=hcut
      by_cases h62:ptAt l (a+J)=62
      ·have HN:=Lib.hid (HN.out.trans (if_neg (fun x=>x h62)))
       have CM:=Lib.hid (must_yes 62 HZ.out.st (by omega) h62)
       go_upto_region 12 with (go_at_call 214;(with_reducible refine CM.out.mono ?_);rintro e w3 ⟨rfl,h1,k1⟩;have HT:=Lib.hid (kept_row HT.out k1 hbg);have HZ:=Lib.hid (HZ.out.by h1 k1);clear h1 k1)
       obtain ⟨tf,ta,tb,tc,td,te,tg,th,ti⟩:=tcells HT.out
       by_cases hN0:N=0
       ·have hE:r=.error 3:=HN.out.trans (if_pos hN0)
        have e9:(V == 0)=true:=by simpa using hmv.2 hN0
        subst hE
        clear hN0 hmv
        go_wp2_with (go_at_call 202;(with_reducible refine (fail46 3 _).mono ?_);rintro e w' ⟨rfl,rfl⟩)
        exact ⟨rfl,rfl,HZ.out.kp⟩
       ·have hE:r=.ok ({ kind:=10,num:=V },a+J+1):=HN.out.trans (if_neg hN0)
        have e9:(V == 0)=false:=by simpa using fun h=>hN0 (hmv.1 h)
        have hnm0:nm=[]:=List.isEmpty_iff.1 hne
        subst hE
        clear hN0 hmv
        subst hnm0
        go_wp2_with ((with_reducible apply store24 (g:=w.heap.size));rfl;(with_reducible rfl);rfl;rfl;(exact HZ.out.z);rfl;rfl)
        ((try simp only [Exit.inBlock,Exit.then]);refine bodyPost_ret (v:=_) (results24 Tryz.results207 _ _ w.heap.size _ ?_ (row24 HZ.out.z) ?_) rfl ?_;rfl;rfl;exact HZ.out.done { kind:=10,num:=V })
      ·have hE:r=.error 1:=HN.out.trans (if_pos h62)
       have CM:=Lib.hid (must_no 62 HZ.out.st (by omega) h62)
       subst hE
       go_wp2_with (go_at_call 214;(with_reducible refine CM.out.mono ?_);rintro e w3 ⟨rfl,k1⟩)
       exact ⟨rfl,rfl,HZ.out.kp.trans k1⟩
  ·have hne:=name_full NK.out (by rw [NK.out.2] at hk0;rw [NK.out.2];exact hk0)
   have HP:=Lib.hid (HP.out.trans (if_neg hk0))
   clear hk0
   obtain ⟨tf,ta,tb,tc,td,te,tg,th,ti⟩:=tcells HT.out
   go_upto_region 11 with (fail)
   clear tf ta tb tc td te tg th ti
   by_cases h62:ptAt l (at_+1+K)=62
   ·have hE:r=.ok ({ kind:=10,text:=nm },at_+1+K+1):=HP.out.trans (if_pos h62)
    have CM:=Lib.hid (must_yes 62 HZ.out.st (by omega) h62)
    subst hE
    go_upto_region 12 with (go_at_call 214;(with_reducible refine CM.out.mono ?_);rintro e w3 ⟨rfl,h1,k1⟩;have HT:=Lib.hid (kept_row HT.out k1 hbg);have HZ:=Lib.hid (HZ.out.by h1 k1);clear h1 k1)
    obtain ⟨tf,ta,tb,tc,td,te,tg,th,ti⟩:=tcells HT.out
    go_wp2_with ((with_reducible apply store24 (g:=w.heap.size));rfl;(with_reducible rfl);rfl;rfl;(exact HZ.out.z);rfl;rfl)
    ((try simp only [Exit.inBlock,Exit.then]);refine bodyPost_ret (v:=_) (results24 Tryz.results207 _ _ w.heap.size _ ?_ (row24 HZ.out.z) ?_) rfl ?_;rfl;rfl;exact HZ.out.done { kind:=10,text:=nm })
   ·have hE:r=.error 1:=HP.out.trans (if_neg h62)
    have CM:=Lib.hid (must_no 62 HZ.out.st (by omega) h62)
    subst hE
    go_wp2_with (go_at_call 214;(with_reducible refine CM.out.mono ?_);rintro e w3 ⟨rfl,k1⟩)
    exact ⟨rfl,rfl,HZ.out.kp.trans k1⟩
 ·have hE:r=.error 1:=by rw [HR.out,namedP,if_pos h60]
  have CM:=Lib.hid (must_no 60 HZ.out.st (by omega) h60)
  subst hE
  clear h60
  go_enter Tryz.func207,Tryz.ntmps207
  go_upto_region 1 with (fail)
  rw [← hW0]
  clear hW0
  go_wp2_with (go_at_call 214;(with_reducible refine CM.out.mono ?_);rintro e w1 ⟨rfl,k1⟩)
  exact ⟨rfl,rfl,HZ.out.kp.trans k1⟩
end Go.Proofs.YtbiahhojnjchnaaGreat
namespace Go.Proofs.YtbiahhojnjchnaaGreat
open Go.RowKit
section
variable {b n c:Nat} {d at_:Int} {A:Option Addr} {l:List Int} {w:World}
theorem class_st (p:Int) (t:Tk) (f:Bool) (ht:(classT p).getD {}=t∧(classT p).isSome=f) (h:St b n c d A l at_ w) (h0:0≤p) (h1:p≤1114111):Calls Tryz.prog 204 #[.int .i64 p] w fun e w'=>e=.returned (.tuple #[.agg #[.int .i64 t.kind,.int .i64 t.num,.string ⟨t.text.toArray⟩,.bool t.not_,.int .i64 t.least,.int .i64 t.most,.int .i64 t.way,.int .i64 t.fold],.bool f])∧St b n c d A l at_ w'∧Kept b w w':=by
 obtain ⟨rfl,rfl⟩:=ht
 exact (class48 p h0 h1 w).mono fun _ _ ⟨e,hb⟩=>⟨e,h.next hb,Kept.of hb⟩
theorem class_119 (h:St b n c d A l at_ w):Calls Tryz.prog 204 #[.int .i64 119] w fun e w'=>e=.returned (.tuple #[.agg #[.int .i64 4,.int .i64 0,.string ⟨#[119,111,114,100]⟩,.bool false,.int .i64 0,.int .i64 0,.int .i64 0,.int .i64 0],.bool true])∧St b n c d A l at_ w'∧Kept b w w' :=
 class_st 119 { kind:=4,text:=[119,111,114,100] } true ⟨rfl,rfl⟩ h (by decide) (by decide)
theorem class_87 (h:St b n c d A l at_ w):Calls Tryz.prog 204 #[.int .i64 87] w fun e w'=>e=.returned (.tuple #[.agg #[.int .i64 4,.int .i64 0,.string ⟨#[119,111,114,100]⟩,.bool true,.int .i64 0,.int .i64 0,.int .i64 0,.int .i64 0],.bool true])∧St b n c d A l at_ w'∧Kept b w w' :=
 class_st 87 { kind:=4,text:=[119,111,114,100],not_:=true } true ⟨rfl,rfl⟩ h (by decide) (by decide)
end
theorem among_at {s:ByteArray} {p:Int} {i:Int} (hs:s.size≤100) (hi:idxP p s.data.toList=i) (w:World):Calls Tryz.prog 205 #[.string s,.int .i64 p] w fun e w'=>e=.returned (.int .i64 i)∧w=w':=by
 subst hi;exact among49 s p w hs
section
variable {b n c:Nat} {d at_:Int} {A:Option Addr} {l:List Int} {w:World}
theorem class_someT (p:Int) (t:Tk) (ht:classT p=some t) (h:St b n c d A l at_ w) (h0:0≤p∧p≤1114111):Calls Tryz.prog 204 #[.int .i64 p] w fun e w'=>e=.returned (.tuple #[.agg #[.int .i64 t.kind,.int .i64 t.num,.string ⟨t.text.toArray⟩,.bool t.not_,.int .i64 t.least,.int .i64 t.most,.int .i64 t.way,.int .i64 t.fold],.bool true])∧St b n c d A l at_ w'∧Kept b w w' :=
 class_st p t true (by rw [ht];exact ⟨rfl,rfl⟩) h h0.1 h0.2
theorem class_noneT (p:Int) (ht:classT p=none) (h:St b n c d A l at_ w) (h0:0≤p∧p≤1114111):Calls Tryz.prog 204 #[.int .i64 p] w fun e w'=>e=.returned (.tuple #[.agg #[.int .i64 0,.int .i64 0,.string ⟨#[]⟩,.bool false,.int .i64 0,.int .i64 0,.int .i64 0,.int .i64 0],.bool false])∧St b n c d A l at_ w'∧Kept b w w' :=
 class_st p {} false (by rw [ht];exact ⟨rfl,rfl⟩) h h0.1 h0.2
end
theorem let_at (p:Int) (f:Bool) (hf:f=isLet p) (w:World):Calls Tryz.prog 212 #[.int .i64 p] w fun e w'=>e=.returned (.bool f)∧w=w':=by
 subst hf;exact (isLetter56 p w).mono fun _ _ ⟨e,h⟩=>⟨e,h.symm⟩
theorem idx_look {p i:Int} (hi:idxP p [65,122,98,66]=i) (h:0≤i):i < 4∧(if p=65 then lookT 5 else if p=122 then lookT 6 else if p=98 then lookT 7 else lookT 8)=lookT (5+i)∧(p=65∨p=122∨p=98∨p=66):=by
 subst hi
 by_cases h1:p=65
 ·subst h1;exact ⟨by decide,rfl,.inl rfl⟩
 by_cases h2:p=122
 ·subst h2;exact ⟨by decide,rfl,.inr (.inl rfl)⟩
 by_cases h3:p=98
 ·subst h3;exact ⟨by decide,rfl,.inr (.inr (.inl rfl))⟩
 by_cases h4:p=66
 ·subst h4;exact ⟨by decide,rfl,.inr (.inr (.inr rfl))⟩
 exfalso
 rw [idxP_none p [65,122,98,66] (fun j hj=>by
  match j,hj with
  | 0,_=>exact fun e=>h1 e.symm
  | 1,_=>exact fun e=>h2 e.symm
  | 2,_=>exact fun e=>h3 e.symm
  | 3,_=>exact fun e=>h4 e.symm)] at h
 omega
def ctlRow:List Int:=[10,9,13,12,11,7,27]
theorem idx_ctl {p i:Int} (hi:idxP p [110,116,114,102,118,97,101]=i):(0≤i→∃ k:Nat,i=k∧∃ h:k < ctlRow.length,ctrlT p=some ctlRow[k])∧(i < 0→ctrlT p=none):=by
 subst hi
 by_cases h:p=110∨p=116∨p=114∨p=102∨p=118∨p=97∨p=101
 ·rcases h with rfl|rfl|rfl|rfl|rfl|rfl|rfl
  ·exact ⟨fun _=>⟨0,rfl,by decide,rfl⟩,fun h=>by revert h;decide⟩
  ·exact ⟨fun _=>⟨1,rfl,by decide,rfl⟩,fun h=>by revert h;decide⟩
  ·exact ⟨fun _=>⟨2,rfl,by decide,rfl⟩,fun h=>by revert h;decide⟩
  ·exact ⟨fun _=>⟨3,rfl,by decide,rfl⟩,fun h=>by revert h;decide⟩
  ·exact ⟨fun _=>⟨4,rfl,by decide,rfl⟩,fun h=>by revert h;decide⟩
  ·exact ⟨fun _=>⟨5,rfl,by decide,rfl⟩,fun h=>by revert h;decide⟩
  ·exact ⟨fun _=>⟨6,rfl,by decide,rfl⟩,fun h=>by revert h;decide⟩
 ·have hn:idxP p [110,116,114,102,118,97,101]=-1:=idxP_none p _ fun j hj=>by
   match j,hj with
   | 0,_=>exact fun e=>h (.inl e.symm)
   | 1,_=>exact fun e=>h (.inr (.inl e.symm))
   | 2,_=>exact fun e=>h (.inr (.inr (.inl e.symm)))
   | 3,_=>exact fun e=>h (.inr (.inr (.inr (.inl e.symm))))
   | 4,_=>exact fun e=>h (.inr (.inr (.inr (.inr (.inl e.symm)))))
   | 5,_=>exact fun e=>h (.inr (.inr (.inr (.inr (.inr (.inl e.symm))))))
   | 6,_=>exact fun e=>h (.inr (.inr (.inr (.inr (.inr (.inr e.symm))))))
  refine ⟨fun k=>by rw [hn] at k;omega,fun _=>?_⟩
  unfold ctrlT
  rw [if_neg (fun e=>h (.inl e)),if_neg (fun e=>h (.inr (.inl e))),if_neg (fun e=>h (.inr (.inr (.inl e)))),if_neg (fun e=>h (.inr (.inr (.inr (.inl e))))),if_neg (fun e=>h (.inr (.inr (.inr (.inr (.inl e)))))),if_neg (fun e=>h (.inr (.inr (.inr (.inr (.inr (.inl e))))))),if_neg (fun e=>h (.inr (.inr (.inr (.inr (.inr (.inr e)))))))]
set_option maxRecDepth 100000 in
set_option maxHeartbeats 16000000 in
theorem escaped40 {b n c:Nat} {d at_:Int} {A:Option Addr} {l:List Int} {w:World} (hpm:ptAt l at_≤1114111) (h:St b n c d A l at_ w)
  (he:d=3→∀ W,St b n c d A l (at_+1) W→Calls Tryz.prog 203 #[.pointer (some ⟨b,0,none⟩),.int .i64 (ptAt l at_)] W fun e w'=>TOut b n c d A l (emacsP l (at_+1) (ptAt l at_)) e w'∧Kept b W w') :
  Calls Tryz.prog 174 #[.pointer (some ⟨b,0,none⟩)] w fun e w'=>TOut b n c d A l (escapedP d l at_) e w'∧Kept b w w':=by
 have HZ:=Lib.hid (Zt.start h)
 have hlo:=h.lo
 have hlt:=h.lt
 have hsm:=h.small
 have HH:=Lib.hid h
 obtain ⟨p,hp⟩:∃ p,p=ptAt l at_:=⟨_,rfl⟩
 obtain ⟨r,hr⟩:∃ r,r=escapedP d l at_:=⟨_,rfl⟩
 rw [← hr]
 have CP:=Lib.hid (peek_st HZ.out.st)
 rw [← hp] at CP hpm he
 have HP:=Lib.hid hp
 have HR:=Lib.hid hr
 have HE:=Lib.hid he
 obtain ⟨W0,hW0⟩:∃ X,X=w.alloc (.cells #[.int .i64 0,.int .i64 0,.string ⟨#[]⟩,.bool false,.int .i64 0,.int .i64 0,.int .i64 0,.int .i64 0] 108):=⟨_,rfl⟩
 rw [← hW0] at HZ CP
 clear h hr hp he
 go_enter Tryz.func174,Tryz.ntmps174
 go_upto_region 1 with (fail)
 rw [← hW0]
 clear hW0
 go_upto_region 2 with (go_at_call 171;(with_reducible refine CP.out.mono ?_);rintro e w1 ⟨rfl,h1,k1⟩;have HZ:=Lib.hid (HZ.out.by h1 k1);clear h1 k1)
 clear CP
 by_cases h0:p < 0
 ·have hE:r=.error 1:=by rw [HR.out];simp only [escapedP,← HP.out];rw [if_pos h0]
  subst hE
  go_wp2_with (go_at_call 202;(with_reducible refine (fail46 1 _).mono ?_);rintro e w' ⟨rfl,rfl⟩)
  exact ⟨rfl,rfl,HZ.out.kp⟩
 ·have hin:at_+1≤n:=HH.out.pt_in (by rw [← HP.out];omega)
  have hR1:r=if d=2 then .ok (pointT p,at_+1) else if d=3 then emacsP l (at_+1) p else match classT p with
   | some t=>.ok (t,at_+1)
   | none=>if p=65 then .ok (lookT 5,at_+1) else if p=122 then .ok (lookT 6,at_+1) else if p=98 then .ok (lookT 7,at_+1) else if p=66 then .ok (lookT 8,at_+1) else match ctrlT p with
    | some c=>.ok (pointT c,at_+1)
    | none=>if p=120∨p=117 then scalarP l (at_+1) p else if p=107 then namedP l (at_+1) else if 49≤p∧p≤57 then .ok ({ kind:=10,num:=decN (runPts l at_ (runLen isDig l at_ 2)) },at_+runLen isDig l at_ 2) else if isLet p=true∨p=48 then .error 1 else .ok (pointT p,at_+1):=by rw [HR.out];simp only [escapedP,← HP.out];rw [if_neg h0];rfl
  have HR:=Lib.hid hR1
  obtain ⟨c0,c1,c2,f2⟩:=HZ.out.st.rd.cells
  have W1:IntKind.i64.wrap (at_+1)=at_+1:=IntWalk.i64_in _ (by omega)
  have hp0:0≤p:=by omega
  clear hR1 h0
  go_upto_region 5 with (fail)
  have HZ:=Lib.hid (HZ.out.move (x:=at_+1) (by omega) hin)
  obtain ⟨X,hX⟩:∃ X,X=w1.setCell ⟨b,2,none⟩ (.int .i64 (at_+1)):=⟨_,rfl⟩
  rw [← hX] at HZ ⊢
  clear hX c0 c1 c2 f2
  obtain ⟨c0,c1,c2,f2⟩:=HZ.out.st.rd.cells
  go_upto_region 6 with (fail)
  clear c0 c1 c2 f2
  by_cases hd2:d=2
  ·have z2:(d == 2)=true:=by simpa using hd2
   have hE:r=.ok (pointT p,at_+1):=by rw [HR.out,if_pos hd2]
   subst hE
   clear hd2
   go_wp2_with (first|(go_at_call 175;(with_reducible refine (point_st p HZ.out.st).mono ?_);rintro e w3 ⟨rfl,h1,k1⟩;have HZ:=Lib.hid (HZ.out.by h1 k1);clear h1 k1)|((with_reducible apply store24 (g:=w.heap.size));rfl;(with_reducible rfl);rfl;rfl;(exact HZ.out.z);rfl;rfl))
   ((try simp only [Exit.inBlock,Exit.then]);refine bodyPost_ret (v:=_) (results24 Tryz.results174 _ _ w.heap.size _ ?_ (row24 HZ.out.z) ?_) rfl ?_;rfl;rfl;exact HZ.out.done (pointT p))
  ·have z2:(d == 2)=false:=by simpa using hd2
   have HR:=Lib.hid (HR.out.trans (if_neg hd2))
   clear hd2
   by_cases hd3:d=3
   ·have z3:(d == 3)=true:=by simpa using hd3
    have HR:=Lib.hid (HR.out.trans (if_pos hd3))
    have CE:=HE.out hd3 _ HZ.out.st
    clear hd3
    cases ho:emacsP l (at_+1) p with
    | error x =>
     have hE:r=.error x:=by rw [HR.out];exact ho
     have CC:=Lib.hid (tout_bad CE ho)
     subst hE
     clear ho
     go_wp2_with (go_at_call 203;(with_reducible refine CC.out.mono ?_);rintro e w3 ⟨rfl,k1⟩)
     exact ⟨rfl,rfl,HZ.out.kp.trans k1⟩
    | ok q =>
     obtain ⟨t,nx⟩:=q
     have hE:r=.ok (t,nx):=by rw [HR.out];exact ho
     have CC:=Lib.hid (tout_ok CE ho)
     subst hE
     clear ho
     go_wp2_with (first|(go_at_call 203;(with_reducible refine CC.out.mono ?_);rintro e w3 ⟨rfl,h1,k1⟩;have HZ:=Lib.hid (HZ.out.by h1 k1);clear h1 k1)|((with_reducible apply store24 (g:=w.heap.size));rfl;(with_reducible rfl);rfl;rfl;(exact HZ.out.z);rfl;rfl))
     ((try simp only [Exit.inBlock,Exit.then]);refine bodyPost_ret (v:=_) (results24 Tryz.results174 _ _ w.heap.size _ ?_ (row24 HZ.out.z) ?_) rfl ?_;rfl;rfl;exact HZ.out.done t)
   ·have z3:(d == 3)=false:=by simpa using hd3
    have HR:=Lib.hid (HR.out.trans (if_neg hd3))
    clear hd3
    cases hc:classT p with
    | some t =>
     have CC:=Lib.hid (class_someT p t hc HZ.out.st ⟨hp0,hpm⟩)
     have hE:r=.ok (t,at_+1):=by rw [HR.out,hc]
     subst hE
     clear hc
     go_upto_region 12 with (go_at_call 204;(with_reducible refine CC.out.mono ?_);rintro e w3 ⟨rfl,h1,k1⟩;have HZ:=Lib.hid (HZ.out.by h1 k1);clear h1 k1)
     have HT:=heap_alloc_new w3 (.cells #[.int .i64 t.kind,.int .i64 t.num,.string ⟨t.text.toArray⟩,.bool t.not_,.int .i64 t.least,.int .i64 t.most,.int .i64 t.way,.int .i64 t.fold] 108)
     have HZ:=Lib.hid (HZ.out.next ((Below.refl w3.heap.size w3).alloc (Nat.le_refl _) (.cells #[.int .i64 t.kind,.int .i64 t.num,.string ⟨t.text.toArray⟩,.bool t.not_,.int .i64 t.least,.int .i64 t.most,.int .i64 t.way,.int .i64 t.fold] 108)))
     obtain ⟨Y,hY⟩:∃ Y,Y=w3.alloc (.cells #[.int .i64 t.kind,.int .i64 t.num,.string ⟨t.text.toArray⟩,.bool t.not_,.int .i64 t.least,.int .i64 t.most,.int .i64 t.way,.int .i64 t.fold] 108):=⟨_,rfl⟩
     rw [← hY] at HT HZ ⊢
     clear hY
     obtain ⟨tf,ta,tb,tc,td,te,tg,th,ti⟩:=tcells HT
     go_wp2_with ((with_reducible apply store24 (g:=w.heap.size));rfl;(with_reducible rfl);rfl;rfl;(exact HZ.out.z);rfl;rfl)
     ((try simp only [Exit.inBlock,Exit.then]);refine bodyPost_ret (v:=_) (results24 Tryz.results174 _ _ w.heap.size _ ?_ (row24 HZ.out.z) ?_) rfl ?_;rfl;rfl;exact HZ.out.done t)
    | none =>
     have CC:=Lib.hid (class_noneT p hc HZ.out.st ⟨hp0,hpm⟩)
     have HR:=Lib.hid (HR.out.trans (by rw [hc]))
     clear hc
     go_upto_region 13 with (go_at_call 204;(with_reducible refine CC.out.mono ?_);rintro e w3 ⟨rfl,h1,k1⟩;have HZ:=Lib.hid (HZ.out.by h1 k1);clear h1 k1)
     have HZ:=Lib.hid (HZ.out.next ((Below.refl w3.heap.size w3).alloc (Nat.le_refl _) (.cells #[.int .i64 0,.int .i64 0,.string ⟨#[]⟩,.bool false,.int .i64 0,.int .i64 0,.int .i64 0,.int .i64 0] 108)))
     obtain ⟨Y,hY⟩:∃ Y,Y=w3.alloc (.cells #[.int .i64 0,.int .i64 0,.string ⟨#[]⟩,.bool false,.int .i64 0,.int .i64 0,.int .i64 0,.int .i64 0] 108):=⟨_,rfl⟩
     rw [← hY] at HZ ⊢
     clear hY CC
     obtain ⟨i,hi⟩:∃ i,i=idxP p [65,122,98,66]:=⟨_,rfl⟩
     have CA:=Lib.hid (among_at (s:=⟨#[65,122,98,66]⟩) (p:=p) (i:=i) (by decide) hi.symm)
     have HI:=Lib.hid (idx_look hi.symm)
     have HI2:=Lib.hid (show i < 0→¬ p=65∧¬ p=122∧¬ p=98∧¬ p=66 by
      intro h
      rw [hi] at h
      refine ⟨?_,?_,?_,?_⟩<;>rintro rfl<;>revert h<;>decide)
     clear hi
     go_upto_region 14 with (go_at_call 205;(with_reducible refine (CA.out _).mono ?_);rintro e w4 ⟨rfl,rfl⟩)
     by_cases hi0:0≤i
     ·have e1:(decide (0≤i))=true:=decide_eq_true hi0
      obtain ⟨hi4,hlk,hor⟩:=HI.out hi0
      have hE:r=.ok (lookT (5+i),at_+1):=by
       rw [HR.out,← hlk]
       rcases hor with rfl|rfl|rfl|rfl<;>rfl
      have i4:i < (4:Int):=hi4
      obtain ⟨k,hk⟩:=Int.eq_ofNat_of_zero_le hi0
      have hcell:(Y.alloc (.cells #[.int .i64 5,.int .i64 6,.int .i64 7,.int .i64 8] 3)).cell? ⟨Y.heap.size,i.toNat,none⟩=some (.int .i64 (5+i)):=by
       rw [cell_of_row _ _ _ _ _ _ (heap_alloc_new Y _),hk]
       match k,(show k < 4 by omega) with
       | 0,_=>rfl
       | 1,_=>rfl
       | 2,_=>rfl
       | 3,_=>rfl
      have HZA:=Lib.hid (HZ.out.next ((Below.refl Y.heap.size Y).alloc (Nat.le_refl _) (.cells #[.int .i64 5,.int .i64 6,.int .i64 7,.int .i64 8] 3)))
      subst hE
      clear HI HI2 hlk hor hk CA hi4
      go_wp2_with (first|(go_at_call 172;(with_reducible refine (look_st (5+i) HZA.out.st).mono ?_);rintro e w5 ⟨rfl,h1,k1⟩;have HZ:=Lib.hid (HZA.out.by h1 k1);clear h1 k1)|((with_reducible apply store24 (g:=w.heap.size));rfl;(with_reducible rfl);rfl;rfl;(exact HZ.out.z);rfl;rfl))
      ((try simp only [Exit.inBlock,Exit.then]);refine bodyPost_ret (v:=_) (results24 Tryz.results174 _ _ w.heap.size _ ?_ (row24 HZ.out.z) ?_) rfl ?_;rfl;rfl;exact HZ.out.done (lookT (5+i)))
     ·have e1:(decide (0≤i))=false:=decide_eq_false hi0
      obtain ⟨n1,n2,n3,n4⟩:=HI2.out (by omega)
      have HR:=Lib.hid (HR.out.trans (by rw [if_neg n1,if_neg n2,if_neg n3,if_neg n4]))
      clear HI HI2 CA n1 n2 n3 n4
      obtain ⟨j,hj⟩:∃ j,j=idxP p [110,116,114,102,118,97,101]:=⟨_,rfl⟩
      have CA:=Lib.hid (among_at (s:=⟨#[110,116,114,102,118,97,101]⟩) (p:=p) (i:=j) (by decide) hj.symm)
      have HJ:=Lib.hid (idx_ctl hj.symm)
      clear hj
      go_upto_region 17 with (go_at_call 205;(with_reducible refine (CA.out _).mono ?_);rintro e w4 ⟨rfl,rfl⟩)
      clear CA e1 hi0
      by_cases hj0:0≤j
      ·have e1:(decide (0≤j))=true:=decide_eq_true hj0
       obtain ⟨k,hk,hkl,hct⟩:=HJ.out.1 hj0
       have hE:r=.ok (pointT ctlRow[k],at_+1):=by rw [HR.out,hct]
       have j4:j < (7:Int):=by have:ctlRow.length=7:=rfl;omega
       have hcell:(Y.alloc (.cells #[.int .i64 10,.int .i64 9,.int .i64 13,.int .i64 12,.int .i64 11,.int .i64 7,.int .i64 27] 3)).cell? ⟨Y.heap.size,j.toNat,none⟩=some (.int .i64 ctlRow[k]):=by
        rw [cell_of_row _ _ _ _ _ _ (heap_alloc_new Y _),hk]
        match k,hkl with
        | 0,_=>rfl
        | 1,_=>rfl
        | 2,_=>rfl
        | 3,_=>rfl
        | 4,_=>rfl
        | 5,_=>rfl
        | 6,_=>rfl
       have HZA:=Lib.hid (HZ.out.next ((Below.refl Y.heap.size Y).alloc (Nat.le_refl _) (.cells #[.int .i64 10,.int .i64 9,.int .i64 13,.int .i64 12,.int .i64 11,.int .i64 7,.int .i64 27] 3)))
       obtain ⟨cv,hcv⟩:∃ cv,cv=ctlRow[k]:=⟨_,rfl⟩
       rw [← hcv] at hE hcell
       subst hE
       clear HJ hct hk hkl hcv
       go_wp2_with (first|(go_at_call 175;(with_reducible refine (point_st cv HZA.out.st).mono ?_);rintro e w5 ⟨rfl,h1,k1⟩;have HZ:=Lib.hid (HZA.out.by h1 k1);clear h1 k1)|((with_reducible apply store24 (g:=w.heap.size));rfl;(with_reducible rfl);rfl;rfl;(exact HZ.out.z);rfl;rfl))
       ((try simp only [Exit.inBlock,Exit.then]);refine bodyPost_ret (v:=_) (results24 Tryz.results174 _ _ w.heap.size _ ?_ (row24 HZ.out.z) ?_) rfl ?_;rfl;rfl;exact HZ.out.done (pointT cv))
      ·have e1:(decide (0≤j))=false:=decide_eq_false hj0
       have HR:=Lib.hid (HR.out.trans (by rw [HJ.out.2 (by omega)]))
       clear HJ
       go_upto_region 19 with (fail)
       clear e1 hj0
       go_cut [58] from 59 to 64 (fun z wc=>z=.bool (decide (p=120∨p=117))∧wc=Y)
       ·by_cases q1:p=120
        ·have e1:(p == 120)=true:=by simpa using q1
         have Q1:=Lib.hid q1
         clear q1
         go_wp2_with fail
         go_meet
         exact ⟨congrArg Value.bool (decide_eq_true (p:=p=120∨p=117) (.inl Q1.out)).symm,rfl⟩
        ·have e1:(p == 120)=false:=by simpa using q1
         go_wp2_with fail
         go_meet
         exact ⟨congrArg Value.bool (by by_cases q2:p=117<;>simp [q1,q2]),rfl⟩
       ·obtain ⟨rfl,rfl⟩:=hcut
        by_cases q:p=120∨p=117
        ·have e1:decide (p=120∨p=117)=true:=decide_eq_true q
         have HR:=Lib.hid (HR.out.trans (if_pos q))
         have CS:=scalar50 p HZ.out.st
         rw [e1]
         clear q e1
         cases ho:scalarP l (at_+1) p with
         | error x =>
          have hE:r=.error x:=by rw [HR.out];exact ho
          have CC:=Lib.hid (tout_bad CS ho)
          subst hE
          clear ho
          go_wp2_with (go_at_call 206;(with_reducible refine CC.out.mono ?_);rintro e w3 ⟨rfl,k1⟩)
          exact ⟨rfl,rfl,HZ.out.kp.trans k1⟩
         | ok q =>
          obtain ⟨t,nx⟩:=q
          have hE:r=.ok (t,nx):=by rw [HR.out];exact ho
          have CC:=Lib.hid (tout_ok CS ho)
          subst hE
          clear ho
          go_wp2_with (first|(go_at_call 206;(with_reducible refine CC.out.mono ?_);rintro e w3 ⟨rfl,h1,k1⟩;have HZ:=Lib.hid (HZ.out.by h1 k1);clear h1 k1)|((with_reducible apply store24 (g:=w.heap.size));rfl;(with_reducible rfl);rfl;rfl;(exact HZ.out.z);rfl;rfl))
          ((try simp only [Exit.inBlock,Exit.then]);refine bodyPost_ret (v:=_) (results24 Tryz.results174 _ _ w.heap.size _ ?_ (row24 HZ.out.z) ?_) rfl ?_;rfl;rfl;exact HZ.out.done t)
        ·have e1:decide (p=120∨p=117)=false:=decide_eq_false q
         have HR:=Lib.hid (HR.out.trans (if_neg q))
         rw [e1]
         clear q e1
         by_cases q:p=107
         ·have e1:(p == 107)=true:=by simpa using q
          have HR:=Lib.hid (HR.out.trans (if_pos q))
          have CS:=named51 HZ.out.st
          clear q
          cases ho:namedP l (at_+1) with
          | error x =>
           have hE:r=.error x:=by rw [HR.out];exact ho
           have CC:=Lib.hid (tout_bad CS ho)
           subst hE
           clear ho
           go_wp2_with (go_at_call 207;(with_reducible refine CC.out.mono ?_);rintro e w3 ⟨rfl,k1⟩)
           exact ⟨rfl,rfl,HZ.out.kp.trans k1⟩
          | ok q =>
           obtain ⟨t,nx⟩:=q
           have hE:r=.ok (t,nx):=by rw [HR.out];exact ho
           have CC:=Lib.hid (tout_ok CS ho)
           subst hE
           clear ho
           go_wp2_with (first|(go_at_call 207;(with_reducible refine CC.out.mono ?_);rintro e w3 ⟨rfl,h1,k1⟩;have HZ:=Lib.hid (HZ.out.by h1 k1);clear h1 k1)|((with_reducible apply store24 (g:=w.heap.size));rfl;(with_reducible rfl);rfl;rfl;(exact HZ.out.z);rfl;rfl))
           ((try simp only [Exit.inBlock,Exit.then]);refine bodyPost_ret (v:=_) (results24 Tryz.results174 _ _ w.heap.size _ ?_ (row24 HZ.out.z) ?_) rfl ?_;rfl;rfl;exact HZ.out.done t)
         ·have e1:(p == 107)=false:=by simpa using q
          have HR:=Lib.hid (HR.out.trans (if_neg q))
          clear q
          go_upto_region 23 with (fail)
          clear e1
          go_cut [73] from 74 to 79 (fun z wx=>z=.bool (decide (49≤p∧p≤57))∧wx=wc)
          ·by_cases q1:49≤p
           ·have e1:(decide (49≤p))=true:=decide_eq_true q1
            go_wp2_with fail
            go_meet
            exact ⟨congrArg Value.bool (by by_cases q2:p≤57<;>simp [q1,q2]),rfl⟩
           ·have e1:(decide (49≤p))=false:=decide_eq_false q1
            go_wp2_with fail
            go_meet
            exact ⟨congrArg Value.bool (by simp [q1];try omega),rfl⟩
          ·obtain ⟨rfl,rfl⟩:=hcut
           by_cases q:49≤p∧p≤57
           ·have e1:decide (49≤p∧p≤57)=true:=decide_eq_true q
            have HR:=Lib.hid (HR.out.trans (if_pos q))
            have hle:=runLen_le isDig l 2 at_
            have HX:=Lib.hid (runPts_all isDig l at_ 2)
            have CR:∀ W,St b n c d A l at_ W→_:=fun W hW=>run_st runDig 2 hW (by decide)
            rw [show ((2:Nat):Int)=2 from rfl] at CR
            have CR:=Lib.hid CR
            obtain ⟨K,hK⟩:∃ K,K=runLen isDig l at_ 2:=⟨_,rfl⟩
            rw [← hK] at hle HX CR HR
            have CD:=Lib.hid (fun (W:World) (v:Value) (hv:Row W b (runPts l at_ K) v)=>decimal_row hv HX.out (by rw [runPts_length];omega))
            obtain ⟨N,hN⟩:∃ N,N=decN (runPts l at_ K):=⟨_,rfl⟩
            rw [← hN] at CD HR
            have hE:=HR.out
            subst hE
            rw [e1]
            clear q e1 hK hN
            obtain ⟨c0,c1,c2,f2⟩:=HZ.out.st.rd.cells
            have W2:IntKind.i64.wrap (at_+1 - 1)=at_:=by rw [show at_+1 - 1=at_ by omega];exact IntWalk.i64_in _ (by omega)
            have W3:IntKind.i64.wrap at_=at_:=IntWalk.i64_in _ (by omega)
            go_upto_region 25 with (fail)
            have HZ:=Lib.hid (HZ.out.move (x:=at_) hlo (by omega))
            obtain ⟨V,hV⟩:∃ V,V=wc.setCell ⟨b,2,none⟩ (.int .i64 at_):=⟨_,rfl⟩
            rw [← hV] at HZ ⊢
            clear hV c0 c1 c2 f2
            go_wp2_with (first
             | (go_at_call 210;(with_reducible refine (CR.out _ HZ.out.st).mono ?_);rintro e w6 ⟨A',c',rfl,hs,h1,k1⟩;have HRW:=Lib.hid (Row.of (c':=c') (runPts_length l at_ K) hs);have HZ:=Lib.hid (HZ.out.by h1 k1);clear h1 k1;clear hs)
             | (go_at_call 209;(with_reducible refine (CD.out _ _ HRW.out).mono ?_);rintro e w' ⟨rfl,rfl⟩)
             | (go_at_call 208;(with_reducible refine (again_st N HZ.out.st).mono ?_);rintro e w3 ⟨rfl,h1,k1⟩;have HZ:=Lib.hid (HZ.out.by h1 k1);clear h1 k1)
             | ((with_reducible apply store24 (g:=w.heap.size));rfl;(with_reducible rfl);rfl;rfl;(exact HZ.out.z);rfl;rfl))
            ((try simp only [Exit.inBlock,Exit.then]);refine bodyPost_ret (v:=_) (results24 Tryz.results174 _ _ w.heap.size _ ?_ (row24 HZ.out.z) ?_) rfl ?_;rfl;rfl;exact HZ.out.done { kind:=10,num:=N })
           ·have e1:decide (49≤p∧p≤57)=false:=decide_eq_false q
            have HR:=Lib.hid (HR.out.trans (if_neg q))
            rw [e1]
            clear q e1
            obtain ⟨fl,hfl⟩:∃ fl,fl=isLet p:=⟨_,rfl⟩
            have CL:=Lib.hid (let_at p fl hfl)
            rw [← hfl] at HR
            clear hfl
            go_upto_region 26 with (fail)
            go_cut [91] from 92 to 97 (fun z wy=>z=.bool (fl || decide (p=48))∧wy=wc)
            ·cases fl with
             | true =>
              go_wp2_with (go_at_call 212;(with_reducible refine (CL.out _).mono ?_);rintro e w' ⟨rfl,rfl⟩)
              go_meet
              exact ⟨congrArg Value.bool (by simp),rfl⟩
             | false =>
              go_wp2_with (go_at_call 212;(with_reducible refine (CL.out _).mono ?_);rintro e w' ⟨rfl,rfl⟩)
              go_meet
              exact ⟨congrArg Value.bool (by by_cases q2:p=48<;>simp [q2]),rfl⟩
            ·obtain ⟨rfl,rfl⟩:=hcut
             by_cases q:fl=true∨p=48
             ·have e1:(fl || decide (p=48))=true:=by rcases q with h|h<;>simp [h]
              have hE:r=.error 1:=HR.out.trans (if_pos q)
              subst hE
              rw [e1]
              clear q
              go_wp2_with (go_at_call 202;(with_reducible refine (fail46 1 _).mono ?_);rintro e w' ⟨rfl,rfl⟩)
              exact ⟨rfl,rfl,HZ.out.kp⟩
             ·have e1:(fl || decide (p=48))=false:=by cases fl;simpa using q;exact absurd (.inl rfl) q
              have hE:r=.ok (pointT p,at_+1):=HR.out.trans (if_neg q)
              subst hE
              rw [e1]
              clear q
              go_wp2_with (first|(go_at_call 175;(with_reducible refine (point_st p HZ.out.st).mono ?_);rintro e w3 ⟨rfl,h1,k1⟩;have HZ:=Lib.hid (HZ.out.by h1 k1);clear h1 k1)|((with_reducible apply store24 (g:=w.heap.size));rfl;(with_reducible rfl);rfl;rfl;(exact HZ.out.z);rfl;rfl))
              ((try simp only [Exit.inBlock,Exit.then]);refine bodyPost_ret (v:=_) (results24 Tryz.results174 _ _ w.heap.size _ ?_ (row24 HZ.out.z) ?_) rfl ?_;rfl;rfl;exact HZ.out.done (pointT p))
end Go.Proofs.YtbiahhojnjchnaaGreat
namespace Go.Proofs.YtbiahhojnjchnaaGreat
open Go.RowKit
set_option maxRecDepth 100000 in
set_option maxHeartbeats 40000000 in
theorem token27e {b n c:Nat} {d at_:Int} {A:Option Addr} {l:List Int} {w:World} (hd1:d=1) (hp92:ptAt l at_=92) (hpa:∀ q:Int,ptAt l q≤1114111) (hat:at_ < n) (h:St b n c d A l at_ w) :
  Calls Tryz.prog 134 #[.pointer (some ⟨b,0,none⟩)] w fun e w'=>TOut b n c d A l (tokenP d l at_) e w'∧Kept b w w':=by
 have H:=Lib.hid h
 have hlt:=h.lt
 have hb0:¬ w.heap.size=b:=by omega
 have hb1:¬ w.heap.size+1=b:=by omega
 have hlo:=h.lo
 have hhi:=h.hi
 have hsm:=h.small
 obtain ⟨c0,c1,c2,f2⟩:=h.rd.cells
 clear h c1 c2 f2
 obtain ⟨p,hp⟩:∃ p,p=ptAt l at_:=⟨_,rfl⟩
 have HPM:=Lib.hid (hpa (at_+1))
 have hpm:=hpa at_
 clear hpa
 rw [← hp] at hpm
 have HPV:=Lib.hid hp
 have PK:=Lib.hid (fun (w:World) (h:St b n c d A l at_ w)=>peek_st h)
 rw [← hp] at PK
 clear hp
 have hin:at_+1≤n:=by omega
 obtain ⟨r,hr0⟩:∃ r,r=tokenP d l at_:=⟨_,rfl⟩
 rw [← hr0]
 have HR0:=Lib.hid hr0
 clear hr0
 have HB:Hid (tokenP d l at_=if p=46 then .ok ({ kind:=2 },at_+1)
  else if p=94 then .ok (lookT 3,at_+1)
  else if p=36 then .ok (lookT 4,at_+1)
  else if p=91 then .ok ({ kind:=5 },at_+1)
  else if p=42 then .ok (repeatP d l (at_+1) 0 (-1))
  else if p=43 then .ok (repeatP d l (at_+1) 1 (-1))
  else if p=63 then .ok (repeatP d l (at_+1) 0 1)
  else if p=92 then escapedP d l (at_+1)
  else if d=3 then .ok (pointT p,at_+1)
  else if p=40 then openP d l (at_+1)
  else if p=41 then .ok ({ kind:=8 },at_+1)
  else if p=124 then .ok ({ kind:=9 },at_+1)
  else if p=123 then braceP d l (at_+1) p
  else .ok (pointT p,at_+1)):=Lib.hid (by simp only [tokenP,← HPV.out])
 have q92:p=92:=by rw [HPV.out];exact hp92
 subst q92
 cases ho:escapedP d l (at_+1) with
 | error x =>
  have hE:r=.error x:=by rw [HR0.out,HB.out,← ho];rfl
  subst hE
  have HO:=Lib.hid ho
  clear ho
  go_enter Tryz.func134,Tryz.ntmps134
  go_wp2_with (go_at_call 171;refine Calls.mono (PK.out _ (?_:St b n c d A l (at_) _)) ?_;(repeat' (first|(with_reducible first|exact H.out|refine St.setRow ?_ ?_ _|refine St.setOther ?_ ?_ _|refine St.alloc ?_ _)|(with_reducible change (_:Nat) < _;(try simp)<;>omega)));rintro e w1 ⟨rfl,h1,k1⟩;have H1:=Lib.hid h1;obtain ⟨ca1,cb1,cc1,cf1⟩:=H1.out.rd.cells;clear cb1;have hB1:=H1.out.lt;have hs1:=k1.size;(try simp at hs1);(have hl1:w.heap.size < w1.heap.size:=by omega);have HZ1:=Lib.hid ((k1.block w.heap.size (by (try simp)<;>omega) hb0).trans (show _=some Z24 by (repeat' (first|(with_reducible first|exact hz_new|refine hz_set ?_ ?_|refine hz_row ?_ ?_|refine hz_alloc ?_)|(with_reducible change (_:Nat)≠_;(try simp)<;>omega)))));have K1:Hid (Kept b w w1):=Lib.hid (Kept.trans (w1:=_) (by (repeat' (first|(with_reducible first|exact Kept.refl _ _|refine Kept.setRow ?_ ?_ _|refine Kept.setNew ?_ ?_ _|refine Kept.alloc ?_ _)|(with_reducible change (_:Nat)≤_;(try simp)<;>omega)))) k1);(have HM1:=Lib.hid (H1.out.move (x:=at_+1) (by omega) hin));(have KM1:=Lib.hid (K1.out.set 2 (.int .i64 (at_+1))));(have HZM1:=Lib.hid (hz_set (p:=⟨b,2,none⟩) (v:=.int .i64 (at_+1)) HZ1.out hb0));clear h1 k1)
  go_wp2_with (go_at_call 174;refine Calls.mono (tout_bad (escaped40 HPM.out (?_:St b n c d A l (at_+1) _) (fun h3=>absurd (hd1.symm.trans h3) (by decide))) HO.out) ?_;(repeat' (first|(with_reducible first|exact HM1.out|refine St.setRow ?_ ?_ _|refine St.setOther ?_ ?_ _|refine St.alloc ?_ _)|(with_reducible change (_:Nat) < _;(try simp)<;>omega)));rintro e w' ⟨rfl,kk⟩;have KK:Hid (Kept b w w'):=Lib.hid (Kept.trans (w1:=_) (by (repeat' (first|(with_reducible first|exact Kept.refl _ _|exact KM1.out|refine Kept.setRow ?_ ?_ _|refine Kept.setNew ?_ ?_ _|refine Kept.alloc ?_ _)|(with_reducible change (_:Nat)≤_;(try simp)<;>omega)))) kk);clear kk)
  exact ⟨rfl,rfl,KK.out⟩
 | ok q =>
  obtain ⟨t,nx⟩:=q
  have hE:r=.ok (t,nx):=by rw [HR0.out,HB.out,← ho];rfl
  subst hE
  have HO:=Lib.hid ho
  clear ho
  go_enter Tryz.func134,Tryz.ntmps134
  go_wp2_with (go_at_call 171;refine Calls.mono (PK.out _ (?_:St b n c d A l (at_) _)) ?_;(repeat' (first|(with_reducible first|exact H.out|refine St.setRow ?_ ?_ _|refine St.setOther ?_ ?_ _|refine St.alloc ?_ _)|(with_reducible change (_:Nat) < _;(try simp)<;>omega)));rintro e w1 ⟨rfl,h1,k1⟩;have H1:=Lib.hid h1;obtain ⟨ca1,cb1,cc1,cf1⟩:=H1.out.rd.cells;clear cb1;have hB1:=H1.out.lt;have hs1:=k1.size;(try simp at hs1);(have hl1:w.heap.size < w1.heap.size:=by omega);have HZ1:=Lib.hid ((k1.block w.heap.size (by (try simp)<;>omega) hb0).trans (show _=some Z24 by (repeat' (first|(with_reducible first|exact hz_new|refine hz_set ?_ ?_|refine hz_row ?_ ?_|refine hz_alloc ?_)|(with_reducible change (_:Nat)≠_;(try simp)<;>omega)))));have K1:Hid (Kept b w w1):=Lib.hid (Kept.trans (w1:=_) (by (repeat' (first|(with_reducible first|exact Kept.refl _ _|refine Kept.setRow ?_ ?_ _|refine Kept.setNew ?_ ?_ _|refine Kept.alloc ?_ _)|(with_reducible change (_:Nat)≤_;(try simp)<;>omega)))) k1);(have HM1:=Lib.hid (H1.out.move (x:=at_+1) (by omega) hin));(have KM1:=Lib.hid (K1.out.set 2 (.int .i64 (at_+1))));(have HZM1:=Lib.hid (hz_set (p:=⟨b,2,none⟩) (v:=.int .i64 (at_+1)) HZ1.out hb0));clear h1 k1)
  go_wp2_with (first|(go_at_call 174;refine Calls.mono (tout_ok (escaped40 HPM.out (?_:St b n c d A l (at_+1) _) (fun h3=>absurd (hd1.symm.trans h3) (by decide))) HO.out) ?_;(repeat' (first|(with_reducible first|exact HM1.out|refine St.setRow ?_ ?_ _|refine St.setOther ?_ ?_ _|refine St.alloc ?_ _)|(with_reducible change (_:Nat) < _;(try simp)<;>omega)));rintro e w2 ⟨rfl,h2,k2⟩;have H2:=Lib.hid h2;obtain ⟨ca2,cb2,cc2,cf2⟩:=H2.out.rd.cells;clear cb2;have hB2:=H2.out.lt;have hs2:=k2.size;(try simp at hs2);(have hl2:w.heap.size < w2.heap.size:=by omega);have HZ2:=Lib.hid ((k2.block w.heap.size (by (try simp)<;>omega) hb0).trans (show _=some Z24 by (repeat' (first|(with_reducible first|exact HZM1.out|exact hz_new|refine hz_set ?_ ?_|refine hz_row ?_ ?_|refine hz_alloc ?_)|(with_reducible change (_:Nat)≠_;(try simp)<;>omega)))));have K2:Hid (Kept b w w2):=Lib.hid (Kept.trans (w1:=_) (by (repeat' (first|(with_reducible first|exact Kept.refl _ _|exact KM1.out|refine Kept.setRow ?_ ?_ _|refine Kept.setNew ?_ ?_ _|refine Kept.alloc ?_ _)|(with_reducible change (_:Nat)≤_;(try simp)<;>omega)))) k2);clear h2 k2)|((with_reducible apply store24 (g:=w.heap.size));rfl;(with_reducible rfl);rfl;rfl;(repeat' (first|(with_reducible first|exact HZ2.out|exact hz_new|refine hz_set ?_ ?_|refine hz_row ?_ ?_|refine hz_alloc ?_)|(with_reducible change (_:Nat)≠_;(try simp)<;>omega)));rfl;rfl))
  ((try simp only [Exit.inBlock,Exit.then]);refine bodyPost_ret (v:=_) (results24 Tryz.results134 _ _ w.heap.size _ ?_ (row24 ?_) ?_) rfl ⟨⟨rfl,?_⟩,?_⟩;rfl;(repeat' (first|(with_reducible first|exact HZ2.out|exact hz_new|refine hz_set ?_ ?_|refine hz_row ?_ ?_|refine hz_alloc ?_)|(with_reducible change (_:Nat)≠_;(try simp)<;>omega)));rfl;(repeat' (first|(with_reducible first|exact H2.out|refine St.setRow ?_ ?_ _|refine St.setOther ?_ ?_ _|refine St.alloc ?_ _)|(with_reducible change (_:Nat) < _;(try simp)<;>omega)));(repeat' (first|(with_reducible first|exact Kept.refl _ _|exact K2.out|refine Kept.setRow ?_ ?_ _|refine Kept.setNew ?_ ?_ _|refine Kept.alloc ?_ _)|(with_reducible change (_:Nat)≤_;(try simp)<;>omega))))
end Go.Proofs.YtbiahhojnjchnaaGreat
