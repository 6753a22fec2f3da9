/-
  The parser: its state in its block; its next token: walked.
-/
import Derived.Test.YtbiahhojnjchnaaGreatPnA
import Derived.Test.YtbiahhojnjchnaaGreatGQ
import Derived.Test.YtbiahhojnjchnaaGreatGV
import Derived.Test.YtbiahhojnjchnaaGreatGS
import Derived.Deep.QuietTactic
import Derived.BigQuiet
set_option linter.unusedVariables false
set_option linter.unusedSimpArgs false
namespace Go.Proofs.YtbiahhojnjchnaaGreat
open Go.RowKit
/-- a parser's state -/
structure PS where
 at_:Int
 fold:Bool
 deep:Int
 groups:Int
 names:List (List UInt8 × Int)
 ags:List (Int × Int × List UInt8)
def nameVs:List (List UInt8 × Int)→List Value
 | []=>[]
 | p :: l=>.string ⟨p.1.toArray⟩ :: .int .i64 p.2 :: nameVs l
def agVs:List (Int × Int × List UInt8)→List Value
 | []=>[]
 | p :: l=>.int .i64 p.1 :: .int .i64 p.2.1 :: .string ⟨p.2.2.toArray⟩ :: agVs l
/-- the blocks that the parser still writes -/
def pm (b:Nat) (V1 V2:Value) (k:Nat):Bool:=k == b || (V1.ownBlock == some k || V2.ownBlock == some k)
theorem pm_b (b:Nat) (V1 V2:Value):pm b V1 V2 b=true:=by simp [pm]
theorem pm_no {b k:Nat} {V1 V2:Value} (h:pm b V1 V2 k=false):k≠b∧V1.ownBlock≠some k∧V2.ownBlock≠some k:=by
 simp [pm] at h;exact ⟨h.1,h.2.1,h.2.2⟩
structure PsAt (b n c:Nat) (d:Int) (A:Option Addr) (l:List Int) (s:PS) (V1 V2:Value) (w:World):Prop where
 hp:w.heap[b]?=some (.cells #[.int .i64 d,.slice A n c,.int .i64 s.at_,.bool s.fold,.int .i64 s.deep,.int .i64 s.groups,V1,V2] 77 (0,0))
 row:Rds w b 1 A n (ints l)
 small:n≤300
 nc:n≤c
 cm:c≤maxLen
 names:w.ownsRow (b+1) 55 2 V1 s.names.length (nameVs s.names)
 ags:w.ownsRow (b+1) 113 3 V2 s.ags.length (agVs s.ags)
 ap:∀ g,V1.ownBlock=some g→V2.ownBlock≠some g
 lo:0≤s.at_
 hi:s.at_≤n
 dp:0≤s.deep∧s.deep≤20
 gr:0≤s.groups∧s.groups≤20
section
variable {b n c:Nat} {d:Int} {A:Option Addr} {l:List Int} {s:PS} {V1 V2:Value} {w w':World}
theorem PsAt.lt (h:PsAt b n c d A l s V1 V2 w):b < w.heap.size:=lt_heap h.hp
theorem PsAt.len (h:PsAt b n c d A l s V1 V2 w):l.length=n:=h.row.ints_len
theorem PsAt.next (h:PsAt b n c d A l s V1 V2 w) (hb:Below w.heap.size w w'):PsAt b n c d A l s V1 V2 w' :=
 ⟨row_next h.hp hb,h.row.below hb (Nat.le_of_lt h.lt),h.small,h.nc,h.cm,own_below h.names hb (Nat.le_refl _),own_below h.ags hb (Nat.le_refl _),h.ap,h.lo,h.hi,h.dp,h.gr⟩
theorem PsAt.cells (h:PsAt b n c d A l s V1 V2 w):w.cell? ⟨b,0,none⟩=some (.int .i64 d)∧w.cell? ⟨b,1,none⟩=some (.slice A n c)∧w.cell? ⟨b,2,none⟩=some (.int .i64 s.at_)∧w.cell? ⟨b,3,none⟩=some (.bool s.fold)∧w.cell? ⟨b,4,none⟩=some (.int .i64 s.deep)∧w.cell? ⟨b,5,none⟩=some (.int .i64 s.groups)∧w.cell? ⟨b,6,none⟩=some V1∧w.cell? ⟨b,7,none⟩=some V2∧∀ o,w.frozen? ⟨b,o,none⟩=false:=by
 refine ⟨?_,?_,?_,?_,?_,?_,?_,?_,fun o=>frozen_row h.hp⟩<;>rw [cell_of_row _ _ _ _ _ _ h.hp]<;>rfl
/-- kept by whatever hides no more than the parser's blocks, and writes none of them -/
theorem PsAt.mvd {F F':Nat→Bool} (h:PsAt b n c d A l s V1 V2 w) (k:Mvd F F' w w') (hF:∀ i,i < w.heap.size→F i=true→i≠b∧b < i∧V1.ownBlock≠some i∧V2.ownBlock≠some i):PsAt b n c d A l s V1 V2 w':=by
 have hk:∀ i,i < w.heap.size→(i≤b∨V1.ownBlock=some i∨V2.ownBlock=some i)→w'.heap[i]?=w.heap[i]?:=by
  intro i hi hc
  refine k.keep i hi ?_
  cases e:F i
  ·rfl
  ·have:=hF i hi e
   rcases hc with hc|hc|hc
   ·omega
   ·exact absurd hc this.2.2.1
   ·exact absurd hc this.2.2.2
 have hown:∀ {e:TypeId} {size m:Nat} {v:Value} {xs:List Value},w.ownsRow (b+1) e size v m xs→(∀ g,v.ownBlock=some g→V1.ownBlock=some g∨V2.ownBlock=some g)→w'.ownsRow (b+1) e size v m xs:=by
  intro e size m v xs ho hv
  refine ⟨ho.1,?_⟩
  rcases ho.2 with hn|⟨g,cap,cur,rfl,hb,hgg,rest⟩
  ·exact .inl hn
  ·exact .inr ⟨g,cap,cur,rfl,hb,(hk g (lt_heap hgg) (.inr (hv g rfl))).trans hgg,rest⟩
 exact ⟨(hk b h.lt (.inl (Nat.le_refl _))).trans h.hp,h.row.keep fun p hp=>World.cell?_of_block (hk p.block (Nat.lt_trans hp h.lt) (.inl (Nat.le_of_lt hp))),h.small,h.nc,h.cm,hown h.names fun g hg=>.inl hg,hown h.ags fun g hg=>.inr hg,h.ap,h.lo,h.hi,h.dp,h.gr⟩
/-- a number or a truth of it set -/
theorem PsAt.set {s':PS} (h:PsAt b n c d A l s V1 V2 w) {j:Nat} {v:Value}
  (hv:(#[.int .i64 d,.slice A n c,.int .i64 s.at_,.bool s.fold,.int .i64 s.deep,.int .i64 s.groups,V1,V2]:Array Value).setIfInBounds j v=#[.int .i64 d,.slice A n c,.int .i64 s'.at_,.bool s'.fold,.int .i64 s'.deep,.int .i64 s'.groups,V1,V2])
  (hn:s'.names=s.names) (ha:s'.ags=s.ags) (h0:0≤s'.at_∧s'.at_≤n) (hd:0≤s'.deep∧s'.deep≤20) (hg:0≤s'.groups∧s'.groups≤20):PsAt b n c d A l s' V1 V2 (w.setCell ⟨b,j,none⟩ v):=by
 have hk:Kept b w (w.setCell ⟨b,j,none⟩ v):=(Kept.refl b w).set j v
 exact ⟨put1 h.hp hv,h.row.kept hk (Nat.le_refl _) (Nat.le_of_lt h.lt),h.small,h.nc,h.cm,by rw [hn];exact own_keptb h.names hk (Nat.lt_succ_self _),by rw [ha];exact own_keptb h.ags hk (Nat.lt_succ_self _),h.ap,h0.1,h0.2,hd,hg⟩
end
theorem fail45 (x at_:Int) (w:World):Calls Tryz.prog 45 #[.int .i64 x,.int .i64 at_] w fun e w'=>e=.panicked (faultV x at_)∧w'=w:=by
 go_enter Tryz.func45,Tryz.ntmps45
 go_wp2
 exact ⟨rfl,rfl,rfl⟩
abbrev FR (α:Type):=Except (Int × Int) α
/-- what stands next -/
def nextS (d:Int) (l:List Int) (s:PS):FR (Option (Tk × Int)):=if (l.length:Int)≤s.at_ then .ok none else match tokenP d l s.at_ with
 | .error x=>.error (x,s.at_)
 | .ok p=>.ok (some p)
def NOut (at_:Int):FR (Option (Tk × Int))→Ending→Prop
 | .error q,e=>e=.panicked (faultV q.1 q.2)
 | .ok none,e=>e=.returned (.tuple #[.agg #[.int .i64 0,.int .i64 0,.string ⟨#[]⟩,.bool false,.int .i64 0,.int .i64 0,.int .i64 0,.int .i64 0],.int .i64 at_,.bool false])
 | .ok (some (t,nx)),e=>e=.returned (.tuple #[.agg #[.int .i64 t.kind,.int .i64 t.num,.string ⟨t.text.toArray⟩,.bool t.not_,.int .i64 t.least,.int .i64 t.most,.int .i64 t.way,.int .i64 t.fold],.int .i64 nx,.bool true])
/-- a token of this pattern, read -/
def TokC (d:Int) (l:List Int):Prop:=∀ (at_:Int) (A:Option Addr) (n c:Nat) (w:World),0≤at_→at_ < n→n≤300→n≤c→Rds w w.heap.size 1 A n (ints l)→Calls Tryz.prog 113 #[.int .i64 d,.slice A n c,.int .i64 at_] w fun e w'=>ROutT (tokenP d l at_) e∧Below w.heap.size w w'
def Z8:Obj:=.cells #[.int .i64 0,.int .i64 0,.string ⟨#[]⟩,.bool false,.int .i64 0,.int .i64 0,.int .i64 0,.int .i64 0] 108
set_option maxRecDepth 100000 in
set_option maxHeartbeats 8000000 in
theorem next78 {b n c:Nat} {d:Int} {A:Option Addr} {l:List Int} {s:PS} {V1 V2:Value} {w:World} (HT:Hid (TokC d l)) (h:PsAt b n c d A l s V1 V2 w) :
  Calls Tryz.prog 78 #[.pointer (some ⟨b,0,none⟩)] w fun e w'=>NOut s.at_ (nextS d l s) e∧Below w.heap.size w w':=by
 have hlen:=h.len
 have hlo:=h.lo
 have hhi:=h.hi
 have hsm:=h.small
 have hnc:=h.nc
 obtain ⟨at_,ha⟩:∃ x,x=s.at_:=⟨_,rfl⟩
 obtain ⟨r,hr⟩:∃ r,r=nextS d l s:=⟨_,rfl⟩
 rw [← hr]
 unfold nextS at hr
 rw [hlen,← ha] at hr
 have HR:=Lib.hid hr
 rw [← ha] at hlo hhi ⊢
 obtain ⟨W,hW⟩:∃ X,X=w.alloc (.cells #[.int .i64 0,.int .i64 0,.string ⟨#[]⟩,.bool false,.int .i64 0,.int .i64 0,.int .i64 0,.int .i64 0] 108):=⟨_,rfl⟩
 have hB:Below w.heap.size w W:=by rw [hW];exact (Below.refl _ _).alloc (Nat.le_refl _) _
 have HB:=Lib.hid hB
 have HS:=Lib.hid (h.next hB)
 have HZ:=Lib.hid (show W.heap[w.heap.size]?=some Z24 by rw [hW];exact hz_new)
 have hlt:=h.lt
 obtain ⟨c0,c1,c2,c3,c4,c5,c6,c7,cf⟩:=HS.out.cells
 rw [← ha] at c2
 have HA:=Lib.hid ha
 clear h hr ha hB hlen
 go_enter Tryz.func78,Tryz.ntmps78
 go_upto_region 1 with (fail)
 rw [← hW]
 clear hW
 by_cases hend:(n:Int)≤at_
 ·have e1:decide (at_ ≥ (n:Int))=true:=decide_eq_true hend
  have hE:r=.ok none:=HR.out.trans (if_pos hend)
  subst hE
  clear hend
  go_quiet (fail)
  obtain ⟨V,hV⟩:∃ V,V=W.drewN nq:=⟨_,rfl⟩
  have HBV:=Lib.hid (show Below W.heap.size W V by rw [hV];exact below_drewN (Below.refl _ _) _)
  rw [← hV]
  have HSV:=Lib.hid (HS.out.next HBV.out)
  have HZV:=Lib.hid (row_next HZ.out HBV.out)
  clear hV c0 c1 c2 c3 c4 c5 c6 c7 cf
  obtain ⟨c0,c1,c2,c3,c4,c5,c6,c7,cf⟩:=HSV.out.cells
  rw [← HA.out] at c2
  have g0:=frozen_row (o:=0) HZV.out
  have g1:=frozen_row (o:=1) HZV.out
  have g2:=frozen_row (o:=2) HZV.out
  have g3:=frozen_row (o:=3) HZV.out
  have g4:=frozen_row (o:=4) HZV.out
  have g5:=frozen_row (o:=5) HZV.out
  have g6:=frozen_row (o:=6) HZV.out
  have g7:=frozen_row (o:=7) HZV.out
  obtain ⟨z0,z1,z2,z3,z4,z5,z6,z7⟩:=cells8 HZV.out
  go_upto_region 2 with (fail)
  go_region
  go_wp2_with fail
  obtain ⟨Y,hY⟩:∃ Y,Y=((((((((V.setCell ⟨w.heap.size,0,none⟩ (.int .i64 0)).setCell ⟨w.heap.size,1,none⟩ (.int .i64 0)).setCell ⟨w.heap.size,2,none⟩ (.string ⟨#[]⟩)).setCell ⟨w.heap.size,3,none⟩ (.bool false)).setCell ⟨w.heap.size,4,none⟩ (.int .i64 0)).setCell ⟨w.heap.size,5,none⟩ (.int .i64 0)).setCell ⟨w.heap.size,6,none⟩ (.int .i64 0)).setCell ⟨w.heap.size,7,none⟩ (.int .i64 0)).drew:=⟨_,rfl⟩
  have HY:=Lib.hid (show Y.heap[w.heap.size]?=some (.cells #[.int .i64 0,.int .i64 0,.string ⟨#[]⟩,.bool false,.int .i64 0,.int .i64 0,.int .i64 0,.int .i64 0] 108 (0,0)) by rw [hY];exact hz_drew (put24 HZV.out))
  have HBY:=Lib.hid (show Below w.heap.size w Y by rw [hY];exact (put24_below (HB.out.trans (HBV.out.mono HB.out.size)) (Nat.le_refl _)).drew)
  rw [← hY]
  clear hY
  refine bodyPost_ret (v:=_) (results24q Tryz.results78 _ _ w.heap.size _ (.int .i64 at_) (.bool false) ?_ ?_ ?_ HY.out ?_) rfl ?_
  ·rfl
  ·rfl
  ·rfl
  ·rfl
  ·exact ⟨rfl,HBY.out⟩
 ·have e1:decide (at_ ≥ (n:Int))=false:=decide_eq_false hend
  have HR:=Lib.hid (HR.out.trans (if_neg hend))
  have hat:at_ < n:=by omega
  obtain ⟨t,nx,x,hcase⟩:∃ (t:Tk) (nx x:Int),(x≠0∧tokenP d l at_=.error x∧t={}∧nx=0)∨(x=0∧tokenP d l at_=.ok (t,nx)):=by
   cases ht:tokenP d l at_ with
   | error x=>exact ⟨{},0,x,.inl ⟨token_er d l at_ x ht,rfl,rfl,rfl⟩⟩
   | ok p=>exact ⟨p.1,p.2,0,.inr ⟨rfl,rfl⟩⟩
  have CT0:=Lib.hid (fun (W:World) (hW:PsAt b n c d A l s V1 V2 W)=>show Calls Tryz.prog 113 #[.int .i64 d,.slice A n c,.int .i64 at_] W fun e w'=>e=.returned (.tuple #[.agg #[.int .i64 t.kind,.int .i64 t.num,.string ⟨t.text.toArray⟩,.bool t.not_,.int .i64 t.least,.int .i64 t.most,.int .i64 t.way,.int .i64 t.fold],.int .i64 nx,.int .i64 x])∧Below W.heap.size W w' by
   refine (HT.out at_ A n c W hlo hat hsm hnc (hW.row.more (Nat.le_of_lt hW.lt))).mono fun e w' h=>⟨?_,h.2⟩
   have h1:=h.1
   rcases hcase with ⟨-,e,rfl,rfl⟩|⟨rfl,e⟩
   ·rw [e] at h1;exact h1
   ·rw [e] at h1;exact h1)
  have HC:=Lib.hid hcase
  clear hend hcase HT
  go_quiet (fail)
  obtain ⟨V,hV⟩:∃ V,V=W.drewN nq:=⟨_,rfl⟩
  have HBV:=Lib.hid (show Below W.heap.size W V by rw [hV];exact below_drewN (Below.refl _ _) _)
  rw [← hV]
  have HSV:=Lib.hid (HS.out.next HBV.out)
  have HZV:=Lib.hid (row_next HZ.out HBV.out)
  have HWV:=Lib.hid (HB.out.trans (HBV.out.mono HB.out.size))
  have hsV:w.heap.size < V.heap.size:=lt_heap HZV.out
  clear hV c0 c1 c2 c3 c4 c5 c6 c7 cf HBV HB HS HZ
  go_upto_region 3 with (fail)
  go_cut [5,6,7] from 23 to 40 (fun t5 t6 t7 wc=>t6=.int .i64 nx∧t7=.int .i64 x∧∃ g,t5=.pointer (some ⟨g,0,none⟩)∧w.heap.size < g∧Hid (wc.heap[g]?=some (.cells #[.int .i64 t.kind,.int .i64 t.num,.string ⟨t.text.toArray⟩,.bool t.not_,.int .i64 t.least,.int .i64 t.most,.int .i64 t.way,.int .i64 t.fold] 108 (0,0)))∧Hid (Below V.heap.size V wc))
  ·obtain ⟨c0,c1,c2,c3,c4,c5,c6,c7,cf⟩:=HSV.out.cells
   rw [← HA.out] at c2
   have hbA:Below V.heap.size V (World.drew (V.alloc (.cells #[.int .i64 0,.int .i64 0,.string ⟨#[]⟩,.bool false,.int .i64 0,.int .i64 0,.int .i64 0,.int .i64 0] 108))):=((Below.refl _ _).alloc (Nat.le_refl _) _).drew
   have HBA:=Lib.hid hbA
   have CT:=Lib.hid (CT0.out _ (HSV.out.next hbA))
   have CT1:=Lib.hid (CT0.out (World.drew V) (HSV.out.next (Below.drew (Below.refl _ _))))
   have HTA:=Lib.hid (show (World.drew (V.alloc (.cells #[.int .i64 0,.int .i64 0,.string ⟨#[]⟩,.bool false,.int .i64 0,.int .i64 0,.int .i64 0,.int .i64 0] 108))).heap[V.heap.size]?=some (.cells #[.int .i64 0,.int .i64 0,.string ⟨#[]⟩,.bool false,.int .i64 0,.int .i64 0,.int .i64 0,.int .i64 0] 108 (0,0)) from heap_alloc_new V _)
   obtain ⟨a0,a1,a2,a3,a4,a5,a6,a7,af⟩:=(HSV.out.next hbA).cells
   rw [← HA.out] at a2
   have hlA:=(HSV.out.next hbA).lt
   clear hbA a3 a4 a5 a6 a7 af CT0
   have d0:(World.drew V).cell? ⟨b,0,none⟩=some (.int .i64 d):=c0
   have d1:(World.drew V).cell? ⟨b,1,none⟩=some (.slice A n c):=c1
   have d2:(World.drew V).cell? ⟨b,2,none⟩=some (.int .i64 at_):=c2
   have ltV:=HSV.out.lt
   have N50:(⟨b,0,none⟩:Addr).block≠V.heap.size:=Nat.ne_of_lt ltV
   have N51:(⟨b,1,none⟩:Addr).block≠V.heap.size:=Nat.ne_of_lt ltV
   have N52:(⟨b,2,none⟩:Addr).block≠V.heap.size:=Nat.ne_of_lt ltV
   go_region_held3 (fun w'=>w'.cell? ⟨b,0,none⟩=some (.int .i64 d)∧w'.cell? ⟨b,1,none⟩=some (.slice A n c)∧w'.cell? ⟨b,2,none⟩=some (.int .i64 at_))
    (first
     | with_reducible exact ⟨c0,c1,c2⟩
     | with_reducible exact ⟨d0,d1,d2⟩
     | with_reducible exact ⟨a0,a1,a2⟩
     | with_reducible exact ⟨k0,k1,k2⟩
     | with_reducible exact ⟨(put24_cell N50).trans k0,(put24_cell N51).trans k1,(put24_cell N52).trans k2⟩
     | with_reducible exact ⟨m0 _,m1 _,m2 _⟩
     | (trace_state;fail))
    (first
     | (go_at_call 113;(with_reducible refine CT.out.mono ?_);rintro e u6 ⟨rfl,hb⟩;have HBT:=Lib.hid hb;have k0:=(hb.cell (p:=⟨b,0,none⟩) hlA).trans a0;have k1:=(hb.cell (p:=⟨b,1,none⟩) hlA).trans a1;have k2:=(hb.cell (p:=⟨b,2,none⟩) hlA).trans a2;have HTT6:=Lib.hid (row_next HTA.out hb);have g0:=frozen_row (o:=0) HTT6.out;have g1:=frozen_row (o:=0+1) HTT6.out;have g2:=frozen_row (o:=0+2) HTT6.out;have g3:=frozen_row (o:=0+3) HTT6.out;have g4:=frozen_row (o:=0+4) HTT6.out;have g5:=frozen_row (o:=0+5) HTT6.out;have g6:=frozen_row (o:=0+6) HTT6.out;have g7:=frozen_row (o:=0+7) HTT6.out;obtain ⟨z0,z1,z2,z3,z4,z5,z6,z7⟩:=cells8 HTT6.out;clear hb)
     | (go_at_call 113;(with_reducible refine CT1.out.mono ?_);rintro e u6 ⟨rfl,hb⟩;have HBT:=Lib.hid hb;have k0:=(hb.cell (p:=⟨b,0,none⟩) ltV).trans d0;have k1:=(hb.cell (p:=⟨b,1,none⟩) ltV).trans d1;have k2:=(hb.cell (p:=⟨b,2,none⟩) ltV).trans d2;have lt6:b < u6.heap.size:=Nat.lt_of_lt_of_le ltV hb.size;have m0:=fun o=>(World.cell?_alloc_lt u6 o ⟨b,0,none⟩ lt6).trans k0;have m1:=fun o=>(World.cell?_alloc_lt u6 o ⟨b,1,none⟩ lt6).trans k1;have m2:=fun o=>(World.cell?_alloc_lt u6 o ⟨b,2,none⟩ lt6).trans k2;have HTT6:=Lib.hid (heap_alloc_new u6 (.cells #[.int .i64 0,.int .i64 0,.string ⟨#[]⟩,.bool false,.int .i64 0,.int .i64 0,.int .i64 0,.int .i64 0] 108));have g0:=frozen_row (o:=0) HTT6.out;have g1:=frozen_row (o:=0+1) HTT6.out;have g2:=frozen_row (o:=0+2) HTT6.out;have g3:=frozen_row (o:=0+3) HTT6.out;have g4:=frozen_row (o:=0+4) HTT6.out;have g5:=frozen_row (o:=0+5) HTT6.out;have g6:=frozen_row (o:=0+6) HTT6.out;have g7:=frozen_row (o:=0+7) HTT6.out;obtain ⟨z0,z1,z2,z3,z4,z5,z6,z7⟩:=cells8 HTT6.out;clear hb))
   ·have hBX:=((Below.drew (Below.refl _ _)).trans HBT.out).alloc HBT.out.size (.cells #[.int .i64 t.kind,.int .i64 t.num,.string ⟨t.text.toArray⟩,.bool t.not_,.int .i64 t.least,.int .i64 t.most,.int .i64 t.way,.int .i64 t.fold] 108)
    go_wp2_with fail
    go_meet
    exact ⟨rfl,rfl,_,rfl,Nat.lt_of_lt_of_le hsV HBT.out.size,Lib.hid (heap_alloc_new u6 _),Lib.hid hBX⟩
   ·have hBX:Below V.heap.size V ((((((((u6.setCell ⟨V.heap.size,0,none⟩ (.int .i64 t.kind)).setCell ⟨V.heap.size,1,none⟩ (.int .i64 t.num)).setCell ⟨V.heap.size,2,none⟩ (.string ⟨t.text.toArray⟩)).setCell ⟨V.heap.size,3,none⟩ (.bool t.not_)).setCell ⟨V.heap.size,4,none⟩ (.int .i64 t.least)).setCell ⟨V.heap.size,5,none⟩ (.int .i64 t.most)).setCell ⟨V.heap.size,6,none⟩ (.int .i64 t.way)).setCell ⟨V.heap.size,7,none⟩ (.int .i64 t.fold)):=put24_below (HBA.out.trans (HBT.out.mono HBA.out.size)) (Nat.le_refl _)
    go_wp2_with fail
    go_meet
    exact ⟨rfl,rfl,_,rfl,hsV,Lib.hid (put24 HTT6.out),Lib.hid hBX⟩
  obtain ⟨rfl,rfl,g,rfl,hgw,HG,HX⟩:=hcut
  have HSX:=Lib.hid (HSV.out.next HX.out)
  have HZX:=Lib.hid (row_next HZV.out HX.out)
  have HBX:=Lib.hid (HWV.out.trans (HX.out.mono (Nat.le_of_lt hsV)))
  obtain ⟨c0,c1,c2,c3,c4,c5,c6,c7,cf⟩:=HSX.out.cells
  rw [← HA.out] at c2
  clear HSV HZV HWV HX CT0
  rcases HC.out with ⟨hx,ht,-,-⟩|⟨rfl,ht⟩
  ·have ex:(x != 0)=true:=by simpa using hx
   have hE:r=.error (x,at_):=by rw [HR.out,ht]
   subst hE
   clear hx ht HC
   go_wp2_with (go_at_call 45;(with_reducible refine (fail45 _ _ _).mono ?_);rintro e w6 ⟨rfl,rfl⟩)
   exact ⟨rfl,rfl,HBX.out⟩
  ·have hE:r=.ok (some (t,nx)):=by rw [HR.out,ht]
   subst hE
   clear ht HC
   obtain ⟨t0,t1,t2,t3,t4,t5,t6,t7⟩:=cells8 HG.out
   go_wp2_with ((with_reducible apply store24 (g:=w.heap.size));rfl;(with_reducible rfl);rfl;rfl;(exact HZX.out);rfl;rfl)
   ((try simp only [Exit.inBlock,Exit.then]);refine bodyPost_ret (v:=_) (results24q Tryz.results78 _ _ w.heap.size _ (.int .i64 nx) (.bool true) ?_ ?_ ?_ (row24 HZX.out) ?_) rfl ?_;rfl;rfl;rfl;rfl;exact ⟨rfl,Below.setRow HBX.out (Nat.le_refl _) _⟩)
end Go.Proofs.YtbiahhojnjchnaaGreat
