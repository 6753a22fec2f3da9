/-
  A name among names: walked. What stands open, plain; its state as it is walked.
-/
import Derived.Test.YtbiahhojnjchnaaGreatPnB
import Derived.Test.YtbiahhojnjchnaaGreatPnH
set_option linter.unusedVariables false
set_option linter.unusedSimpArgs false
namespace Go.Proofs.YtbiahhojnjchnaaGreat
open Go.RowKit
theorem nameVs_length (l:List (List UInt8 × Int)):(nameVs l).length=l.length * 2:=by
 induction l with
 | nil=>rfl
 | cons p l ih=>simp [nameVs,ih];omega
theorem nameVs_append (a b:List (List UInt8 × Int)):nameVs (a ++ b)=nameVs a ++ nameVs b:=by
 induction a with
 | nil=>rfl
 | cons p a ih=>simp [nameVs,ih]
theorem nameVs_get (l:List (List UInt8 × Int)) (k:Nat) (h:k < l.length):(nameVs l)[k * 2]?=some (.string ⟨l[k].1.toArray⟩)∧(nameVs l)[k * 2+1]?=some (.int .i64 l[k].2):=by
 induction l generalizing k with
 | nil=>simp at h
 | cons p l ih =>
  cases k with
  | zero=>exact ⟨rfl,rfl⟩
  | succ k =>
   have:=ih k (by simpa using h)
   rw [nameVs,show (k+1) * 2=k * 2+1+1 by omega]
   simpa using this
theorem Rds.name_at {w:World} {B n:Nat} {A:Option Addr} {l:List (List UInt8 × Int)} (h:Rds w B 2 A n (nameVs l)) {k:Nat} (hk:k < n) :
  ∃ b off,∃ hl:k < l.length,A=some ⟨b,off,none⟩∧b < B∧w.cell? ⟨b,off+k * 2,none⟩=some (.string ⟨l[k].1.toArray⟩)∧w.cell? ⟨b,off+k * 2+1,none⟩=some (.int .i64 l[k].2):=by
 obtain ⟨b,off,e,hb,hc⟩:=h.2 (by omega)
 have hl:k < l.length:=by have:=h.1;rw [nameVs_length] at this;omega
 have g:=nameVs_get l k hl
 exact ⟨b,off,hl,e,hb,hc _ _ g.1,hc _ _ g.2⟩
def idxN (nm:List UInt8):List (List UInt8 × Int)→Nat→Int
 | [],_=>-1
 | p :: l,k=>if p.1=nm then (k:Int) else idxN nm l (k+1)
theorem idxN_drop (nm:List UInt8) (l:List (List UInt8 × Int)) (k:Nat) (h:k < l.length):idxN nm (l.drop k) k=if l[k].1=nm then (k:Int) else idxN nm (l.drop (k+1)) (k+1):=by
 rw [List.drop_eq_getElem_cons h,idxN]
theorem bytes_eq (a b:List UInt8):((⟨a.toArray⟩:ByteArray).toList == (⟨b.toArray⟩:ByteArray).toList)=decide (a=b):=by
 rw [ByteArray.toList_eq,ByteArray.toList_eq]
 by_cases h:a=b<;>simp [h]
set_option maxRecDepth 100000 in
theorem clo170 {g:Nat} {t:Tk} (p:List UInt8 × Int) {w:World} (hg:w.heap[g]?=some (.cells #[.int .i64 t.kind,.int .i64 t.num,.string ⟨t.text.toArray⟩,.bool t.not_,.int .i64 t.least,.int .i64 t.most,.int .i64 t.way,.int .i64 t.fold] 108 (0,0))) :
  Calls Tryz.prog 170 #[.agg #[.string ⟨p.1.toArray⟩,.int .i64 p.2],.pointer (some ⟨g,0,none⟩)] w fun e w'=>e=.returned (.bool (decide (p.1=t.text)))∧Below w.heap.size w w':=by
 have hlt:=lt_heap hg
 have HB:=Lib.hid (show Below w.heap.size w (w.alloc (.cells #[.string ⟨p.1.toArray⟩,.int .i64 p.2] 55)) from (Below.refl _ _).alloc (Nat.le_refl _) _)
 have hc:=cell_of_row _ _ 2 _ _ _ hg
 simp at hc
 have hcc:(w.alloc (.cells #[.string ⟨p.1.toArray⟩,.int .i64 p.2] 55)).cell? ⟨g,2,none⟩=some (.string ⟨t.text.toArray⟩):=(World.cell?_alloc_lt w _ ⟨g,2,none⟩ hlt).trans hc
 have HE:=Lib.hid (bytes_eq p.1 t.text)
 clear hg
 go_enter Tryz.func170,Tryz.ntmps170
 go_wp2_with fail
 go_ret
 exact ⟨ret_bool (by by_cases h:p.1=t.text<;>simp [h]),HB.out⟩
set_option maxRecDepth 100000 in
set_option maxHeartbeats 2000000 in
theorem index80_170 {g:Nat} (nm:List UInt8) (o:Obj) (ns:List (List UInt8 × Int)) (A:Option Addr) (n c:Nat) (w:World) (hn:n≤1000) (ha:Rds w w.heap.size 2 A n (nameVs ns)) (hg:w.heap[g]?=some o)
  (C:∀ (p:List UInt8 × Int) (W:World),W.heap[g]?=some o→Calls Tryz.prog 170 #[.agg #[.string ⟨p.1.toArray⟩,.int .i64 p.2],.pointer (some ⟨g,0,none⟩)] W fun e w'=>e=.returned (.bool (decide (p.1=nm)))∧Below W.heap.size W w') :
  Calls Tryz.prog 80 #[.slice A n c,.func (.func 170) #[] #[.pointer (some ⟨g,0,none⟩)]] w fun e w'=>e=.returned (.int .i64 (idxN nm ns 0))∧Below w.heap.size w w':=by
 have HA:=Lib.hid ha
 have HG:=Lib.hid hg
 have HLN:=Lib.hid (show ns.length=n by have:=ha.1;rw [nameVs_length] at this;omega)
 have HC:=Lib.hid C
 obtain ⟨I,hI⟩:∃ I,I=idxN nm ns 0:=⟨_,rfl⟩
 rw [← hI]
 have HI:=Lib.hid hI
 clear ha hg C hI
 go_enter Tryz.func80,Tryz.ntmps80
 go_wp2_with fail
 go_loopw [8] (fun i wr=>∃ k:Nat,k≤n∧i=.int .i64 k∧Hid (idxN nm (ns.drop k) k=I)∧Hid (Below w.heap.size w wr)) (fun i _=>n - (intOf i).toNat)
 case atStart=>exact ⟨0,Nat.zero_le _,rfl,Lib.hid HI.out.symm,Lib.hid (Below.refl _ _)⟩
 case round =>
  obtain ⟨k,hk,rfl,HK,HW⟩:=hrel
  have hsz:=HW.out.size
  by_cases hlt:k < n
  ·obtain ⟨b1,off1,hl1,hA,hb1,q0,q1⟩:=(HA.out.below HW.out (Nat.le_refl _)).name_at hlt
   have HD:=Lib.hid (HK.out.symm.trans (idxN_drop nm ns k hl1))
   obtain ⟨p,hp⟩:∃ p,p=ns[k]:=⟨_,rfl⟩
   rw [← hp] at q0 q1 HD
   clear hp
   subst hA
   have CC:=Lib.hid (HC.out p wr (row_next HG.out HW.out))
   have i1:(0:Int)≤(k:Int):=by omega
   have i2:(k:Int) < (n:Int):=by omega
   have W1:IntKind.i64.wrap ((k:Int)+1)=(k:Int)+1:=IntWalk.i64_in _ (by omega)
   by_cases hpn:p.1=nm
   ·have e1:decide (p.1=nm)=true:=decide_eq_true hpn
    have HE:=Lib.hid (show I=k from HD.out.trans (if_pos hpn))
    rw [e1] at CC
    clear hpn e1
    go_wp2_with (go_at_call 170;(with_reducible refine CC.out.mono ?_);rintro e w' ⟨rfl,hb⟩;have HB:=Lib.hid (HW.out.trans (hb.mono hsz));clear hb)
    go_ret
    exact ⟨ret_int HE.out.symm,HB.out⟩
   ·have e1:decide (p.1=nm)=false:=decide_eq_false hpn
    have HE:=Lib.hid (show idxN nm (ns.drop (k+1)) (k+1)=I from (HD.out.trans (if_neg hpn)).symm)
    rw [e1] at CC
    clear hpn e1
    go_wp2_with (go_at_call 170;(with_reducible refine CC.out.mono ?_);rintro e w' ⟨rfl,hb⟩;have HB:=Lib.hid (HW.out.trans (hb.mono hsz));clear hb)
    go_roundw
    case rel=>exact ⟨k+1,by omega,by first|rfl|go_num|(congr 1;omega),HE,HB⟩
    case measure=>simp [intOf];omega
  ·obtain rfl:k=n:=by omega
   have HE:=Lib.hid (show I=-1 by rw [← HK.out,List.drop_of_length_le (by rw [HLN.out];exact Nat.le_refl _)];rfl)
   have i2:¬ (k:Int) < (k:Int):=by omega
   go_wp2_with fail
   go_ret
   exact ⟨ret_int HE.out.symm,HW.out⟩
theorem idxN_ge (nm:List UInt8) (l:List (List UInt8 × Int)):∀ k:Nat,(0≤idxN nm l k↔∃ p ∈ l,p.1=nm)∧-1≤idxN nm l k:=by
 induction l with
 | nil=>intro k;exact ⟨by simp [idxN],by simp [idxN]⟩
 | cons p l ih =>
  intro k
  rw [idxN]
  by_cases h:p.1=nm
  ·rw [if_pos h];exact ⟨⟨fun _=>⟨p,by simp,h⟩,fun _=>by omega⟩,by omega⟩
  ·rw [if_neg h]
   refine ⟨(ih (k+1)).1.trans ⟨fun ⟨q,hq,e⟩=>⟨q,by simp [hq],e⟩,fun ⟨q,hq,e⟩=>?_⟩,(ih (k+1)).2⟩
   rcases List.mem_cons.1 hq with rfl|hq
   ·exact absurd e h
   ·exact ⟨q,hq,e⟩
set_option maxRecDepth 100000 in
theorem contains169 {g:Nat} {t:Tk} (ns:List (List UInt8 × Int)) (A:Option Addr) (n c:Nat) (w:World) (hn:n≤1000) (ha:Rds w w.heap.size 2 A n (nameVs ns)) (hg:w.heap[g]?=some (.cells #[.int .i64 t.kind,.int .i64 t.num,.string ⟨t.text.toArray⟩,.bool t.not_,.int .i64 t.least,.int .i64 t.most,.int .i64 t.way,.int .i64 t.fold] 108 (0,0))) :
  Calls Tryz.prog 169 #[.slice A n c,.func (.func 170) #[] #[.pointer (some ⟨g,0,none⟩)]] w fun e w'=>e=.returned (.bool (decide (0≤idxN t.text ns 0)))∧Below w.heap.size w w':=by
 have C:=Lib.hid (index80_170 (c:=c) t.text _ ns A n w hn ha hg fun p W hW=>clo170 p hW)
 clear ha hg
 go_enter Tryz.func169,Tryz.ntmps169
 go_wp2_with (go_at_call 80;(with_reducible refine C.out.mono ?_);rintro e w' ⟨rfl,hb⟩;have HB:=Lib.hid hb;clear hb)
 go_ret
 exact ⟨rfl,HB.out⟩
end Go.Proofs.YtbiahhojnjchnaaGreat
namespace Go.Proofs.YtbiahhojnjchnaaGreat
open Go.RowKit
/-- the state within a group -/
def openIn (s:PS) (t:Tk):PS :=
 { s with groups:=if t.num=11 then s.groups+1 else s.groups,names:=if t.num=11∧t.text≠[] then s.names ++ [(t.text,s.groups+1)] else s.names }
def foldIn (s:PS) (t:Tk):Bool:=if t.fold≠0 then decide (0 < t.fold) else s.fold
def groupNo (s:PS) (t:Tk):Int:=if t.num=11 then s.groups+1 else 0
def openS (pat:PS→FR (Tr × PS)) (d:Int) (l:List Int) (s:PS) (t:Tk) (frm:Int):FR (Tr × PS) :=
 if s.deep=20 then .error (2,frm)
 else if t.num=11∧s.groups=20 then .error (2,frm)
 else if t.num=11∧t.text≠[]∧0≤idxN t.text s.names 0 then .error (6,frm)
 else match pat { openIn s t with fold:=foldIn s t,deep:=s.deep+1 } with
  | .error q=>.error q
  | .ok p=>match nextS d l { p.2 with deep:=p.2.deep - 1,fold:=s.fold } with
   | .error q=>.error q
   | .ok none=>.error (1,p.2.at_)
   | .ok (some (t2,nx))=>if t2.kind≠8 then .error (1,p.2.at_)
    else if t.num=1 then .ok (p.1,{ p.2 with deep:=p.2.deep - 1,fold:=s.fold,at_:=nx })
    else .ok (.mk t.num [] [p.1] (groupNo s t) 0 0 0 false,{ p.2 with deep:=p.2.deep - 1,fold:=s.fold,at_:=nx })
def tokO (t:Tk):Obj:=.cells #[.int .i64 t.kind,.int .i64 t.num,.string ⟨t.text.toArray⟩,.bool t.not_,.int .i64 t.least,.int .i64 t.most,.int .i64 t.way,.int .i64 t.fold] 108
structure Op (b n c:Nat) (d:Int) (A:Option Addr) (l:List Int) (s:PS) (U1 U2 V1 V2:Value) (w:World) (t:Tk) (o:Array Value) (X:World):Prop where
 ps:PsAt b n c d A l s U1 U2 X
 mv:Mvd (pm b V1 V2) (pm b U1 U2) w X
 no:∀ k,w.heap.size≤k→k < w.heap.size+3→pm b U1 U2 k=false
 r0:X.heap[w.heap.size]?=some (tokO t)
 r1:X.heap[w.heap.size+1]?=some Z42
 r2:X.heap[w.heap.size+2]?=some (.cells o 42 (0,0))
 hb:b < w.heap.size
section
variable {b n c:Nat} {d:Int} {A:Option Addr} {l:List Int} {s s':PS} {U1 U2 V1 V2 Q1 Q2:Value} {w X Y:World} {t:Tk} {o:Array Value}
theorem Op.size (h:Op b n c d A l s U1 U2 V1 V2 w t o X):w.heap.size+3≤X.heap.size:=lt_heap h.r2
theorem Op.next (h:Op b n c d A l s U1 U2 V1 V2 w t o X) (hb:Below X.heap.size X Y):Op b n c d A l s U1 U2 V1 V2 w t o Y :=
 ⟨h.ps.next hb,h.mv.trans (Mvd.below hb),h.no,row_next h.r0 hb,row_next h.r1 hb,row_next h.r2 hb,h.hb⟩
theorem Op.set (h:Op b n c d A l s U1 U2 V1 V2 w t o X) {j:Nat} {v:Value}
  (hv:(#[.int .i64 d,.slice A n c,.int .i64 s.at_,.bool s.fold,.int .i64 s.deep,.int .i64 s.groups,U1,U2]:Array Value).setIfInBounds j v=#[.int .i64 d,.slice A n c,.int .i64 s'.at_,.bool s'.fold,.int .i64 s'.deep,.int .i64 s'.groups,U1,U2])
  (hn:s'.names=s.names) (ha:s'.ags=s.ags) (h0:0≤s'.at_∧s'.at_≤n) (hd:0≤s'.deep∧s'.deep≤20) (hg:0≤s'.groups∧s'.groups≤20):Op b n c d A l s' U1 U2 V1 V2 w t o (X.setCell ⟨b,j,none⟩ v):=by
 have hk:Kept b X (X.setCell ⟨b,j,none⟩ v):=(Kept.refl b X).set j v
 have hbw:=h.hb
 exact ⟨h.ps.set hv hn ha h0 hd hg,h.mv.trans (Mvd.kept hk (pm_b _ _ _)),h.no,hz_set (p:=⟨b,j,none⟩) h.r0 (by simp only;omega),hz_set (p:=⟨b,j,none⟩) h.r1 (by simp only;omega),hz_set (p:=⟨b,j,none⟩) h.r2 (by simp only;omega),h.hb⟩
theorem Op.out (h:Op b n c d A l s U1 U2 V1 V2 w t o X) (j:Nat) (v:Value):Op b n c d A l s U1 U2 V1 V2 w t (o.setIfInBounds j v) (X.setCell ⟨w.heap.size+2,j,none⟩ v):=by
 have hk:Kept (w.heap.size+2) X (X.setCell ⟨w.heap.size+2,j,none⟩ v):=(Kept.refl _ X).set j v
 have hno:=pm_no (h.no (w.heap.size+2) (by omega) (by omega))
 have hbw:=h.hb
 have hF:∀ i,(fun i=>i == w.heap.size+2) i=true→i=w.heap.size+2:=fun i hi=>by simpa using hi
 exact ⟨h.ps.mvd (F:=fun i=>i == w.heap.size+2) (F':=fun i=>i == w.heap.size+2) (Mvd.kept hk (by simp)) fun i _ hi=>by rw [hF i hi];exact ⟨hno.1,by omega,hno.2.1,hno.2.2⟩,
  h.mv.over (F:=fun i=>i == w.heap.size+2) (F':=fun i=>i == w.heap.size+2) (Mvd.kept hk (by simp)) (fun i hi=>by simp;omega),h.no,
  hz_set (p:=⟨w.heap.size+2,j,none⟩) h.r0 (by simp only;omega),hz_set (p:=⟨w.heap.size+2,j,none⟩) h.r1 (by simp only;omega),row_set' h.r2,h.hb⟩
theorem Op.call (h:Op b n c d A l s U1 U2 V1 V2 w t o X) (hp:PsAt b n c d A l s' Q1 Q2 Y) (hm:Mvd (pm b U1 U2) (pm b Q1 Q2) X Y):Op b n c d A l s' Q1 Q2 V1 V2 w t o Y:=by
 have hsz:=h.size
 have hk:∀ k,w.heap.size≤k→k < w.heap.size+3→Y.heap[k]?=X.heap[k]?:=fun k h1 h2=>hm.keep k (by omega) (h.no k h1 h2)
 refine ⟨hp,h.mv.trans hm,fun k h1 h2=>?_,(hk _ (by omega) (by omega)).trans h.r0,(hk _ (by omega) (by omega)).trans h.r1,(hk _ (by omega) (by omega)).trans h.r2,h.hb⟩
 cases e:pm b Q1 Q2 k
 ·rfl
 ·rw [← h.no k h1 h2];exact (hm.sub k (by omega) e).symm
theorem Op.bad (h:Op b n c d A l s U1 U2 V1 V2 w t o X):PBad b (pm b V1 V2) w X:=h.ps.bad h.mv
theorem Op.cells (h:Op b n c d A l s U1 U2 V1 V2 w t o X):X.cell? ⟨b,0,none⟩=some (.int .i64 d)∧X.cell? ⟨b,1,none⟩=some (.slice A n c)∧X.cell? ⟨b,2,none⟩=some (.int .i64 s.at_)∧X.cell? ⟨b,3,none⟩=some (.bool s.fold)∧X.cell? ⟨b,4,none⟩=some (.int .i64 s.deep)∧X.cell? ⟨b,5,none⟩=some (.int .i64 s.groups)∧X.cell? ⟨b,6,none⟩=some U1∧X.cell? ⟨b,7,none⟩=some U2∧∀ o,X.frozen? ⟨b,o,none⟩=false:=h.ps.cells
/-- a name more -/
theorem Op.name {v:Value} (h:Op b n c d A l s U1 U2 V1 V2 w t o X) (nm:List UInt8) (k:Int) (hB:Below X.heap.size X Y) {Z:World} (hO:Z.ownsRow (b+1) 55 2 v (s.names.length+1) (nameVs (s.names ++ [(nm,k)]))) (hg:Y.grownBy Z U1.ownBlock) (hat:v.ownBlock=U1.ownBlock∨v.ownBlock=some Y.heap.size) :
  Op b n c d A l { s with names:=s.names ++ [(nm,k)] } v U2 V1 V2 w t o (Z.setCell ⟨b,6,none⟩ v):=by
 have hy:=h.next hB
 have hsz:=hy.size
 have hbw:=h.hb
 have hbY:=hy.ps.lt
 have hnr:∀ i,i < Y.heap.size→U1.ownBlock≠some i→Z.heap[i]?=Y.heap[i]?:=fun i hi hn=>hg.block i hi fun e=>hn e.symm
 have hown1:∀ g,U1.ownBlock=some g→b+1≤g∧g < Y.heap.size:=fun g e=>World.ownsRow.lt hy.ps.names g e
 have hbn:U1.ownBlock≠some b:=fun e=>by have:=(hown1 b e).1;omega
 have hpZ:Z.heap[b]?=some (.cells #[.int .i64 d,.slice A n c,.int .i64 s.at_,.bool s.fold,.int .i64 s.deep,.int .i64 s.groups,U1,U2] 77 (0,0)):=(hnr b hbY hbn).trans hy.ps.hp
 have hk:Kept b Z (Z.setCell ⟨b,6,none⟩ v):=(Kept.refl b Z).set 6 v
 have hZ3:∀ k,w.heap.size≤k→k < w.heap.size+3→Z.heap[k]?=Y.heap[k]?:=fun k h1 h2=>hnr k (by omega) (pm_no (h.no k h1 h2)).2.1
 have hv2:∀ g,v.ownBlock=some g→U2.ownBlock≠some g:=fun g e e2=>by
  rcases hat with e3|e3
  ·exact hy.ps.ap g (e3 ▸ e) e2
  ·rw [e] at e3;injection e3 with e3
   have:=(World.ownsRow.lt hy.ps.ags g e2).2;omega
 have hsub:∀ i,i < Y.heap.size→pm b v U2 i=true→pm b U1 U2 i=true:=fun i hi e=>by
  simp only [pm,Bool.or_eq_true,beq_iff_eq] at e ⊢
  rcases e with e|e|e
  ·exact .inl e
  ·rcases hat with e3|e3
   ·exact .inr (.inl (e3 ▸ e))
   ·rw [e] at e3;injection e3 with e3;omega
  ·exact .inr (.inr e)
 have hmYZ:Mvd (pm b U1 U2) (pm b v U2) Y Z:=Mvd.grown hg (fun g e=>by simp [pm,e]) hsub
 refine ⟨⟨put1 hpZ rfl,(hy.ps.row.keep fun p hp=>World.cell?_of_block (hnr p.block (by omega) fun e=>by have:=(hown1 _ e).1;omega)).kept hk (Nat.le_refl _) (Nat.le_of_lt (lt_heap hpZ)),h.ps.small,h.ps.nc,h.ps.cm,?_,own_keptb (own_keptg hy.ps.ags fun g e=>hnr g (World.ownsRow.lt hy.ps.ags g e).2 fun e2=>hy.ps.ap g e2 e) hk (Nat.lt_succ_self _),hv2,h.ps.lo,h.ps.hi,h.ps.dp,h.ps.gr⟩,(hy.mv.trans hmYZ).trans (Mvd.kept hk (pm_b _ _ _)),fun k h1 h2=>?_,?_,?_,?_,h.hb⟩
 ·rw [show ({ s with names:=s.names ++ [(nm,k)] }:PS).names.length=s.names.length+1 by simp]
  exact own_keptb hO hk (Nat.lt_succ_self _)
 ·cases e:pm b v U2 k
  ·rfl
  ·rw [← h.no k h1 h2];exact (hsub k (by omega) e).symm
 ·exact hz_set (p:=⟨b,6,none⟩) ((hZ3 _ (by omega) (by omega)).trans hy.r0) (by simp only;omega)
 ·exact hz_set (p:=⟨b,6,none⟩) ((hZ3 _ (by omega) (by omega)).trans hy.r1) (by simp only;omega)
 ·exact hz_set (p:=⟨b,6,none⟩) ((hZ3 _ (by omega) (by omega)).trans hy.r2) (by simp only;omega)
end
theorem name_info:(Tryz.prog.info? 55).map (fun i=>(i.zero,i.size,i.bytes))=some (some (.agg #[.string ⟨#[]⟩,.int .i64 0]),2,24):=by kernel_rfl
theorem nameVs_one (l:List (List UInt8 × Int)):∀ u ∈ nameVs l,u.oneCell'=true:=by
 induction l with
 | nil=>intro u hu;cases hu
 | cons p l ih =>
  intro u hu
  simp only [nameVs,List.mem_cons] at hu
  rcases hu with rfl|rfl|hu
  ·rfl
  ·rfl
  ·exact ih u hu
theorem step_app_names {w:World} {ops:Array Oper} {o:Oper} {a:Act} {K:Act→World→Prop} {Q:Exit→Act→World→Prop} {E:Prop} (s x:Operand) {base B n m c:Nat} {A:Option Addr} {v:Value} {xs ys:List (List UInt8 × Int)}
  (hown:w.ownsRow base 55 2 v n (nameVs xs)) (hr:Rds w B 2 A m (nameVs ys)) (hlen:n+m≤1000000000) (hbase:base≤w.heap.size) (hgd:o.guard=none)
  (ho:o.op=.call { callee:=.builtin .append,args:=#[s,x],argTypes:=#[43,43] }) (hs:a.eval s=v) (hx:a.eval x=.slice A m c)
  (h:∀ v' w',w'.ownsRow base 55 2 v' (n+m) (nameVs (xs ++ ys))→w.grownBy w' v.ownBlock→(v'.ownBlock=v.ownBlock∨v'.ownBlock=some w.heap.size)→K (a.put o.dst v') w') :
  if Region.wanted o (yielded ops a.tmps)=true then Oper.wp Tryz.prog o a w K Q else E:=by
 obtain ⟨i0,hi0,hz0,hz1,hz2⟩:=info_parts name_info
 refine step_append_rds w hgd s x _ ho base 55 i0 _ 2 24 Tryz.underlying43 hi0 hz0 hz1 hz2 rfl (by omega) v n _ hs hown B A m c _ hx hr (nameVs_one _) (by unfold maxLen;omega) (by omega) hbase ?_
 intro v' w' h1 h2 h3
 exact h v' w' (by rw [nameVs_append];exact h1) h2 h3
end Go.Proofs.YtbiahhojnjchnaaGreat
