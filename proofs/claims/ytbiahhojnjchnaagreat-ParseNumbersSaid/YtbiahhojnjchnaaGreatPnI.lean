/-
  A name among names: walked.
-/
import Derived.Test.YtbiahhojnjchnaaGreatPnB
set_option linter.unusedVariables false
set_option linter.unusedSimpArgs false
namespace Go.Proofs.YtbiahhojnjchnaaGreat
open Go.RowKit
theorem nameVs_length (l:List (List UInt8 × Int)):(nameVs l).length=l.length * 2:=by
 induction l with
 | nil=>rfl
 | cons p l ih=>simp [nameVs,ih];omega
theorem nameVs_append (a b:List (List UInt8 × Int)):nameVs (a ++ b)=nameVs a ++ nameVs b:=by
 induction a with
 | nil=>rfl
 | cons p a ih=>simp [nameVs,ih]
theorem nameVs_get (l:List (List UInt8 × Int)) (k:Nat) (h:k < l.length):(nameVs l)[k * 2]?=some (.string ⟨l[k].1.toArray⟩)∧(nameVs l)[k * 2+1]?=some (.int .i64 l[k].2):=by
 induction l generalizing k with
 | nil=>simp at h
 | cons p l ih =>
  cases k with
  | zero=>exact ⟨rfl,rfl⟩
  | succ k =>
   have:=ih k (by simpa using h)
   rw [nameVs,show (k+1) * 2=k * 2+1+1 by omega]
   simpa using this
theorem Rds.name_at {w:World} {B n:Nat} {A:Option Addr} {l:List (List UInt8 × Int)} (h:Rds w B 2 A n (nameVs l)) {k:Nat} (hk:k < n) :
  ∃ b off,∃ hl:k < l.length,A=some ⟨b,off,none⟩∧b < B∧w.cell? ⟨b,off+k * 2,none⟩=some (.string ⟨l[k].1.toArray⟩)∧w.cell? ⟨b,off+k * 2+1,none⟩=some (.int .i64 l[k].2):=by
 obtain ⟨b,off,e,hb,hc⟩:=h.2 (by omega)
 have hl:k < l.length:=by have:=h.1;rw [nameVs_length] at this;omega
 have g:=nameVs_get l k hl
 exact ⟨b,off,hl,e,hb,hc _ _ g.1,hc _ _ g.2⟩
def idxN (nm:List UInt8):List (List UInt8 × Int)→Nat→Int
 | [],_=>-1
 | p :: l,k=>if p.1=nm then (k:Int) else idxN nm l (k+1)
theorem idxN_drop (nm:List UInt8) (l:List (List UInt8 × Int)) (k:Nat) (h:k < l.length):idxN nm (l.drop k) k=if l[k].1=nm then (k:Int) else idxN nm (l.drop (k+1)) (k+1):=by
 rw [List.drop_eq_getElem_cons h,idxN]
theorem bytes_eq (a b:List UInt8):((⟨a.toArray⟩:ByteArray).toList == (⟨b.toArray⟩:ByteArray).toList)=decide (a=b):=by
 rw [ByteArray.toList_eq,ByteArray.toList_eq]
 by_cases h:a=b<;>simp [h]
set_option maxRecDepth 100000 in
theorem clo170 {g:Nat} {t:Tk} (p:List UInt8 × Int) {w:World} (hg:w.heap[g]?=some (.cells #[.int .i64 t.kind,.int .i64 t.num,.string ⟨t.text.toArray⟩,.bool t.not_,.int .i64 t.least,.int .i64 t.most,.int .i64 t.way,.int .i64 t.fold] 108 (0,0))) :
  Calls Tryz.prog 170 #[.agg #[.string ⟨p.1.toArray⟩,.int .i64 p.2],.pointer (some ⟨g,0,none⟩)] w fun e w'=>e=.returned (.bool (decide (p.1=t.text)))∧Below w.heap.size w w':=by
 have hlt:=lt_heap hg
 have HB:=Lib.hid (show Below w.heap.size w (w.alloc (.cells #[.string ⟨p.1.toArray⟩,.int .i64 p.2] 55)) from (Below.refl _ _).alloc (Nat.le_refl _) _)
 have hc:=cell_of_row _ _ 2 _ _ _ hg
 simp at hc
 have hcc:(w.alloc (.cells #[.string ⟨p.1.toArray⟩,.int .i64 p.2] 55)).cell? ⟨g,2,none⟩=some (.string ⟨t.text.toArray⟩):=(World.cell?_alloc_lt w _ ⟨g,2,none⟩ hlt).trans hc
 have HE:=Lib.hid (bytes_eq p.1 t.text)
 clear hg
 go_enter Tryz.func170,Tryz.ntmps170
 go_wp2_with fail
 go_ret
 exact ⟨ret_bool (by by_cases h:p.1=t.text<;>simp [h]),HB.out⟩
set_option maxRecDepth 100000 in
set_option maxHeartbeats 2000000 in
theorem index80_170 {g:Nat} (nm:List UInt8) (o:Obj) (ns:List (List UInt8 × Int)) (A:Option Addr) (n c:Nat) (w:World) (hn:n≤1000) (ha:Rds w w.heap.size 2 A n (nameVs ns)) (hg:w.heap[g]?=some o)
  (C:∀ (p:List UInt8 × Int) (W:World),W.heap[g]?=some o→Calls Tryz.prog 170 #[.agg #[.string ⟨p.1.toArray⟩,.int .i64 p.2],.pointer (some ⟨g,0,none⟩)] W fun e w'=>e=.returned (.bool (decide (p.1=nm)))∧Below W.heap.size W w') :
  Calls Tryz.prog 80 #[.slice A n c,.func (.func 170) #[] #[.pointer (some ⟨g,0,none⟩)]] w fun e w'=>e=.returned (.int .i64 (idxN nm ns 0))∧Below w.heap.size w w':=by
 have HA:=Lib.hid ha
 have HG:=Lib.hid hg
 have HLN:=Lib.hid (show ns.length=n by have:=ha.1;rw [nameVs_length] at this;omega)
 have HC:=Lib.hid C
 obtain ⟨I,hI⟩:∃ I,I=idxN nm ns 0:=⟨_,rfl⟩
 rw [← hI]
 have HI:=Lib.hid hI
 clear ha hg C hI
 go_enter Tryz.func80,Tryz.ntmps80
 go_wp2_with fail
 go_loopw [8] (fun i wr=>∃ k:Nat,k≤n∧i=.int .i64 k∧Hid (idxN nm (ns.drop k) k=I)∧Hid (Below w.heap.size w wr)) (fun i _=>n - (intOf i).toNat)
 case atStart=>exact ⟨0,Nat.zero_le _,rfl,Lib.hid HI.out.symm,Lib.hid (Below.refl _ _)⟩
 case round =>
  obtain ⟨k,hk,rfl,HK,HW⟩:=hrel
  have hsz:=HW.out.size
  by_cases hlt:k < n
  ·obtain ⟨b1,off1,hl1,hA,hb1,q0,q1⟩:=(HA.out.below HW.out (Nat.le_refl _)).name_at hlt
   have HD:=Lib.hid (HK.out.symm.trans (idxN_drop nm ns k hl1))
   obtain ⟨p,hp⟩:∃ p,p=ns[k]:=⟨_,rfl⟩
   rw [← hp] at q0 q1 HD
   clear hp
   subst hA
   have CC:=Lib.hid (HC.out p wr (row_next HG.out HW.out))
   have i1:(0:Int)≤(k:Int):=by omega
   have i2:(k:Int) < (n:Int):=by omega
   have W1:IntKind.i64.wrap ((k:Int)+1)=(k:Int)+1:=IntWalk.i64_in _ (by omega)
   by_cases hpn:p.1=nm
   ·have e1:decide (p.1=nm)=true:=decide_eq_true hpn
    have HE:=Lib.hid (show I=k from HD.out.trans (if_pos hpn))
    rw [e1] at CC
    clear hpn e1
    go_wp2_with (go_at_call 170;(with_reducible refine CC.out.mono ?_);rintro e w' ⟨rfl,hb⟩;have HB:=Lib.hid (HW.out.trans (hb.mono hsz));clear hb)
    go_ret
    exact ⟨ret_int HE.out.symm,HB.out⟩
   ·have e1:decide (p.1=nm)=false:=decide_eq_false hpn
    have HE:=Lib.hid (show idxN nm (ns.drop (k+1)) (k+1)=I from (HD.out.trans (if_neg hpn)).symm)
    rw [e1] at CC
    clear hpn e1
    go_wp2_with (go_at_call 170;(with_reducible refine CC.out.mono ?_);rintro e w' ⟨rfl,hb⟩;have HB:=Lib.hid (HW.out.trans (hb.mono hsz));clear hb)
    go_roundw
    case rel=>exact ⟨k+1,by omega,by first|rfl|go_num|(congr 1;omega),HE,HB⟩
    case measure=>simp [intOf];omega
  ·obtain rfl:k=n:=by omega
   have HE:=Lib.hid (show I=-1 by rw [← HK.out,List.drop_of_length_le (by rw [HLN.out];exact Nat.le_refl _)];rfl)
   have i2:¬ (k:Int) < (k:Int):=by omega
   go_wp2_with fail
   go_ret
   exact ⟨ret_int HE.out.symm,HW.out⟩
theorem idxN_ge (nm:List UInt8) (l:List (List UInt8 × Int)):∀ k:Nat,(0≤idxN nm l k↔∃ p ∈ l,p.1=nm)∧-1≤idxN nm l k:=by
 induction l with
 | nil=>intro k;exact ⟨by simp [idxN],by simp [idxN]⟩
 | cons p l ih =>
  intro k
  rw [idxN]
  by_cases h:p.1=nm
  ·rw [if_pos h];exact ⟨⟨fun _=>⟨p,by simp,h⟩,fun _=>by omega⟩,by omega⟩
  ·rw [if_neg h]
   refine ⟨(ih (k+1)).1.trans ⟨fun ⟨q,hq,e⟩=>⟨q,by simp [hq],e⟩,fun ⟨q,hq,e⟩=>?_⟩,(ih (k+1)).2⟩
   rcases List.mem_cons.1 hq with rfl|hq
   ·exact absurd e h
   ·exact ⟨q,hq,e⟩
set_option maxRecDepth 100000 in
theorem contains169 {g:Nat} {t:Tk} (ns:List (List UInt8 × Int)) (A:Option Addr) (n c:Nat) (w:World) (hn:n≤1000) (ha:Rds w w.heap.size 2 A n (nameVs ns)) (hg:w.heap[g]?=some (.cells #[.int .i64 t.kind,.int .i64 t.num,.string ⟨t.text.toArray⟩,.bool t.not_,.int .i64 t.least,.int .i64 t.most,.int .i64 t.way,.int .i64 t.fold] 108 (0,0))) :
  Calls Tryz.prog 169 #[.slice A n c,.func (.func 170) #[] #[.pointer (some ⟨g,0,none⟩)]] w fun e w'=>e=.returned (.bool (decide (0≤idxN t.text ns 0)))∧Below w.heap.size w w':=by
 have C:=Lib.hid (index80_170 (c:=c) t.text _ ns A n w hn ha hg fun p W hW=>clo170 p hW)
 clear ha hg
 go_enter Tryz.func169,Tryz.ntmps169
 go_wp2_with (go_at_call 80;(with_reducible refine C.out.mono ?_);rintro e w' ⟨rfl,hb⟩;have HB:=Lib.hid hb;clear hb)
 go_ret
 exact ⟨rfl,HB.out⟩
end Go.Proofs.YtbiahhojnjchnaaGreat
