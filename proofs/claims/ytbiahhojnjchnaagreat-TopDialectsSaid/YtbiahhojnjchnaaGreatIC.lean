/-
  The points of a short text; the number of a name: walked. The number of a name: walked.
-/
import Derived.Test.YtbiahhojnjchnaaGreatIA
set_option linter.unusedVariables false
set_option linter.unusedSimpArgs false
namespace Go.Proofs.YtbiahhojnjchnaaGreat
open Go.RowKit
def ptsOf (s:ByteArray):List Int:=s.data.toList.map fun b=>(b.toNat:Int)
theorem ptsOf_length (s:ByteArray):(ptsOf s).length=s.size:=by unfold ptsOf;rw [List.length_map,Array.length_toList];rfl
theorem ptsOf_take (s:ByteArray) (k:Nat) (h:k < s.size):(ptsOf s).take (k+1)=(ptsOf s).take k ++ [((s[k]'h).toNat:Int)]:=by
 have hl:k < (ptsOf s).length:=by rw [ptsOf_length];exact h
 rw [List.take_succ_eq_append_getElem hl]
 congr 2
 simp [ptsOf]
 rfl
set_option maxRecDepth 100000 in
set_option maxHeartbeats 4000000 in
theorem pointsOf42 (s:ByteArray) (w:World) (hs:s.size≤1000):Calls Tryz.prog 42 #[.string s] w (OwnInts w (ptsOf s)):=by
 obtain ⟨L,hL⟩:∃ L,L=ptsOf s:=⟨_,rfl⟩
 have HLL:=Lib.hid hL
 have HLN:=Lib.hid (show L.length=s.size by rw [hL];exact ptsOf_length s)
 rw [← hL]
 clear hL
 go_enter Tryz.func42,Tryz.ntmps42
 go_wp2_with fail
 go_loopw [3,4] (fun v i wr=>∃ k:Nat,k≤s.size∧i=.int .i64 k∧Hid (wr.ownsRow w.heap.size 3 1 v k (ints (L.take k)))∧Hid (Below w.heap.size w wr)) (fun _ i _=>s.size - (intOf i).toNat)
 case atStart=>exact ⟨0,Nat.zero_le _,rfl,Lib.hid (World.ownsRow_nil _ _ _ _),Lib.hid (Below.refl _ _)⟩
 case round =>
  obtain ⟨k,hk,rfl,HO,HB⟩:=hrel
  obtain ⟨Av,cv,rfl,hmc,hcv⟩:=own_slice HO.out
  have W1:IntKind.i64.wrap ((k:Int)+1)=(k:Int)+1:=IntWalk.i64_in _ (by omega)
  by_cases hlt:k < s.size
  ·have i1:(0:Int)≤(k:Int):=by omega
   have i2:(k:Int) < (s.size:Int):=by omega
   have i3:decide ((k:Int) < (s.size:Int))=true:=decide_eq_true i2
   have hi:(0:Int)≤(k:Int)∧(k:Int) < (s.size:Int):=⟨i1,i2⟩
   have HT:=Lib.hid (show L.take (k+1)=L.take k ++ [((s[k]'hlt).toNat:Int)] by rw [HLL.out];exact ptsOf_take s k hlt)
   have hx8:(s[k]'hlt).toNat < 256:=(s[k]'hlt).toNat_lt
   have hw:wrap64 ((s[k]'hlt).toNat:Int)=((s[k]'hlt).toNat:Int):=by unfold wrap64;omega
   have R:=Lib.hid (Rds.new wr 1 1 #[.int .i64 (s[k]'hlt).toNat] 3 (ints [((s[k]'hlt).toNat:Int)]) rfl rfl)
   have n3:=World.new_ne wr
   have hsz:=HB.out.size
   clear hmc
   go_wp2_with (at_builtin;refine app_ints (.tmp 11) (.tmp 16) (base:=w.heap.size) (HO.out.alloc _) R.out (by omega) (by simp;omega) rfl rfl rfl rfl ?_;intro v3 w3 hown3 hg3 hat3)
   simp at hat3
   go_roundw
   case rel=>exact ⟨k+1,by omega,by first|rfl|go_num|(congr 1;omega),Lib.hid (by rw [HT.out];exact hown3),Lib.hid ((HB.out.alloc hsz _).grown hg3 (by simp;omega) (fun g hg=>(HO.out.lt g hg).1))⟩
   case measure=>simp [intOf];omega
  ·obtain rfl:k=s.size:=by omega
   have i2:¬ (s.size:Int) < (s.size:Int):=by omega
   have HE:=Lib.hid (show L.take s.size=L from List.take_of_length_le (by rw [HLN.out];exact Nat.le_refl _))
   go_wp2_with fail
   go_ret
   exact ownInts_of rfl (by rw [← HE.out];exact HO.out) HB.out
end Go.Proofs.YtbiahhojnjchnaaGreat
namespace Go.Proofs.YtbiahhojnjchnaaGreat
open Go.RowKit
def nmVals (n:ByteArray × Int):List Value:=[.string n.1,.int .i64 n.2]
def nms (l:List (ByteArray × Int)):List Value:=l.flatMap nmVals
theorem nms_length (l:List (ByteArray × Int)):(nms l).length=l.length * 2:=by
 induction l with
 | nil=>rfl
 | cons n l ih=>unfold nms at *;rw [List.flatMap_cons,List.length_append,ih,List.length_cons];show 2+_=_;omega
theorem nms_get (l:List (ByteArray × Int)) (k:Nat) (h:k < l.length):(nms l)[k * 2]?=some (.string l[k].1)∧(nms l)[k * 2+1]?=some (.int .i64 l[k].2):=by
 induction l generalizing k with
 | nil=>simp at h
 | cons n l ih =>
  have e:nms (n :: l)=[Value.string n.1,.int .i64 n.2] ++ nms l:=by unfold nms;rw [List.flatMap_cons];rfl
  rw [e]
  cases k with
  | zero=>exact ⟨rfl,rfl⟩
  | succ k =>
   have h2:=ih k (by simpa using h)
   rw [show (k+1) * 2=k * 2+2 from by omega,show k * 2+2+1=k * 2+1+2 from by omega]
   exact ⟨h2.1,h2.2⟩
theorem Rds.nm_at {w:World} {B n:Nat} {A:Option Addr} {l:List (ByteArray × Int)} (h:Rds w B 2 A n (nms l)) {k:Nat} (hk:k < n) :
  ∃ b off,∃ hl:k < l.length,A=some ⟨b,off,none⟩∧b < B∧w.cell? ⟨b,off+k * 2,none⟩=some (.string l[k].1)∧w.cell? ⟨b,off+k * 2+1,none⟩=some (.int .i64 l[k].2):=by
 obtain ⟨b,off,e,hb,hc⟩:=h.2 (by omega)
 have hl:k < l.length:=by have:=h.1;rw [nms_length] at this;omega
 obtain ⟨g1,g2⟩:=nms_get l k hl
 exact ⟨b,off,hl,e,hb,hc _ _ g1,by have:=hc _ _ g2;rwa [show off+(k * 2+1)=off+k * 2+1 from by omega] at this⟩
/-- the number of the first name that is this one -/
def numF (nm:ByteArray):List (ByteArray × Int)→Int × Int
 | []=>(0,5)
 | p :: l=>if p.1=nm then (p.2,0) else numF nm l
theorem numF_drop (nm:ByteArray) (l:List (ByteArray × Int)) (k:Nat) (h:k < l.length):numF nm (l.drop k)=if l[k].1=nm then (l[k].2,0) else numF nm (l.drop (k+1)):=by
 rw [List.drop_eq_getElem_cons h,numF]
theorem str_eq (a b:ByteArray):(a.toList == b.toList)=decide (a=b):=by
 rw [ByteArray.toList_eq,ByteArray.toList_eq]
 by_cases h:a=b
 ·simp [h]
 ·have:a.data.toList≠b.data.toList:=fun e=>h (by cases a;cases b;simp at e;simp [e])
  rw [decide_eq_false h];exact beq_eq_false_iff_ne.2 this
def patV (d:ND) (gr:Int) (nA:Option Addr) (nn nc:Nat):Value:=.agg #[.int .i64 d.kind,.slice d.sA d.sn d.sc,.slice d.kA d.kn d.kc,.int .i64 d.num,.int .i64 d.least,.int .i64 d.most,.int .i64 d.way,.bool d.fold,.int .i64 gr,.slice nA nn nc]
set_option maxRecDepth 100000 in
set_option maxHeartbeats 4000000 in
theorem number26 (d:ND) (gr:Int) (nA:Option Addr) (nn nc:Nat) (ns:List (ByteArray × Int)) (nm:ByteArray) (w:World) (ha:Rds w w.heap.size 2 nA nn (nms ns)) (hn:nn≤maxLen) :
  Calls Tryz.prog 26 #[patV d gr nA nn nc,.string nm] w fun e w'=>e=.returned (.tuple #[.int .i64 (numF nm ns).1,.int .i64 (numF nm ns).2])∧Below w.heap.size w w':=by
 unfold maxLen at hn
 have HLN:=Lib.hid (show ns.length=nn by have:=ha.1;rw [nms_length] at this;omega)
 have HA:=Lib.hid ha
 obtain ⟨R,hR⟩:∃ R,R=numF nm ns:=⟨_,rfl⟩
 rw [← hR]
 have HR:=Lib.hid hR
 clear ha hR
 unfold patV
 go_enter Tryz.func26,Tryz.ntmps26
 go_upto_region 2 with fail
 go_loopw [11] (fun i wr=>∃ k:Nat,k≤nn∧i=.int .i64 k∧Hid (numF nm (ns.drop k)=R)∧Hid (Below w.heap.size w wr)) (fun i _=>nn - (intOf i).toNat)
 case atStart=>exact ⟨0,Nat.zero_le _,rfl,Lib.hid HR.out.symm,Lib.hid ((Below.refl _ _).alloc (Nat.le_refl _) _)⟩
 case round =>
  obtain ⟨k,hk,rfl,HK,HW⟩:=hrel
  have hsz:=HW.out.size
  have W1:IntKind.i64.wrap ((k:Int)+1)=(k:Int)+1∨True:=Or.inr trivial
  by_cases hlt:k < nn
  ·obtain ⟨b1,off1,hl1,hA,hb1,q0,q1⟩:=(HA.out.below HW.out (Nat.le_refl _)).nm_at hlt
   have HD:=Lib.hid (HK.out.symm.trans (numF_drop nm ns k hl1))
   obtain ⟨p,hp⟩:∃ p,p=ns[k]:=⟨_,rfl⟩
   rw [← hp] at q0 q1 HD
   clear hp W1
   subst hA
   have W1:IntKind.i64.wrap ((k:Int)+1)=(k:Int)+1:=IntWalk.i64_in _ (by omega)
   have i1:(0:Int)≤(k:Int):=by omega
   have i2:(k:Int) < (nn:Int):=by omega
   have n3:=World.new_ne wr
   by_cases hpn:p.1=nm
   ·have HE:=Lib.hid (show R=(p.2,0) from HD.out.trans (if_pos hpn))
    have e1:(p.1.toList == nm.toList)=true:=by rw [str_eq];exact decide_eq_true hpn
    clear hpn
    go_wp2_with fail
    simp [results,Tryz.results26,go_sem,bodyPost]
    exact ⟨by rw [HE.out];exact ⟨rfl,rfl⟩,HW.out.alloc hsz _⟩
   ·have HE:=Lib.hid (show numF nm (ns.drop (k+1))=R from (HD.out.trans (if_neg hpn)).symm)
    have e1:(p.1.toList == nm.toList)=false:=by rw [str_eq];exact decide_eq_false hpn
    clear hpn
    go_wp2_with fail
    go_roundw
    case rel=>exact ⟨k+1,by omega,by first|rfl|go_num|(congr 1;omega),HE,Lib.hid (HW.out.alloc hsz _)⟩
    case measure=>simp [intOf];omega
  ·obtain rfl:k=nn:=by omega
   have HE:=Lib.hid (show R=(0,5) by rw [← HK.out,List.drop_of_length_le (by rw [HLN.out];exact Nat.le_refl _)];rfl)
   have i2:¬ (k:Int) < (k:Int):=by omega
   go_wp2_with fail
   simp [results,Tryz.results26,go_sem,bodyPost]
   exact ⟨by rw [HE.out];exact ⟨rfl,rfl⟩,HW.out⟩
end Go.Proofs.YtbiahhojnjchnaaGreat
