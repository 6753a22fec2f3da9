/-
  The law ParseNumbers: walked.
-/
import Derived.Test.YtbiahhojnjchnaaGreatPnT
set_option linter.unusedVariables false
set_option linter.unusedSimpArgs false
namespace Go.Proofs.YtbiahhojnjchnaaGreat
open Go.RowKit
set_option maxRecDepth 100000 in
set_option maxHeartbeats 8000000 in
theorem lawParseNumbers {FQ:(Int→Prop)→Int→Prop} (HF:Hid (FoldC FQ)) (d:ND) (gr:Int) (nA:Option Addr) (nn nc:Nat) (ns:List (ByteArray × Int)) (nm:ByteArray) (w:World) (ha:Rds w w.heap.size 2 nA nn (nms ns)) (hn:nn≤maxLen) :
  Calls Tryz.prog 8 #[patV d gr nA nn nc,.string nm] w fun e w'=>e=.returned (.bool true)∧Below w.heap.size w w':=by
 obtain ⟨Y,hY⟩:∃ Y,Y=w.alloc (.cells #[.int .i64 d.kind,.slice d.sA d.sn d.sc,.slice d.kA d.kn d.kc,.int .i64 d.num,.int .i64 d.least,.int .i64 d.most,.int .i64 d.way,.bool d.fold,.int .i64 gr,.slice nA nn nc] 45):=⟨_,rfl⟩
 have hB:Below w.heap.size w Y:=by rw [hY];exact (Below.refl _ _).alloc (Nat.le_refl _) _
 have HZ:=Lib.hid (show Y.heap[w.heap.size]?=some (.cells #[.int .i64 d.kind,.slice d.sA d.sn d.sc,.slice d.kA d.kn d.kc,.int .i64 d.num,.int .i64 d.least,.int .i64 d.most,.int .i64 d.way,.bool d.fold,.int .i64 gr,.slice nA nn nc] 45 (0,0)) by rw [hY];exact heap_alloc_new w _)
 have hAY:=(ha.below hB (Nat.le_refl _)).more hB.size
 have HLN:=Lib.hid (show ns.length=nn by have:=ha.1;rw [nms_length] at this;omega)
 have C26:=Lib.hid (number26 d gr nA nn nc ns nm Y hAY hn)
 unfold patV at C26 ⊢
 have HA:=Lib.hid hAY
 have HB:=Lib.hid hB
 obtain ⟨R1,R2,hR⟩:∃ R1 R2,(R1,R2)=numF nm ns:=⟨_,_,rfl⟩
 rw [← hR] at C26
 have HR:=Lib.hid hR
 clear hB ha hAY hR
 unfold maxLen at hn
 have f0:=cell_of_row _ _ 0 _ _ _ HZ.out
 have f1:=cell_of_row _ _ 1 _ _ _ HZ.out
 have f2:=cell_of_row _ _ 2 _ _ _ HZ.out
 have f3:=cell_of_row _ _ 3 _ _ _ HZ.out
 have f4:=cell_of_row _ _ 4 _ _ _ HZ.out
 have f5:=cell_of_row _ _ 5 _ _ _ HZ.out
 have f6:=cell_of_row _ _ 6 _ _ _ HZ.out
 have f7:=cell_of_row _ _ 7 _ _ _ HZ.out
 have f8:=cell_of_row _ _ 8 _ _ _ HZ.out
 have f9:=cell_of_row _ _ 9 _ _ _ HZ.out
 simp only [List.getElem?_toArray,List.getElem?_cons_zero,List.getElem?_cons_succ] at f0 f1 f2 f3 f4 f5 f6 f7 f8 f9
 go_enter Tryz.func8,Tryz.ntmps8
 go_upto_region 1 with fail
 rw [← hY]
 clear hY
 go_upto_region 3 with (go_at_call 26;(with_reducible refine C26.out.mono ?_);rintro e w3 ⟨rfl,hb⟩;have HB3:=Lib.hid hb;clear hb)
 have HZ3:=Lib.hid (row_next HZ.out HB3.out)
 have HBF:=Lib.hid (HB.out.trans (HB3.out.mono HB.out.size))
 have HA3:=Lib.hid ((HA.out.below HB3.out (Nat.le_refl _)).more HB3.out.size)
 clear f0 f1 f2 f3 f4 f5 f6 f7 f8 f9 HZ C26 HB3 HB HA
 have g9:=cell_of_row _ _ 9 _ _ _ HZ3.out
 simp only [List.getElem?_toArray,List.getElem?_cons_zero,List.getElem?_cons_succ] at g9
 have W0:IntKind.i64.wrap ((nn:Int) - 1)=(nn:Int) - 1:=IntWalk.i64_in _ (by omega)
 go_upto_region 4 with fail
 go_loopw [7,8,9] (fun a b i wr=>∃ (k:Nat) (x y:Int),k≤nn∧i=.int .i64 ((k:Int) - 1)∧a=.int .i64 x∧b=.int .i64 y∧Hid ((x,y)=numF nm (ns.drop k))∧wr=w3) (fun _ _ i _=>(intOf i+1).toNat)
 case atStart=>exact ⟨nn,0,5,Nat.le_refl _,rfl,rfl,rfl,Lib.hid (by rw [List.drop_of_length_le (by rw [HLN.out];exact Nat.le_refl _)];rfl),rfl⟩
 case round =>
  obtain ⟨k,x,y,hk,rfl,rfl,rfl,HX,rfl⟩:=hrel
  clear W0
  cases k with
  | zero =>
   have HE:=Lib.hid (show x=R1∧y=R2 by
    have h:=HX.out.trans HR.out.symm
    simpa using h)
   obtain ⟨rfl,rfl⟩:=HE.out
   have C21:=Lib.hid (parseBegun21 HF wr)
   have i0:¬ (0:Int)≤((0:Nat):Int) - 1:=by omega
   go_wp2_with (go_at_call 21;(with_reducible refine C21.out.mono ?_);rintro e w4 ⟨rfl,hb⟩;have HB4:=Lib.hid hb;clear hb)
   go_ret
   exact ⟨ret_bool (by simp),HBF.out.trans (HB4.out.mono HBF.out.size)⟩
  | succ m =>
   have hlt:m < nn:=by omega
   obtain ⟨b1,off1,hl1,hA,hb1,q0,q1⟩:=HA3.out.nm_at hlt
   have HD:=Lib.hid (numF_drop nm ns m hl1)
   obtain ⟨p,hp⟩:∃ p,p=ns[m]:=⟨_,rfl⟩
   rw [← hp] at q0 q1 HD
   clear hp
   subst hA
   have e0:((m+1:Nat):Int) - 1=(m:Int):=by omega
   rw [e0]
   have W1:IntKind.i64.wrap ((m:Int) - 1)=(m:Int) - 1:=IntWalk.i64_in _ (by omega)
   have i1:(0:Int)≤(m:Int):=by omega
   have i2:(m:Int) < (nn:Int):=by omega
   by_cases hpn:p.1=nm
   ·have HE:=Lib.hid (show (p.2,(0:Int))=numF nm (ns.drop m) from (HD.out.trans (if_pos hpn)).symm)
    have e1:(p.1.toList == nm.toList)=true:=by rw [str_eq];exact decide_eq_true hpn
    clear hpn
    go_wp2_with fail
    go_roundw
    case rel=>exact ⟨m,p.2,0,by omega,rfl,rfl,rfl,HE,by trivial⟩
    case measure=>(simp [intOf])<;>omega
   ·have HE:=Lib.hid (show (x,y)=numF nm (ns.drop m) from HX.out.trans (HD.out.trans (if_neg hpn)).symm)
    have e1:(p.1.toList == nm.toList)=false:=by rw [str_eq];exact decide_eq_false hpn
    clear hpn
    go_wp2_with fail
    go_roundw
    case rel=>exact ⟨m,x,y,by omega,rfl,rfl,rfl,HE,by trivial⟩
    case measure=>(simp [intOf])<;>omega
end Go.Proofs.YtbiahhojnjchnaaGreat
