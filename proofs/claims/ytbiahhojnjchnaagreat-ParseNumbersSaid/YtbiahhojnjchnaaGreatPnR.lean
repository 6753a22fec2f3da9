/-
  The points of a short text; the number of a name: walked.
-/
import Derived.Test.YtbiahhojnjchnaaGreatPnI
set_option linter.unusedVariables false
set_option linter.unusedSimpArgs false
namespace Go.Proofs.YtbiahhojnjchnaaGreat
open Go.RowKit
def ptsOf (s:ByteArray):List Int:=s.data.toList.map fun b=>(b.toNat:Int)
theorem ptsOf_length (s:ByteArray):(ptsOf s).length=s.size:=by unfold ptsOf;rw [List.length_map,Array.length_toList];rfl
theorem ptsOf_take (s:ByteArray) (k:Nat) (h:k < s.size):(ptsOf s).take (k+1)=(ptsOf s).take k ++ [((s[k]'h).toNat:Int)]:=by
 have hl:k < (ptsOf s).length:=by rw [ptsOf_length];exact h
 rw [List.take_succ_eq_append_getElem hl]
 congr 2
 simp [ptsOf]
 rfl
set_option maxRecDepth 100000 in
set_option maxHeartbeats 4000000 in
theorem pointsOf42 (s:ByteArray) (w:World) (hs:s.size≤1000):Calls Tryz.prog 42 #[.string s] w (OwnInts w (ptsOf s)):=by
 obtain ⟨L,hL⟩:∃ L,L=ptsOf s:=⟨_,rfl⟩
 have HLL:=Lib.hid hL
 have HLN:=Lib.hid (show L.length=s.size by rw [hL];exact ptsOf_length s)
 rw [← hL]
 clear hL
 go_enter Tryz.func42,Tryz.ntmps42
 go_wp2_with fail
 go_loopw [3,4] (fun v i wr=>∃ k:Nat,k≤s.size∧i=.int .i64 k∧Hid (wr.ownsRow w.heap.size 3 1 v k (ints (L.take k)))∧Hid (Below w.heap.size w wr)) (fun _ i _=>s.size - (intOf i).toNat)
 case atStart=>exact ⟨0,Nat.zero_le _,rfl,Lib.hid (World.ownsRow_nil _ _ _ _),Lib.hid (Below.refl _ _)⟩
 case round =>
  obtain ⟨k,hk,rfl,HO,HB⟩:=hrel
  obtain ⟨Av,cv,rfl,hmc,hcv⟩:=own_slice HO.out
  have W1:IntKind.i64.wrap ((k:Int)+1)=(k:Int)+1:=IntWalk.i64_in _ (by omega)
  by_cases hlt:k < s.size
  ·have i1:(0:Int)≤(k:Int):=by omega
   have i2:(k:Int) < (s.size:Int):=by omega
   have i3:decide ((k:Int) < (s.size:Int))=true:=decide_eq_true i2
   have hi:(0:Int)≤(k:Int)∧(k:Int) < (s.size:Int):=⟨i1,i2⟩
   have HT:=Lib.hid (show L.take (k+1)=L.take k ++ [((s[k]'hlt).toNat:Int)] by rw [HLL.out];exact ptsOf_take s k hlt)
   have hx8:(s[k]'hlt).toNat < 256:=(s[k]'hlt).toNat_lt
   have hw:wrap64 ((s[k]'hlt).toNat:Int)=((s[k]'hlt).toNat:Int):=by unfold wrap64;omega
   have R:=Lib.hid (Rds.new wr 1 1 #[.int .i64 (s[k]'hlt).toNat] 3 (ints [((s[k]'hlt).toNat:Int)]) rfl rfl)
   have n3:=World.new_ne wr
   have hsz:=HB.out.size
   clear hmc
   go_wp2_with (at_builtin;refine app_ints (.tmp 11) (.tmp 16) (base:=w.heap.size) (HO.out.alloc _) R.out (by omega) (by simp;omega) rfl rfl rfl rfl ?_;intro v3 w3 hown3 hg3 hat3)
   simp at hat3
   go_roundw
   case rel=>exact ⟨k+1,by omega,by first|rfl|go_num|(congr 1;omega),Lib.hid (by rw [HT.out];exact hown3),Lib.hid ((HB.out.alloc hsz _).grown hg3 (by simp;omega) (fun g hg=>(HO.out.lt g hg).1))⟩
   case measure=>simp [intOf];omega
  ·obtain rfl:k=s.size:=by omega
   have i2:¬ (s.size:Int) < (s.size:Int):=by omega
   have HE:=Lib.hid (show L.take s.size=L from List.take_of_length_le (by rw [HLN.out];exact Nat.le_refl _))
   go_wp2_with fail
   go_ret
   exact ownInts_of rfl (by rw [← HE.out];exact HO.out) HB.out
end Go.Proofs.YtbiahhojnjchnaaGreat
