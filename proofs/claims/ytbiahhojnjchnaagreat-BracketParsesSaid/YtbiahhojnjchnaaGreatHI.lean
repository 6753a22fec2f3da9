/-
  The reference's least functions: walked. Says of the reference: walked. Digits of the reference: walked. NameAt of the reference: walked. Repeat of the reference: walked. Names and short texts of the reference: what the calls tell, in the plain law's words.
-/
import Derived.Test.YtbiahhojnjchnaaGreatGS
import Derived.Test.YtbiahhojnjchnaaGreatGA
import Derived.Deep.QuietTactic
import Derived.BigQuiet
import Derived.Test.YtbiahhojnjchnaaGreatGQ
import Derived.Laws.BytesArg
import Derived.Laws.Concat
import Derived.Test.YtbiahhojnjchnaaGreatHE
import Derived.Test.YtbiahhojnjchnaaGreatGP
set_option linter.unusedVariables false
set_option linter.unusedSimpArgs false
namespace Go.Proofs.YtbiahhojnjchnaaGreat
open Go.RowKit
theorem between31 (p a b:Int) (w:World):Calls Tryz.prog 119 #[.int .i64 p,.int .i64 a,.int .i64 b] w fun e w'=>e=.returned (.bool (decide (a≤p) && decide (p≤b)))∧w=w':=by
 by_cases h1:a≤p<;>by_cases h2:p≤b
 all_goals
  go_enter Tryz.func119,Tryz.ntmps119
  go_wp2
  all_goals (go_ret;refine ⟨ret_bool ?_,rfl⟩;simp_all<;>try omega)
theorem isDigit44 (p:Int) (w:World):Calls Tryz.prog 216 #[.int .i64 p] w fun e w'=>e=.returned (.bool (isDig p))∧w=w':=by
 have C:=Lib.hid (between31 p 48 57 w)
 have HD:=Lib.hid (show isDig p=(decide (48≤p) && decide (p≤57)) from rfl)
 rw [← HD.out] at C
 go_enter Tryz.func216,Tryz.ntmps216
 go_wp2_with (go_at_call 119;refine C.out.mono ?_;rintro e w' ⟨rfl,rfl⟩)
 go_ret
 exact ⟨rfl,rfl⟩
theorem isPoint16 (p:Int) (w:World):Calls Tryz.prog 31 #[.int .i64 p] w fun e w'=>e=.returned (.bool (okPt p))∧w=w':=by
 by_cases h1:0≤p<;>by_cases h2:p≤1114111
 all_goals
  go_enter Tryz.func31,Tryz.ntmps31
  go_wp2
  all_goals (go_ret;refine ⟨ret_bool ?_,rfl⟩;unfold okPt;simp_all<;>try omega)
set_option maxHeartbeats 1000000 in
theorem pointAt28 (l:List Int) (p:Int) (A:Option Addr) (n c X:Nat) (w:World) (hn:n≤maxLen) (ha:Rds w X 1 A n (ints l)) :
  Calls Tryz.prog 92 #[.slice A n c,.int .i64 p] w fun e w'=>e=.returned (.int .i64 (ptAt l p))∧w=w':=by
 have HLN:=Lib.hid ha.ints_len
 unfold maxLen at hn
 by_cases h1:0≤p
 ·by_cases h2:p < n
  ·obtain ⟨k,rfl⟩:=Int.eq_ofNat_of_zero_le h1
   obtain ⟨b1,off1,hl1,hA,hb1,hc1⟩:=ha.int_at (k:=k) (by omega)
   have HP:=Lib.hid (ptAt_in l hl1)
   obtain ⟨x,hx⟩:∃ x,x=l[k]:=⟨_,rfl⟩
   rw [← hx] at hc1 HP
   clear hx ha
   subst hA
   go_enter Tryz.func92,Tryz.ntmps92
   go_wp2_with fail
   go_ret
   exact ⟨ret_int HP.out.symm,rfl⟩
  ·have HP:=Lib.hid (ptAt_out l (p:=p) (by rw [HLN.out];omega))
   clear ha
   go_enter Tryz.func92,Tryz.ntmps92
   go_wp2_with fail
   go_ret
   exact ⟨ret_int HP.out.symm,rfl⟩
 ·have HP:=Lib.hid (ptAt_out l (p:=p) (by omega))
  clear ha
  go_enter Tryz.func92,Tryz.ntmps92
  go_wp2_with fail
  go_ret
  exact ⟨ret_int HP.out.symm,rfl⟩
theorem isLetter35 (p:Int) (w:World):Calls Tryz.prog 183 #[.int .i64 p] w fun e w'=>e=.returned (.bool (isLet p))∧w=w':=by
 have C:=Lib.hid (between31 p 65 90 w)
 have D:=Lib.hid (between31 p 97 122 w)
 have HD:=Lib.hid (show isLet p=((decide (65≤p) && decide (p≤90)) || (decide (97≤p) && decide (p≤122))) from rfl)
 rw [HD.out]
 cases h1:(decide (65≤p) && decide (p≤90))<;>cases h2:(decide (97≤p) && decide (p≤122))
 all_goals
  rw [h1] at C
  rw [h2] at D
  clear h1 h2 HD
  go_enter Tryz.func183,Tryz.ntmps183
  go_wp2_with (first|(go_at_call 119;(with_reducible refine C.out.mono ?_);rintro e w' ⟨rfl,rfl⟩)|(go_at_call 119;(with_reducible refine D.out.mono ?_);rintro e w' ⟨rfl,rfl⟩))
  go_ret
  exact ⟨rfl,rfl⟩
theorem hexOf33 (p:Int) (w:World) (hp:-2000000≤p∧p≤2000000):Calls Tryz.prog 181 #[.int .i64 p] w fun e w'=>e=.returned (.int .i64 (hexV p))∧w=w':=by
 have B:=Lib.hid (isDigit44 p w)
 have C:=Lib.hid (between31 p 97 102 w)
 have D:=Lib.hid (between31 p 65 70 w)
 have HV:=Lib.hid (show hexV p=if isDig p=true then p - 48 else if 97≤p∧p≤102 then p - 87 else if 65≤p∧p≤70 then p - 55 else -1 from rfl)
 rw [HV.out]
 clear HV
 by_cases h1:isDig p=true
 ·rw [if_pos h1]
  rw [h1] at B
  clear h1
  go_enter Tryz.func181,Tryz.ntmps181
  go_wp2_with (go_at_call 216;refine B.out.mono ?_;rintro e w' ⟨rfl,rfl⟩)
  go_ret
  exact ⟨rfl,rfl⟩
 have h1':isDig p=false:=by simpa using h1
 rw [if_neg h1]
 rw [h1'] at B
 clear h1 h1'
 by_cases h2:97≤p∧p≤102
 ·rw [if_pos h2]
  rw [decide_eq_true h2.1,decide_eq_true h2.2] at C
  clear h2
  go_enter Tryz.func181,Tryz.ntmps181
  go_wp2_with (first|(go_at_call 216;refine B.out.mono ?_;rintro e w' ⟨rfl,rfl⟩)|(go_at_call 119;(with_reducible refine C.out.mono ?_);rintro e w' ⟨rfl,rfl⟩))
  go_ret
  exact ⟨rfl,rfl⟩
 have h2':(decide (97≤p) && decide (p≤102))=false:=by simp;omega
 rw [if_neg h2]
 rw [h2'] at C
 clear h2 h2'
 by_cases h3:65≤p∧p≤70
 ·rw [if_pos h3]
  rw [decide_eq_true h3.1,decide_eq_true h3.2] at D
  clear h3
  go_enter Tryz.func181,Tryz.ntmps181
  go_wp2_with (first|(go_at_call 216;refine B.out.mono ?_;rintro e w' ⟨rfl,rfl⟩)|(go_at_call 119;(with_reducible refine C.out.mono ?_);rintro e w' ⟨rfl,rfl⟩)|(go_at_call 119;(with_reducible refine D.out.mono ?_);rintro e w' ⟨rfl,rfl⟩))
  go_ret
  exact ⟨rfl,rfl⟩
 ·have h3':(decide (65≤p) && decide (p≤70))=false:=by simp;omega
  rw [if_neg h3]
  rw [h3'] at D
  clear h3 h3'
  go_enter Tryz.func181,Tryz.ntmps181
  go_wp2_with (first|(go_at_call 216;refine B.out.mono ?_;rintro e w' ⟨rfl,rfl⟩)|(go_at_call 119;(with_reducible refine C.out.mono ?_);rintro e w' ⟨rfl,rfl⟩)|(go_at_call 119;(with_reducible refine D.out.mono ?_);rintro e w' ⟨rfl,rfl⟩))
  go_ret
  exact ⟨rfl,rfl⟩
end Go.Proofs.YtbiahhojnjchnaaGreat
namespace Go.Proofs.YtbiahhojnjchnaaGreat
open Go.RowKit
/-- do these points stand there? -/
def saysP (l:List Int) (at_:Int) (s:List UInt8):Bool:=(List.range s.length).all fun i:Nat=>decide (ptAt l (at_+i)=((s.getD i 0).toNat:Int))
theorem saysP_bad {l:List Int} {at_:Int} {s:List UInt8} {k:Nat} (hk:k < s.length) (h:¬ ptAt l (at_+k)=((s[k]).toNat:Int)):saysP l at_ s=false:=by
 unfold saysP
 rw [List.all_eq_false]
 exact ⟨k,List.mem_range.2 hk,by simpa [List.getD,hk] using h⟩
theorem saysP_ok {l:List Int} {at_:Int} {s:List UInt8} (h:∀ k (hk:k < s.length),ptAt l (at_+k)=((s[k]).toNat:Int)):saysP l at_ s=true:=by
 unfold saysP
 rw [List.all_eq_true]
 intro k hk
 have:=h k (List.mem_range.1 hk)
 simpa [List.getD,List.mem_range.1 hk] using this
set_option maxHeartbeats 2000000 in
theorem says18 (l:List Int) (at_:Int) (s:ByteArray) (A:Option Addr) (n c X:Nat) (w:World) (hn:n≤maxLen) (hs:s.size≤100) (h0:-1000≤at_) (h1:at_≤100000) (ha:Rds w X 1 A n (ints l)) :
  Calls Tryz.prog 61 #[.slice A n c,.int .i64 at_,.string s] w fun e w'=>e=.returned (.bool (saysP l at_ s.data.toList))∧∃ q,w'=w.drewN q:=by
 obtain ⟨v,hv⟩:∃ v,v=saysP l at_ s.data.toList:=⟨_,rfl⟩
 rw [← hv]
 have HV:=Lib.hid hv
 have HA:=Lib.hid ha
 clear hv ha
 go_enter Tryz.func61,Tryz.ntmps61
 go_wp2_with fail
 go_loopw [7] (fun i wr=>∃ k:Nat,k≤s.size∧i=.int .i64 k∧Hid (∀ j (hj:j < k) (hs:j < s.data.toList.length),ptAt l (at_+j)=((s.data.toList[j]).toNat:Int))∧∃ q,wr=w.drewN q) (fun i _=>s.size - (intOf i).toNat)
 case atStart=>exact ⟨0,Nat.zero_le _,rfl,Lib.hid (fun j hj=>absurd hj (Nat.not_lt_zero _)),0,rfl⟩
 case round =>
  obtain ⟨k,hk,rfl,HJ,q,rfl⟩:=hrel
  by_cases hlt:k < s.size
  ·have hl:k < s.data.toList.length:=by simpa using hlt
   have he:s.data.toList[k]=s[k]:=rfl
   have hb:=s[k].toNat_lt
   have W1:IntKind.i64.wrap (at_+(k:Int))=at_+(k:Int):=IntWalk.i64_in _ (by omega)
   have W2:IntKind.i64.wrap (s[k].toNat:Int)=(s[k].toNat:Int):=IntWalk.i64_in _ (by omega)
   have C:=Lib.hid (fun w' (h:Rds w' X 1 A n (ints l))=>(pointAt28 l (at_+k) A n c X w' hn h).mono (R':=fun e w''=>e=.returned (.int .i64 (ptAt l (at_+k)))∧w''=w') fun _ _ ⟨e,h⟩=>⟨e,h.symm⟩)
   have HBAD:=Lib.hid (fun h=>saysP_bad (l:=l) (at_:=at_) hl h)
   obtain ⟨x,hx⟩:∃ x,x=ptAt l (at_+k):=⟨_,rfl⟩
   rw [← hx] at C HBAD
   have HX:=Lib.hid hx
   obtain ⟨y,hy⟩:∃ y:Int,y=(s[k].toNat:Int):=⟨_,rfl⟩
   have HY:=Lib.hid hy
   clear hx hy hb
   have C1:=Lib.hid (fun m=>C.out (w.drewN m) (HA.out.drewN m))
   by_cases hxy:x=y
   ·have z1:(x != wrap64 (s[k].toNat:Int))=false:=by
     have:wrap64 (s[k].toNat:Int)=y:=by rw [HY.out];have:=s[k].toNat_lt;unfold wrap64;omega
     rw [this,hxy];simp
    have z2:(x != (s[k].toNat:Int))=false:=by rw [← HY.out,hxy];simp
    have HXY:=Lib.hid hxy
    clear hxy
    go_wp2_with fail
    go_quiet ((go_at_call 92;(first|(with_reducible exact Calls.quiet_of_same (C1.out _))|(with_reducible exact quiet_add_same (C1.out _)))))
    go_wp2
    go_roundw
    case rel=>exact ⟨k+1,by omega,by go_num,Lib.hid (fun j hj hs'=>by
     rcases Nat.lt_or_ge j k with h|h
     ·exact HJ.out j h hs'
     ·obtain rfl:j=k:=by omega
      rw [← HX.out,HXY.out,HY.out];rfl),_,by first|rfl|exact World.drewN_drewN ..⟩
    case measure=>simp [intOf];omega
   ·have z1:(x != wrap64 (s[k].toNat:Int))=true:=by
     have:wrap64 (s[k].toNat:Int)=y:=by rw [HY.out];have:=s[k].toNat_lt;unfold wrap64;omega
     rw [this];simpa using hxy
    have z2:(x != (s[k].toNat:Int))=true:=by rw [← HY.out];simpa using hxy
    have HB2:=Lib.hid (HBAD.out (by rw [he,← HY.out];exact hxy))
    clear hxy
    go_wp2_with fail
    go_quiet ((go_at_call 92;(first|(with_reducible exact Calls.quiet_of_same (C1.out _))|(with_reducible exact quiet_add_same (C1.out _)))))
    go_wp2
    go_ret
    exact ⟨ret_bool (by rw [HV.out,HB2.out]),_,by first|rfl|exact World.drewN_drewN ..⟩
  ·have HO:=Lib.hid (saysP_ok (l:=l) (at_:=at_) (s:=s.data.toList) (fun j hj=>HJ.out j (Nat.lt_of_lt_of_le hj (by simp;omega)) hj))
   obtain rfl:k=s.size:=by omega
   go_wp2_with fail
   go_ret
   exact ⟨ret_bool (by rw [HV.out,HO.out]),_,rfl⟩
end Go.Proofs.YtbiahhojnjchnaaGreat
namespace Go.Proofs.YtbiahhojnjchnaaGreat
open Go.RowKit
theorem runPts_succ' (l:List Int) (p:Int) (k:Nat):decN (runPts l p (k+1))=10 * decN (runPts l p k)+ptAt l (p+k) - 48:=by rw [runPts_succ,decN_snoc]
theorem runPts_dec (l:List Int) (at_:Int) (m k:Nat) (hk:k≤runLen isDig l at_ m) (hm:m≤3):0≤decN (runPts l at_ k)∧decN (runPts l at_ k)≤999:=by
 have h1:=decN_small (runPts l at_ k) (fun p hp=>by
  obtain ⟨i,hi,rfl⟩:=List.mem_iff_getElem.1 hp
  rw [runPts_get]
  rw [runPts_length] at hi
  exact runLen_yes isDig l m at_ i (by omega)) k (by rw [runPts_length];exact Nat.le_refl _)
 rw [List.take_of_length_le (by rw [runPts_length];exact Nat.le_refl _)] at h1
 have h2:=runLen_le isDig l m at_
 have h3:(10:Int) ^ k≤1000:=by
  have:k=0∨k=1∨k=2∨k=3:=by omega
  rcases this with h|h|h|h<;>rw [h]<;>decide
 omega
set_option maxHeartbeats 2000000 in
theorem digits32 (l:List Int) (at_:Int) (m:Nat) (A:Option Addr) (n c X:Nat) (w:World) (hn:n≤maxLen) (hm:m≤3) (h0:0≤at_) (h1:at_≤100000) (ha:Rds w X 1 A n (ints l)) :
  Calls Tryz.prog 180 #[.slice A n c,.int .i64 at_,.int .i64 m] w fun e w'=>e=.returned (.tuple #[.int .i64 (decN (runPts l at_ (runLen isDig l at_ m))),.int .i64 (at_+runLen isDig l at_ m)])∧w=w':=by
 have HLN:=Lib.hid ha.ints_len
 have HA:=Lib.hid ha
 have HMORE:=Lib.hid (fun k=>runLen_more (f:=isDig) (l:=l) (m:=m) (at_:=at_) (k:=k))
 have HEND:=Lib.hid (fun k=>runLen_end (f:=isDig) (l:=l) (m:=m) (at_:=at_) (k:=k))
 have HDEC:=Lib.hid (fun k hk=>runPts_dec l at_ m k hk hm)
 have hKm:=runLen_le isDig l m at_
 obtain ⟨K,hK⟩:∃ K,K=runLen isDig l at_ m:=⟨_,rfl⟩
 rw [← hK] at HMORE HEND HDEC hKm ⊢
 clear hK ha
 have hn':=hn
 unfold maxLen at hn'
 go_enter Tryz.func180,Tryz.ntmps180
 go_wp2_with fail
 go_loop [1,8,9] (fun a v i=>∃ k:Nat,k≤K∧a=.int .i64 (at_+k)∧v=.int .i64 (decN (runPts l at_ k))∧i=.int .i64 k) (fun _ _ i=>m - (intOf i).toNat)
 case atStart=>exact ⟨0,Nat.zero_le _,by simp,rfl,rfl⟩
 case round =>
  obtain ⟨k,hk,rfl,rfl,rfl⟩:=hrel
  by_cases hkm:k < m
  ·have i2:(k:Int) < (m:Int):=by omega
   have C:=Lib.hid (fun w' (h:Rds w' X 1 A n (ints l))=>pointAt28 l (at_+k) A n c X w' hn h)
   have HM:=Lib.hid (HMORE.out k hk hkm)
   have HE:=Lib.hid (fun h=>HEND.out k hk (fun _=>h))
   have HS:=Lib.hid (runPts_succ' l at_ k)
   have HD:=HDEC.out k hk
   have HOUT:=Lib.hid (ptAt_out l (p:=at_+k))
   obtain ⟨y,hy⟩:∃ y,y=decN (runPts l at_ k):=⟨_,rfl⟩
   rw [← hy] at HS HD ⊢
   have HY:=Lib.hid hy
   clear hy
   obtain ⟨x,hx⟩:∃ x,x=ptAt l (at_+k):=⟨_,rfl⟩
   rw [← hx] at C HM HE HS HOUT
   have D:=Lib.hid (fun w'=>isDigit44 x w')
   by_cases hd:isDig x=true
   ·have hin:0≤at_+(k:Int)∧at_+(k:Int) < n:=by
     by_cases hc:0≤at_+(k:Int)∧at_+(k:Int) < n
     ·exact hc
     ·rw [HOUT.out (by rw [HLN.out];exact hc)] at hd;cases hd
    obtain ⟨j,hj⟩:=Int.eq_ofNat_of_zero_le hin.1
    obtain ⟨b1,off1,hl1,hA,hb1,hc1⟩:=HA.out.int_at (k:=j) (by omega)
    have hxx:l[j]=x:=by rw [hx,hj];exact (ptAt_in l hl1).symm
    rw [hxx] at hc1
    have hxr:48≤x∧x≤57:=by unfold isDig at hd;simpa using hd
    have hle:=HM.out hd
    rw [hd] at D
    obtain ⟨hin1,hin2⟩:=hin
    have htn:(at_+(k:Int)).toNat=j:=by omega
    have C1:=Lib.hid (C.out w HA.out)
    clear hx hxx HM HE HOUT hd
    subst hA
    have HJ:=Lib.hid hj
    clear hj
    go_wp2_with (first|(go_at_call 92;(with_reducible refine C1.out.mono ?_);rintro e w' ⟨rfl,rfl⟩)|(go_at_call 216;refine (D.out _).mono ?_;rintro e w' ⟨rfl,rfl⟩))
    go_round
    case rel=>exact ⟨k+1,hle,by first|rfl|go_num|(congr 1;omega),by rw [HS.out],by go_num⟩
    case measure=>simp [intOf];omega
   ·have hd':isDig x=false:=by simpa using hd
    have hkK:k=K:=HE.out hd'
    rw [hd'] at D
    have C1:=Lib.hid (C.out w HA.out)
    clear hd hd' HM HE HOUT hx
    have HKK:=Lib.hid hkK
    clear hkK
    go_wp2_with (first|(go_at_call 92;(with_reducible refine C1.out.mono ?_);rintro e w' ⟨rfl,rfl⟩)|(go_at_call 216;refine (D.out _).mono ?_;rintro e w' ⟨rfl,rfl⟩))
    go_ret2
    exact ⟨by rw [HY.out,HKK.out];rfl,rfl⟩
  ·obtain rfl:k=K:=by omega
   have i2:decide (k < m)=false:=by simpa using hkm
   have i3:decide ((k:Int) < (m:Int))=false:=by simpa using hkm
   go_wp2_with fail
   go_ret2
   exact ⟨rfl,rfl⟩
end Go.Proofs.YtbiahhojnjchnaaGreat
namespace Go.Proofs.YtbiahhojnjchnaaGreat
open Go.RowKit
def letN (b:Int):Prop:=97≤b∧b≤122∨65≤b∧b≤90∨b=95
def digN (b:Int):Prop:=48≤b∧b≤57
/-- may it stand at this place of a name? -/
def okAt (i:Nat) (b:Int):Prop:=letN b∨i≠0∧digN b
theorem letter55 (p:Int) (w:World):Calls Tryz.prog 183 #[.int .i64 p] w fun e w'=>e=.returned (.bool (decide (65≤p∧p≤90∨97≤p∧p≤122)))∧w=w' :=
 (isLetter35 p w).mono fun _ _ ⟨e,h⟩=>⟨by rw [e,show isLet p=decide (65≤p∧p≤90∨97≤p∧p≤122) by unfold isLet;rw [Bool.eq_iff_iff];simp],h⟩
theorem digit56 (p:Int) (w:World):Calls Tryz.prog 216 #[.int .i64 p] w fun e w'=>e=.returned (.bool (decide (48≤p∧p≤57)))∧w=w' :=
 (isDigit44 p w).mono fun _ _ ⟨e,h⟩=>⟨by rw [e,show isDig p=decide (48≤p∧p≤57) by unfold isDig;rw [Bool.eq_iff_iff];simp],h⟩
/-- k points of a name stand at a place -/
structure NmAt (l:List Int) (p:Int) (k:Nat):Prop where
 le:k≤20
 ok:∀ i:Nat,i < k→okAt i (ptAt l (p+i))
 stop:k=20∨¬ okAt k (ptAt l (p+k))
theorem nmAt_ex (l:List Int) (p:Int):∃ k,NmAt l p k:=by
 have h:∀ f k,k+f=20→(∀ i:Nat,i < k→okAt i (ptAt l (p+i)))→∃ k,NmAt l p k:=by
  intro f
  induction f with
  | zero=>intro k hk h;exact ⟨k,by omega,h,.inl (by omega)⟩
  | succ f ih =>
   intro k hk h
   by_cases hc:okAt k (ptAt l (p+k))
   ·refine ih (k+1) (by omega) fun i hi=>?_
    rcases Nat.lt_succ_iff_lt_or_eq.1 hi with h1|rfl
    ·exact h i h1
    ·exact hc
   ·exact ⟨k,by omega,h,.inr hc⟩
 exact h 20 0 rfl (fun i hi=>absurd hi (Nat.not_lt_zero i))
theorem NmAt.more {l:List Int} {p:Int} {k i:Nat} (h:NmAt l p k) (hi:i≤k) (h20:i < 20) (ho:okAt i (ptAt l (p+i))):i < k:=by
 rcases Nat.lt_or_ge i k with h1|h1
 ·exact h1
 ·obtain rfl:i=k:=by omega
  rcases h.stop with h2|h2
  ·omega
  ·exact absurd ho h2
theorem NmAt.end_ {l:List Int} {p:Int} {k i:Nat} (h:NmAt l p k) (hi:i≤k) (ho:¬ okAt i (ptAt l (p+i))):i=k:=by
 rcases Nat.lt_or_ge i k with h1|h1
 ·exact absurd (h.ok i h1) ho
 ·omega
def nmPts (l:List Int) (p:Int) (k:Nat):List Int:=(List.range k).map fun i:Nat=>ptAt l (p+i)
def nmStr (l:List Int) (p:Int) (k:Nat):ByteArray:=strOfNums (nmPts l p k)
theorem nmStr_size (l:List Int) (p:Int) (k:Nat):(nmStr l p k).size=k:=by unfold nmStr nmPts;rw [strOfNums_size];simp
theorem strOfNums_append (a b:List Int):strOfNums (a ++ b)=strOfNums a ++ strOfNums b:=by
 unfold strOfNums;rw [ByteArray.mk_append_mk,List.map_append]
theorem nmStr_succ (l:List Int) (p:Int) (k:Nat):nmStr l p (k+1)=nmStr l p k ++ strOfNums [ptAt l (p+k)]:=by
 unfold nmStr nmPts;rw [List.range_succ,List.map_append,strOfNums_append];rfl
theorem ptAt_okAt {l:List Int} {p:Int} {i:Nat} (h:okAt i (ptAt l p)):0≤p∧p < l.length:=by
 by_cases hc:0≤p∧p < l.length
 ·exact hc
 ·rw [ptAt_out l hc] at h;unfold okAt letN digN at h;omega
theorem conv_one (w:World) (x:Int):(convert 147 9 (.slice (some ⟨w.heap.size,0,none⟩) 1 1)).run Tryz.prog (w.alloc (.cells #[.int .u8 x] 5))=.ok (.string (strOfNums [x])) (w.alloc (.cells #[.int .u8 x] 5)) :=
 run_convert_bytes_arg _ 147 5 Tryz.underlying147 Tryz.underlying5 w.heap.size 0 1 1 [x] rfl (fun i hi=>by
  obtain rfl:i=0:=by omega
  rw [cell_of_row _ _ _ _ 5 (0,0) (heap_alloc_new w _)];rfl) 9 Tryz.underlying9
set_option maxRecDepth 100000 in
set_option maxHeartbeats 4000000 in
theorem nameAt45 (l:List Int) (p:Int) (A:Option Addr) (n c k:Nat) (w:World) (hn:n < maxLen) (ha:Rds w w.heap.size 1 A n (ints l)) (hk:NmAt l p k) :
  Calls Tryz.prog 182 #[.slice A n c,.int .i64 p] w fun e w'=>e=.returned (.tuple #[.string (nmStr l p k),.int .i64 (p+k)])∧Below w.heap.size w w':=by
 have HK:=Lib.hid hk
 have HLN:=Lib.hid ha.ints_len
 have HA:=Lib.hid ha
 have hk20:=hk.le
 clear hk ha
 have hnn:=hn
 unfold maxLen at hn
 go_enter Tryz.func182,Tryz.ntmps182
 go_wp2_with fail
 go_loopw [1,6] (fun a s wr=>∃ i:Nat,i≤k∧a=.int .i64 (p+i)∧s=.string (nmStr l p i)∧Hid (Below w.heap.size w wr)) (fun a _ _=>k - (intOf a - p).toNat)
 case atStart=>exact ⟨0,Nat.zero_le _,by simp,rfl,Lib.hid (Below.refl _ _)⟩
 case round =>
  obtain ⟨i,hi,rfl,rfl,HW⟩:=hrel
  have hsz:=HW.out.size
  by_cases h20:i < 20
  ·have HMORE:=Lib.hid (HK.out.more hi h20)
   have HEND:=Lib.hid (HK.out.end_ hi)
   have HIN:=Lib.hid (fun h=>ptAt_okAt (l:=l) (p:=p+i) (i:=i) h)
   rw [HLN.out] at HIN
   have HS:=Lib.hid (nmStr_succ l p i)
   have C54:=Lib.hid (pointAt28 l (p+i) A n c w.heap.size wr (Nat.le_of_lt hnn) (HA.out.below HW.out (Nat.le_refl _)))
   obtain ⟨x,hx⟩:∃ x,x=ptAt l (p+i):=⟨_,rfl⟩
   rw [← hx] at HMORE HEND HIN HS C54
   clear hx
   have hsl:=nmStr_size l p i
   obtain ⟨s,hs⟩:∃ s,s=nmStr l p i:=⟨_,rfl⟩
   rw [← hs] at hsl HS ⊢
   have HSK:=Lib.hid (fun h:i=k=>show s=nmStr l p k by rw [hs,h])
   clear hs
   have C55:=Lib.hid (letter55 x wr)
   have C56:=Lib.hid (digit56 x wr)
   unfold okAt letN digN at HMORE HEND HIN
   have hcv:=conv_one wr x
   have hss:(strOfNums [x]).size=1:=strOfNums_size _
   have hx8:0≤x→x≤255→IntKind.u8.wrap x=x:=fun h1 h2=>by rw [IntKind.wrap_u8];omega
   by_cases hl:65≤x∧x≤90∨97≤x∧x≤122
   ·have hxw:=hx8 (by omega) (by omega)
    rw [decide_eq_true hl] at C55
    have hlt:i < k:=HMORE.out (by omega)
    have hin:=HIN.out (by omega)
    clear HMORE HEND HIN
    go_wp2_with (first|(go_at_call 92;refine C54.out.mono ?_;rintro e w' ⟨rfl,rfl⟩)|(go_at_call 183;refine C55.out.mono ?_;rintro e w' ⟨rfl,rfl⟩)|(go_at_call 216;refine C56.out.mono ?_;rintro e w' ⟨rfl,rfl⟩))
    go_roundw
    case rel=>exact ⟨i+1,by omega,by first|rfl|go_num|(congr 1;omega),by rw [HS.out],Lib.hid (HW.out.alloc hsz _)⟩
    case measure=>simp [intOf];omega
   ·rw [decide_eq_false hl] at C55
    by_cases h95:x=95
    ·have hxw:=hx8 (by omega) (by omega)
     have h95b:(x != 95)=false:=by simp [h95]
     have H95:=Lib.hid h95
     clear h95
     have hlt:i < k:=HMORE.out (by have:=H95.out;omega)
     have hin:=HIN.out (by have:=H95.out;omega)
     clear HMORE HEND HIN
     go_wp2_with (first|(go_at_call 92;refine C54.out.mono ?_;rintro e w' ⟨rfl,rfl⟩)|(go_at_call 183;refine C55.out.mono ?_;rintro e w' ⟨rfl,rfl⟩)|(go_at_call 216;refine C56.out.mono ?_;rintro e w' ⟨rfl,rfl⟩))
     go_roundw
     case rel=>exact ⟨i+1,by omega,by first|rfl|go_num|(congr 1;omega),by rw [HS.out],Lib.hid (HW.out.alloc hsz _)⟩
     case measure=>simp [intOf];omega
    ·have h95b:(x != 95)=true:=by simp [h95]
     by_cases hi0:i=0
     ·have hi0b:((i:Int) == 0)=true:=by simp [hi0]
      obtain rfl:i=k:=HEND.out (by omega)
      have HI0:=Lib.hid hi0
      clear hi0
      clear HMORE HEND HIN
      go_wp2_with (first|(go_at_call 92;refine C54.out.mono ?_;rintro e w' ⟨rfl,rfl⟩)|(go_at_call 183;refine C55.out.mono ?_;rintro e w' ⟨rfl,rfl⟩)|(go_at_call 216;refine C56.out.mono ?_;rintro e w' ⟨rfl,rfl⟩))
      go_ret2
      exact ⟨by rw [← HSK.out (by first|trivial|rfl)];rfl,HW.out⟩
     ·have hi0b:((i:Int) == 0)=false:=by simp [hi0]
      by_cases hd:48≤x∧x≤57
      ·rw [decide_eq_true hd] at C56
       have hxw:=hx8 (by omega) (by omega)
       have hlt:i < k:=HMORE.out (by omega)
       have hin:=HIN.out (by omega)
       clear HMORE HEND HIN
       go_wp2_with (first|(go_at_call 92;refine C54.out.mono ?_;rintro e w' ⟨rfl,rfl⟩)|(go_at_call 183;refine C55.out.mono ?_;rintro e w' ⟨rfl,rfl⟩)|(go_at_call 216;refine C56.out.mono ?_;rintro e w' ⟨rfl,rfl⟩))
       go_roundw
       case rel=>exact ⟨i+1,by omega,by first|rfl|go_num|(congr 1;omega),by rw [HS.out],Lib.hid (HW.out.alloc hsz _)⟩
       case measure=>simp [intOf];omega
      ·rw [decide_eq_false hd] at C56
       obtain rfl:i=k:=HEND.out (by omega)
       clear HMORE HEND HIN
       go_wp2_with (first|(go_at_call 92;refine C54.out.mono ?_;rintro e w' ⟨rfl,rfl⟩)|(go_at_call 183;refine C55.out.mono ?_;rintro e w' ⟨rfl,rfl⟩)|(go_at_call 216;refine C56.out.mono ?_;rintro e w' ⟨rfl,rfl⟩))
       go_ret2
       exact ⟨by rw [← HSK.out (by first|trivial|rfl)];rfl,HW.out⟩
  ·obtain rfl:i=k:=by omega
   have hsl:=nmStr_size l p i
   go_wp2_with fail
   go_ret2
   exact ⟨rfl,HW.out⟩
end Go.Proofs.YtbiahhojnjchnaaGreat
namespace Go.Proofs.YtbiahhojnjchnaaGreat
open Go.RowKit
theorem hz_drewN {w:World} {g q:Nat} {x:Obj} (h:w.heap[g]?=some x):(w.drewN q).heap[g]?=some x:=h
/-- the points of a pattern, in memory below a block -/
structure Pts (B n c:Nat) (A:Option Addr) (l:List Int) (w:World):Prop where
 row:Rds w B 1 A n (ints l)
 small:n≤1000
theorem Pts.len {B n c:Nat} {A:Option Addr} {l:List Int} {w:World} (h:Pts B n c A l w):l.length=n:=h.row.ints_len
theorem Pts.next {B n c:Nat} {A:Option Addr} {l:List Int} {w w':World} (h:Pts B n c A l w) (hb:Below B w w'):Pts B n c A l w':=⟨h.row.below hb (Nat.le_refl _),h.small⟩
theorem says_one {B n c:Nat} {A:Option Addr} {l:List Int} {w:World} (s:UInt8) (x at_:Int) (v:Bool) (h:Pts B n c A l w) (h0:0≤at_∧at_≤2000) (hx:(s.toNat:Int)=x) (hv:v=decide (ptAt l at_=x)) :
  Calls Tryz.prog 61 #[.slice A n c,.int .i64 at_,.string ⟨#[s]⟩] w fun e w'=>e=.returned (.bool v)∧∃ q,w'=w.drewN q:=by
 have C:=says18 l at_ ⟨#[s]⟩ A n c B w (by have:=h.small;unfold maxLen;omega) (by simp [ByteArray.size]) (by omega) (by omega) h.row
 have:saysP l at_ (ByteArray.mk #[s]).data.toList=v:=by rw [hv,← hx];simp [saysP]
 rwa [this] at C
theorem says_b {B n c:Nat} {A:Option Addr} {l:List Int} {w:World} (s:UInt8) (x at_:Int) (v:Bool) (h:Pts B n c A l w) (h0:0≤at_∧at_≤2000) (hx:(s.toNat:Int)=x) (hv:v=decide (ptAt l at_=x)) :
  Calls Tryz.prog 61 #[.slice A n c,.int .i64 at_,.string ⟨#[s]⟩] w fun e w'=>e=.returned (.bool v)∧Below w.heap.size w w'∧w'.heap.size=w.heap.size :=
 (says_one s x at_ v h h0 hx hv).mono fun e w' ⟨he,q,hq⟩=>⟨he,by rw [hq];exact below_drewN (Below.refl _ _) q,by rw [hq];rfl⟩
end Go.Proofs.YtbiahhojnjchnaaGreat
namespace Go.Proofs.YtbiahhojnjchnaaGreat
open Go.RowKit
theorem Pts.more {B C n c:Nat} {A:Option Addr} {l:List Int} {w:World} (h:Pts B n c A l w) (hb:B≤C):Pts C n c A l w:=⟨h.row.more hb,h.small⟩
theorem namAt_len (l:List Int) (p:Int):NmAt l p (nameLen l p):=by
 unfold nameLen
 split
 ·rename_i h1
  have hle:=runLen_le isNamP l 20 p
  refine ⟨hle,fun i hi=>?_,?_⟩
  ·have:=runLen_yes isNamP l 20 p i hi
   unfold isNamP isLet isDig at this
   simp at this
   unfold okAt letN digN
   by_cases hi0:i=0
   ·subst hi0
    unfold isLet at h1
    simp at h1 ⊢
    omega
   ·omega
  ·rcases Nat.lt_or_ge (runLen isNamP l p 20) 20 with h2|h2
   ·right
    have:=runLen_no isNamP l 20 p h2
    intro hx
    unfold okAt letN digN at hx
    generalize ptAt l (p+(runLen isNamP l p 20:Nat))=q at this hx
    have h3:isNamP q=true:=by unfold isNamP isLet isDig;simp;omega
    rw [this] at h3
    cases h3
   ·left;omega
 ·rename_i h1
  refine ⟨by omega,fun i hi=>absurd hi (Nat.not_lt_zero i),.inr ?_⟩
  unfold isLet at h1
  simp at h1
  unfold okAt letN
  simp
  omega
theorem name_r {B n c:Nat} {A:Option Addr} {l:List Int} {w:World} (p:Int) (h:Pts B n c A l w) (hB:B≤w.heap.size) :
  Calls Tryz.prog 182 #[.slice A n c,.int .i64 p] w fun e w'=>e=.returned (.tuple #[.string ⟨(bytesP (runPts l p (nameLen l p))).toArray⟩,.int .i64 (p+(nameLen l p:Int))])∧Below w.heap.size w w' :=
 nameAt45 l p A n c (nameLen l p) w (by have:=h.small;unfold maxLen;omega) (h.row.more hB) (namAt_len l p)
theorem says_p {B n c:Nat} {A:Option Addr} {l:List Int} {w:World} (s:ByteArray) (at_:Int) (v:Bool) (h:Pts B n c A l w) (hs:s.size≤100) (h0:0≤at_∧at_≤2000) (hv:v=saysP l at_ s.data.toList) :
  Calls Tryz.prog 61 #[.slice A n c,.int .i64 at_,.string s] w fun e w'=>e=.returned (.bool v)∧Below w.heap.size w w'∧w'.heap.size=w.heap.size:=by
 rw [hv]
 exact (says18 l at_ s A n c B w (by have:=h.small;unfold maxLen;omega) hs (by omega) (by omega) h.row).mono fun e w' ⟨he,q,hq⟩=>⟨he,by rw [hq];exact below_drewN (Below.refl _ _) q,by rw [hq];rfl⟩
theorem saysP_one (l:List Int) (p:Int) (x:UInt8):saysP l p [x]=decide (ptAt l p=(x.toNat:Int)):=by simp [saysP]
theorem saysP_two (l:List Int) (p:Int) (x y:UInt8):saysP l p [x,y]=(decide (ptAt l p=(x.toNat:Int)) && decide (ptAt l (p+1)=(y.toNat:Int))):=by
 show (decide (ptAt l (p+(0:Nat))=(x.toNat:Int)) && (decide (ptAt l (p+(1:Nat))=(y.toNat:Int)) && true))=_
 simp
end Go.Proofs.YtbiahhojnjchnaaGreat
