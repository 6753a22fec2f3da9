/- Digits of the reference: walked. -/
import Derived.Test.YtmjlmjlkghpknaaTkY
import Derived.Test.YtmjlmjlkghpknaaTkF2
set_option linter.unusedVariables false
set_option linter.unusedSimpArgs false
namespace Go.Proofs.Ytmjlmjlkghpknaa
open Go.RowKit
theorem runPts_succ' (l:List Int) (p:Int) (k:Nat):decN (runPts l p (k+1))=10 * decN (runPts l p k)+ptAt l (p+k) - 48:=by rw [runPts_succ,decN_snoc]
theorem runPts_dec (l:List Int) (at_:Int) (m k:Nat) (hk:k≤runLen isDig l at_ m) (hm:m≤3):0≤decN (runPts l at_ k)∧decN (runPts l at_ k)≤999:=by
 have h1:=decN_small (runPts l at_ k) (fun p hp=>by
  obtain ⟨i,hi,rfl⟩:=List.mem_iff_getElem.1 hp
  rw [runPts_get]
  rw [runPts_length] at hi
  exact runLen_yes isDig l m at_ i (by omega)) k (by rw [runPts_length];exact Nat.le_refl _)
 rw [List.take_of_length_le (by rw [runPts_length];exact Nat.le_refl _)] at h1
 have h2:=runLen_le isDig l m at_
 have h3:(10:Int) ^ k≤1000:=by
  have:k=0∨k=1∨k=2∨k=3:=by omega
  rcases this with h|h|h|h<;>rw [h]<;>decide
 omega
set_option maxHeartbeats 2000000 in
theorem digits32 (l:List Int) (at_:Int) (m:Nat) (A:Option Addr) (n c X:Nat) (w:World) (hn:n≤maxLen) (hm:m≤3) (h0:0≤at_) (h1:at_≤100000) (ha:Rds w X 1 A n (ints l)) :
  Calls Try.prog 32 #[.slice A n c,.int .i64 at_,.int .i64 m] w fun e w'=>e=.returned (.tuple #[.int .i64 (decN (runPts l at_ (runLen isDig l at_ m))),.int .i64 (at_+runLen isDig l at_ m)])∧w=w':=by
 have HLN:=Lib.hid ha.ints_len
 have HA:=Lib.hid ha
 have HMORE:=Lib.hid (fun k=>runLen_more (f:=isDig) (l:=l) (m:=m) (at_:=at_) (k:=k))
 have HEND:=Lib.hid (fun k=>runLen_end (f:=isDig) (l:=l) (m:=m) (at_:=at_) (k:=k))
 have HDEC:=Lib.hid (fun k hk=>runPts_dec l at_ m k hk hm)
 have hKm:=runLen_le isDig l m at_
 obtain ⟨K,hK⟩:∃ K,K=runLen isDig l at_ m:=⟨_,rfl⟩
 rw [← hK] at HMORE HEND HDEC hKm ⊢
 clear hK ha
 have hn':=hn
 unfold maxLen at hn'
 go_enter Try.func32,Try.ntmps32
 go_wp2_with fail
 go_loop [1,8,9] (fun a v i=>∃ k:Nat,k≤K∧a=.int .i64 (at_+k)∧v=.int .i64 (decN (runPts l at_ k))∧i=.int .i64 k) (fun _ _ i=>m - (intOf i).toNat)
 case atStart=>exact ⟨0,Nat.zero_le _,by simp,rfl,rfl⟩
 case round =>
  obtain ⟨k,hk,rfl,rfl,rfl⟩:=hrel
  by_cases hkm:k < m
  ·have i2:(k:Int) < (m:Int):=by omega
   have C:=Lib.hid (fun w' (h:Rds w' X 1 A n (ints l))=>pointAt28 l (at_+k) A n c X w' hn h)
   have HM:=Lib.hid (HMORE.out k hk hkm)
   have HE:=Lib.hid (fun h=>HEND.out k hk (fun _=>h))
   have HS:=Lib.hid (runPts_succ' l at_ k)
   have HD:=HDEC.out k hk
   have HOUT:=Lib.hid (ptAt_out l (p:=at_+k))
   obtain ⟨y,hy⟩:∃ y,y=decN (runPts l at_ k):=⟨_,rfl⟩
   rw [← hy] at HS HD ⊢
   have HY:=Lib.hid hy
   clear hy
   obtain ⟨x,hx⟩:∃ x,x=ptAt l (at_+k):=⟨_,rfl⟩
   rw [← hx] at C HM HE HS HOUT
   have D:=Lib.hid (fun w'=>isDigit44 x w')
   by_cases hd:isDig x=true
   ·have hin:0≤at_+(k:Int)∧at_+(k:Int) < n:=by
     by_cases hc:0≤at_+(k:Int)∧at_+(k:Int) < n
     ·exact hc
     ·rw [HOUT.out (by rw [HLN.out];exact hc)] at hd;cases hd
    obtain ⟨j,hj⟩:=Int.eq_ofNat_of_zero_le hin.1
    obtain ⟨b1,off1,hl1,hA,hb1,hc1⟩:=HA.out.int_at (k:=j) (by omega)
    have hxx:l[j]=x:=by rw [hx,hj];exact (ptAt_in l hl1).symm
    rw [hxx] at hc1
    have hxr:48≤x∧x≤57:=by unfold isDig at hd;simpa using hd
    have hle:=HM.out hd
    rw [hd] at D
    obtain ⟨hin1,hin2⟩:=hin
    have htn:(at_+(k:Int)).toNat=j:=by omega
    have C1:=Lib.hid (C.out w HA.out)
    clear hx hxx HM HE HOUT hd
    subst hA
    have HJ:=Lib.hid hj
    clear hj
    go_wp2_with (first|(go_at_call 28;(with_reducible refine C1.out.mono ?_);rintro e w' ⟨rfl,rfl⟩)|(go_at_call 44;refine (D.out _).mono ?_;rintro e w' ⟨rfl,rfl⟩))
    go_round
    case rel=>exact ⟨k+1,hle,by first|rfl|go_num|(congr 1;omega),by rw [HS.out],by go_num⟩
    case measure=>simp [intOf];omega
   ·have hd':isDig x=false:=by simpa using hd
    have hkK:k=K:=HE.out hd'
    rw [hd'] at D
    have C1:=Lib.hid (C.out w HA.out)
    clear hd hd' HM HE HOUT hx
    have HKK:=Lib.hid hkK
    clear hkK
    go_wp2_with (first|(go_at_call 28;(with_reducible refine C1.out.mono ?_);rintro e w' ⟨rfl,rfl⟩)|(go_at_call 44;refine (D.out _).mono ?_;rintro e w' ⟨rfl,rfl⟩))
    go_ret2
    exact ⟨by rw [HY.out,HKK.out];rfl,rfl⟩
  ·obtain rfl:k=K:=by omega
   have i2:decide (k < m)=false:=by simpa using hkm
   have i3:decide ((k:Int) < (m:Int))=false:=by simpa using hkm
   go_wp2_with fail
   go_ret2
   exact ⟨rfl,rfl⟩
end Go.Proofs.Ytmjlmjlkghpknaa
