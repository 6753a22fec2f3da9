/- RightPattern, Says, Digits of the reference: walked. -/
import Derived.Test.YtmjlmjlkghpknaaTkY
import Derived.Deep.QuietTactic
import Derived.BigQuiet
set_option linter.unusedVariables false
set_option linter.unusedSimpArgs false
namespace Go.Proofs.Ytmjlmjlkghpknaa
open Go.RowKit
set_option maxHeartbeats 2000000 in
theorem right9 (d:Int) (l:List Int) (A:Option Addr) (n c X:Nat) (w:World) (hn:n≤maxLen) (ha:Rds w X 1 A n (ints l)) :
  Calls Try.prog 9 #[.int .i64 d,.slice A n c] w fun e w'=>e=.returned (.int .i64 (rightE d l))∧w=w':=by
 have HLN:=Lib.hid ha.ints_len
 have hm:=hn
 unfold maxLen at hm
 unfold rightE
 rw [HLN.out]
 by_cases h1:d < 1
 ·rw [if_pos (.inl h1)]
  go_enter Try.func9,Try.ntmps9
  go_wp2_with fail
  go_ret
  exact ⟨rfl,rfl⟩
 by_cases h2:3 < d
 ·rw [if_pos (.inr h2)]
  go_enter Try.func9,Try.ntmps9
  go_wp2_with fail
  go_ret
  exact ⟨rfl,rfl⟩
 rw [if_neg (by omega)]
 by_cases h3:300 < n
 ·rw [if_pos h3]
  have h3i:(300:Int) < (n:Int):=by omega
  go_enter Try.func9,Try.ntmps9
  go_wp2_with fail
  go_ret
  exact ⟨rfl,rfl⟩
 ·rw [if_neg h3]
  have h3i:¬ (300:Int) < (n:Int):=by omega
  have HA:=Lib.hid ha
  clear ha
  obtain ⟨v,hf⟩:∃ v:Int,v=if l.all okPt=true then 0 else 3:=⟨_,rfl⟩
  rw [← hf]
  have HF:=Lib.hid hf
  clear hf
  go_enter Try.func9,Try.ntmps9
  go_wp2_with fail
  go_loop [5] (fun i=>∃ k:Nat,k≤n∧i=.int .i64 k∧Hid ((l.take k).all okPt=true)) (fun i=>n - (intOf i).toNat)
  case atStart=>exact ⟨0,Nat.zero_le _,rfl,Lib.hid rfl⟩
  case round =>
   obtain ⟨k,hk,rfl,HK⟩:=hrel
   by_cases hlt:k < n
   ·obtain ⟨b1,off1,hl1,hA,hb1,hc1⟩:=HA.out.int_at hlt
    have HS:=Lib.hid (all_ok_snoc l k hl1 HK.out)
    have HB:=Lib.hid (all_ok_bad l k hl1)
    obtain ⟨x,hx⟩:∃ x,x=l[k]:=⟨_,rfl⟩
    rw [← hx] at hc1 HS HB
    clear hx
    subst hA
    have C:=Lib.hid (fun w=>isPoint16 x w)
    have i1:(0:Int)≤(k:Int):=by omega
    have i2:(k:Int) < (n:Int):=by omega
    cases hok:okPt x
    ·rw [hok] at C
     have HB2:=Lib.hid (HB.out hok)
     clear hok HS HB
     go_wp2_with (go_at_call 16;refine (C.out _).mono ?_;rintro e w' ⟨rfl,rfl⟩)
     go_ret
     exact ⟨ret_int (by rw [HF.out,HB2.out];rfl),rfl⟩
    ·rw [hok] at C
     have HS2:=Lib.hid (HS.out hok)
     clear hok HS HB
     go_wp2_with (go_at_call 16;refine (C.out _).mono ?_;rintro e w' ⟨rfl,rfl⟩)
     go_round
     case rel=>exact ⟨k+1,by omega,by go_num,HS2⟩
     case measure=>simp [intOf];omega
   ·obtain rfl:k=n:=by omega
    rw [List.take_of_length_le (by rw [HLN.out];exact Nat.le_refl _)] at HK
    go_wp2_with fail
    go_ret
    exact ⟨ret_int (by rw [HF.out,HK.out];rfl),rfl⟩
end Go.Proofs.Ytmjlmjlkghpknaa
