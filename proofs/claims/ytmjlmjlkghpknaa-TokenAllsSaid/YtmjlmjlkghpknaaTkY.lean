/- The reference's least functions: walked. -/
import Derived.Test.YtmjlmjlkghpknaaTkS
set_option linter.unusedVariables false
set_option linter.unusedSimpArgs false
namespace Go.Proofs.Ytmjlmjlkghpknaa
open Go.RowKit
theorem between31 (p a b:Int) (w:World):Calls Try.prog 31 #[.int .i64 p,.int .i64 a,.int .i64 b] w fun e w'=>e=.returned (.bool (decide (a≤p) && decide (p≤b)))∧w=w':=by
 by_cases h1:a≤p<;>by_cases h2:p≤b
 all_goals
  go_enter Try.func31,Try.ntmps31
  go_wp2
  all_goals (go_ret;refine ⟨ret_bool ?_,rfl⟩;simp_all<;>try omega)
theorem isDigit44 (p:Int) (w:World):Calls Try.prog 44 #[.int .i64 p] w fun e w'=>e=.returned (.bool (isDig p))∧w=w':=by
 have C:=Lib.hid (between31 p 48 57 w)
 have HD:=Lib.hid (show isDig p=(decide (48≤p) && decide (p≤57)) from rfl)
 rw [← HD.out] at C
 go_enter Try.func44,Try.ntmps44
 go_wp2_with (go_at_call 31;refine C.out.mono ?_;rintro e w' ⟨rfl,rfl⟩)
 go_ret
 exact ⟨rfl,rfl⟩
theorem isPoint16 (p:Int) (w:World):Calls Try.prog 16 #[.int .i64 p] w fun e w'=>e=.returned (.bool (okPt p))∧w=w':=by
 by_cases h1:0≤p<;>by_cases h2:p≤1114111
 all_goals
  go_enter Try.func16,Try.ntmps16
  go_wp2
  all_goals (go_ret;refine ⟨ret_bool ?_,rfl⟩;unfold okPt;simp_all<;>try omega)
set_option maxHeartbeats 1000000 in
theorem pointAt28 (l:List Int) (p:Int) (A:Option Addr) (n c X:Nat) (w:World) (hn:n≤maxLen) (ha:Rds w X 1 A n (ints l)) :
  Calls Try.prog 28 #[.slice A n c,.int .i64 p] w fun e w'=>e=.returned (.int .i64 (ptAt l p))∧w=w':=by
 have HLN:=Lib.hid ha.ints_len
 unfold maxLen at hn
 by_cases h1:0≤p
 ·by_cases h2:p < n
  ·obtain ⟨k,rfl⟩:=Int.eq_ofNat_of_zero_le h1
   obtain ⟨b1,off1,hl1,hA,hb1,hc1⟩:=ha.int_at (k:=k) (by omega)
   have HP:=Lib.hid (ptAt_in l hl1)
   obtain ⟨x,hx⟩:∃ x,x=l[k]:=⟨_,rfl⟩
   rw [← hx] at hc1 HP
   clear hx ha
   subst hA
   go_enter Try.func28,Try.ntmps28
   go_wp2_with fail
   go_ret
   exact ⟨ret_int HP.out.symm,rfl⟩
  ·have HP:=Lib.hid (ptAt_out l (p:=p) (by rw [HLN.out];omega))
   clear ha
   go_enter Try.func28,Try.ntmps28
   go_wp2_with fail
   go_ret
   exact ⟨ret_int HP.out.symm,rfl⟩
 ·have HP:=Lib.hid (ptAt_out l (p:=p) (by omega))
  clear ha
  go_enter Try.func28,Try.ntmps28
  go_wp2_with fail
  go_ret
  exact ⟨ret_int HP.out.symm,rfl⟩
theorem isLetter35 (p:Int) (w:World):Calls Try.prog 35 #[.int .i64 p] w fun e w'=>e=.returned (.bool (isLet p))∧w=w':=by
 have C:=Lib.hid (between31 p 65 90 w)
 have D:=Lib.hid (between31 p 97 122 w)
 have HD:=Lib.hid (show isLet p=((decide (65≤p) && decide (p≤90)) || (decide (97≤p) && decide (p≤122))) from rfl)
 rw [HD.out]
 cases h1:(decide (65≤p) && decide (p≤90))<;>cases h2:(decide (97≤p) && decide (p≤122))
 all_goals
  rw [h1] at C
  rw [h2] at D
  clear h1 h2 HD
  go_enter Try.func35,Try.ntmps35
  go_wp2_with (first|(go_at_call 31;(with_reducible refine C.out.mono ?_);rintro e w' ⟨rfl,rfl⟩)|(go_at_call 31;(with_reducible refine D.out.mono ?_);rintro e w' ⟨rfl,rfl⟩))
  go_ret
  exact ⟨rfl,rfl⟩
theorem hexOf33 (p:Int) (w:World) (hp:-2000000≤p∧p≤2000000):Calls Try.prog 33 #[.int .i64 p] w fun e w'=>e=.returned (.int .i64 (hexV p))∧w=w':=by
 have B:=Lib.hid (isDigit44 p w)
 have C:=Lib.hid (between31 p 97 102 w)
 have D:=Lib.hid (between31 p 65 70 w)
 have HV:=Lib.hid (show hexV p=if isDig p=true then p - 48 else if 97≤p∧p≤102 then p - 87 else if 65≤p∧p≤70 then p - 55 else -1 from rfl)
 rw [HV.out]
 clear HV
 by_cases h1:isDig p=true
 ·rw [if_pos h1]
  rw [h1] at B
  clear h1
  go_enter Try.func33,Try.ntmps33
  go_wp2_with (go_at_call 44;refine B.out.mono ?_;rintro e w' ⟨rfl,rfl⟩)
  go_ret
  exact ⟨rfl,rfl⟩
 have h1':isDig p=false:=by simpa using h1
 rw [if_neg h1]
 rw [h1'] at B
 clear h1 h1'
 by_cases h2:97≤p∧p≤102
 ·rw [if_pos h2]
  rw [decide_eq_true h2.1,decide_eq_true h2.2] at C
  clear h2
  go_enter Try.func33,Try.ntmps33
  go_wp2_with (first|(go_at_call 44;refine B.out.mono ?_;rintro e w' ⟨rfl,rfl⟩)|(go_at_call 31;(with_reducible refine C.out.mono ?_);rintro e w' ⟨rfl,rfl⟩))
  go_ret
  exact ⟨rfl,rfl⟩
 have h2':(decide (97≤p) && decide (p≤102))=false:=by simp;omega
 rw [if_neg h2]
 rw [h2'] at C
 clear h2 h2'
 by_cases h3:65≤p∧p≤70
 ·rw [if_pos h3]
  rw [decide_eq_true h3.1,decide_eq_true h3.2] at D
  clear h3
  go_enter Try.func33,Try.ntmps33
  go_wp2_with (first|(go_at_call 44;refine B.out.mono ?_;rintro e w' ⟨rfl,rfl⟩)|(go_at_call 31;(with_reducible refine C.out.mono ?_);rintro e w' ⟨rfl,rfl⟩)|(go_at_call 31;(with_reducible refine D.out.mono ?_);rintro e w' ⟨rfl,rfl⟩))
  go_ret
  exact ⟨rfl,rfl⟩
 ·have h3':(decide (65≤p) && decide (p≤70))=false:=by simp;omega
  rw [if_neg h3]
  rw [h3'] at D
  clear h3 h3'
  go_enter Try.func33,Try.ntmps33
  go_wp2_with (first|(go_at_call 44;refine B.out.mono ?_;rintro e w' ⟨rfl,rfl⟩)|(go_at_call 31;(with_reducible refine C.out.mono ?_);rintro e w' ⟨rfl,rfl⟩)|(go_at_call 31;(with_reducible refine D.out.mono ?_);rintro e w' ⟨rfl,rfl⟩))
  go_ret
  exact ⟨rfl,rfl⟩
end Go.Proofs.Ytmjlmjlkghpknaa
