/- Numbers of hexadecimal digits; a class by its letter: walked. -/
import Derived.Test.YtmjlmjlkghpknaaTkF2
import Derived.Maps.Own
import Derived.Maps.StringElems
set_option linter.unusedVariables false
set_option linter.unusedSimpArgs false
namespace Go.Proofs.Ytmjlmjlkghpknaa
open Go.RowKit Go.Maps
/-- at which byte of a text a point stands -/
def idxP (p:Int):List UInt8→Int
 | []=>-1
 | c :: l=>if (c.toNat:Int)=p then 0 else if idxP p l < 0 then -1 else idxP p l+1
theorem idxP_hit (p:Int):∀ (l:List UInt8) (k:Nat) (h:k < l.length),(∀ j (hj:j < k),((l[j]'(by omega)).toNat:Int)≠p)→((l[k]).toNat:Int)=p→idxP p l=k:=by
 intro l
 induction l with
 | nil=>intro k h;simp at h
 | cons c l ih =>
  intro k h h1 h2
  cases k with
  | zero=>simp only [List.getElem_cons_zero] at h2;unfold idxP;rw [if_pos h2];rfl
  | succ k =>
   have h0:=h1 0 (by omega)
   simp only [List.getElem_cons_zero] at h0
   have:=ih k (by simpa using h) (fun j hj=>by have:=h1 (j+1) (by omega);simpa using this) (by simpa using h2)
   unfold idxP
   rw [if_neg h0,this,if_neg (by omega)];omega
theorem idxP_none (p:Int):∀ (l:List UInt8),(∀ j (hj:j < l.length),((l[j]).toNat:Int)≠p)→idxP p l=-1:=by
 intro l
 induction l with
 | nil=>intro _;rfl
 | cons c l ih =>
  intro h
  have h0:=h 0 (by simp)
  simp only [List.getElem_cons_zero] at h0
  have:=ih (fun j hj=>by have:=h (j+1) (by simpa using hj);simpa using this)
  unfold idxP
  rw [if_neg h0,this];rfl
set_option maxHeartbeats 1000000 in
theorem among49 (s:ByteArray) (p:Int) (w:World) (hs:s.size≤100) :
  Calls Try.prog 49 #[.string s,.int .i64 p] w fun e w'=>e=.returned (.int .i64 (idxP p s.data.toList))∧w=w':=by
 go_enter Try.func49,Try.ntmps49
 go_wp2_with fail
 go_loop [8] (fun i=>∃ k:Nat,k≤s.size∧i=.int .i64 k∧Hid (∀ j (hj:j < k) (hs:j < s.data.toList.length),((s.data.toList[j]).toNat:Int)≠p)) (fun i=>s.size - (intOf i).toNat)
 case atStart=>exact ⟨0,Nat.zero_le _,rfl,Lib.hid (fun j hj=>absurd hj (Nat.not_lt_zero _))⟩
 case round =>
  obtain ⟨k,hk,rfl,HJ⟩:=hrel
  by_cases hlt:k < s.size
  ·have hl:k < s.data.toList.length:=by simpa using hlt
   have he:s.data.toList[k]=s[k]:=rfl
   have hwr:wrap64 (s[k].toNat:Int)=(s[k].toNat:Int):=by have:=s[k].toNat_lt;unfold wrap64;omega
   by_cases hp:(s[k].toNat:Int)=p
   ·have HX:=Lib.hid (idxP_hit p s.data.toList k hl (fun j hj=>HJ.out j hj (by omega)) (by rw [he];exact hp))
    have hpb:(wrap64 (s[k].toNat:Int) == p)=true:=by rw [hwr];simpa using hp
    clear hp he hwr
    go_wp2_with fail
    go_ret
    exact ⟨ret_int HX.out.symm,rfl⟩
   ·have HX:=Lib.hid hp
    have hpb:(wrap64 (s[k].toNat:Int) == p)=false:=by rw [hwr];simpa using hp
    clear hp hwr he
    go_wp2_with fail
    go_round
    case rel=>exact ⟨k+1,by omega,by go_num,Lib.hid (fun j hj hs'=>by
     rcases Nat.lt_or_ge j k with h|h
     ·exact HJ.out j h hs'
     ·obtain rfl:j=k:=by omega
      exact HX.out)⟩
    case measure=>simp [intOf];omega
  ·have HX:=Lib.hid (idxP_none p s.data.toList (fun j hj=>HJ.out j (Nat.lt_of_lt_of_le hj (by simp;omega)) hj))
   obtain rfl:k=s.size:=by omega
   go_wp2_with fail
   go_ret
   exact ⟨ret_int HX.out.symm,rfl⟩
theorem nat_or32 (n:Nat):n ||| 32=n+(if n / 32 % 2=1 then 0 else 32):=by
 have h1:n=64 * (n / 64)+n % 64:=by omega
 have h2:n % 64 < 64:=Nat.mod_lt _ (by decide)
 have h3:n / 32 % 2=(n % 64) / 32:=by omega
 have key:∀ m,m < 64→m ||| 32=m+(if m / 32=1 then 0 else 32):=by decide
 have h4:n ||| 32=64 * (n / 64)+(n % 64 ||| 32):=by
  have:=Nat.shiftLeft_add_eq_or_of_lt (i:=6) h2 (n / 64)
  have h5:n % 64 ||| 32 < 64:=Nat.or_lt_two_pow (n:=6) h2 (by decide)
  have h6:=Nat.shiftLeft_add_eq_or_of_lt (i:=6) h5 (n / 64)
  rw [Nat.shiftLeft_eq] at this h6
  have e1:n=(n / 64) * 2 ^ 6 ||| n % 64:=by rw [← this];omega
  calc n ||| 32=((n / 64) * 2 ^ 6 ||| n % 64) ||| 32:=by rw [← e1]
   _=(n / 64) * 2 ^ 6 ||| (n % 64 ||| 32):=by rw [Nat.or_assoc]
   _=64 * (n / 64)+(n % 64 ||| 32):=by rw [← h6];omega
 rw [h4,key _ h2,h3]
 split<;>omega
def or32 (p:Int):Int:=p+(if p / 32 % 2=1 then 0 else 32)
theorem bits_or32 (p:Int) (h0:0≤p) (h1:p < 1099511627776):bits .or .i64 p 32=or32 p:=by
 obtain ⟨n,rfl⟩:=Int.eq_ofNat_of_zero_le h0
 have:=(bits_nat .i64 40 (by decide) (fun n h0 h1=>IntWalk.i64_in _ (by omega)) n 32 (by omega) (by omega)).2
 rw [show ((32:Nat):Int)=32 from rfl] at this
 rw [this,nat_or32]
 unfold or32
 split<;>split<;>omega
set_option maxRecDepth 100000 in
theorem hex_among:∀ n:Nat,n < 103→isHexP n=true→idxP (or32 n) [48,49,50,51,52,53,54,55,56,57,97,98,99,100,101,102]=hexV n:=by decide
theorem isHexP_cases {p:Int} (h:isHexP p=true):(48≤p∧p≤57)∨(97≤p∧p≤102)∨(65≤p∧p≤70):=by
 unfold isHexP isDig at h;simp at h;omega
theorem hexN_snoc (l:List Int) (p:Int):hexN (l ++ [p])=16 * hexN l+hexV p:=by unfold hexN;rw [List.foldl_append];rfl
theorem hexN_small (l:List Int) (hd:∀ p ∈ l,isHexP p=true):∀ k,k≤l.length→0≤hexN (l.take k)∧hexN (l.take k) < 16 ^ k:=by
 intro k
 induction k with
 | zero=>intro _;simp [hexN]
 | succ k ih =>
  intro hk
  obtain ⟨h1,h2⟩:=ih (by omega)
  have hp:=isHexP_cases (hd l[k] (List.getElem_mem (by omega)))
  have hv:0≤hexV l[k]∧hexV l[k]≤15:=by unfold hexV isDig;simp;omega
  rw [List.take_succ_eq_append_getElem (by omega),hexN_snoc,Int.pow_succ]
  omega
set_option maxHeartbeats 2000000 in
theorem number61 (l:List Int) (A:Option Addr) (n c:Nat) (w:World) (X:Nat) (hn:n≤6) (hd:∀ p ∈ l,isHexP p=true) (ha:Rds w X 1 A n (ints l)) :
  Calls Try.prog 61 #[.slice A n c,.int .i64 16] w fun e w'=>e=.returned (.int .i64 (hexN l))∧w=w':=by
 have HLN:=Lib.hid ha.ints_len
 have HD:=Lib.hid hd
 have HS:Hid (∀ k,k≤l.length→0≤hexN (l.take k)∧hexN (l.take k) < 16 ^ k):=Lib.hid (hexN_small l hd)
 clear hd
 go_enter Try.func61,Try.ntmps61
 go_wp2_with fail
 go_loopw [5,10] (fun v i wr=>∃ k:Nat,k≤n∧i=.int .i64 k∧v=.int .i64 (hexN (l.take k))∧w=wr) (fun _ i _=>n - (intOf i).toNat)
 case atStart=>exact ⟨0,Nat.zero_le _,rfl,rfl,rfl⟩
 case round =>
  obtain ⟨k,hk,rfl,rfl,rfl⟩:=hrel
  by_cases hlt:k < n
  ·obtain ⟨b1,off1,hl1,hA,hb1,hc1⟩:=ha.int_at hlt
   have hx:=isHexP_cases (HD.out l[k] (List.getElem_mem hl1))
   obtain ⟨x,hx'⟩:∃ x,x=l[k]:=⟨_,rfl⟩
   rw [← hx'] at hc1 hx
   subst hA
   have i1:(0:Int)≤(k:Int):=by omega
   have i2:(k:Int) < (n:Int):=by omega
   have HB:=Lib.hid (bits_or32 x (by omega) (by omega))
   have hor:=HB.out
   have HAM:Hid (idxP (or32 x) [48,49,50,51,52,53,54,55,56,57,97,98,99,100,101,102]=hexV x):=Lib.hid (by
    obtain ⟨m,rfl⟩:=Int.eq_ofNat_of_zero_le (a:=x) (by omega)
    exact hex_among m (by omega) (by unfold isHexP isDig;simp;omega))
   have C:=Lib.hid (fun w=>among49 ⟨#[48,49,50,51,52,53,54,55,56,57,97,98,99,100,101,102]⟩ (or32 x) w (by decide))
   have HT:=Lib.hid (show hexN (l.take (k+1))=16 * hexN (l.take k)+hexV x by rw [List.take_succ_eq_append_getElem hl1,hexN_snoc,← hx'])
   have hv:0≤hexV x∧hexV x≤15:=by unfold hexV isDig;simp;omega
   have hb:=HS.out k (by omega)
   have hb2:(16:Int) ^ k≤1048576:=by
    have:k=0∨k=1∨k=2∨k=3∨k=4∨k=5:=by omega
    rcases this with rfl|rfl|rfl|rfl|rfl|rfl<;>decide
   obtain ⟨y,hy⟩:∃ y,y=hexN (l.take k):=⟨_,rfl⟩
   rw [← hy] at HT hb ⊢
   have hy1:0≤y∧y≤1048576:=by omega
   obtain ⟨v,hv'⟩:∃ v,v=hexV x:=⟨_,rfl⟩
   rw [← hv'] at HT hv HAM
   clear hx' hb hb2 hy hv' hx HB
   go_wp2_with (go_at_call 49;refine (C.out _).mono ?_;rintro e w' ⟨rfl,rfl⟩;rw [show idxP (or32 x) (ByteArray.mk #[48,49,50,51,52,53,54,55,56,57,97,98,99,100,101,102]).data.toList=v from HAM.out])
   go_roundw
   case rel=>exact ⟨k+1,by omega,by go_num,by rw [HT.out];first|rfl|(congr 1;omega),by first|rfl|trivial⟩
   case measure=>simp [intOf];omega
  ·obtain rfl:k=n:=by omega
   rw [List.take_of_length_le (by rw [HLN.out];exact Nat.le_refl _)]
   go_wp2_with fail
   go_ret
   exact ⟨rfl,rfl⟩
end Go.Proofs.Ytmjlmjlkghpknaa
