/-
  Numbers of hexadecimal digits; a class by its letter: walked. A class by its letter: walked.
-/
import Derived.Test.YtbiahhojnjchnaaGreatGQ
import Derived.Maps.Own
import Derived.Maps.StringElems
set_option linter.unusedVariables false
set_option linter.unusedSimpArgs false
namespace Go.Proofs.YtbiahhojnjchnaaGreat
open Go.RowKit Go.Maps
/-- at which byte of a text a point stands -/
def idxP (p:Int):List UInt8→Int
 | []=>-1
 | c :: l=>if (c.toNat:Int)=p then 0 else if idxP p l < 0 then -1 else idxP p l+1
theorem idxP_hit (p:Int):∀ (l:List UInt8) (k:Nat) (h:k < l.length),(∀ j (hj:j < k),((l[j]'(by omega)).toNat:Int)≠p)→((l[k]).toNat:Int)=p→idxP p l=k:=by
 intro l
 induction l with
 | nil=>intro k h;simp at h
 | cons c l ih =>
  intro k h h1 h2
  cases k with
  | zero=>simp only [List.getElem_cons_zero] at h2;unfold idxP;rw [if_pos h2];rfl
  | succ k =>
   have h0:=h1 0 (by omega)
   simp only [List.getElem_cons_zero] at h0
   have:=ih k (by simpa using h) (fun j hj=>by have:=h1 (j+1) (by omega);simpa using this) (by simpa using h2)
   unfold idxP
   rw [if_neg h0,this,if_neg (by omega)];omega
theorem idxP_none (p:Int):∀ (l:List UInt8),(∀ j (hj:j < l.length),((l[j]).toNat:Int)≠p)→idxP p l=-1:=by
 intro l
 induction l with
 | nil=>intro _;rfl
 | cons c l ih =>
  intro h
  have h0:=h 0 (by simp)
  simp only [List.getElem_cons_zero] at h0
  have:=ih (fun j hj=>by have:=h (j+1) (by simpa using hj);simpa using this)
  unfold idxP
  rw [if_neg h0,this];rfl
set_option maxHeartbeats 1000000 in
theorem among49 (s:ByteArray) (p:Int) (w:World) (hs:s.size≤100) :
  Calls Tryz.prog 205 #[.string s,.int .i64 p] w fun e w'=>e=.returned (.int .i64 (idxP p s.data.toList))∧w=w':=by
 go_enter Tryz.func205,Tryz.ntmps205
 go_wp2_with fail
 go_loop [8] (fun i=>∃ k:Nat,k≤s.size∧i=.int .i64 k∧Hid (∀ j (hj:j < k) (hs:j < s.data.toList.length),((s.data.toList[j]).toNat:Int)≠p)) (fun i=>s.size - (intOf i).toNat)
 case atStart=>exact ⟨0,Nat.zero_le _,rfl,Lib.hid (fun j hj=>absurd hj (Nat.not_lt_zero _))⟩
 case round =>
  obtain ⟨k,hk,rfl,HJ⟩:=hrel
  by_cases hlt:k < s.size
  ·have hl:k < s.data.toList.length:=by simpa using hlt
   have he:s.data.toList[k]=s[k]:=rfl
   have hwr:wrap64 (s[k].toNat:Int)=(s[k].toNat:Int):=by have:=s[k].toNat_lt;unfold wrap64;omega
   by_cases hp:(s[k].toNat:Int)=p
   ·have HX:=Lib.hid (idxP_hit p s.data.toList k hl (fun j hj=>HJ.out j hj (by omega)) (by rw [he];exact hp))
    have hpb:(wrap64 (s[k].toNat:Int) == p)=true:=by rw [hwr];simpa using hp
    clear hp he hwr
    go_wp2_with fail
    go_ret
    exact ⟨ret_int HX.out.symm,rfl⟩
   ·have HX:=Lib.hid hp
    have hpb:(wrap64 (s[k].toNat:Int) == p)=false:=by rw [hwr];simpa using hp
    clear hp hwr he
    go_wp2_with fail
    go_round
    case rel=>exact ⟨k+1,by omega,by go_num,Lib.hid (fun j hj hs'=>by
     rcases Nat.lt_or_ge j k with h|h
     ·exact HJ.out j h hs'
     ·obtain rfl:j=k:=by omega
      exact HX.out)⟩
    case measure=>simp [intOf];omega
  ·have HX:=Lib.hid (idxP_none p s.data.toList (fun j hj=>HJ.out j (Nat.lt_of_lt_of_le hj (by simp;omega)) hj))
   obtain rfl:k=s.size:=by omega
   go_wp2_with fail
   go_ret
   exact ⟨ret_int HX.out.symm,rfl⟩
theorem nat_or32 (n:Nat):n ||| 32=n+(if n / 32 % 2=1 then 0 else 32):=by
 have h1:n=64 * (n / 64)+n % 64:=by omega
 have h2:n % 64 < 64:=Nat.mod_lt _ (by decide)
 have h3:n / 32 % 2=(n % 64) / 32:=by omega
 have key:∀ m,m < 64→m ||| 32=m+(if m / 32=1 then 0 else 32):=by decide
 have h4:n ||| 32=64 * (n / 64)+(n % 64 ||| 32):=by
  have:=Nat.shiftLeft_add_eq_or_of_lt (i:=6) h2 (n / 64)
  have h5:n % 64 ||| 32 < 64:=Nat.or_lt_two_pow (n:=6) h2 (by decide)
  have h6:=Nat.shiftLeft_add_eq_or_of_lt (i:=6) h5 (n / 64)
  rw [Nat.shiftLeft_eq] at this h6
  have e1:n=(n / 64) * 2 ^ 6 ||| n % 64:=by rw [← this];omega
  calc n ||| 32=((n / 64) * 2 ^ 6 ||| n % 64) ||| 32:=by rw [← e1]
   _=(n / 64) * 2 ^ 6 ||| (n % 64 ||| 32):=by rw [Nat.or_assoc]
   _=64 * (n / 64)+(n % 64 ||| 32):=by rw [← h6];omega
 rw [h4,key _ h2,h3]
 split<;>omega
def or32 (p:Int):Int:=p+(if p / 32 % 2=1 then 0 else 32)
theorem bits_or32 (p:Int) (h0:0≤p) (h1:p < 1099511627776):bits .or .i64 p 32=or32 p:=by
 obtain ⟨n,rfl⟩:=Int.eq_ofNat_of_zero_le h0
 have:=(bits_nat .i64 40 (by decide) (fun n h0 h1=>IntWalk.i64_in _ (by omega)) n 32 (by omega) (by omega)).2
 rw [show ((32:Nat):Int)=32 from rfl] at this
 rw [this,nat_or32]
 unfold or32
 split<;>split<;>omega
set_option maxRecDepth 100000 in
theorem hex_among:∀ n:Nat,n < 103→isHexP n=true→idxP (or32 n) [48,49,50,51,52,53,54,55,56,57,97,98,99,100,101,102]=hexV n:=by decide
theorem isHexP_cases {p:Int} (h:isHexP p=true):(48≤p∧p≤57)∨(97≤p∧p≤102)∨(65≤p∧p≤70):=by
 unfold isHexP isDig at h;simp at h;omega
theorem hexN_snoc (l:List Int) (p:Int):hexN (l ++ [p])=16 * hexN l+hexV p:=by unfold hexN;rw [List.foldl_append];rfl
theorem hexN_small (l:List Int) (hd:∀ p ∈ l,isHexP p=true):∀ k,k≤l.length→0≤hexN (l.take k)∧hexN (l.take k) < 16 ^ k:=by
 intro k
 induction k with
 | zero=>intro _;simp [hexN]
 | succ k ih =>
  intro hk
  obtain ⟨h1,h2⟩:=ih (by omega)
  have hp:=isHexP_cases (hd l[k] (List.getElem_mem (by omega)))
  have hv:0≤hexV l[k]∧hexV l[k]≤15:=by unfold hexV isDig;simp;omega
  rw [List.take_succ_eq_append_getElem (by omega),hexN_snoc,Int.pow_succ]
  omega
set_option maxHeartbeats 2000000 in
theorem number61 (l:List Int) (A:Option Addr) (n c:Nat) (w:World) (X:Nat) (hn:n≤6) (hd:∀ p ∈ l,isHexP p=true) (ha:Rds w X 1 A n (ints l)) :
  Calls Tryz.prog 222 #[.slice A n c,.int .i64 16] w fun e w'=>e=.returned (.int .i64 (hexN l))∧w=w':=by
 have HLN:=Lib.hid ha.ints_len
 have HD:=Lib.hid hd
 have HS:Hid (∀ k,k≤l.length→0≤hexN (l.take k)∧hexN (l.take k) < 16 ^ k):=Lib.hid (hexN_small l hd)
 clear hd
 go_enter Tryz.func222,Tryz.ntmps222
 go_wp2_with fail
 go_loopw [5,10] (fun v i wr=>∃ k:Nat,k≤n∧i=.int .i64 k∧v=.int .i64 (hexN (l.take k))∧w=wr) (fun _ i _=>n - (intOf i).toNat)
 case atStart=>exact ⟨0,Nat.zero_le _,rfl,rfl,rfl⟩
 case round =>
  obtain ⟨k,hk,rfl,rfl,rfl⟩:=hrel
  by_cases hlt:k < n
  ·obtain ⟨b1,off1,hl1,hA,hb1,hc1⟩:=ha.int_at hlt
   have hx:=isHexP_cases (HD.out l[k] (List.getElem_mem hl1))
   obtain ⟨x,hx'⟩:∃ x,x=l[k]:=⟨_,rfl⟩
   rw [← hx'] at hc1 hx
   subst hA
   have i1:(0:Int)≤(k:Int):=by omega
   have i2:(k:Int) < (n:Int):=by omega
   have HB:=Lib.hid (bits_or32 x (by omega) (by omega))
   have hor:=HB.out
   have HAM:Hid (idxP (or32 x) [48,49,50,51,52,53,54,55,56,57,97,98,99,100,101,102]=hexV x):=Lib.hid (by
    obtain ⟨m,rfl⟩:=Int.eq_ofNat_of_zero_le (a:=x) (by omega)
    exact hex_among m (by omega) (by unfold isHexP isDig;simp;omega))
   have C:=Lib.hid (fun w=>among49 ⟨#[48,49,50,51,52,53,54,55,56,57,97,98,99,100,101,102]⟩ (or32 x) w (by decide))
   have HT:=Lib.hid (show hexN (l.take (k+1))=16 * hexN (l.take k)+hexV x by rw [List.take_succ_eq_append_getElem hl1,hexN_snoc,← hx'])
   have hv:0≤hexV x∧hexV x≤15:=by unfold hexV isDig;simp;omega
   have hb:=HS.out k (by omega)
   have hb2:(16:Int) ^ k≤1048576:=by
    have:k=0∨k=1∨k=2∨k=3∨k=4∨k=5:=by omega
    rcases this with rfl|rfl|rfl|rfl|rfl|rfl<;>decide
   obtain ⟨y,hy⟩:∃ y,y=hexN (l.take k):=⟨_,rfl⟩
   rw [← hy] at HT hb ⊢
   have hy1:0≤y∧y≤1048576:=by omega
   obtain ⟨v,hv'⟩:∃ v,v=hexV x:=⟨_,rfl⟩
   rw [← hv'] at HT hv HAM
   clear hx' hb hb2 hy hv' hx HB
   go_wp2_with (go_at_call 205;refine (C.out _).mono ?_;rintro e w' ⟨rfl,rfl⟩;rw [show idxP (or32 x) (ByteArray.mk #[48,49,50,51,52,53,54,55,56,57,97,98,99,100,101,102]).data.toList=v from HAM.out])
   go_roundw
   case rel=>exact ⟨k+1,by omega,by go_num,by rw [HT.out];first|rfl|(congr 1;omega),by first|rfl|trivial⟩
   case measure=>simp [intOf];omega
  ·obtain rfl:k=n:=by omega
   rw [List.take_of_length_le (by rw [HLN.out];exact Nat.le_refl _)]
   go_wp2_with fail
   go_ret
   exact ⟨rfl,rfl⟩
end Go.Proofs.YtbiahhojnjchnaaGreat
namespace Go.Proofs.YtbiahhojnjchnaaGreat
open Go.RowKit Go.Maps
noncomputable abbrev ps {H:Type}:Value→Option (DataW H × List MemPlace):=plainElem Tryz.prog 9
theorem insS {w:World} {g n:Nat} {D:DataW Unit} (h:w.ownsMap (H:=Unit) Tryz.prog 3 ps g n D) (hn:n < maxLen) (k:Int) (hk:(Lit.int .i64 k).wf=true) (s:ByteArray) (hs:s.size≤maxLen) :
  ∃ w',(Instr.mapUpdate 228 (.map (some g)) (.int .i64 k) (.string s)).run Tryz.prog w=.ok () w'∧w'.ownsMap (H:=Unit) Tryz.prog 3 ps g (n+1) (D.put (.int .i64 k) (.lit (.string s.data.toList)))∧w.grownBy w' (some g) :=
 h.update (int_keyed Tryz.underlying3) Tryz.underlying228 hn (keyOf_int_mk Tryz.underlying3 hk) (plainElem_string Tryz.underlying9 hs)
theorem ps_string {H:Type} {v:Value} {l:List UInt8} {p:List MemPlace} (h:ps (H:=H) v=some (.lit (.string l),p)):v=.string ⟨l.toArray⟩:=by
 obtain ⟨s,hs⟩:=plainElem_string_inv Tryz.underlying9 h
 have h1:=hs.1
 have h2:=congrArg Prod.fst hs.2.1
 simp only [DataW.lit.injEq,Lit.string.injEq] at h2
 rw [h1,h2]
theorem lookOk {w:World} {g n:Nat} {D:DataW Unit} {l:List UInt8} {f:Bool} (h:w.ownsMap (H:=Unit) Tryz.prog 3 ps g n D) (k:Int) (hk:(Lit.int .i64 k).wf=true) (hD:D.atKey (.int .i64 k) (.lit (.string []))=.lit (.string l)) (hf:Maps.has D (.int .i64 k)=f) :
  (Instr.lookup 228 (.map (some g)) (.int .i64 k) true).run Tryz.prog w=.ok (.tuple #[.string ⟨l.toArray⟩,.bool f]) w:=by
 obtain ⟨v,p,hr,hv⟩:=h.look_ok (int_keyed Tryz.underlying3) Tryz.underlying228 (Tryz.zeroValue9 w) (z:=.string ⟨#[]⟩) (plainElem_string Tryz.underlying9 (s:=⟨#[]⟩) (by decide)) (keyOf_int_mk Tryz.underlying3 hk)
 rw [show (DataW.atKey D (.int .i64 k) (.lit (.string (⟨#[]⟩:ByteArray).data.toList)))=.lit (.string l) from hD] at hv
 rw [hr,ps_string hv,hf]
def D4:DataW Unit:=((((DataW.map []).put (.int .i64 100) (.lit (.string [100,105,103,105,116]))).put (.int .i64 119) (.lit (.string [119,111,114,100]))).put (.int .i64 115) (.lit (.string [115,112,97,99,101]))).put (.int .i64 104) (.lit (.string [120,100,105,103,105,116]))
def nameOf (p:Int):List UInt8:=if p=100 then [100,105,103,105,116] else if p=119 then [119,111,114,100] else if p=115 then [115,112,97,99,101] else if p=104 then [120,100,105,103,105,116] else []
def isCls (p:Int):Bool:=p == 100 || p == 119 || p == 115 || p == 104
theorem D4_eq:D4=.map [(.int .i64 100,.lit (.string [100,105,103,105,116])),(.int .i64 104,.lit (.string [120,100,105,103,105,116])),(.int .i64 115,.lit (.string [115,112,97,99,101])),(.int .i64 119,.lit (.string [119,111,114,100]))]:=rfl
theorem D4_at (p:Int):D4.atKey (.int .i64 p) (.lit (.string []))=.lit (.string (nameOf p))∧Maps.has D4 (.int .i64 p)=isCls p:=by
 by_cases h1:p=100
 ·subst h1;exact ⟨rfl,rfl⟩
 by_cases h2:p=119
 ·subst h2;exact ⟨rfl,rfl⟩
 by_cases h3:p=115
 ·subst h3;exact ⟨rfl,rfl⟩
 by_cases h4:p=104
 ·subst h4;exact ⟨rfl,rfl⟩
 rw [D4_eq]
 unfold nameOf isCls
 simp [h1,h2,h3,h4,DataW.atKey,Maps.has,Lit.sameKey,Ne.symm h1,Ne.symm h2,Ne.symm h3,Ne.symm h4]
 try omega
theorem classT_eq (p:Int) (h0:0≤p):classT p=if isCls p=true then some { kind:=4,text:=nameOf p } else if isCls (or32 p)=true then some { kind:=4,text:=nameOf (or32 p),not_:=true } else none:=by
 by_cases hs:p < 128
 ·obtain ⟨m,rfl⟩:=Int.eq_ofNat_of_zero_le h0
  have key:∀ m:Nat,m < 128→((isCls m=true→m=100∨m=119∨m=115∨m=104)∧(isCls (or32 m)=true→m=100∨m=119∨m=115∨m=104∨m=68∨m=87∨m=83∨m=72)):=by decide
  have hk:=key m (by omega)
  by_cases h1:isCls m=true
  ·rcases hk.1 h1 with rfl|rfl|rfl|rfl<;>rfl
  ·by_cases h2:isCls (or32 m)=true
   ·rcases hk.2 h2 with rfl|rfl|rfl|rfl|rfl|rfl|rfl|rfl<;>rfl
   ·rw [if_neg h1,if_neg h2]
    unfold classT
    have hn:∀ q:Nat,(q=100∨q=119∨q=115∨q=104∨q=68∨q=87∨q=83∨q=72)→m≠q:=by
     rintro q (rfl|rfl|rfl|rfl|rfl|rfl|rfl|rfl) rfl<;>first|exact h1 (by decide)|exact h2 (by decide)
    have q1:=hn 100 (by decide);have q2:=hn 119 (by decide);have q3:=hn 115 (by decide);have q4:=hn 104 (by decide)
    have q5:=hn 68 (by decide);have q6:=hn 87 (by decide);have q7:=hn 83 (by decide);have q8:=hn 72 (by decide)
    repeat rw [if_neg (by omega)]
 ·have a:isCls p=false:=by unfold isCls;simp;omega
  have b:isCls (or32 p)=false:=by unfold isCls or32;simp;split<;>omega
  rw [a,b]
  unfold classT
  simp only [Bool.false_eq_true,if_false]
  repeat rw [if_neg (by omega)]
def ClassOut (p:Int) (e:Ending):Prop:=e=.returned (.tuple #[((classT p).getD {}).agg,.bool (classT p).isSome])
set_option maxRecDepth 100000 in
set_option maxHeartbeats 4000000 in
theorem class48 (p:Int) (h0:0≤p) (h1:p≤1114111) (w:World):Calls Tryz.prog 204 #[.int .i64 p] w fun e w'=>ClassOut p e∧Below w.heap.size w w':=by
 have hmm:=@run_makeMap Tryz.prog
 obtain ⟨W,hW⟩:∃ W,W=w.alloc (.cells #[.int .i64 0,.int .i64 0,.string ⟨#[]⟩,.bool false,.int .i64 0,.int .i64 0,.int .i64 0,.int .i64 0] 108):=⟨_,rfl⟩
 have hWs:W.heap.size=w.heap.size+1:=by rw [hW];simp
 have HM0:=Lib.hid (World.ownsMap_made (H:=Unit) W Tryz.prog 3 ps)
 obtain ⟨w1,r1,o1,g1⟩:=insS HM0.out (by unfold maxLen;omega) 100 (by decide) ⟨#[100,105,103,105,116]⟩ (by unfold maxLen;decide)
 obtain ⟨w2,r2,o2,g2⟩:=insS o1 (by unfold maxLen;omega) 119 (by decide) ⟨#[119,111,114,100]⟩ (by unfold maxLen;decide)
 obtain ⟨w3,r3,o3,g3⟩:=insS o2 (by unfold maxLen;omega) 115 (by decide) ⟨#[115,112,97,99,101]⟩ (by unfold maxLen;decide)
 obtain ⟨w4,r4,o4,g4⟩:=insS o3 (by unfold maxLen;omega) 104 (by decide) ⟨#[120,100,105,103,105,116]⟩ (by unfold maxLen;decide)
 have q0:(Lit.int .i64 p).wf=true:=by simp only [Lit.wf,Bool.and_eq_true,decide_eq_true_eq];exact ⟨by have:IntKind.i64.min=-9223372036854775808:=rfl;omega,by have:IntKind.i64.max=9223372036854775807:=rfl;omega⟩
 have hor:=bits_or32 p h0 (by omega)
 have hb:0≤or32 p∧or32 p≤2000000:=by unfold or32;split<;>omega
 have q1:(Lit.int .i64 (or32 p)).wf=true:=by simp only [Lit.wf,Bool.and_eq_true,decide_eq_true_eq];exact ⟨by have:IntKind.i64.min=-9223372036854775808:=rfl;omega,by have:IntKind.i64.max=9223372036854775807:=rfl;omega⟩
 have l1:=lookOk o4 p q0 (D4_at p).1 (D4_at p).2
 have l2:=lookOk o4 (or32 p) q1 (D4_at (or32 p)).1 (D4_at (or32 p)).2
 have s0:(W.alloc (.map #[] 0)).heap.size=W.heap.size+1:=by simp
 have B1:Below W.heap.size W w1:=Below.grown ((Below.refl _ _).alloc (Nat.le_refl _) _) g1 (by omega) (fun k hk=>by cases hk;exact Nat.le_refl _)
 have B2:Below W.heap.size W w2:=B1.grown g2 B1.size (fun k hk=>by cases hk;exact Nat.le_refl _)
 have B3:Below W.heap.size W w3:=B2.grown g3 B2.size (fun k hk=>by cases hk;exact Nat.le_refl _)
 have HB4:=Lib.hid (B3.grown g4 B3.size (fun k hk=>by cases hk;exact Nat.le_refl _))
 have HZ4:Hid (w4.heap[w.heap.size]?=some Z24):=Lib.hid (by rw [HB4.out.block _ (by omega),hW];exact heap_alloc_new w _)
 have HBW:Hid (Below w.heap.size w w4):=Lib.hid ((show Below w.heap.size w W by rw [hW];exact (Below.refl _ _).alloc (Nat.le_refl _) _).trans (HB4.out.mono (by omega)))
 have hw4:=HBW.out.size
 rw [hWs] at r1 r2 r3 r4 l1 l2
 clear o1 o2 o3 o4 g1 g2 g3 g4 B1 B2 B3 s0 HM0 q0 q1 HB4
 have HC:=Lib.hid (classT_eq p h0)
 unfold ClassOut
 rw [HC.out]
 obtain ⟨n1,hn1⟩:∃ n1,n1=nameOf p:=⟨_,rfl⟩
 obtain ⟨n2,hn2⟩:∃ n2,n2=nameOf (or32 p):=⟨_,rfl⟩
 obtain ⟨f1,hf1⟩:∃ f1,f1=isCls p:=⟨_,rfl⟩
 obtain ⟨f2,hf2⟩:∃ f2,f2=isCls (or32 p):=⟨_,rfl⟩
 rw [← hn1,← hf1] at l1
 rw [← hn2,← hf2] at l2
 rw [← hn1,← hn2,← hf1,← hf2]
 clear hn1 hn2 hf1 hf2 HC
 obtain ⟨y,hy⟩:∃ y,y=or32 p:=⟨_,rfl⟩
 rw [← hy] at hor l2 hb
 clear hy
 cases f1
 ·cases f2
  all_goals
   go_enter Tryz.func204,Tryz.ntmps204
   go_upto_region 1 with (fail)
   rw [← hW]
   clear hW
   go_wp2_with ((with_reducible apply store24 (g:=w.heap.size));rfl;(with_reducible rfl);rfl;rfl;(repeat' (first|(with_reducible first|exact HZ4.out|exact hz_new|refine hz_set ?_ ?_|refine hz_row ?_ ?_|refine hz_alloc ?_)|(with_reducible change (_:Nat)≠_;(try simp)<;>omega)));rfl;rfl)
   ((try simp only [Exit.inBlock,Exit.then]);refine bodyPost_ret (v:=_) (results24t Tryz.results204 _ _ w.heap.size _ (.bool _) ?_ ?_ (row24 ?_) ?_) rfl ⟨rfl,?_⟩;rfl;rfl;(repeat' (first|(with_reducible first|exact HZ4.out|exact hz_new|refine hz_set ?_ ?_|refine hz_row ?_ ?_|refine hz_alloc ?_)|(with_reducible change (_:Nat)≠_;(try simp)<;>omega)));rfl;exact Below.setRow HBW.out (Nat.le_refl _) _)
 ·go_enter Tryz.func204,Tryz.ntmps204
  go_upto_region 1 with (fail)
  rw [← hW]
  clear hW
  go_wp2_with ((with_reducible apply store24 (g:=w.heap.size));rfl;(with_reducible rfl);rfl;rfl;(repeat' (first|(with_reducible first|exact HZ4.out|exact hz_new|refine hz_set ?_ ?_|refine hz_row ?_ ?_|refine hz_alloc ?_)|(with_reducible change (_:Nat)≠_;(try simp)<;>omega)));rfl;rfl)
  ((try simp only [Exit.inBlock,Exit.then]);refine bodyPost_ret (v:=_) (results24t Tryz.results204 _ _ w.heap.size _ (.bool _) ?_ ?_ (row24 ?_) ?_) rfl ⟨rfl,?_⟩;rfl;rfl;(repeat' (first|(with_reducible first|exact HZ4.out|exact hz_new|refine hz_set ?_ ?_|refine hz_row ?_ ?_|refine hz_alloc ?_)|(with_reducible change (_:Nat)≠_;(try simp)<;>omega)));rfl;exact Below.setRow HBW.out (Nat.le_refl _) _)
end Go.Proofs.YtbiahhojnjchnaaGreat
