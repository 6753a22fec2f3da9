/-
  Within of the reference and what it calls, walked. SameSet and RightRanges of the reference, walked. CheckSet and CheckSets of the reference, walked. CountOf and EndsOf of the reference, walked. How many points a set has: plain.
-/
import Derived.Test.YtbiahhojnjchnaaGreatBase
import Derived.Test.YtbiahhojnjchnaaGreatHD
import Derived.Laws.StructEq
set_option linter.unusedVariables false
set_option linter.unusedSimpArgs false
namespace Go.Proofs.YtbiahhojnjchnaaGreat
open Go.RowKit
theorem take_snoc' {α:Type} (l:List α) (k:Nat) (h:k < l.length):l.take (k+1)=l.take k ++ [l[k]]:=by
 rw [List.take_succ_eq_append_getElem h]
theorem quiet_add_same {P:Program} {f:FuncId} {args:Array Value} {w:World} {a n:Nat} {v:Value}
  (h:Calls P f args (w.drewN (a+n)) fun e w'=>e=.returned v∧w'=w.drewN (a+n)) :
  Calls P f args (w.drewN (a+n)) fun e w''=>e=.returned v∧∃ m,w''=w.drewN (a+m) :=
 h.mono fun _ _ ⟨he,hm⟩=>⟨he,n,hm⟩
set_option maxHeartbeats 400000 in
theorem between_any (p a b:Int) (w:World):Calls Tryz.prog 119 #[.int .i64 p,.int .i64 a,.int .i64 b] w fun e w'=>e=.returned (.bool (decide (a≤p) && decide (p≤b)))∧w'=w:=by
 go_enter Tryz.func119,Tryz.ntmps119
 go_wp2
 all_goals (go_ret;refine ⟨ret_bool ?_,rfl⟩;simp_all;try omega)
set_option maxHeartbeats 400000 in
theorem isPoint_any (p:Int) (w:World):Calls Tryz.prog 31 #[.int .i64 p] w fun e w'=>e=.returned (.bool (decide (0≤p) && decide (p≤1114111)))∧w'=w:=by
 go_enter Tryz.func31,Tryz.ntmps31
 go_wp2
 all_goals (go_ret;refine ⟨ret_bool ?_,rfl⟩;simp_all;try omega)
theorem memB_at {a:List (Int × Int)} {p:Int} (k:Nat) (h:k < a.length) (hp:(decide (a[k].1≤p) && decide (p≤a[k].2))=true):memB a p=true:=by
 unfold memB;rw [List.any_eq_true];exact ⟨a[k],List.getElem_mem h,hp⟩
theorem memB_none {a:List (Int × Int)} {p:Int} (h:memB (a.take a.length) p=false):memB a p=false:=by rwa [List.take_length] at h
theorem memB_snoc (a:List (Int × Int)) (r:Int × Int) (p:Int):memB (a ++ [r]) p=(memB a p || (decide (r.1≤p) && decide (p≤r.2))):=by simp [memB]
set_option maxHeartbeats 1000000 in
theorem within_any (a:List (Int × Int)) (p:Int) (A:Option Addr) (n c:Nat) (w:World) (B:Nat) (hn:n≤maxLen) (ha:Rds w B 2 A n (rngs a)) :
  Calls Tryz.prog 97 #[.slice A n c,.int .i64 p] w fun e w'=>e=.returned (.bool (memB a p))∧∃ m,w'=w.drewN m:=by
 have HL:=Lib.hid ha.rngs_len
 unfold maxLen at hn
 go_enter Tryz.func97,Tryz.ntmps97
 go_wp2_with fail
 go_loopw [5] (fun i wr=>∃ k:Nat,k≤n∧i=.int .i64 k∧memB (a.take k) p=false∧∃ m,wr=w.drewN m) (fun i _=>n - (intOf i).toNat)
 case atStart=>exact ⟨0,Nat.zero_le _,rfl,by simp [memB],0,rfl⟩
 case round =>
  obtain ⟨k,hk,rfl,hall,m,rfl⟩:=hrel
  have HALL:=Lib.hid hall
  clear hall
  by_cases hlt:k < n
  ·obtain ⟨b1,off1,hl1,hA,hb1,hc1,hc2⟩:=ha.rng_at hlt
   subst hA
   have HT:=Lib.hid (take_snoc' a k hl1)
   have HM:=Lib.hid (memB_at (p:=p) k hl1)
   obtain ⟨r,hr⟩:∃ r,r=a[k]:=⟨_,rfl⟩
   rw [← hr] at hc1 hc2 HT HM
   clear hr
   obtain ⟨x,y⟩:=r
   simp only at hc1 hc2
   have i1:(0:Int)≤(k:Int):=by omega
   have i2:(k:Int) < (n:Int):=by omega
   cases ht:(decide (x≤p) && decide (p≤y))
   ·have H:=Lib.hid ht
    clear ht
    go_wp2_with fail
    go_quiet ((go_at_call 119;(first|exact Calls.quiet_of_same (H.out ▸ between_any p x y _)|exact quiet_add_same (H.out ▸ between_any p x y _))))
    go_wp2
    go_roundw
    case rel=>exact ⟨k+1,by omega,by go_num,by rw [HT.out,memB_snoc,HALL.out,H.out];rfl,_,rfl⟩
    case measure=>simp [intOf];omega
   ·have H:=Lib.hid ht
    clear ht
    go_wp2_with fail
    go_quiet ((go_at_call 119;(first|exact Calls.quiet_of_same (H.out ▸ between_any p x y _)|exact quiet_add_same (H.out ▸ between_any p x y _))))
    go_wp2
    go_ret
    exact ⟨ret_bool (HM.out H.out).symm,_,World.drewN_drewN ..⟩
  ·obtain rfl:k=n:=by omega
   go_wp2
   go_ret
   exact ⟨ret_bool (memB_none (by rw [HL.out];exact HALL.out)).symm,m,rfl⟩
end Go.Proofs.YtbiahhojnjchnaaGreat
namespace Go.Proofs.YtbiahhojnjchnaaGreat
open Go.RowKit
def sameS (a b:List (Int × Int)):Bool:=decide (a=b)
theorem sameS_len {a b:List (Int × Int)} (h:a.length≠b.length):sameS a b=false:=by simp [sameS];intro e;exact h (by rw [e])
theorem sameS_at {a b:List (Int × Int)} (k:Nat) (h1:k < a.length) (h2:k < b.length) (h:a[k]≠b[k]):sameS a b=false:=by
 simp [sameS];intro e;subst e;exact h rfl
theorem sameS_all {a b:List (Int × Int)} (hl:a.length=b.length) (h:a.take a.length=b.take a.length):sameS a b=true:=by
 have:a=b:=by
  rw [List.take_length,hl,List.take_length] at h;exact h
 simp [sameS,this]
set_option maxHeartbeats 1000000 in
theorem sameSet_any (a b:List (Int × Int)) (A B:Option Addr) (n m c d:Nat) (w:World) (X Y:Nat) (hn:n≤maxLen) (hm:m≤maxLen) (ha:Rds w X 2 A n (rngs a)) (hb:Rds w Y 2 B m (rngs b)) :
  Calls Tryz.prog 16 #[.slice A n c,.slice B m d] w fun e w'=>e=.returned (.bool (sameS a b))∧∃ q,w'=w.drewN q:=by
 have HA:=Lib.hid ha.rngs_len
 have HB:=Lib.hid hb.rngs_len
 unfold maxLen at hn hm
 by_cases h:n=m
 ·subst h
  go_enter Tryz.func16,Tryz.ntmps16
  go_wp2_with fail
  go_loopw [5] (fun i wr=>∃ k:Nat,k≤n∧i=.int .i64 k∧a.take k=b.take k∧∃ q,wr=w.drewN q) (fun i _=>n - (intOf i).toNat)
  case atStart=>exact ⟨0,Nat.zero_le _,rfl,by simp,0,rfl⟩
  case round =>
   obtain ⟨k,hk,rfl,hall,q,rfl⟩:=hrel
   have HALL:=Lib.hid hall
   clear hall
   by_cases hlt:k < n
   ·obtain ⟨b1,off1,hl1,hA,hb1,hc1,hd1⟩:=ha.rng_at hlt
    obtain ⟨b2,off2,hl2,hB,hb2,hc2,hd2⟩:=hb.rng_at hlt
    subst hA hB
    have HT1:=Lib.hid (take_snoc' a k hl1)
    have HT2:=Lib.hid (take_snoc' b k hl2)
    have HS:=Lib.hid (sameS_at k hl1 hl2)
    obtain ⟨p,hp⟩:∃ p,p=a[k]:=⟨_,rfl⟩
    obtain ⟨q,hq⟩:∃ q,q=b[k]:=⟨_,rfl⟩
    rw [← hp] at hc1 hd1 HT1 HS
    rw [← hq] at hc2 hd2 HT2 HS
    clear hp hq
    have i1:(0:Int)≤(k:Int):=by omega
    have i2:(k:Int) < (n:Int):=by omega
    obtain ⟨x1,y1⟩:=p
    obtain ⟨x2,y2⟩:=q
    simp only at hc1 hc2 hd1 hd2
    by_cases hpq:x1=x2∧y1=y2
    ·obtain ⟨rfl,rfl⟩:=hpq
     go_wp2_with fail
     go_quiet (fail)
     go_wp2
     go_roundw
     case rel=>exact ⟨k+1,by omega,by go_num,by rw [HT1.out,HT2.out,HALL.out],_,rfl⟩
     case measure=>simp [intOf];omega
    ·have HPQ:=Lib.hid (show ((x1,y1):Int × Int)≠(x2,y2) from fun e=>hpq (by injection e with e1 e2;exact ⟨e1,e2⟩))
     by_cases hx:x1=x2
     ·subst hx
      have hy:(y1 == y2)=false:=by rw [beq_eq_false_iff_ne];exact fun e=>hpq ⟨rfl,e⟩
      clear hpq
      go_wp2_with fail
      go_quiet (fail)
      go_wp2
      go_ret
      exact ⟨ret_bool (HS.out HPQ.out).symm,_,World.drewN_drewN ..⟩
     ·have hy:(x1 == x2)=false:=by rw [beq_eq_false_iff_ne];exact hx
      clear hpq hx
      go_wp2_with fail
      go_quiet (fail)
      go_wp2
      go_ret
      exact ⟨ret_bool (HS.out HPQ.out).symm,_,World.drewN_drewN ..⟩
   ·obtain rfl:k=n:=by omega
    go_wp2
    go_ret
    exact ⟨ret_bool (sameS_all (by rw [HA.out,HB.out]) (by rw [HA.out];exact HALL.out)).symm,_,rfl⟩
 ·have h':((n:Int) != (m:Int))=true:=by rw [bne_iff_ne];omega
  have hs:=Lib.hid (sameS_len (a:=a) (b:=b) (by rw [HA.out,HB.out];exact h))
  clear h
  go_enter Tryz.func16,Tryz.ntmps16
  go_wp2
  go_ret
  exact ⟨ret_bool hs.out.symm,0,rfl⟩
theorem okR_false {r:Int × Int} (h:okR r=false):(decide (0≤r.1) && decide (r.1≤1114111))=false∨(decide (0≤r.1) && decide (r.1≤1114111))=true∧(decide (0≤r.2) && decide (r.2≤1114111))=false∨(decide (0≤r.1) && decide (r.1≤1114111))=true∧(decide (0≤r.2) && decide (r.2≤1114111))=true∧r.2 < r.1:=by
 unfold okR at h
 cases h1:(decide (0≤r.1) && decide (r.1≤1114111))
 ·exact .inl rfl
 ·cases h2:(decide (0≤r.2) && decide (r.2≤1114111))
  ·exact .inr (.inl ⟨rfl,rfl⟩)
  ·rw [h1,h2] at h;simp at h;exact .inr (.inr ⟨rfl,rfl,h⟩)
theorem okR_true {r:Int × Int} (h:okR r=true):(decide (0≤r.1) && decide (r.1≤1114111))=true∧(decide (0≤r.2) && decide (r.2≤1114111))=true∧r.1≤r.2:=by
 unfold okR at h;simp at h ⊢;omega
theorem rangesE_many {a:List (Int × Int)} (h:400 < a.length):rangesE a=2:=by simp [rangesE,h]
theorem rangesE_bad {a:List (Int × Int)} (h:a.length≤400) (k:Nat) (hk:k < a.length) (hr:okR a[k]=false):rangesE a=3:=by
 have:a.all okR=false:=by rw [List.all_eq_false];exact ⟨a[k],List.getElem_mem hk,by simp [hr]⟩
 simp [rangesE,this];omega
theorem rangesE_fine {a:List (Int × Int)} (h:a.length≤400) (hr:(a.take a.length).all okR=true):rangesE a=0:=by
 rw [List.take_length] at hr
 simp [rangesE,hr];omega
theorem isPoint_of (p:Int) (b:Bool) (w:World) (h:(decide (0≤p) && decide (p≤1114111))=b):Calls Tryz.prog 31 #[.int .i64 p] w fun e w'=>e=.returned (.bool b)∧w'=w:=by
 rw [← h];exact isPoint_any p w
end Go.Proofs.YtbiahhojnjchnaaGreat
namespace Go.Proofs.YtbiahhojnjchnaaGreat
open Go.RowKit
theorem chk_ranges {a:List (Int × Int)} (h:rangesE a≠0):chk a=rangesE a:=by
 unfold chk rangesE at *
 split
 ·rfl
 ·split
  ·rfl
  ·rename_i h1 h2;rw [if_neg h1,if_neg h2] at h;exact absurd rfl h
theorem chk_gap {a:List (Int × Int)} (h:rangesE a=0) (k:Nat) (hk:k+1 < a.length) (hg:¬ (a[k]).2+2≤(a[k+1]).1):chk a=4:=by
 obtain ⟨h1,h2⟩:=(rangesE_ok a).1 h
 have h3:a.all okR=true:=List.all_eq_true.2 h2
 have h4:gapB a=false:=by
  cases hh:gapB a with
  | false=>rfl
  | true=>exact absurd ((gapB_iff a).1 hh k hk) hg
 simp [chk,h3,h4];omega
theorem chk_fine {a:List (Int × Int)} (h:rangesE a=0) (hg:∀ i,(hi:i+1 < a.length)→(a[i]).2+2≤(a[i+1]).1):chk a=0:=by
 obtain ⟨h1,h2⟩:=(rangesE_ok a).1 h
 have h3:a.all okR=true:=List.all_eq_true.2 h2
 simp [chk,h3,(gapB_iff a).2 hg];omega
theorem okR_bounds {a:List (Int × Int)} (h:rangesE a=0) (k:Nat) (hk:k < a.length):0≤(a[k]).1∧(a[k]).1≤1114111∧0≤(a[k]).2∧(a[k]).2≤1114111:=by
 have:=(okR_iff _).1 (((rangesE_ok a).1 h).2 _ (List.getElem_mem hk))
 omega
def GapTo (a:List (Int × Int)) (k:Nat):Prop:=∀ i,(hi:i+1 < a.length)→i+1 < k→(a[i]).2+2≤(a[i+1]).1
theorem GapTo.one (a:List (Int × Int)):GapTo a 1:=fun i hi h=>by omega
theorem GapTo.succ {a:List (Int × Int)} {k:Nat} (h:GapTo a (k+1)) (hk:k+1 < a.length) (hg:(a[k]).2+2≤(a[k+1]).1):GapTo a (k+2):=by
 intro i hi hlt
 by_cases e:i=k
 ·subst e;exact hg
 ·exact h i hi (by omega)
/-- what is wrong with two sets -/
def chk2 (a b:List (Int × Int)):Int:=if chk a=0 then chk b else chk a
end Go.Proofs.YtbiahhojnjchnaaGreat
namespace Go.Proofs.YtbiahhojnjchnaaGreat
open Go.RowKit
def countL:List (Int × Int)→Int
 | []=>0
 | r :: l=>(r.2+1 - r.1)+countL l
theorem countL_append (a b:List (Int × Int)):countL (a ++ b)=countL a+countL b:=by
 induction a with
 | nil=>simp [countL]
 | cons r a ih=>simp [countL,ih];omega
theorem countL_snoc (a:List (Int × Int)) (r:Int × Int):countL (a ++ [r])=countL a+(r.2+1 - r.1):=by rw [countL_append];simp [countL]
theorem countL_bound {a:List (Int × Int)} (h:∀ r ∈ a,okR r=true):0≤countL a∧countL a≤a.length * 1114112:=by
 induction a with
 | nil=>simp [countL]
 | cons r a ih =>
  have h1:=(okR_iff r).1 (h r (.head _))
  have h2:=ih fun s hs=>h s (.tail _ hs)
  simp only [countL,List.length_cons]
  have:((a.length+1:Nat):Int) * 1114112=a.length * 1114112+1114112:=by omega
  omega
def endsL:List (Int × Int)→List Int
 | []=>[]
 | r :: l=>r.1 :: (r.2+1) :: endsL l
theorem endsL_append (a b:List (Int × Int)):endsL (a ++ b)=endsL a ++ endsL b:=by
 induction a with
 | nil=>rfl
 | cons r a ih=>simp [endsL,ih]
theorem endsL_len (a:List (Int × Int)):(endsL a).length=a.length * 2:=by
 induction a with
 | nil=>rfl
 | cons r a ih=>simp [endsL,ih];omega
theorem keep2 {wa w3:World} {row:Option Nat} {b o1 o2:Nat} {v1 v2:Value} (hg:wa.grownBy w3 row) (h1:wa.cell? ⟨b,o1,none⟩=some v1) (h2:wa.cell? ⟨b,o2,none⟩=some v2) (hne:some b≠row) :
  w3.cell? ⟨b,o1,none⟩=some v1∧w3.cell? ⟨b,o2,none⟩=some v2:=⟨hg.cell h1 hne,hg.cell h2 hne⟩
set_option maxHeartbeats 2000000 in
theorem endsOf_any (a b:List (Int × Int)) (A B:Option Addr) (n m c d:Nat) (w:World) (hn:n+m≤1000000) (hok:∀ r ∈ a,okR r=true) (hok2:∀ r ∈ b,okR r=true) (ha:Rds w w.heap.size 2 A n (rngs a)) (hb:Rds w w.heap.size 2 B m (rngs b)) :
  Calls Tryz.prog 99 #[.slice A n c,.slice B m d] w (OwnInts w (endsL a ++ endsL b)):=by
 have HA:=Lib.hid ha.rngs_len
 have HB:=Lib.hid hb.rngs_len
 have HOK:=Lib.hid hok
 have HOK2:=Lib.hid hok2
 clear hok hok2
 go_enter Tryz.func99,Tryz.ntmps99
 go_wp2_with fail
 go_loopw [5,6] (fun v i wr=>∃ k t:Nat,k≤n∧i=.int .i64 k∧t≤k * 2∧wr.ownsRow w.heap.size 3 1 v t (ints (endsL (a.take k)))∧Below w.heap.size w wr) (fun _ i _=>n - (intOf i).toNat)
 case atStart=>exact ⟨0,0,Nat.zero_le _,rfl,by omega,World.ownsRow_nil _ _ _ _,Below.refl _ _⟩
 case round =>
  obtain ⟨k,t,hk,rfl,ht,hown,hBl⟩:=hrel
  obtain ⟨Av,cv,rfl,hmc,hcv⟩:=own_slice hown
  unfold maxLen at hcv
  by_cases hlt:k < n
  ·obtain ⟨b1,off1,hl1,hA,hb1,hc1,hd1⟩:=(ha.below hBl (Nat.le_refl _)).rng_at hlt
   subst hA
   have HT1:=Lib.hid (take_snoc' a k hl1)
   have HC:=Lib.hid (endsL_append (a.take k) [a[k]])
   have bx:=(okR_iff _).1 (HOK.out a[k] (List.getElem_mem hl1))
   obtain ⟨p,hp⟩:∃ p,p=a[k]:=⟨_,rfl⟩
   rw [← hp] at hc1 hd1 HT1 HC bx
   clear hp
   obtain ⟨x,y⟩:=p
   simp only at hc1 hd1 bx
   have i1:(0:Int)≤(k:Int):=by omega
   have i2:(k:Int) < (n:Int):=by omega
   have hsz:=hBl.size
   have W1:=Lib.hid (show IntKind.i64.wrap (y+1)=y+1 from IntWalk.i64_in _ (by omega))
   have R:=Lib.hid (Rds.new wr 1 2 #[.int .i64 x,.int .i64 (y+1)] 3 (ints [x,y+1]) rfl rfl)
   have hne:(some b1:Option Nat)≠(Value.slice Av t cv).ownBlock:=fun e=>by have:=hown.lt b1 e.symm;omega
   have HNE:=Lib.hid hne
   have hn1:=World.new_ne wr
   clear hne
   go_wp2_with fail
   have w1:=W1.out
   go_region_held3 (fun w'=>w'.cell? ⟨b1,off1+k * 2,none⟩=some (.int .i64 x)∧w'.cell? ⟨b1,off1+k * 2+1,none⟩=some (.int .i64 y))
    (first
     | (exact ⟨by simpa using hc1,by simpa using hd1⟩)
     | (go_split_ands;exact keep2 hg3 (by assumption) (by assumption) HNE.out)
     | go_keep
     | (go_split_ands;trace_state;fail))
    (first
     | (refine step_app_ints (.tmp 14) (.tmp 26) (hown.alloc _) R.out (by omega) (by simp;omega) rfl rfl rfl rfl ?_;intro v3 w3 hown3 hg3 hat3))
   clear w1
   go_wp2
   go_roundw
   case rel=>exact ⟨k+1,t+2,by omega,by go_num,by omega,by rw [HT1.out,HC.out];exact hown3,by first|exact grown_own (hBl.alloc hsz _) (hown.alloc _) hg3 (Nat.le_refl _) (by simp;omega)|exact grown_own (hBl.alloc hsz _).drew (hown.alloc _) hg3 (Nat.le_refl _) (by simp;omega)⟩
   case measure=>simp [intOf];omega
  ·obtain rfl:k=n:=by omega
   have HT:=Lib.hid (show a.take k=a from List.take_of_length_le (by rw [HA.out];exact Nat.le_refl _))
   rw [HT.out] at hown
   clear HT
   go_wp2_with fail
   go_loopw [5,7] (fun v i wr=>∃ j t:Nat,j≤m∧i=.int .i64 j∧t≤(k+j) * 2∧wr.ownsRow w.heap.size 3 1 v t (ints (endsL a ++ endsL (b.take j)))∧Below w.heap.size w wr) (fun _ i _=>m - (intOf i).toNat)
   case atStart=>exact ⟨0,t,Nat.zero_le _,rfl,by omega,by simpa [endsL] using hown,hBl⟩
   case round =>
    clear hown hBl hmc hcv
    obtain ⟨j,t,hk,rfl,ht,hown,hBl⟩:=hrel
    obtain ⟨Av,cv,rfl,hmc,hcv⟩:=own_slice hown
    unfold maxLen at hcv
    by_cases hlt:j < m
    ·obtain ⟨b1,off1,hl1,hA,hb1,hc1,hd1⟩:=(hb.below hBl (Nat.le_refl _)).rng_at hlt
     subst hA
     have HT1:=Lib.hid (take_snoc' b j hl1)
     have HC:=Lib.hid (endsL_append (b.take j) [b[j]])
     have bx:=(okR_iff _).1 (HOK2.out b[j] (List.getElem_mem hl1))
     obtain ⟨p,hp⟩:∃ p,p=b[j]:=⟨_,rfl⟩
     rw [← hp] at hc1 hd1 HT1 HC bx
     clear hp
     obtain ⟨x,y⟩:=p
     simp only at hc1 hd1 bx
     have i1:(0:Int)≤(j:Int):=by omega
     have i2:(j:Int) < (m:Int):=by omega
     have hsz:=hBl.size
     have W1:=Lib.hid (show IntKind.i64.wrap (y+1)=y+1 from IntWalk.i64_in _ (by omega))
     have R:=Lib.hid (Rds.new wr 1 2 #[.int .i64 x,.int .i64 (y+1)] 3 (ints [x,y+1]) rfl rfl)
     have hne:(some b1:Option Nat)≠(Value.slice Av t cv).ownBlock:=fun e=>by have:=hown.lt b1 e.symm;omega
     have HNE:=Lib.hid hne
     have hn1:=World.new_ne wr
     clear hne
     go_wp2_with fail
     have w1:=W1.out
     go_region_held3 (fun w'=>w'.cell? ⟨b1,off1+j * 2,none⟩=some (.int .i64 x)∧w'.cell? ⟨b1,off1+j * 2+1,none⟩=some (.int .i64 y))
      (first
       | (exact ⟨by simpa using hc1,by simpa using hd1⟩)
       | (go_split_ands;exact keep2 hg3 (by assumption) (by assumption) HNE.out)
       | go_keep
       | (go_split_ands;trace_state;fail))
      (first
       | (refine step_app_ints (.tmp 34) (.tmp 46) (hown.alloc _) R.out (by omega) (by simp;omega) rfl rfl rfl rfl ?_;intro v3 w3 hown3 hg3 hat3))
     clear w1
     go_wp2
     go_roundw
     case rel=>exact ⟨j+1,t+2,by omega,by go_num,by omega,by rw [HT1.out,HC.out,← List.append_assoc];exact hown3,by first|exact grown_own (hBl.alloc hsz _) (hown.alloc _) hg3 (Nat.le_refl _) (by simp;omega)|exact grown_own (hBl.alloc hsz _).drew (hown.alloc _) hg3 (Nat.le_refl _) (by simp;omega)⟩
     case measure=>simp [intOf];omega
    ·obtain rfl:j=m:=by omega
     have HT:=Lib.hid (show b.take j=b from List.take_of_length_le (by rw [HB.out];exact Nat.le_refl _))
     rw [HT.out] at hown
     go_wp2
     go_ret
     exact ownInts_of rfl hown hBl
end Go.Proofs.YtbiahhojnjchnaaGreat
namespace Go.Proofs.YtbiahhojnjchnaaGreat
/-- how many of the points below k are so -/
def cntB (f:Int→Bool):Nat→Nat
 | 0=>0
 | k+1=>cntB f k+(f k).toNat
theorem cntB_congr {f g:Int→Bool} (k:Nat) (h:∀ p:Int,0≤p→p < k→f p=g p):cntB f k=cntB g k:=by
 induction k with
 | zero=>rfl
 | succ k ih =>
  simp only [cntB]
  rw [ih fun p h0 h1=>h p h0 (by omega),h k (by omega) (by omega)]
theorem cntB_or {f g:Int→Bool} (k:Nat):cntB (fun p=>f p || g p) k+cntB (fun p=>f p && g p) k=cntB f k+cntB g k:=by
 induction k with
 | zero=>rfl
 | succ k ih =>
  have e:∀ a b:Bool,(a || b).toNat+(a && b).toNat=a.toNat+b.toNat:=by decide
  have:=e (f k) (g k)
  simp only [cntB]
  omega
theorem cntB_false (k:Nat):cntB (fun _=>false) k=0:=by
 induction k with
 | zero=>rfl
 | succ k ih=>simp [cntB,ih]
theorem cntB_range (x y:Int) (hx:0≤x) (hxy:x≤y) (k:Nat):(cntB (fun p=>decide (x≤p) && decide (p≤y)) k:Int)=if (k:Int)≤x then 0 else if (k:Int)≤y+1 then (k:Int) - x else y+1 - x:=by
 induction k with
 | zero=>simp [cntB,hx]
 | succ k ih =>
  simp only [cntB,Int.natCast_add]
  rw [ih]
  have hb:((decide (x≤(k:Int)) && decide ((k:Int)≤y)).toNat:Int)=if x≤(k:Int)∧(k:Int)≤y then 1 else 0:=by
   by_cases h1:x≤(k:Int)<;>by_cases h2:(k:Int)≤y<;>simp [h1,h2]
  rw [hb]
  split<;>split<;>(try split)<;>(try split)<;>(try split)<;>omega
theorem memB_cons (r:Int × Int) (a:List (Int × Int)) (p:Int):memB (r :: a) p=((decide (r.1≤p) && decide (p≤r.2)) || memB a p):=by simp [memB]
theorem countL_cnt {a:List (Int × Int)} (h:Can a):countL a=cntB (memB a) 1114112:=by
 induction a with
 | nil=>simp only [countL];rw [show memB []=fun _=>false from rfl,cntB_false];rfl
 | cons r a ih =>
  have hr:=(okR_iff r).1 h.head.1
  have ih:=ih h.tail
  have e1:=cntB_or (f:=fun p=>decide (r.1≤p) && decide (p≤r.2)) (g:=memB a) 1114112
  have e2:cntB (fun p=>(decide (r.1≤p) && decide (p≤r.2)) && memB a p) 1114112=0:=by
   rw [cntB_congr (g:=fun _=>false),cntB_false]
   intro p h0 h1
   cases hm:memB a p
   ·simp
   ·have:=h.le_head ((memB_iff a p).1 hm)
    rw [decide_eq_false (show ¬ p≤r.2 by omega)];simp
  have e3:=cntB_range r.1 r.2 hr.1 hr.2.1 1114112
  rw [if_neg (by omega)] at e3
  have e3':(cntB (fun p=>decide (r.1≤p) && decide (p≤r.2)) 1114112:Int)=r.2+1 - r.1:=by
   rw [e3];split<;>omega
  clear e3
  have e4:cntB (memB (r :: a)) 1114112=cntB (fun p=>(decide (r.1≤p) && decide (p≤r.2)) || memB a p) 1114112:=cntB_congr _ fun p _ _=>memB_cons r a p
  simp only [countL]
  rw [e4]
  omega
end Go.Proofs.YtbiahhojnjchnaaGreat
